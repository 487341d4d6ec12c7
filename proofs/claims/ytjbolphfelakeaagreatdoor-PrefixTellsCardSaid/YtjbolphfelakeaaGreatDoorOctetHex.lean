/- Hex, the program's and the document's. -/
import Derived.Test.YtjbolphfelakeaaGreatDoorBuilder
import Derived.Test.YtjbolphfelakeaaGreatDoorOctetNum2
namespace Go.Proofs.YtjbolphfelakeaaGreatDoor
set_option linter.unusedVariables false
set_option linter.unusedSimpArgs false
open Go.RowKit Go.Shelf Go.Proofs Go.OctetPlain

theorem hexdig (n : Nat) (hn : n < 16) (h : n < ByteArray.size ⟨#[48, 49, 50, 51, 52, 53, 54, 55, 56, 57, 97, 98, 99, 100, 101, 102]⟩) : (⟨#[48, 49, 50, 51, 52, 53, 54, 55, 56, 57, 97, 98, 99, 100, 101, 102]⟩ : ByteArray)[n]'h = letter n := by
  match n, hn, h with
  | 0, _, _ => rfl
  | 1, _, _ => rfl
  | 2, _, _ => rfl
  | 3, _, _ => rfl
  | 4, _, _ => rfl
  | 5, _, _ => rfl
  | 6, _, _ => rfl
  | 7, _, _ => rfl
  | 8, _, _ => rfl
  | 9, _, _ => rfl
  | 10, _, _ => rfl
  | 11, _, _ => rfl
  | 12, _, _ => rfl
  | 13, _, _ => rfl
  | 14, _, _ => rfl
  | 15, _, _ => rfl
  | n + 16, hn, _ => exact absurd hn (by omega)

theorem hex_append : ∀ (xs ys : List UInt8), hex (xs ++ ys) = hex xs ++ hex ys
  | [], ys => rfl
  | c :: r, ys => by simp only [List.cons_append, hex]; rw [hex_append r ys]
theorem hex_take {l : List UInt8} {i : Nat} (h : i < l.length) : hex (l.take (i + 1)) = hex (l.take i) ++ [letter (l[i].toNat / 16)] ++ [letter (l[i].toNat % 16)] := by
  rw [List.take_succ_eq_append_getElem h, hex_append]
  simp [hex]
theorem hex_length : ∀ l : List UInt8, (hex l).length = 2 * l.length
  | [] => rfl
  | c :: r => by simp only [hex, List.length_cons]; rw [hex_length r]; omega
theorem cells_snoc (l : List UInt8) (c : UInt8) : Lib.byteCells l ++ [.int .u8 (c.toNat : Int)] = Lib.byteCells (l ++ [c]) := by simp [Lib.byteCells]
theorem cells_length (l : List UInt8) : (Lib.byteCells l).length = l.length := by simp [Lib.byteCells]
theorem and15 (c : Nat) (hc : c < 256) : bits .and .u8 (c : Int) 15 = ((c % 16 : Nat) : Int) := by
  have : ∀ c : Fin 256, bits .and .u8 ((c : Nat) : Int) 15 = (((c : Nat) % 16 : Nat) : Int) := by decide +kernel
  exact this ⟨c, hc⟩

theorem hexstr : ∀ m : Nat, m < 16 → (⟨#[48, 49, 50, 51, 52, 53, 54, 55, 56, 57, 97, 98, 99, 100, 101, 102]⟩ : ByteArray).extract m (m + 1) = str [letter m] := by
  intro m hm
  show (str [48, 49, 50, 51, 52, 53, 54, 55, 56, 57, 97, 98, 99, 100, 101, 102]).extract m (m + 1) = _
  rw [str_cut]
  match m, hm with
  | 0, _ => rfl
  | 1, _ => rfl
  | 2, _ => rfl
  | 3, _ => rfl
  | 4, _ => rfl
  | 5, _ => rfl
  | 6, _ => rfl
  | 7, _ => rfl
  | 8, _ => rfl
  | 9, _ => rfl
  | 10, _ => rfl
  | 11, _ => rfl
  | 12, _ => rfl
  | 13, _ => rfl
  | 14, _ => rfl
  | 15, _ => rfl
  | n + 16, hn => exact absurd hn (by omega)

set_option maxRecDepth 100000 in
set_option maxHeartbeats 2000000 in
theorem ref_Hex (l : List UInt8) (hl : l.length ≤ 1073741824) (w : World) :
    Calls Tryz.prog 78 #[.string (str l)] w fun e w' => e = .returned (.string (str (hex l))) ∧ Below w.heap.size w w' := by
  have hsz : (str l).size = l.length := str_size l
  go_enter Tryz.func78, Tryz.ntmps78
  go_wp2_with fail
  go_loopw [4, 5] (fun s i wr => ∃ k : Nat, k ≤ l.length ∧ i = .int .i64 k ∧ s = .string (str (hex (l.take k))) ∧ Below w.heap.size w wr) (fun _ i _ => l.length - (intOf i).toNat)
  case atStart => exact ⟨0, Nat.zero_le _, rfl, rfl, Below.refl _ _⟩
  case round =>
    obtain ⟨k, hk, rfl, rfl, hbl⟩ := hrel
    by_cases hlt : k < l.length
    · obtain ⟨c, hc0⟩ : ∃ c : UInt8, l[k] = c := ⟨_, rfl⟩
      have hc : c.toNat < 256 := c.toNat_lt
      have hg' : ∀ h, (str l)[k]'h = c := fun h => (str_get l k h).trans hc0
      have h1 := hexstr (c.toNat / 16) (by omega)
      have h2 := hexstr (c.toNat % 16) (by omega)
      have h3 : ∀ c, (str [c]).size = 1 := fun c => str_size _
      have hn : (hex (l.take k)).length ≤ 2147483648 := by rw [hex_length, List.length_take]; omega
      have h4 : (str (hex (l.take k))).size = (hex (l.take k)).length := str_size _
      have hT := hex_take hlt
      rw [hc0] at hT
      have HT := Lib.hid hT
      clear hc0 hT
      generalize hex (l.take k) = m at hn h4 HT ⊢
      have h5 : ∀ a b : UInt8, str [a] ++ str [b] = str [a, b] := fun a b => str_app _ _
      have h6 : ∀ a b : UInt8, (str [a, b]).size = 2 := fun a b => str_size _
      go_wp2_with fail
      go_quiet (fail)
      go_wp2_with fail
      exact ⟨⟨k + 1, by omega, by go_num, by rw [str_app, HT.out, List.append_assoc, List.singleton_append], below_drewN hbl _⟩, by simp [intOf]; omega⟩
    · go_wp2_with fail
      have hk' : l.take k = l := List.take_of_length_le (by omega)
      rw [hk']
      go_ret
      exact ⟨rfl, hbl⟩
end Go.Proofs.YtjbolphfelakeaaGreatDoor
