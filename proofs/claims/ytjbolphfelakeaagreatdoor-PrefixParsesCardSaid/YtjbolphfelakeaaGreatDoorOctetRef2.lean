/- The document's Bytes, Put. -/
import Derived.Test.YtjbolphfelakeaaGreatDoorOctetRef
namespace Go.Proofs.YtjbolphfelakeaaGreatDoor
set_option linter.unusedVariables false
set_option linter.unusedSimpArgs false
open Go.RowKit Go.Shelf Go.Proofs Go.OctetPlain

/-- 'string([]byte{c})' -/
theorem one_str (W : World) (c : Int) (h0 : 0 ≤ c) (h1 : c < 256) :
    (convert 43 9 (.slice (some ⟨W.heap.size, 0, none⟩) 1 1)).run Tryz.prog (W.alloc (.cells #[.int .u8 c] 5)) = .ok (.string (str [UInt8.ofNat c.toNat])) (W.alloc (.cells #[.int .u8 c] 5)) := by
  have hs : SlR (W.alloc (.cells #[.int .u8 c] 5)) 1 encB (.slice (some ⟨W.heap.size, 0, none⟩) 1 1) [UInt8.ofNat c.toNat] := by
    refine ⟨_, 1, rfl, Nat.le_refl _, by omega, (fun e => by cases e), fun a ha => ?_⟩
    cases ha
    refine ⟨rfl, by simp, fun i x hx j u hu => ?_⟩
    have hi : i = 0 := by have := (List.getElem?_eq_some_iff.1 hx).1; simpa using this
    subst hi
    simp at hx
    subst hx
    have hj : j = 0 := by have := (List.getElem?_eq_some_iff.1 hu).1; simpa [encB] using this
    subst hj
    simp [encB] at hu
    subst hu
    have e : ((UInt8.ofNat c.toNat).toNat : Int) = c := by rw [UInt8.toNat_ofNat']; omega
    rw [cell_of_row _ W.heap.size _ #[.int .u8 c] 5 (0, 0) (heap_alloc_new W _)]
    simp
    omega
  exact hs.str Tryz.underlying43 Tryz.underlying5 Tryz.underlying9

set_option maxRecDepth 100000 in
theorem ref_Bytes (x : Nat) (hx : x < 18446744073709551616) (size : Int) (hs : size ≤ 1073741824) (w : World) :
    Calls Tryz.prog 73 #[.int .u64 x, .int .i64 size] w fun e w' => e = .returned (.string (str (OctetPlain.bytes x size.toNat))) ∧ Below w.heap.size w w' := by
  have hz : ByteArray.size ⟨#[]⟩ = 0 := rfl
  go_enter Tryz.func73, Tryz.ntmps73
  go_wp2_with fail
  go_loopw [0, 5, 6] (fun n s i wr => ∃ j : Nat, j ≤ size.toNat ∧ i = .int .i64 j ∧ n = .int .u64 (x / 256 ^ j : Nat) ∧ s = .string (str (OctetPlain.bytes x j)) ∧ Below w.heap.size w wr) (fun _ _ i _ => size.toNat - (intOf i).toNat)
  case atStart => exact ⟨0, by omega, rfl, by simp, by simp [OctetPlain.bytes, str], Below.refl _ _⟩
  case round =>
    obtain ⟨j, hj, rfl, rfl, rfl, hbl⟩ := hrel
    by_cases hlt : j < size.toNat
    · have h1 : (str (OctetPlain.bytes x j)).size = j := by rw [str_size, bytes_length]
      have h2 : ∀ c, (str [c]).size = 1 := fun c => str_size _
      have hN := Lib.hid (bytes_cons j x)
      have ht : x / 256 ^ j < 18446744073709551616 := Nat.lt_of_le_of_lt (Nat.div_le_self _ _) hx
      have hD : Hid (x / 256 ^ (j + 1) = x / 256 ^ j / 256) := by rw [Nat.pow_succ, Nat.div_div_eq_div_mul]; exact Lib.hid rfl
      generalize x / 256 ^ j = t at ht hN hD ⊢
      have hone := fun W => one_str W ((t : Int) % 256) (by omega) (by omega)
      go_wp2_with fail
      refine ⟨⟨j + 1, by omega, by go_num, by rw [hD.out]; simp, by rw [hN.out, str_app]; congr 3, hbl.alloc hbl.size _⟩, by simp [intOf]; omega⟩
    · go_wp2_with fail
      go_ret
      obtain rfl : j = size.toNat := by omega
      exact ⟨rfl, hbl⟩

end Go.Proofs.YtjbolphfelakeaaGreatDoor
