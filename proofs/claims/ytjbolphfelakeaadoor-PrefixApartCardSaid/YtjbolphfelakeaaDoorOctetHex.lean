/- Hex, the program's and the document's. -/
import Derived.Test.YtjbolphfelakeaaDoorBuilder
import Derived.Test.YtjbolphfelakeaaDoorOctetNum2
namespace Go.Proofs.YtjbolphfelakeaaDoor
set_option linter.unusedVariables false
set_option linter.unusedSimpArgs false
open Go.RowKit Go.Shelf Go.Proofs Go.OctetPlain

theorem hexdig (n : Nat) (hn : n < 16) (h : n < ByteArray.size ⟨#[48, 49, 50, 51, 52, 53, 54, 55, 56, 57, 97, 98, 99, 100, 101, 102]⟩) : (⟨#[48, 49, 50, 51, 52, 53, 54, 55, 56, 57, 97, 98, 99, 100, 101, 102]⟩ : ByteArray)[n]'h = letter n := by
  match n, hn, h with
  | 0, _, _ => rfl
  | 1, _, _ => rfl
  | 2, _, _ => rfl
  | 3, _, _ => rfl
  | 4, _, _ => rfl
  | 5, _, _ => rfl
  | 6, _, _ => rfl
  | 7, _, _ => rfl
  | 8, _, _ => rfl
  | 9, _, _ => rfl
  | 10, _, _ => rfl
  | 11, _, _ => rfl
  | 12, _, _ => rfl
  | 13, _, _ => rfl
  | 14, _, _ => rfl
  | 15, _, _ => rfl
  | n + 16, hn, _ => exact absurd hn (by omega)

theorem hex_append : ∀ (xs ys : List UInt8), hex (xs ++ ys) = hex xs ++ hex ys
  | [], ys => rfl
  | c :: r, ys => by simp only [List.cons_append, hex]; rw [hex_append r ys]
theorem hex_take {l : List UInt8} {i : Nat} (h : i < l.length) : hex (l.take (i + 1)) = hex (l.take i) ++ [letter (l[i].toNat / 16)] ++ [letter (l[i].toNat % 16)] := by
  rw [List.take_succ_eq_append_getElem h, hex_append]
  simp [hex]
theorem hex_length : ∀ l : List UInt8, (hex l).length = 2 * l.length
  | [] => rfl
  | c :: r => by simp only [hex, List.length_cons]; rw [hex_length r]; omega
theorem cells_snoc (l : List UInt8) (c : UInt8) : Lib.byteCells l ++ [.int .u8 (c.toNat : Int)] = Lib.byteCells (l ++ [c]) := by simp [Lib.byteCells]
theorem cells_length (l : List UInt8) : (Lib.byteCells l).length = l.length := by simp [Lib.byteCells]
theorem and15 (c : Nat) (hc : c < 256) : bits .and .u8 (c : Int) 15 = ((c % 16 : Nat) : Int) := by
  have : ∀ c : Fin 256, bits .and .u8 ((c : Nat) : Int) 15 = (((c : Nat) % 16 : Nat) : Int) := by decide +kernel
  exact this ⟨c, hc⟩

theorem hexstr : ∀ m : Nat, m < 16 → (⟨#[48, 49, 50, 51, 52, 53, 54, 55, 56, 57, 97, 98, 99, 100, 101, 102]⟩ : ByteArray).extract m (m + 1) = str [letter m] := by
  intro m hm
  show (str [48, 49, 50, 51, 52, 53, 54, 55, 56, 57, 97, 98, 99, 100, 101, 102]).extract m (m + 1) = _
  rw [str_cut]
  match m, hm with
  | 0, _ => rfl
  | 1, _ => rfl
  | 2, _ => rfl
  | 3, _ => rfl
  | 4, _ => rfl
  | 5, _ => rfl
  | 6, _ => rfl
  | 7, _ => rfl
  | 8, _ => rfl
  | 9, _ => rfl
  | 10, _ => rfl
  | 11, _ => rfl
  | 12, _ => rfl
  | 13, _ => rfl
  | 14, _ => rfl
  | 15, _ => rfl
  | n + 16, hn => exact absurd hn (by omega)

end Go.Proofs.YtjbolphfelakeaaDoor
