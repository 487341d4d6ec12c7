/- Strings as lists of bytes: joined, cut, read; the rune at a byte of 128 or more is no digit. -/
import Derived.Test.YtilahcnpjbnjiaaDoorBytes
import Derived.Test.YtilahcnpjbnjiaaDoorOctetPlain3
import Derived.Lib.OthersKept
import Derived.Lib.DecodeN
namespace Go.Proofs.YtilahcnpjbnjiaaDoor
set_option linter.unusedVariables false
set_option linter.unusedSimpArgs false
open Go.RowKit

theorem str_app (a b : List UInt8) : str a ++ str b = str (a ++ b) := by
  apply ByteArray.ext
  rw [ByteArray.data_append]
  simp [str]
theorem str_cut (l : List UInt8) (a b : Nat) : (str l).extract a b = str ((l.drop a).take (b - a)) := by
  apply ByteArray.ext
  rw [ByteArray.data_extract]
  simp [str]
theorem str_get (l : List UInt8) (i : Nat) (h : i < (str l).size) : (str l)[i] = l[i]'(by rw [← str_size]; exact h) := by
  simp [str, ByteArray.getElem_eq_getElem_data]
theorem str_inj {a b : List UInt8} : str a = str b ↔ a = b := by
  constructor
  · intro h
    have := congrArg (fun s : ByteArray => s.data.toList) h
    simpa [list_str] using this
  · intro h; rw [h]
theorem str_of (s : ByteArray) : ∃ l, s = str l ∧ l.length = s.size := ⟨s.data.toList, (str_list s).symm, Array.length_toList⟩

theorem decodeN_big (n b0 b1 b2 b3 : Nat) (h : 128 ≤ b0) (h' : b0 < 256) : 128 ≤ (Lib.decodeN n b0 b1 b2 b3).1 ∧ (Lib.decodeN n b0 b1 b2 b3).1 ≤ 1114111 := by
  unfold Lib.decodeN
  rw [if_neg (by omega)]
  repeat' split
  all_goals (simp only; omega)
theorem decode_big (s : ByteArray) (i : Nat) (h : 128 ≤ (s.get! i).toNat) : 128 ≤ (Utf8.decode s i).1 ∧ (Utf8.decode s i).1 ≤ 1114111 := by
  rw [Lib.decode_at]
  exact decodeN_big _ _ _ _ _ h (s.get! i).toNat_lt
end Go.Proofs.YtilahcnpjbnjiaaDoor
