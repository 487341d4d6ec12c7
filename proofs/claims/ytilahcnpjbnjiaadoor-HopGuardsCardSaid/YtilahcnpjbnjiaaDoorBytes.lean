/- Slices of bytes, and strings of their bytes. -/
import Derived.Test.YtilahcnpjbnjiaaDoorBase
import Derived.Laws.BytesArg
import Derived.Shelf.Bytes.SlSmallAll
namespace Go.Proofs.YtilahcnpjbnjiaaDoor
set_option linter.unusedVariables false
set_option linter.unusedSimpArgs false
open Go.RowKit

/-- a byte's cell -/
def encB (c : UInt8) : List Value := [.int .u8 (c.toNat : Int)]
theorem encB_len (c : UInt8) : (encB c).length = 1 := rfl
theorem encB_one (c : UInt8) : ∀ u ∈ encB c, u.oneCell' = true := by
  intro u hu
  simp only [encB, List.mem_singleton] at hu
  subst hu; rfl
/-- a list of bytes as a string -/
def str (l : List UInt8) : ByteArray := ⟨l.toArray⟩
theorem str_size (l : List UInt8) : (str l).size = l.length := by simp [str, ByteArray.size]
theorem str_list (s : ByteArray) : str s.data.toList = s := by simp [str]
theorem list_str (l : List UInt8) : (str l).data.toList = l := by simp [str]
theorem strOfNums_bytes (l : List UInt8) : strOfNums (l.map fun c => (c.toNat : Int)) = str l := by
  simp [strOfNums, str, Function.comp_def]

/-- 'string(b)' -/
theorem SlR.str {w : World} {v : Value} {l : List UInt8} (h : SlR w 1 encB v l) {src e dst : TypeId} (hs : Tryd.prog.underlying src = some (.slice e)) (he : Tryd.prog.underlying e = some (.int .u8)) (hd : Tryd.prog.underlying dst = some .string) :
    (convert src dst v).run Tryd.prog w = .ok (.string (str l)) w := by
  obtain ⟨p, cap, rfl, h1, h2, hR⟩ := h
  rcases Nat.eq_zero_or_pos l.length with h0 | h0
  · obtain rfl : l = [] := List.eq_nil_of_length_eq_zero h0
    exact run_convert_bytes_zero w src e hs he p cap dst hd
  · obtain ⟨b, off, rfl, _, _⟩ := hR.at h0
    rw [run_convert_bytes_arg (P := Tryd.prog) w src e hs he b off l.length cap (l.map fun c => (c.toNat : Int)) (by simp) (fun i hi => by
      have := hR.in hi 0 (.int .u8 (l[i].toNat : Int)) rfl
      simp only [Nat.mul_one, Nat.add_zero] at this
      rw [this]
      simp [List.getD, List.getElem?_eq_getElem hi]) dst hd, strOfNums_bytes]
end Go.Proofs.YtilahcnpjbnjiaaDoor
