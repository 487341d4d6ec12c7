/- The document's Unhex. -/
import Derived.Test.YtlefkmgcahpobaaDoorOctetUnhex
import Derived.Test.YtlefkmgcahpobaaDoorOctetRef2
namespace Go.Proofs.YtlefkmgcahpobaaDoor
set_option linter.unusedVariables false
set_option linter.unusedSimpArgs false
open Go.RowKit Go.Shelf Go.Proofs Go.OctetPlain

set_option maxRecDepth 100000 in
set_option maxHeartbeats 800000 in
theorem ref_Unhex (l : List UInt8) (hl : l.length ≤ 1073741824) (w : World) :
    Calls Tryd.prog 22 #[.string (str l)] w fun e w' => e = .returned (.tuple #[.string (str ((refUnhex [] l).getD [])), .bool (refUnhex [] l).isSome]) ∧ Below w.heap.size w w' := by
  have hsz : (str l).size = l.length := str_size l
  go_enter Tryd.func22, Tryd.ntmps22
  go_wp2_with fail
  go_loopw [4, 5] (fun s i wr => ∃ (k : Nat) (o : List UInt8), k ≤ l.length ∧ o.length ≤ k ∧ i = .int .i64 k ∧ s = .string (str o) ∧ Hid (refUnhex [] l = refUnhex o (l.drop k)) ∧ Below w.heap.size w wr) (fun _ i _ => l.length - (intOf i).toNat)
  case atStart => exact ⟨0, [], Nat.zero_le _, Nat.le_refl _, rfl, rfl, Lib.hid (by rw [List.drop_zero]), Below.refl _ _⟩
  case round =>
    obtain ⟨k, o, hk, ho, rfl, rfl, HE, hbl⟩ := hrel
    by_cases hlt : k < l.length
    · obtain ⟨c, hc0⟩ : ∃ c : UInt8, l[k] = c := ⟨_, rfl⟩
      have hg' : ∀ h, (str l)[k]'h = c := fun h => (str_get l k h).trans hc0
      by_cases hlast : k + 1 = l.length
      · have HE1 : Hid (refUnhex [] l = none) := by
          rw [HE.out, List.drop_eq_getElem_cons hlt, List.drop_eq_nil_of_le (by omega), refUnhex]; exact Lib.hid rfl
        go_wp2_with fail
        refine bodyPost_ret (v := .tuple #[.string ⟨#[]⟩, .bool false]) ?_ rfl ⟨by rw [HE1.out]; rfl, hbl⟩
        simp [results, Tryd.results22, go_sem]
      · have hlt2 : k + 1 < l.length := by omega
        obtain ⟨d, hd0⟩ : ∃ d : UInt8, l[k + 1] = d := ⟨_, rfl⟩
        have hg2 : ∀ h, (str l)[k + 1]'h = d := fun h => (str_get l (k + 1) h).trans hd0
        have HE1 : Hid (refUnhex [] l = if dig c < 0 ∨ dig d < 0 then none else refUnhex (o ++ [UInt8.ofNat (16 * (dig c).toNat + (dig d).toNat)]) (l.drop (k + 2))) := by
          rw [HE.out, List.drop_eq_getElem_cons hlt, List.drop_eq_getElem_cons hlt2, hc0, hd0, refUnhex]; exact Lib.hid rfl
        have HC := Lib.hid fun W => ref_Digit c W
        have HD := Lib.hid fun W => ref_Digit d W
        obtain ⟨x1, x2⟩ := dig_bounds c
        obtain ⟨y1, y2⟩ := dig_bounds d
        clear hc0 hd0
        generalize dig c = x at HE1 HC x1 x2
        generalize dig d = y at HE1 HD y1 y2
        have e1 : IntKind.i64.wrap ((k : Int) + 1) = (k : Int) + 1 := IntWalk.i64_in _ (by omega)
        go_wp2_with fail
        refine (HC.out _).mono ?_
        rintro e w1 ⟨rfl, rfl⟩
        go_wp2_with fail
        refine (HD.out _).mono ?_
        rintro e w1 ⟨rfl, rfl⟩
        by_cases hx : x < 0
        · have HE2 : Hid (refUnhex [] l = none) := by rw [HE1.out, if_pos (Or.inl hx)]; exact Lib.hid rfl
          go_wp2_with fail
          refine bodyPost_ret (v := .tuple #[.string ⟨#[]⟩, .bool false]) ?_ rfl ⟨by rw [HE2.out]; rfl, hbl⟩
          simp [results, Tryd.results22, go_sem]
        by_cases hy : y < 0
        · have HE2 : Hid (refUnhex [] l = none) := by rw [HE1.out, if_pos (Or.inr hy)]; exact Lib.hid rfl
          go_wp2_with fail
          refine bodyPost_ret (v := .tuple #[.string ⟨#[]⟩, .bool false]) ?_ rfl ⟨by rw [HE2.out]; rfl, hbl⟩
          simp [results, Tryd.results22, go_sem]
        have HE2 : Hid (refUnhex [] l = refUnhex (o ++ [UInt8.ofNat (16 * x.toNat + y.toNat)]) (l.drop (k + 2))) := by rw [HE1.out, if_neg (by omega)]; exact Lib.hid rfl
        have h1 : (str o).size = o.length := str_size _
        have h2 : ∀ c, (str [c]).size = 1 := fun c => str_size _
        have hone := fun W => one_str W (16 * x + y) (by omega) (by omega)
        go_wp2_with fail
        refine ⟨⟨k + 2, o ++ [UInt8.ofNat (16 * x.toNat + y.toNat)], by omega, by simp; omega, by go_num, by rw [str_app, show (16 * x + y).toNat = 16 * x.toNat + y.toNat by omega], HE2, hbl.alloc hbl.size _⟩, by simp [intOf]; omega⟩
    · go_wp2_with fail
      have HE1 : Hid (refUnhex [] l = some o) := by
        rw [HE.out, List.drop_eq_nil_of_le (by omega), refUnhex]; exact Lib.hid rfl
      refine bodyPost_ret (v := .tuple #[.string (str o), .bool true]) ?_ rfl ⟨by rw [HE1.out]; rfl, hbl⟩
      simp [results, Tryd.results22, go_sem]
end Go.Proofs.YtlefkmgcahpobaaDoor
