/- Layer 26's laws: arguments of any length. -/
import Derived.Test.YtilahcnpjbnjiaaGreatDoorSegTexts
import Derived.Test.YtilahcnpjbnjiaaGreatDoorSegLawB
import Derived.Test.YtilahcnpjbnjiaaGreatDoorSegLawS
namespace Go.Proofs.YtilahcnpjbnjiaaGreatDoor
set_option linter.unusedVariables false
set_option linter.unusedSimpArgs false
open Go.RowKit Go.Shelf Go.Proofs Go.OctetPlain

set_option maxRecDepth 100000 in
set_option maxHeartbeats 2000000 in
theorem law_texts_any (s : List UInt8) (l : List Sg.Seg) (hi : I64s l) (v : Value) (w : World) (ht : Tabs w) (hv : SlR w 2 encG v l) :
    Calls Tryz.prog 3 #[.string (str s), v] w fun e w' => e = .returned (.bool true) ∧ Below w.heap.size w w' := by
  by_cases hs : s.length ≤ 200
  · by_cases hl : l.length ≤ 30
    · exact law_texts s hs l hl hi v w ht hv
    · have HAW := Lib.hid (law_awake w ht)
      have hsz : (str s).size = s.length := str_size s
      obtain ⟨p, cap, rfl, -⟩ := hv
      clear ht hi
      go_enter Tryz.func3, Tryz.ntmps3
      go_wp2_with fail
      refine HAW.out.mono ?_
      rintro e w1 ⟨rfl, b1⟩
      go_wp2_with fail
      go_ret
      exact ⟨rfl, b1⟩
  · have HAW := Lib.hid (law_awake w ht)
    have hsz : (str s).size = s.length := str_size s
    obtain ⟨p, cap, rfl, -⟩ := hv
    clear ht hi
    go_enter Tryz.func3, Tryz.ntmps3
    go_wp2_with fail
    refine HAW.out.mono ?_
    rintro e w1 ⟨rfl, b1⟩
    go_wp2_with fail
    go_ret
    exact ⟨rfl, b1⟩
set_option maxRecDepth 100000 in
set_option maxHeartbeats 2000000 in
theorem law_labels_any (a b c d : Int) (T : List Sp.S) (vT : Value) (l : List Sg.Seg) (v : Value) (ls : List Int) (vs : Value) (w : World) (ht : Tabs w)
    (hvT : SlR w 2 encSp vT T) (hv : SlR w 2 encG v l) (hvs : SlR w 1 encI vs ls) :
    Calls Tryz.prog 4 #[.agg #[.int .i64 a, .int .i64 b, .int .i64 c, .int .i64 d, vT], v, vs] w fun e w' => e = .returned (.bool true) ∧ Below w.heap.size w w' := by
  by_cases hT : T.length ≤ 20
  · by_cases hl : l.length ≤ 30
    · by_cases hls : ls.length ≤ 30
      · exact law_labels a b c d T hT vT l hl v ls hls vs w ht hvT hv hvs
      · have HAW := Lib.hid (law_awake _ (ht.next (belowA w (.cells #[.int .i64 a, .int .i64 b, .int .i64 c, .int .i64 d, vT] 38)) (Nat.le_refl _)))
        obtain ⟨pT, cT, rfl, -⟩ := hvT
        obtain ⟨p, cap, rfl, -⟩ := hv
        obtain ⟨ps, cs, rfl, -⟩ := hvs
        clear ht
        go_enter Tryz.func4, Tryz.ntmps4
        go_wp2_with fail
        refine HAW.out.mono ?_
        rintro e w1 ⟨rfl, b1⟩
        obtain ⟨k1, b1'⟩ := box_first b1
        have HB1 := Lib.hid b1'
        have cx4 := k1.cell 4
        simp only [List.getElem?_toArray, List.getElem?_cons_zero, List.getElem?_cons_succ] at cx4
        clear b1 b1' k1
        go_wp2_with fail
        go_ret
        exact ⟨rfl, HB1.out⟩
    · have HAW := Lib.hid (law_awake _ (ht.next (belowA w (.cells #[.int .i64 a, .int .i64 b, .int .i64 c, .int .i64 d, vT] 38)) (Nat.le_refl _)))
      obtain ⟨pT, cT, rfl, -⟩ := hvT
      obtain ⟨p, cap, rfl, -⟩ := hv
      obtain ⟨ps, cs, rfl, -⟩ := hvs
      clear ht
      go_enter Tryz.func4, Tryz.ntmps4
      go_wp2_with fail
      refine HAW.out.mono ?_
      rintro e w1 ⟨rfl, b1⟩
      obtain ⟨k1, b1'⟩ := box_first b1
      have HB1 := Lib.hid b1'
      have cx4 := k1.cell 4
      simp only [List.getElem?_toArray, List.getElem?_cons_zero, List.getElem?_cons_succ] at cx4
      clear b1 b1' k1
      go_wp2_with fail
      go_ret
      exact ⟨rfl, HB1.out⟩
  · have HAW := Lib.hid (law_awake _ (ht.next (belowA w (.cells #[.int .i64 a, .int .i64 b, .int .i64 c, .int .i64 d, vT] 38)) (Nat.le_refl _)))
    obtain ⟨pT, cT, rfl, -⟩ := hvT
    obtain ⟨p, cap, rfl, -⟩ := hv
    obtain ⟨ps, cs, rfl, -⟩ := hvs
    clear ht
    go_enter Tryz.func4, Tryz.ntmps4
    go_wp2_with fail
    refine HAW.out.mono ?_
    rintro e w1 ⟨rfl, b1⟩
    obtain ⟨k1, b1'⟩ := box_first b1
    have HB1 := Lib.hid b1'
    have cx4 := k1.cell 4
    simp only [List.getElem?_toArray, List.getElem?_cons_zero, List.getElem?_cons_succ] at cx4
    clear b1 b1' k1
    go_wp2_with fail
    go_ret
    exact ⟨rfl, HB1.out⟩
set_option maxRecDepth 100000 in
set_option maxHeartbeats 2000000 in
theorem law_back_any (a b c d : Int) (T : List Sp.S) (vT : Value) (l : List Sg.Seg) (v : Value) (w : World) (ht : Tabs w)
    (hvT : SlR w 2 encSp vT T) (hv : SlR w 2 encG v l) :
    Calls Tryz.prog 5 #[.agg #[.int .i64 a, .int .i64 b, .int .i64 c, .int .i64 d, vT], v] w fun e w' => e = .returned (.bool true) ∧ Below w.heap.size w w' := by
  by_cases hT : T.length ≤ 20
  · by_cases hl : l.length ≤ 30
    · exact law_back a b c d T hT vT l hl v w ht hvT hv
    · have HAW := Lib.hid (law_awake _ (ht.next (belowA w (.cells #[.int .i64 a, .int .i64 b, .int .i64 c, .int .i64 d, vT] 38)) (Nat.le_refl _)))
      obtain ⟨pT, cT, rfl, -⟩ := hvT
      obtain ⟨p, cap, rfl, -⟩ := hv
      clear ht
      go_enter Tryz.func5, Tryz.ntmps5
      go_wp2_with fail
      refine HAW.out.mono ?_
      rintro e w1 ⟨rfl, b1⟩
      obtain ⟨k1, b1'⟩ := box_first b1
      have HB1 := Lib.hid b1'
      have cx4 := k1.cell 4
      simp only [List.getElem?_toArray, List.getElem?_cons_zero, List.getElem?_cons_succ] at cx4
      clear b1 b1' k1
      go_wp2_with fail
      go_ret
      exact ⟨rfl, HB1.out⟩
  · have HAW := Lib.hid (law_awake _ (ht.next (belowA w (.cells #[.int .i64 a, .int .i64 b, .int .i64 c, .int .i64 d, vT] 38)) (Nat.le_refl _)))
    obtain ⟨pT, cT, rfl, -⟩ := hvT
    obtain ⟨p, cap, rfl, -⟩ := hv
    clear ht
    go_enter Tryz.func5, Tryz.ntmps5
    go_wp2_with fail
    refine HAW.out.mono ?_
    rintro e w1 ⟨rfl, b1⟩
    obtain ⟨k1, b1'⟩ := box_first b1
    have HB1 := Lib.hid b1'
    have cx4 := k1.cell 4
    simp only [List.getElem?_toArray, List.getElem?_cons_zero, List.getElem?_cons_succ] at cx4
    clear b1 b1' k1
    go_wp2_with fail
    go_ret
    exact ⟨rfl, HB1.out⟩
set_option maxRecDepth 100000 in
set_option maxHeartbeats 2000000 in
theorem law_short_any (l : List Sg.Seg) (v : Value) (w : World) (ht : Tabs w) (hv : SlR w 2 encG v l) :
    Calls Tryz.prog 6 #[v] w fun e w' => e = .returned (.bool true) ∧ Below w.heap.size w w' := by
  by_cases hl : l.length ≤ 40
  · exact law_short l hl v w ht hv
  · have HAW := Lib.hid (law_awake w ht)
    obtain ⟨p, cap, rfl, -⟩ := hv
    clear ht
    go_enter Tryz.func6, Tryz.ntmps6
    go_wp2_with fail
    refine HAW.out.mono ?_
    rintro e w1 ⟨rfl, b1⟩
    go_wp2_with fail
    go_ret
    exact ⟨rfl, b1⟩
end Go.Proofs.YtilahcnpjbnjiaaGreatDoor
