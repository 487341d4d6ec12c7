/- Layer 15: HopGuards, arguments of any length. -/
import Derived.Test.YtilahcnpjbnjiaaDoorHopLawG
namespace Go.Proofs.YtilahcnpjbnjiaaDoor
set_option linter.unusedVariables false
set_option linter.unusedSimpArgs false
open Go.RowKit Go.Shelf Go.Proofs Go.OctetPlain

set_option maxRecDepth 100000 in
set_option maxHeartbeats 2000000 in
theorem law_guards_any (h : Hp.Hop) (l r : Value) (bk : Int) (hbk : 0 ≤ bk ∧ bk ≤ 255) (rs : List Int) (hr16 : ∀ n ∈ rs, 0 ≤ n ∧ n ≤ 65535) (vr : Value) (w : World) (ht : HT0 w) (hl : SlR w 1 encI l h.labels) (hr : SlR w 1 encI r h.repair) (hvr : SlR w 1 encH vr rs) : Calls Tryd.prog 6 #[.agg (hopA h l r), .int .u8 bk, vr] w fun e w' => e = .returned (.bool true) ∧ Below w.heap.size w w' := by
  have hl' := hl
  have hr' := hr
  obtain ⟨p1, c1, rfl, -, -, -⟩ := hl'
  obtain ⟨p2, c2, rfl, -, -, -⟩ := hr'
  have HB2 := Lib.hid fun o => belowA w o
  by_cases hbig : h.labels.length ≤ 40 ∧ h.repair.length ≤ 40
  · exact law_guards h _ _ bk hbk rs hr16 vr w ht ⟨by omega, by omega, hl, hr⟩ hvr
  have AW : Hid (∀ W, Below w.heap.size w W → Calls Tryd.prog 7 #[] W fun e w' => e = .returned (.bool true) ∧ Below W.heap.size W w') := Lib.hid fun W hW => law_awake W (ht.next hW (Nat.le_refl _))
  obtain ⟨p3, c3, rfl, -, -, -⟩ := hvr
  change Calls Tryd.prog _ #[.agg #[.int .i64 h.op, .slice p1 h.labels.length c1, .int .i64 h.port, .int .i64 h.backup, .slice p2 h.repair.length c2, .bool h.pipe], _, _] w _
  by_cases n0 : 40 < h.labels.length
  · have m0 : decide (40 < (h.labels.length : Int)) = true := decide_eq_true (by omega)
    go_enter Tryd.func6, Tryd.ntmps6
    go_wp2_with fail
    refine (AW.out _ (HB2.out _)).mono ?_
    rintro e w1 ⟨rfl, b1⟩
    have B1 := Lib.hid ((HB2.out _).trans (b1.mono (HB2.out _).size))
    have k1 := (Blk.new w 24 #[.int .i64 h.op, .slice p1 h.labels.length c1, .int .i64 h.port, .int .i64 h.backup, .slice p2 h.repair.length c2, .bool h.pipe]).below b1 (by simp)
    have d1 := k1.cell 1
    have d4 := k1.cell 4
    simp only [List.getElem?_toArray, List.getElem?_cons_zero, List.getElem?_cons_succ] at d1 d4
    clear b1 k1
    go_wp2_with fail
    go_ret
    exact ⟨rfl, B1.out⟩
  have m0 : decide (40 < (h.labels.length : Int)) = false := decide_eq_false (by omega)
  have m0x : decide (40 < h.labels.length) = false := decide_eq_false (by omega)
  by_cases n1 : 40 < h.repair.length
  · have m1 : decide (40 < (h.repair.length : Int)) = true := decide_eq_true (by omega)
    go_enter Tryd.func6, Tryd.ntmps6
    go_wp2_with fail
    refine (AW.out _ (HB2.out _)).mono ?_
    rintro e w1 ⟨rfl, b1⟩
    have B1 := Lib.hid ((HB2.out _).trans (b1.mono (HB2.out _).size))
    have k1 := (Blk.new w 24 #[.int .i64 h.op, .slice p1 h.labels.length c1, .int .i64 h.port, .int .i64 h.backup, .slice p2 h.repair.length c2, .bool h.pipe]).below b1 (by simp)
    have d1 := k1.cell 1
    have d4 := k1.cell 4
    simp only [List.getElem?_toArray, List.getElem?_cons_zero, List.getElem?_cons_succ] at d1 d4
    clear b1 k1
    go_wp2_with fail
    go_ret
    exact ⟨rfl, B1.out⟩
  have m1 : decide (40 < (h.repair.length : Int)) = false := decide_eq_false (by omega)
  have m1x : decide (40 < h.repair.length) = false := decide_eq_false (by omega)
  exfalso; omega
end Go.Proofs.YtilahcnpjbnjiaaDoor
