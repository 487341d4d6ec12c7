/- Layer 15: HopTells, arguments of any length. -/
import Derived.Test.YtilahcnpjbnjiaaDoorHopLawT
namespace Go.Proofs.YtilahcnpjbnjiaaDoor
set_option linter.unusedVariables false
set_option linter.unusedSimpArgs false
open Go.RowKit Go.Shelf Go.Proofs Go.OctetPlain

set_option maxRecDepth 100000 in
set_option maxHeartbeats 2000000 in
theorem law_tells15_any (a b : Hp.Hop) (l1 r1 l2 r2 : Value) (bk : Int) (w : World) (ht : HT0 w) (hl1 : SlR w 1 encI l1 a.labels) (hr1 : SlR w 1 encI r1 a.repair) (hl2 : SlR w 1 encI l2 b.labels) (hr2 : SlR w 1 encI r2 b.repair) : Calls Tryd.prog 3 #[.agg (hopA a l1 r1), .agg (hopA b l2 r2), .int .i64 bk] w fun e w' => e = .returned (.bool true) ∧ Below w.heap.size w w' := by
  by_cases hbig : a.labels.length ≤ 40 ∧ a.repair.length ≤ 40 ∧ b.labels.length ≤ 40 ∧ b.repair.length ≤ 40
  · exact law_tells15 a b _ _ _ _ bk w ht ⟨by omega, by omega, hl1, hr1⟩ ⟨by omega, by omega, hl2, hr2⟩
  obtain ⟨p1, c1, rfl, -, -, -⟩ := hl1
  obtain ⟨p2, c2, rfl, -, -, -⟩ := hr1
  obtain ⟨p3, c3, rfl, -, -, -⟩ := hl2
  obtain ⟨p4, c4, rfl, -, -, -⟩ := hr2
  have HB2 := Lib.hid fun o o' => ((belowA w o).alloc (by simp) o' : Below w.heap.size w ((w.alloc o).alloc o'))
  have AW : Hid (∀ W, Below w.heap.size w W → Calls Tryd.prog 7 #[] W fun e w' => e = .returned (.bool true) ∧ Below W.heap.size W w') := Lib.hid fun W hW => law_awake W (ht.next hW (Nat.le_refl _))
  change Calls Tryd.prog _ #[.agg #[.int .i64 a.op, .slice p1 a.labels.length c1, .int .i64 a.port, .int .i64 a.backup, .slice p2 a.repair.length c2, .bool a.pipe], .agg #[.int .i64 b.op, .slice p3 b.labels.length c3, .int .i64 b.port, .int .i64 b.backup, .slice p4 b.repair.length c4, .bool b.pipe], _] w _
  by_cases n0 : 40 < a.labels.length
  · have m0 : decide (40 < (a.labels.length : Int)) = true := decide_eq_true (by omega)
    go_enter Tryd.func3, Tryd.ntmps3
    go_wp2_with fail
    refine (AW.out _ (HB2.out _ _)).mono ?_
    rintro e w1 ⟨rfl, b1⟩
    have B1 := Lib.hid ((HB2.out _ _).trans (b1.mono (HB2.out _ _).size))
    have k1 := ((Blk.new w 24 #[.int .i64 a.op, .slice p1 a.labels.length c1, .int .i64 a.port, .int .i64 a.backup, .slice p2 a.repair.length c2, .bool a.pipe]).alloc (.cells #[.int .i64 b.op, .slice p3 b.labels.length c3, .int .i64 b.port, .int .i64 b.backup, .slice p4 b.repair.length c4, .bool b.pipe] 24)).below b1 (by simp; omega)
    have k2 := Blk.new (w.alloc (.cells #[.int .i64 a.op, .slice p1 a.labels.length c1, .int .i64 a.port, .int .i64 a.backup, .slice p2 a.repair.length c2, .bool a.pipe] 24)) 24 #[.int .i64 b.op, .slice p3 b.labels.length c3, .int .i64 b.port, .int .i64 b.backup, .slice p4 b.repair.length c4, .bool b.pipe]
    rw [World.size_alloc] at k2
    have k3 := k2.below b1 (by simp)
    have d1 := k1.cell 1
    have d4 := k1.cell 4
    have e1 := k3.cell 1
    have e4 := k3.cell 4
    simp only [List.getElem?_toArray, List.getElem?_cons_zero, List.getElem?_cons_succ] at d1 d4 e1 e4
    clear b1 k1 k2 k3
    go_wp2_with fail
    go_ret
    exact ⟨rfl, B1.out⟩
  have m0 : decide (40 < (a.labels.length : Int)) = false := decide_eq_false (by omega)
  have m0x : decide (40 < a.labels.length) = false := decide_eq_false (by omega)
  by_cases n1 : 40 < a.repair.length
  · have m1 : decide (40 < (a.repair.length : Int)) = true := decide_eq_true (by omega)
    go_enter Tryd.func3, Tryd.ntmps3
    go_wp2_with fail
    refine (AW.out _ (HB2.out _ _)).mono ?_
    rintro e w1 ⟨rfl, b1⟩
    have B1 := Lib.hid ((HB2.out _ _).trans (b1.mono (HB2.out _ _).size))
    have k1 := ((Blk.new w 24 #[.int .i64 a.op, .slice p1 a.labels.length c1, .int .i64 a.port, .int .i64 a.backup, .slice p2 a.repair.length c2, .bool a.pipe]).alloc (.cells #[.int .i64 b.op, .slice p3 b.labels.length c3, .int .i64 b.port, .int .i64 b.backup, .slice p4 b.repair.length c4, .bool b.pipe] 24)).below b1 (by simp; omega)
    have k2 := Blk.new (w.alloc (.cells #[.int .i64 a.op, .slice p1 a.labels.length c1, .int .i64 a.port, .int .i64 a.backup, .slice p2 a.repair.length c2, .bool a.pipe] 24)) 24 #[.int .i64 b.op, .slice p3 b.labels.length c3, .int .i64 b.port, .int .i64 b.backup, .slice p4 b.repair.length c4, .bool b.pipe]
    rw [World.size_alloc] at k2
    have k3 := k2.below b1 (by simp)
    have d1 := k1.cell 1
    have d4 := k1.cell 4
    have e1 := k3.cell 1
    have e4 := k3.cell 4
    simp only [List.getElem?_toArray, List.getElem?_cons_zero, List.getElem?_cons_succ] at d1 d4 e1 e4
    clear b1 k1 k2 k3
    go_wp2_with fail
    go_ret
    exact ⟨rfl, B1.out⟩
  have m1 : decide (40 < (a.repair.length : Int)) = false := decide_eq_false (by omega)
  have m1x : decide (40 < a.repair.length) = false := decide_eq_false (by omega)
  by_cases n2 : 40 < b.labels.length
  · have m2 : decide (40 < (b.labels.length : Int)) = true := decide_eq_true (by omega)
    go_enter Tryd.func3, Tryd.ntmps3
    go_wp2_with fail
    refine (AW.out _ (HB2.out _ _)).mono ?_
    rintro e w1 ⟨rfl, b1⟩
    have B1 := Lib.hid ((HB2.out _ _).trans (b1.mono (HB2.out _ _).size))
    have k1 := ((Blk.new w 24 #[.int .i64 a.op, .slice p1 a.labels.length c1, .int .i64 a.port, .int .i64 a.backup, .slice p2 a.repair.length c2, .bool a.pipe]).alloc (.cells #[.int .i64 b.op, .slice p3 b.labels.length c3, .int .i64 b.port, .int .i64 b.backup, .slice p4 b.repair.length c4, .bool b.pipe] 24)).below b1 (by simp; omega)
    have k2 := Blk.new (w.alloc (.cells #[.int .i64 a.op, .slice p1 a.labels.length c1, .int .i64 a.port, .int .i64 a.backup, .slice p2 a.repair.length c2, .bool a.pipe] 24)) 24 #[.int .i64 b.op, .slice p3 b.labels.length c3, .int .i64 b.port, .int .i64 b.backup, .slice p4 b.repair.length c4, .bool b.pipe]
    rw [World.size_alloc] at k2
    have k3 := k2.below b1 (by simp)
    have d1 := k1.cell 1
    have d4 := k1.cell 4
    have e1 := k3.cell 1
    have e4 := k3.cell 4
    simp only [List.getElem?_toArray, List.getElem?_cons_zero, List.getElem?_cons_succ] at d1 d4 e1 e4
    clear b1 k1 k2 k3
    go_wp2_with fail
    go_ret
    exact ⟨rfl, B1.out⟩
  have m2 : decide (40 < (b.labels.length : Int)) = false := decide_eq_false (by omega)
  have m2x : decide (40 < b.labels.length) = false := decide_eq_false (by omega)
  by_cases n3 : 40 < b.repair.length
  · have m3 : decide (40 < (b.repair.length : Int)) = true := decide_eq_true (by omega)
    go_enter Tryd.func3, Tryd.ntmps3
    go_wp2_with fail
    refine (AW.out _ (HB2.out _ _)).mono ?_
    rintro e w1 ⟨rfl, b1⟩
    have B1 := Lib.hid ((HB2.out _ _).trans (b1.mono (HB2.out _ _).size))
    have k1 := ((Blk.new w 24 #[.int .i64 a.op, .slice p1 a.labels.length c1, .int .i64 a.port, .int .i64 a.backup, .slice p2 a.repair.length c2, .bool a.pipe]).alloc (.cells #[.int .i64 b.op, .slice p3 b.labels.length c3, .int .i64 b.port, .int .i64 b.backup, .slice p4 b.repair.length c4, .bool b.pipe] 24)).below b1 (by simp; omega)
    have k2 := Blk.new (w.alloc (.cells #[.int .i64 a.op, .slice p1 a.labels.length c1, .int .i64 a.port, .int .i64 a.backup, .slice p2 a.repair.length c2, .bool a.pipe] 24)) 24 #[.int .i64 b.op, .slice p3 b.labels.length c3, .int .i64 b.port, .int .i64 b.backup, .slice p4 b.repair.length c4, .bool b.pipe]
    rw [World.size_alloc] at k2
    have k3 := k2.below b1 (by simp)
    have d1 := k1.cell 1
    have d4 := k1.cell 4
    have e1 := k3.cell 1
    have e4 := k3.cell 4
    simp only [List.getElem?_toArray, List.getElem?_cons_zero, List.getElem?_cons_succ] at d1 d4 e1 e4
    clear b1 k1 k2 k3
    go_wp2_with fail
    go_ret
    exact ⟨rfl, B1.out⟩
  have m3 : decide (40 < (b.repair.length : Int)) = false := decide_eq_false (by omega)
  have m3x : decide (40 < b.repair.length) = false := decide_eq_false (by omega)
  exfalso; omega
end Go.Proofs.YtilahcnpjbnjiaaDoor
