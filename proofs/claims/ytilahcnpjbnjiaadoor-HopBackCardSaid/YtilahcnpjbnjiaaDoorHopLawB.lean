/- Layer 15: HopBack. -/
import Derived.Test.YtilahcnpjbnjiaaDoorHopLawP
namespace Go.Proofs.YtilahcnpjbnjiaaDoor
set_option linter.unusedVariables false
set_option linter.unusedSimpArgs false
open Go.RowKit Go.Shelf Go.Proofs Go.OctetPlain

set_option maxRecDepth 100000 in
set_option maxHeartbeats 4000000 in
theorem law_back (h : Hp.Hop) (l r : Value) (s : List UInt8) (hsz : s.length ≤ 9223372036854775807) (w : World) (ht : HT0 w) (H : HopIs w h l r) : Calls Tryd.prog 5 #[.agg (hopA h l r), .string (str s)] w fun e w' => e = .returned (.bool true) ∧ Below w.heap.size w w' := by
  have AW : Hid (∀ W, Below w.heap.size w W → Calls Tryd.prog 7 #[] W fun e w' => e = .returned (.bool true) ∧ Below W.heap.size W w') := Lib.hid fun W hW => law_awake W (ht.next hW (Nat.le_refl _))
  have HT := Lib.hid ht
  have hs : (str s).size = s.length := str_size s
  have hl := H.sl
  have hr := H.sr
  obtain ⟨p1, c1, rfl, -, -, -⟩ := hl
  obtain ⟨p2, c2, rfl, -, -, -⟩ := hr
  clear ht
  change Calls Tryd.prog _ #[.agg #[.int .i64 h.op, .slice p1 h.labels.length c1, .int .i64 h.port, .int .i64 h.backup, .slice p2 h.repair.length c2, .bool h.pipe], _] w _
  by_cases n1 : 40 < h.labels.length
  · have m1 : decide (40 < (h.labels.length : Int)) = true := decide_eq_true (by omega)
    go_enter Tryd.func5, Tryd.ntmps5
    go_wp2_with fail
    refine (AW.out _ (belowA w _)).mono ?_
    rintro e w1 ⟨rfl, b1⟩
    have K1 := Lib.hid ((HL.newX H).next b1)
    have B1 := Lib.hid (belowA2 b1)
    have d1 := K1.out.b.cell 1
    have d4 := K1.out.b.cell 4
    simp only [hopA, List.getElem?_toArray, List.getElem?_cons_zero, List.getElem?_cons_succ] at d1 d4
    clear b1
    go_wp2_with fail
    go_ret
    exact ⟨rfl, B1.out⟩
  have m1 : decide (40 < (h.labels.length : Int)) = false := decide_eq_false (by omega)
  have m1x : decide (40 < h.labels.length) = false := decide_eq_false (by omega)
  by_cases n2 : 40 < h.repair.length
  · have m2 : decide (40 < (h.repair.length : Int)) = true := decide_eq_true (by omega)
    go_enter Tryd.func5, Tryd.ntmps5
    go_wp2_with fail
    refine (AW.out _ (belowA w _)).mono ?_
    rintro e w1 ⟨rfl, b1⟩
    have K1 := Lib.hid ((HL.newX H).next b1)
    have B1 := Lib.hid (belowA2 b1)
    have d1 := K1.out.b.cell 1
    have d4 := K1.out.b.cell 4
    simp only [hopA, List.getElem?_toArray, List.getElem?_cons_zero, List.getElem?_cons_succ] at d1 d4
    clear b1
    go_wp2_with fail
    go_ret
    exact ⟨rfl, B1.out⟩
  have m2 : decide (40 < (h.repair.length : Int)) = false := decide_eq_false (by omega)
  have m2x : decide (40 < h.repair.length) = false := decide_eq_false (by omega)
  by_cases n3 : 400 < s.length
  · have m3 : decide (400 < (s.length : Int)) = true := decide_eq_true (by omega)
    go_enter Tryd.func5, Tryd.ntmps5
    go_wp2_with fail
    refine (AW.out _ (belowA w _)).mono ?_
    rintro e w1 ⟨rfl, b1⟩
    have K1 := Lib.hid ((HL.newX H).next b1)
    have B1 := Lib.hid (belowA2 b1)
    have d1 := K1.out.b.cell 1
    have d4 := K1.out.b.cell 4
    simp only [hopA, List.getElem?_toArray, List.getElem?_cons_zero, List.getElem?_cons_succ] at d1 d4
    clear b1
    go_wp2_with fail
    go_ret
    exact ⟨rfl, B1.out⟩
  have m3 : decide (400 < (s.length : Int)) = false := decide_eq_false (by omega)
  have m3x : decide (400 < s.length) = false := decide_eq_false (by omega)
  have PS : Hid (∀ W, Below w.heap.size w W → Calls Tryd.prog 15 #[.string (str s)] W (RetH ((Hp.parseR s).getD hop0) (Hp.parseR s).isSome W)) := Lib.hid fun W hW => parse_any s (by omega) W (HT.out.next hW (Nat.le_refl _))
  go_enter Tryd.func5, Tryd.ntmps5
  go_wp2_with fail
  refine (AW.out _ (belowA w _)).mono ?_
  rintro e w1 ⟨rfl, b1⟩
  have K1 := Lib.hid ((HL.newX H).next b1)
  have B1 := Lib.hid (belowA2 b1)
  have d1 := K1.out.b.cell 1
  have d4 := K1.out.b.cell 4
  simp only [hopA, List.getElem?_toArray, List.getElem?_cons_zero, List.getElem?_cons_succ] at d1 d4
  clear b1
  have CK := Lib.hid (hop_Check h K1.out.h.n1 K1.out.h.n2 _ _ w1 K1.out.h.sl K1.out.h.sr)
  have HV := Lib.hid (Hp.check_iff h)
  have HPH : Hid (Hp.checkR h = 0 → Hp.parseR (Hp.showR h) = some h) := Lib.hid fun e => (Hp.parseR_iff _ _).2 ⟨e, rfl⟩
  generalize Hp.checkR h = ck at *
  go_wp2_with (refine wpListH_load_want rfl _ _ rfl w.heap.size rfl _ (hopA h (.slice p1 h.labels.length c1) (.slice p2 h.repair.length c2)) (0, 0) _ K1.out.b Tryd.underlying24 rfl infoHop ?_)
  refine CK.out.mono ?_
  rintro e w2 ⟨rfl, b2⟩
  have K2 := Lib.hid (K1.out.next b2)
  have B2 := Lib.hid (B1.out.trans (b2.mono B1.out.size))
  clear b2 d1 d4 K1 CK
  by_cases hck : ck = 0
  · have V := Lib.hid (HV.out.1 hck)
    have SH := Lib.hid (hop_Show h V.out _ _ w2 (HT.out.next B2.out (Nat.le_refl _)).tabs K2.out.h)
    have hsl := showW_len V.out
    have hjl : (Hp.showR h).length ≤ 1000000 := by have := hjoin_le _ hsl.2; unfold Hp.showR; omega
    have PH : Hid (∀ W, Below w.heap.size w W → Calls Tryd.prog 15 #[.string (str (Hp.showR h))] W (RetH h true W)) := Lib.hid fun W hW => by
      have := parse_any (Hp.showR h) hjl W (HT.out.next hW (Nat.le_refl _))
      rw [HPH.out hck] at this
      exact this
    clear hsl hjl HPH HV
    subst hck
    generalize Hp.showR h = sh at *
    go_wp2_with (refine wpListH_load_want rfl _ _ rfl w.heap.size rfl _ (hopA h (.slice p1 h.labels.length c1) (.slice p2 h.repair.length c2)) (0, 0) _ K2.out.b Tryd.underlying24 rfl infoHop ?_)
    refine SH.out.mono ?_
    rintro e w3 ⟨rfl, b3⟩
    have K3 := Lib.hid (K2.out.next b3)
    have B3 := Lib.hid (B2.out.trans (b3.mono B2.out.size))
    clear b3
    go_wp2_with fail
    refine (PH.out _ B3.out).mono ?_
    rintro e w4 ⟨p3, c3, p4, c4, rfl, h4, b4⟩
    have K4 := Lib.hid ((K3.out.next b4).next (belowA w4 (.cells #[.int .i64 h.op, .slice p3 h.labels.length c3, .int .i64 h.port, .int .i64 h.backup, .slice p4 h.repair.length c4, .bool h.pipe] 24)))
    have G4 := Lib.hid (HL.newX h4)
    have B4 := Lib.hid ((B3.out.trans (b4.mono B3.out.size)).trans ((belowA w4 (.cells #[.int .i64 h.op, .slice p3 h.labels.length c3, .int .i64 h.port, .int .i64 h.backup, .slice p4 h.repair.length c4, .bool h.pipe] 24)).mono (B3.out.trans (b4.mono B3.out.size)).size))
    have SM := Lib.hid (ref_Same15 h h _ _ _ _ _ G4.out.h K4.out.h)
    rw [decide_eq_true rfl] at SM
    clear h4 b4
    go_wp2_with (first
      | (refine wpListH_load_want rfl _ _ rfl w4.heap.size rfl _ (hopA h (.slice p3 h.labels.length c3) (.slice p4 h.repair.length c4)) (0, 0) _ G4.out.b Tryd.underlying24 rfl infoHop ?_)
      | (refine wpListH_load_want rfl _ _ rfl w.heap.size rfl _ (hopA h (.slice p1 h.labels.length c1) (.slice p2 h.repair.length c2)) (0, 0) _ K4.out.b Tryd.underlying24 rfl infoHop ?_))
    refine SM.out.mono ?_
    rintro e w5 ⟨rfl, b5⟩
    have B5 := Lib.hid (B4.out.trans (b5.mono B4.out.size))
    clear b5 K2 K3 K4 G4 SM SH PH
    cases hps : Hp.parseR s with
    | none =>
      rw [hps] at PS
      simp only [Option.getD, Option.isSome] at PS
      go_wp2_with fail
      refine (PS.out _ B5.out).mono ?_
      rintro e u1 ⟨q1, e1, q2, e2, rfl, hu, bu⟩
      have BU := Lib.hid ((B5.out.trans (bu.mono B5.out.size)).trans ((belowA u1 (.cells #[.int .i64 hop0.op, .slice q1 hop0.labels.length e1, .int .i64 hop0.port, .int .i64 hop0.backup, .slice q2 hop0.repair.length e2, .bool hop0.pipe] 24)).mono (B5.out.trans (bu.mono B5.out.size)).size))
      clear hu bu
      go_wp2_with fail
      go_ret
      exact ⟨rfl, BU.out⟩
    | some k =>
      have hk := (Hp.parseR_iff s k).1 hps
      rw [hps] at PS
      simp only [Option.getD, Option.isSome] at PS
      have HK1 := Lib.hid hk.1
      have HK2 := Lib.hid hk.2
      have VK := Lib.hid ((Hp.check_iff k).1 hk.1)
      clear hps hk
      go_wp2_with fail
      refine (PS.out _ B5.out).mono ?_
      rintro e u1 ⟨q1, e1, q2, e2, rfl, hu, bu⟩
      have BU := Lib.hid ((B5.out.trans (bu.mono B5.out.size)).trans ((belowA u1 (.cells #[.int .i64 k.op, .slice q1 k.labels.length e1, .int .i64 k.port, .int .i64 k.backup, .slice q2 k.repair.length e2, .bool k.pipe] 24)).mono (B5.out.trans (bu.mono B5.out.size)).size))
      have KU := Lib.hid (HL.newX hu)
      have CK := Lib.hid (hop_Check k KU.out.h.n1 KU.out.h.n2 _ _ _ KU.out.h.sl KU.out.h.sr)
      rw [HK1.out] at CK
      clear hu bu
      go_wp2_with (refine wpListH_load_want rfl _ _ rfl u1.heap.size rfl _ (hopA k (.slice q1 k.labels.length e1) (.slice q2 k.repair.length e2)) (0, 0) _ KU.out.b Tryd.underlying24 rfl infoHop ?_)
      refine CK.out.mono ?_
      rintro e u2 ⟨rfl, bu⟩
      have KV := Lib.hid (KU.out.next bu)
      have BV := Lib.hid (BU.out.trans (bu.mono BU.out.size))
      have SK := Lib.hid (hop_Show k VK.out _ _ u2 (HT.out.next BV.out (Nat.le_refl _)).tabs KV.out.h)
      rw [HK2.out] at SK
      clear bu
      go_wp2_with (refine wpListH_load_want rfl _ _ rfl u1.heap.size rfl _ (hopA k (.slice q1 k.labels.length e1) (.slice q2 k.repair.length e2)) (0, 0) _ KV.out.b Tryd.underlying24 rfl infoHop ?_)
      refine SK.out.mono ?_
      rintro e u3 ⟨rfl, bu⟩
      have BW := Lib.hid (BV.out.trans (bu.mono BV.out.size))
      clear bu
      go_wp2_with fail
      go_ret
      exact ⟨by simp, BW.out⟩
  · have hne : (ck == 0) = false := by simpa using hck
    clear hck HV HPH
    cases hps : Hp.parseR s with
    | none =>
      rw [hps] at PS
      simp only [Option.getD, Option.isSome] at PS
      go_wp2_with fail
      refine (PS.out _ B2.out).mono ?_
      rintro e u1 ⟨q1, e1, q2, e2, rfl, hu, bu⟩
      have BU := Lib.hid ((B2.out.trans (bu.mono B2.out.size)).trans ((belowA u1 (.cells #[.int .i64 hop0.op, .slice q1 hop0.labels.length e1, .int .i64 hop0.port, .int .i64 hop0.backup, .slice q2 hop0.repair.length e2, .bool hop0.pipe] 24)).mono (B2.out.trans (bu.mono B2.out.size)).size))
      clear hu bu
      go_wp2_with fail
      go_ret
      exact ⟨rfl, BU.out⟩
    | some k =>
      have hk := (Hp.parseR_iff s k).1 hps
      rw [hps] at PS
      simp only [Option.getD, Option.isSome] at PS
      have HK1 := Lib.hid hk.1
      have HK2 := Lib.hid hk.2
      have VK := Lib.hid ((Hp.check_iff k).1 hk.1)
      clear hps hk
      go_wp2_with fail
      refine (PS.out _ B2.out).mono ?_
      rintro e u1 ⟨q1, e1, q2, e2, rfl, hu, bu⟩
      have BU := Lib.hid ((B2.out.trans (bu.mono B2.out.size)).trans ((belowA u1 (.cells #[.int .i64 k.op, .slice q1 k.labels.length e1, .int .i64 k.port, .int .i64 k.backup, .slice q2 k.repair.length e2, .bool k.pipe] 24)).mono (B2.out.trans (bu.mono B2.out.size)).size))
      have KU := Lib.hid (HL.newX hu)
      have CK := Lib.hid (hop_Check k KU.out.h.n1 KU.out.h.n2 _ _ _ KU.out.h.sl KU.out.h.sr)
      rw [HK1.out] at CK
      clear hu bu
      go_wp2_with (refine wpListH_load_want rfl _ _ rfl u1.heap.size rfl _ (hopA k (.slice q1 k.labels.length e1) (.slice q2 k.repair.length e2)) (0, 0) _ KU.out.b Tryd.underlying24 rfl infoHop ?_)
      refine CK.out.mono ?_
      rintro e u2 ⟨rfl, bu⟩
      have KV := Lib.hid (KU.out.next bu)
      have BV := Lib.hid (BU.out.trans (bu.mono BU.out.size))
      have SK := Lib.hid (hop_Show k VK.out _ _ u2 (HT.out.next BV.out (Nat.le_refl _)).tabs KV.out.h)
      rw [HK2.out] at SK
      clear bu
      go_wp2_with (refine wpListH_load_want rfl _ _ rfl u1.heap.size rfl _ (hopA k (.slice q1 k.labels.length e1) (.slice q2 k.repair.length e2)) (0, 0) _ KV.out.b Tryd.underlying24 rfl infoHop ?_)
      refine SK.out.mono ?_
      rintro e u3 ⟨rfl, bu⟩
      have BW := Lib.hid (BV.out.trans (bu.mono BV.out.size))
      clear bu
      go_wp2_with fail
      go_ret
      exact ⟨by simp, BW.out⟩

end Go.Proofs.YtilahcnpjbnjiaaDoor
