/- Layer 15: HopGuards. -/
import Derived.Test.YtilahcnpjbnjiaaDoorHopLawT
namespace Go.Proofs.YtilahcnpjbnjiaaDoor
set_option linter.unusedVariables false
set_option linter.unusedSimpArgs false
open Go.RowKit Go.Shelf Go.Proofs Go.OctetPlain

def encH (n : Int) : List Value := [.int .u16 n]
theorem encH_len (n : Int) : (encH n).length = 1 := rfl
theorem show_longer (h : Hp.Hop) (b : Int) (L : List Int) (hb : b ≠ -1) : (Hp.showR (Hp.guarded (Hp.guarded h b L) (-1) [])).length < (Hp.showR (Hp.guarded h b L)).length := by
  rw [showR_parts, showR_parts]
  by_cases h3 : h.op = 3 <;> by_cases hp : h.pipe = true <;> simp [Hp.guarded, hb, h3, hp]
  all_goals omega
/-- two hops in blocks of their own -/
structure GS15 (w W : World) (bg bn : Nat) (g n : Hp.Hop) (l1 r1 l2 : Value) (p8 : Option Addr) (c8 : Nat) : Prop where
  kg : HL W bg g l1 r1
  kn : HL W bn n l2 (.slice p8 0 c8)
  bel : Below w.heap.size w W
  f3 : W.cell? ⟨bn, 3, none⟩ = some (.int .i64 (-1))
  f4 : W.cell? ⟨bn, 4, none⟩ = some (.slice p8 0 c8)
theorem GS15.next {w W W' : World} {bg bn : Nat} {g n : Hp.Hop} {l1 r1 l2 : Value} {p8 : Option Addr} {c8 : Nat} (h : GS15 w W bg bn g n l1 r1 l2 p8 c8) (hb : Below W.heap.size W W') : GS15 w W' bg bn g n l1 r1 l2 p8 c8 :=
  ⟨h.kg.next hb, h.kn.next hb, h.bel.trans (hb.mono h.bel.size), by rw [hb.cell (p := ⟨bn, 3, none⟩) h.kn.b.lt]; exact h.f3, by rw [hb.cell (p := ⟨bn, 4, none⟩) h.kn.b.lt]; exact h.f4⟩
theorem GS15.drew {w W : World} {bg bn : Nat} {g n : Hp.Hop} {l1 r1 l2 : Value} {p8 : Option Addr} {c8 : Nat} (h : GS15 w W bg bn g n l1 r1 l2 p8 c8) : GS15 w W.drew bg bn g n l1 r1 l2 p8 c8 := h.next (Below.refl W.heap.size W).drew
set_option maxRecDepth 100000 in
set_option maxHeartbeats 8000000 in
theorem law_guards (h : Hp.Hop) (l r : Value) (bk : Int) (hbk : 0 ≤ bk ∧ bk ≤ 255) (rs : List Int) (hr16 : ∀ n ∈ rs, 0 ≤ n ∧ n ≤ 65535) (vr : Value) (w : World) (ht : HT0 w) (H : HopIs w h l r) (hvr : SlR w 1 encH vr rs) :
    Calls Tryd.prog 6 #[.agg (hopA h l r), .int .u8 bk, vr] w fun e w' => e = .returned (.bool true) ∧ Below w.heap.size w w' := by
  have AW : Hid (∀ W, Below w.heap.size w W → Calls Tryd.prog 7 #[] W fun e w' => e = .returned (.bool true) ∧ Below W.heap.size W w') := Lib.hid fun W hW => law_awake W (ht.next hW (Nat.le_refl _))
  have HT := Lib.hid ht
  have hl := H.sl
  have hr := H.sr
  obtain ⟨p1, c1, rfl, -, -, -⟩ := hl
  obtain ⟨p2, c2, rfl, -, -, -⟩ := hr
  obtain ⟨p3, c3, rfl, hc3, hc4, hR⟩ := hvr
  clear ht
  change Calls Tryd.prog _ #[.agg #[.int .i64 h.op, .slice p1 h.labels.length c1, .int .i64 h.port, .int .i64 h.backup, .slice p2 h.repair.length c2, .bool h.pipe], _, _] w _
  by_cases n0 : 40 < h.labels.length
  · have m0 : decide (40 < (h.labels.length : Int)) = true := decide_eq_true (by omega)
    go_enter Tryd.func6, Tryd.ntmps6
    go_wp2_with fail
    refine (AW.out _ (belowA w _)).mono ?_
    rintro e w1 ⟨rfl, b1⟩
    have K1 := Lib.hid ((HL.newX H).next b1)
    have B1 := Lib.hid (belowA2 b1)
    have d1 := K1.out.b.cell 1
    have d4 := K1.out.b.cell 4
    have d0 := K1.out.b.cell 0
    simp only [hopA, List.getElem?_toArray, List.getElem?_cons_zero, List.getElem?_cons_succ] at d1 d4 d0
    clear b1
    go_wp2_with fail
    go_ret
    exact ⟨rfl, B1.out⟩
  have m0 : decide (40 < (h.labels.length : Int)) = false := decide_eq_false (by omega)
  have m0x : decide (40 < h.labels.length) = false := decide_eq_false (by omega)
  by_cases n1 : 40 < h.repair.length
  · have m1 : decide (40 < (h.repair.length : Int)) = true := decide_eq_true (by omega)
    go_enter Tryd.func6, Tryd.ntmps6
    go_wp2_with fail
    refine (AW.out _ (belowA w _)).mono ?_
    rintro e w1 ⟨rfl, b1⟩
    have K1 := Lib.hid ((HL.newX H).next b1)
    have B1 := Lib.hid (belowA2 b1)
    have d1 := K1.out.b.cell 1
    have d4 := K1.out.b.cell 4
    have d0 := K1.out.b.cell 0
    simp only [hopA, List.getElem?_toArray, List.getElem?_cons_zero, List.getElem?_cons_succ] at d1 d4 d0
    clear b1
    go_wp2_with fail
    go_ret
    exact ⟨rfl, B1.out⟩
  have m1 : decide (40 < (h.repair.length : Int)) = false := decide_eq_false (by omega)
  have m1x : decide (40 < h.repair.length) = false := decide_eq_false (by omega)
  by_cases n2 : 16 < rs.length
  · have m2 : decide (16 < (rs.length : Int)) = true := decide_eq_true (by omega)
    go_enter Tryd.func6, Tryd.ntmps6
    go_wp2_with fail
    refine (AW.out _ (belowA w _)).mono ?_
    rintro e w1 ⟨rfl, b1⟩
    have K1 := Lib.hid ((HL.newX H).next b1)
    have B1 := Lib.hid (belowA2 b1)
    have d1 := K1.out.b.cell 1
    have d4 := K1.out.b.cell 4
    have d0 := K1.out.b.cell 0
    simp only [hopA, List.getElem?_toArray, List.getElem?_cons_zero, List.getElem?_cons_succ] at d1 d4 d0
    clear b1
    go_wp2_with fail
    go_ret
    exact ⟨rfl, B1.out⟩
  have m2 : decide (16 < (rs.length : Int)) = false := decide_eq_false (by omega)
  have m2x : decide (16 < rs.length) = false := decide_eq_false (by omega)
  go_enter Tryd.func6, Tryd.ntmps6
  go_wp2_with fail
  refine (AW.out _ (belowA w _)).mono ?_
  rintro e w1 ⟨rfl, b1⟩
  have K1 := Lib.hid ((HL.newX H).next b1)
  have B1 := Lib.hid (belowA2 b1)
  have d1 := K1.out.b.cell 1
  have d4 := K1.out.b.cell 4
  have d0 := K1.out.b.cell 0
  simp only [hopA, List.getElem?_toArray, List.getElem?_cons_zero, List.getElem?_cons_succ] at d1 d4 d0
  clear b1
  have CK := Lib.hid (hop_Check h K1.out.h.n1 K1.out.h.n2 _ _ w1 K1.out.h.sl K1.out.h.sr)
  have HV := Lib.hid (Hp.check_iff h)
  generalize Hp.checkR h = ck at *
  go_wp2_with (refine wpListH_load_want rfl _ _ rfl w.heap.size rfl _ (hopA h (.slice p1 h.labels.length c1) (.slice p2 h.repair.length c2)) (0, 0) _ K1.out.b Tryd.underlying24 rfl infoHop ?_)
  refine CK.out.mono ?_
  rintro e w2 ⟨rfl, b2⟩
  have K2 := Lib.hid (K1.out.next b2)
  have B2 := Lib.hid (B1.out.trans (b2.mono B1.out.size))
  clear b2 d1 d4 d0 K1 CK
  have d0 := K2.out.b.cell 0
  have d2 := K2.out.b.cell 2
  simp only [hopA, List.getElem?_toArray, List.getElem?_cons_zero, List.getElem?_cons_succ] at d0 d2
  by_cases hck : ck = 0
  rotate_left
  · have hne : (ck != 0) = true := by simpa using hck
    clear hck HV
    go_wp2_with fail
    go_ret
    exact ⟨rfl, B2.out⟩
  have V := Lib.hid (HV.out.1 hck)
  subst hck
  by_cases ho3 : h.op = 3
  · have hoe : (h.op == 3) = true := by simpa using ho3
    clear ho3
    go_wp2_with fail
    go_ret
    exact ⟨rfl, B2.out⟩
  have hoe : (h.op == 3) = false := by simpa using ho3
  have HO3 := Lib.hid ho3
  clear ho3
  obtain ⟨b, hb⟩ : ∃ b, bk % 64 = b := ⟨_, rfl⟩
  have hb0 : 0 ≤ b ∧ b ≤ 63 := by omega
  have hb1 := hbk.1
  have hb2 := hbk.2
  have hbt : bk.tmod 64 = b := by rw [Int.tmod_eq_emod_of_nonneg hb1]; exact hb
  have HBB := Lib.hid hb
  go_wp2_with fail
  clear d0 d2 hbt hb hbk hb1 hb2
  go_loopw [9, 10] (fun vl vi wr => ∃ k : Nat, vi = .int .i64 k ∧ k ≤ rs.length ∧ Hid (wr.ownsRow w2.heap.size 3 1 vl k (flat encI ((rs.take k).map (· + 16)))) ∧ Hid (Below w2.heap.size w2 wr)) (fun _ vi _ => rs.length - (intOf vi).toNat)
  case atStart => exact ⟨0, rfl, Nat.zero_le _, Lib.hid (World.ownsRow_nil _ _ _ _), Lib.hid (Below.refl _ _)⟩
  case round =>
    obtain ⟨k, rfl, hk, HO, HBk⟩ := hrel
    by_cases hlt : k < rs.length
    · obtain ⟨x, hx⟩ : ∃ x, rs[k]? = some x := ⟨rs[k], List.getElem?_eq_getElem hlt⟩
      have hxb := hr16 x (List.mem_of_getElem? hx)
      obtain ⟨bb, off, rfl, hbs, hcell⟩ := ((hR.below B2.out (Nat.le_refl _)).below HBk.out (Nat.le_refl _)).at hlt
      have hLk : rs[k] = x := by have := List.getElem?_eq_getElem hlt; rw [hx] at this; cases this; rfl
      have hc0 := hcell 0 (.int .u16 x) (by rw [hLk]; rfl)
      simp only [Nat.mul_one, Nat.add_zero] at hc0
      have HTK : Hid ((rs.take (k + 1)).map (· + 16) = (rs.take k).map (· + 16) ++ [x + 16]) := by
        rw [List.take_succ_eq_append_getElem hlt, List.map_append, hLk]; exact Lib.hid rfl
      have hz := HBk.out.size
      have hx0 := hxb.1
      have hx1 := hxb.2
      clear hcell hLk hx hxb
      go_wp2_with (at_builtin; go_loud (refine wpList_app elemI rfl (.tmp 50) (.tmp 57) rfl w2.heap.size u9 _ _ rfl HO.out 1 1 [.int .i64 _] rfl rfl (by simp [Value.oneCell']) (by omega) (by omega) ?_; intro v4 w4 hown4 _ _ hb4))
      exact ⟨⟨k + 1, by go_num, by omega, Lib.hid (by rw [HTK.out, flat_append]; exact hown4), Lib.hid (HBk.out.trans hb4)⟩, by simp [intOf]; omega⟩
    · obtain rfl : k = rs.length := by omega
      have hO := HO.out
      rw [List.take_length] at hO
      have hvl := owns_form hO
      obtain ⟨p9, c9, rfl⟩ := hvl
      have hLlen : (rs.map (· + 16)).length = rs.length := List.length_map ..
      have hpb : ∀ n ∈ rs.map (· + 16), 16 ≤ n ∧ n ≤ 65551 := fun n hn => by
        obtain ⟨y, hy, rfl⟩ := List.mem_map.1 hn
        have := hr16 y hy
        omega
      have hsl : SlR wr 1 encI (.slice p9 rs.length c9) (rs.map (· + 16)) := SlR.of_owns encI_len (by rw [hLlen]; exact hO)
      have K3 := Lib.hid (K2.out.next HBk.out)
      have B3 := Lib.hid (B2.out.trans (HBk.out.mono B2.out.size))
      have GU := Lib.hid (guard_any h b (rs.map (· + 16)) (by rw [hLlen]; omega) _ _ _ wr K3.out.h hsl)
      have GK := Lib.hid (Hp.guard_ok V.out HO3.out hb0.1 hb0.2 (by rw [hLlen]; omega) hpb)
      have SL := Lib.hid (show_longer h b (rs.map (· + 16)) (by omega))
      clear hO HO hsl hpb K2 B2 HBk hR V HO3
      generalize rs.map (· + 16) = L at *
      have GU2 : Hid (∃ g, Hp.guarded h b L = g ∧ g.port = h.port ∧ Calls Tryd.prog 14 #[.agg (hopA h (.slice p1 h.labels.length c1) (.slice p2 h.repair.length c2)), .int .i64 b, .slice p9 rs.length c9] wr fun e w' => ∃ p5 c5 p6 c6, e = .returned (.agg #[.int .i64 g.op, .slice p5 g.labels.length c5, .int .i64 g.port, .int .i64 g.backup, .slice p6 g.repair.length c6, .bool g.pipe]) ∧ HopIs w' g (.slice p5 g.labels.length c5) (.slice p6 g.repair.length c6) ∧ Below wr.heap.size wr w') := Lib.hid ⟨_, rfl, rfl, GU.out.mono fun _ _ ⟨p5, c5, p6, c6, h1, h2, h3, _⟩ => ⟨p5, c5, p6, c6, h1, h2, h3⟩⟩
      obtain ⟨g, hg, hgp, hGU⟩ := GU2.out
      rw [hg] at GK SL
      have HGU := Lib.hid hGU
      clear GU GU2 hg hGU hgp
      go_wp2_with (refine wpListH_load_want rfl _ _ rfl w.heap.size rfl _ (hopA h (.slice p1 h.labels.length c1) (.slice p2 h.repair.length c2)) (0, 0) _ K3.out.b Tryd.underlying24 rfl infoHop ?_)
      refine HGU.out.mono ?_
      rintro e w5 ⟨p5, c5, p6, c6, rfl, hi, b5⟩
      have K5 := Lib.hid (K3.out.next b5)
      have B5 := Lib.hid ((B3.out.trans (b5.mono B3.out.size)).trans ((belowA w5 (.cells #[.int .i64 g.op, .slice p5 g.labels.length c5, .int .i64 g.port, .int .i64 g.backup, .slice p6 g.repair.length c6, .bool g.pipe] 24)).mono (B3.out.trans (b5.mono B3.out.size)).size))
      have KG := Lib.hid (HL.newX hi)
      have hz5 := K5.out.b.lt
      have d2 : ∀ o, (w5.alloc o).cell? ⟨w.heap.size, 2, none⟩ = some (.int .i64 h.port) := fun o => (K5.out.b.alloc o).cell 2
      clear b5 hi K3
      by_cases hbp : b = h.port
      · have hbe : (b == h.port) = true := by simpa using hbp
        have CK := Lib.hid (hop_Check g KG.out.h.n1 KG.out.h.n2 _ _ _ KG.out.h.sl KG.out.h.sr)
        rw [GK.out.1 hbp] at CK
        clear hbp
        go_wp2_with (refine wpListH_load_want rfl _ _ rfl w5.heap.size rfl _ (hopA g (.slice p5 g.labels.length c5) (.slice p6 g.repair.length c6)) (0, 0) _ KG.out.b Tryd.underlying24 rfl infoHop ?_)
        refine CK.out.mono ?_
        rintro e w6 ⟨rfl, b6⟩
        go_wp2_with fail
        go_ret
        exact ⟨rfl, B5.out.trans (b6.mono B5.out.size)⟩
      · have hbe : (b == h.port) = false := by simpa using hbp
        obtain ⟨VG, VN⟩ := GK.out.2 hbp
        have VN : Hp.Valid (Hp.guarded g (-1) []) := VN
        have GU6 := Lib.hid (guard_any g (-1) [] (by simp) _ _ (.slice none 0 0) _ KG.out.h (slr_nil _))
        have VG := Lib.hid VG
        have VN := Lib.hid VN
        clear hbp GK
        go_wp2_with (refine wpListH_load_want rfl _ _ rfl w5.heap.size rfl _ (hopA g (.slice p5 g.labels.length c5) (.slice p6 g.repair.length c6)) (0, 0) _ KG.out.b Tryd.underlying24 rfl infoHop ?_)
        refine GU6.out.mono ?_
        rintro e w6 ⟨p7, c7, p8, c8, rfl, hi, b6, -, -⟩
        have KN : Hid (HL (w6.alloc (.cells #[.int .i64 g.op, .slice p7 g.labels.length c7, .int .i64 g.port, .int .i64 (-1), .slice p8 0 c8, .bool g.pipe] 24)) w6.heap.size (Hp.guarded g (-1) []) (.slice p7 g.labels.length c7) (.slice p8 0 c8)) := Lib.hid (HL.new hi)
        have KG6 := Lib.hid ((KG.out.next b6).next (belowA w6 (.cells #[.int .i64 g.op, .slice p7 g.labels.length c7, .int .i64 g.port, .int .i64 (-1), .slice p8 0 c8, .bool g.pipe] 24)))
        have B6 := Lib.hid ((B5.out.trans (b6.mono B5.out.size)).trans ((belowA w6 (.cells #[.int .i64 g.op, .slice p7 g.labels.length c7, .int .i64 g.port, .int .i64 (-1), .slice p8 0 c8, .bool g.pipe] 24)).mono (B5.out.trans (b6.mono B5.out.size)).size))
        have F6 : Hid ((w6.alloc (.cells #[.int .i64 g.op, .slice p7 g.labels.length c7, .int .i64 g.port, .int .i64 (-1), .slice p8 0 c8, .bool g.pipe] 24)).cell? ⟨w6.heap.size, 3, none⟩ = some (.int .i64 (-1)) ∧ (w6.alloc (.cells #[.int .i64 g.op, .slice p7 g.labels.length c7, .int .i64 g.port, .int .i64 (-1), .slice p8 0 c8, .bool g.pipe] 24)).cell? ⟨w6.heap.size, 4, none⟩ = some (.slice p8 0 c8)) := Lib.hid ⟨KN.out.b.cell 3, KN.out.b.cell 4⟩
        clear hi b6 GU6 K5 B5 KG HGU
        generalize Hp.guarded g (-1) [] = n at *
        have T0 : Hid (GS15 w (w6.alloc (.cells #[.int .i64 g.op, .slice p7 g.labels.length c7, .int .i64 g.port, .int .i64 (-1), .slice p8 0 c8, .bool g.pipe] 24)) w5.heap.size w6.heap.size g n (.slice p5 g.labels.length c5) (.slice p6 g.repair.length c6) (.slice p7 g.labels.length c7) p8 c8) := Lib.hid ⟨KG6.out, KN.out, B6.out, F6.out.1, F6.out.2⟩
        have C1 : Hid (∀ W, GS15 w W w5.heap.size w6.heap.size g n (.slice p5 g.labels.length c5) (.slice p6 g.repair.length c6) (.slice p7 g.labels.length c7) p8 c8 → Calls Tryd.prog 9 #[.agg (hopA g (.slice p5 g.labels.length c5) (.slice p6 g.repair.length c6))] W fun e w' => e = .returned (.int .i64 0) ∧ Below W.heap.size W w') := Lib.hid fun W hW => by
          have := hop_Check g hW.kg.h.n1 hW.kg.h.n2 _ _ W hW.kg.h.sl hW.kg.h.sr
          rw [(Hp.check_iff g).2 VG.out] at this; exact this
        have C2 : Hid (∀ W, GS15 w W w5.heap.size w6.heap.size g n (.slice p5 g.labels.length c5) (.slice p6 g.repair.length c6) (.slice p7 g.labels.length c7) p8 c8 → Calls Tryd.prog 9 #[.agg (hopA n (.slice p7 g.labels.length c7) (.slice p8 0 c8))] W fun e w' => e = .returned (.int .i64 0) ∧ Below W.heap.size W w') := Lib.hid fun W hW => by
          have := hop_Check n hW.kn.h.n1 hW.kn.h.n2 _ _ W hW.kn.h.sl hW.kn.h.sr
          rw [(Hp.check_iff n).2 VN.out] at this; exact this
        have C3 : Hid (∀ W, GS15 w W w5.heap.size w6.heap.size g n (.slice p5 g.labels.length c5) (.slice p6 g.repair.length c6) (.slice p7 g.labels.length c7) p8 c8 → Calls Tryd.prog 12 #[.agg (hopA g (.slice p5 g.labels.length c5) (.slice p6 g.repair.length c6))] W fun e w' => e = .returned (.string (str (Hp.showR g))) ∧ Below W.heap.size W w') := Lib.hid fun W hW => hop_Show g VG.out _ _ W (HT.out.next hW.bel (Nat.le_refl _)).tabs hW.kg.h
        have C4 : Hid (∀ W, GS15 w W w5.heap.size w6.heap.size g n (.slice p5 g.labels.length c5) (.slice p6 g.repair.length c6) (.slice p7 g.labels.length c7) p8 c8 → Calls Tryd.prog 12 #[.agg (hopA n (.slice p7 g.labels.length c7) (.slice p8 0 c8))] W fun e w' => e = .returned (.string (str (Hp.showR n))) ∧ Below W.heap.size W w') := Lib.hid fun W hW => hop_Show n VN.out _ _ W (HT.out.next hW.bel (Nat.le_refl _)).tabs hW.kn.h
        have hsl := SL.out
        have z1 : (str (Hp.showR g)).size = (Hp.showR g).length := str_size _
        have z2 : (str (Hp.showR n)).size = (Hp.showR n).length := str_size _
        clear KN KG6 B6 F6 VG VN SL
        generalize Hp.showR g = sg at *
        generalize Hp.showR n = sn at *
        have hd : decide (sn.length < sg.length) = true := decide_eq_true hsl
        go_wp2_with fail
        refine wp_region_held_drew (S := fun W => GS15 w W w5.heap.size w6.heap.size g n (.slice p5 g.labels.length c5) (.slice p6 g.repair.length c6) (.slice p7 g.labels.length c7) p8 c8) (by kernel_rfl) T0.out.drew (fun hHeld => ?_)
        refine wpAnyH_take (i := 0) rfl (by kernel_rfl) (by kernel_rfl) (by kernel_rfl) (fun _ _ _ h => h) (yieldsIf_load_row (by rfl) _ _ rfl (w5.heap.size) rfl _ (hopA g (.slice p5 g.labels.length c5) (.slice p6 g.repair.length c6)) _ (fun w h => h.kg.b) Tryd.underlying24 rfl infoHop) (by assumption) ?_
        simp only [Act.put, List.setIfInBounds_toArray, List.set_cons_zero, List.set_cons_succ, List.getElem_toArray, List.getElem_cons_zero, List.getElem_cons_succ]
        refine held_step (i := 1) rfl (by kernel_rfl) (by rfl) (fun K hK => ?_)
        go_simp
        refine (C1.out _ (by assumption)).mono ?_; rintro e v1 ⟨rfl, hc1⟩
        go_wp2_with fail
        refine hK.out _ _ (GS15.next (by assumption) hc1) (fun hHeld => ?_)
        clear hK K
        try simp only [Act.put, List.setIfInBounds_toArray, List.set_cons_zero, List.set_cons_succ, List.getElem_toArray, List.getElem_cons_zero, List.getElem_cons_succ]
        refine wpAnyH_take (i := 2) (v := ?_) rfl (by kernel_rfl) (by kernel_rfl) (by kernel_rfl) (fun _ _ _ h => h) (Or.inl ⟨by rfl, ?_⟩) (by assumption) ?_
        rotate_left
        · intro w hSw; go_simp; try with_reducible rfl
        simp only [Act.put, List.setIfInBounds_toArray, List.set_cons_zero, List.set_cons_succ, List.getElem_toArray, List.getElem_cons_zero, List.getElem_cons_succ]
        refine wpAnyH_take (i := 3) (v := ?_) rfl (by kernel_rfl) (by kernel_rfl) (by kernel_rfl) (fun _ _ _ h => h) (Or.inl ⟨by rfl, ?_⟩) (by assumption) ?_
        rotate_left
        · intro w hSw; go_simp; try with_reducible rfl
        simp only [Act.put, List.setIfInBounds_toArray, List.set_cons_zero, List.set_cons_succ, List.getElem_toArray, List.getElem_cons_zero, List.getElem_cons_succ]
        refine wpAnyH_take (i := 4) rfl (by kernel_rfl) (by kernel_rfl) (by kernel_rfl) (fun _ _ _ h => h) (yieldsIf_load_row (by rfl) _ _ rfl (w6.heap.size) rfl _ (hopA n (.slice p7 g.labels.length c7) (.slice p8 0 c8)) _ (fun w h => h.kn.b) Tryd.underlying24 rfl infoHop) (by assumption) ?_
        simp only [Act.put, List.setIfInBounds_toArray, List.set_cons_zero, List.set_cons_succ, List.getElem_toArray, List.getElem_cons_zero, List.getElem_cons_succ]
        refine held_step (i := 5) rfl (by kernel_rfl) (by rfl) (fun K hK => ?_)
        go_simp
        refine (C2.out _ (by assumption)).mono ?_; rintro e v2 ⟨rfl, hc2⟩
        go_wp2_with fail
        refine hK.out _ _ (GS15.next (by assumption) hc2) (fun hHeld => ?_)
        clear hK K
        try simp only [Act.put, List.setIfInBounds_toArray, List.set_cons_zero, List.set_cons_succ, List.getElem_toArray, List.getElem_cons_zero, List.getElem_cons_succ]
        refine wpAnyH_take (i := 6) (v := ?_) rfl (by kernel_rfl) (by kernel_rfl) (by kernel_rfl) (fun _ _ _ h => h) (Or.inl ⟨by rfl, ?_⟩) (by assumption) ?_
        rotate_left
        · intro w hSw; go_simp; try with_reducible rfl
        simp only [Act.put, List.setIfInBounds_toArray, List.set_cons_zero, List.set_cons_succ, List.getElem_toArray, List.getElem_cons_zero, List.getElem_cons_succ]
        refine wpAnyH_take (i := 7) (v := ?_) rfl (by kernel_rfl) (by kernel_rfl) (by kernel_rfl) (fun _ _ _ h => h) (Or.inl ⟨by rfl, ?_⟩) (by assumption) ?_
        rotate_left
        · intro w hSw; go_simp; try with_reducible rfl
        simp only [Act.put, List.setIfInBounds_toArray, List.set_cons_zero, List.set_cons_succ, List.getElem_toArray, List.getElem_cons_zero, List.getElem_cons_succ]
        refine wpAnyH_take (i := 8) (v := ?_) rfl (by kernel_rfl) (by kernel_rfl) (by kernel_rfl) (fun _ _ _ h => h) (Or.inl ⟨by rfl, ?_⟩) (by assumption) ?_
        rotate_left
        · intro w hSw; go_simp; try with_reducible rfl
        simp only [Act.put, List.setIfInBounds_toArray, List.set_cons_zero, List.set_cons_succ, List.getElem_toArray, List.getElem_cons_zero, List.getElem_cons_succ]
        refine wpAnyH_take (i := 9) rfl (by kernel_rfl) (by kernel_rfl) (by kernel_rfl) (fun _ _ _ h => h) (yieldsIf_load_row (by rfl) _ _ rfl (w5.heap.size) rfl _ (hopA g (.slice p5 g.labels.length c5) (.slice p6 g.repair.length c6)) _ (fun w h => h.kg.b) Tryd.underlying24 rfl infoHop) (by assumption) ?_
        simp only [Act.put, List.setIfInBounds_toArray, List.set_cons_zero, List.set_cons_succ, List.getElem_toArray, List.getElem_cons_zero, List.getElem_cons_succ]
        refine wpAnyH_take (i := 12) rfl (by kernel_rfl) (by kernel_rfl) (by kernel_rfl) (fun _ _ _ h => h) (yieldsIf_load_row (by rfl) _ _ rfl (w6.heap.size) rfl _ (hopA n (.slice p7 g.labels.length c7) (.slice p8 0 c8)) _ (fun w h => h.kn.b) Tryd.underlying24 rfl infoHop) (by assumption) ?_
        simp only [Act.put, List.setIfInBounds_toArray, List.set_cons_zero, List.set_cons_succ, List.getElem_toArray, List.getElem_cons_zero, List.getElem_cons_succ]
        refine held_step (i := 10) rfl (by kernel_rfl) (by rfl) (fun K hK => ?_)
        go_simp
        refine (C3.out _ (by assumption)).mono ?_; rintro e v3 ⟨rfl, hc3⟩
        go_wp2_with fail
        refine hK.out _ _ (GS15.next (by assumption) hc3) (fun hHeld => ?_)
        clear hK K
        try simp only [Act.put, List.setIfInBounds_toArray, List.set_cons_zero, List.set_cons_succ, List.getElem_toArray, List.getElem_cons_zero, List.getElem_cons_succ]
        refine wpAnyH_take (i := 11) (v := ?_) rfl (by kernel_rfl) (by kernel_rfl) (by kernel_rfl) (fun _ _ _ h => h) (Or.inl ⟨by rfl, ?_⟩) (by assumption) ?_
        rotate_left
        · intro w hSw; go_simp; try with_reducible rfl
        simp only [Act.put, List.setIfInBounds_toArray, List.set_cons_zero, List.set_cons_succ, List.getElem_toArray, List.getElem_cons_zero, List.getElem_cons_succ]
        refine held_step (i := 13) rfl (by kernel_rfl) (by rfl) (fun K hK => ?_)
        go_simp
        refine (C4.out _ (by assumption)).mono ?_; rintro e v4 ⟨rfl, hc4⟩
        go_wp2_with fail
        refine hK.out _ _ (GS15.next (by assumption) hc4) (fun hHeld => ?_)
        clear hK K
        try simp only [Act.put, List.setIfInBounds_toArray, List.set_cons_zero, List.set_cons_succ, List.getElem_toArray, List.getElem_cons_zero, List.getElem_cons_succ]
        refine wpAnyH_take (i := 14) (v := ?_) rfl (by kernel_rfl) (by kernel_rfl) (by kernel_rfl) (fun _ _ _ h => h) (Or.inl ⟨by rfl, ?_⟩) (by assumption) ?_
        rotate_left
        · intro w hSw; go_simp; try with_reducible rfl
        simp only [Act.put, List.setIfInBounds_toArray, List.set_cons_zero, List.set_cons_succ, List.getElem_toArray, List.getElem_cons_zero, List.getElem_cons_succ]
        refine wpAnyH_take (i := 15) (v := .bool true) rfl (by kernel_rfl) (by kernel_rfl) (by kernel_rfl) (fun _ _ _ h => h) (Or.inl ⟨by rfl, ?_⟩) (by assumption) ?_
        · intro w hSw; go_simp; try (first | exact hd | omega | simp [hd])
        simp only [Act.put, List.setIfInBounds_toArray, List.set_cons_zero, List.set_cons_succ, List.getElem_toArray, List.getElem_cons_zero, List.getElem_cons_succ]
        refine wpAnyH_take (i := 16) (v := ?_) rfl (by kernel_rfl) (by kernel_rfl) (by kernel_rfl) (fun _ _ _ h => h) (Or.inl ⟨by rfl, ?_⟩) (by assumption) ?_
        rotate_left
        · intro w hSw; go_simp; try with_reducible rfl
        simp only [Act.put, List.setIfInBounds_toArray, List.set_cons_zero, List.set_cons_succ, List.getElem_toArray, List.getElem_cons_zero, List.getElem_cons_succ]
        refine wpAnyH_take (i := 17) (v := ?_) rfl (by kernel_rfl) (by kernel_rfl) (by kernel_rfl) (fun _ _ _ h => h) (Or.inl ⟨by rfl, ?_⟩) (by assumption) ?_
        rotate_left
        · intro w hSw; go_simp; try with_reducible rfl
        simp only [Act.put, List.setIfInBounds_toArray, List.set_cons_zero, List.set_cons_succ, List.getElem_toArray, List.getElem_cons_zero, List.getElem_cons_succ]
        refine wpAnyH_take (i := 18) (v := ?_) rfl (by kernel_rfl) (by kernel_rfl) (by kernel_rfl) (fun _ _ _ h => h) (Or.inl ⟨by rfl, ?_⟩) (by assumption) ?_
        rotate_left
        · intro w hSw; go_simp; try with_reducible rfl
        simp only [Act.put, List.setIfInBounds_toArray, List.set_cons_zero, List.set_cons_succ, List.getElem_toArray, List.getElem_cons_zero, List.getElem_cons_succ]
        refine wpAnyH_take (i := 19) (v := ?_) rfl (by kernel_rfl) (by kernel_rfl) (by kernel_rfl) (fun _ _ _ h => h) (Or.inl ⟨by rfl, ?_⟩) (by assumption) ?_
        rotate_left
        · intro w h; have hf := h.f3; go_simp; try with_reducible rfl
        simp only [Act.put, List.setIfInBounds_toArray, List.set_cons_zero, List.set_cons_succ, List.getElem_toArray, List.getElem_cons_zero, List.getElem_cons_succ]
        refine wpAnyH_take (i := 20) (v := ?_) rfl (by kernel_rfl) (by kernel_rfl) (by kernel_rfl) (fun _ _ _ h => h) (Or.inl ⟨by rfl, ?_⟩) (by assumption) ?_
        rotate_left
        · intro w hSw; go_simp; try with_reducible rfl
        simp only [Act.put, List.setIfInBounds_toArray, List.set_cons_zero, List.set_cons_succ, List.getElem_toArray, List.getElem_cons_zero, List.getElem_cons_succ]
        refine wpAnyH_take (i := 21) (v := ?_) rfl (by kernel_rfl) (by kernel_rfl) (by kernel_rfl) (fun _ _ _ h => h) (Or.inl ⟨by rfl, ?_⟩) (by assumption) ?_
        rotate_left
        · intro w hSw; go_simp; try with_reducible rfl
        simp only [Act.put, List.setIfInBounds_toArray, List.set_cons_zero, List.set_cons_succ, List.getElem_toArray, List.getElem_cons_zero, List.getElem_cons_succ]
        refine wpAnyH_take (i := 22) (v := ?_) rfl (by kernel_rfl) (by kernel_rfl) (by kernel_rfl) (fun _ _ _ h => h) (Or.inl ⟨by rfl, ?_⟩) (by assumption) ?_
        rotate_left
        · intro w hSw; go_simp; try with_reducible rfl
        simp only [Act.put, List.setIfInBounds_toArray, List.set_cons_zero, List.set_cons_succ, List.getElem_toArray, List.getElem_cons_zero, List.getElem_cons_succ]
        refine wpAnyH_take (i := 23) (v := ?_) rfl (by kernel_rfl) (by kernel_rfl) (by kernel_rfl) (fun _ _ _ h => h) (Or.inl ⟨by rfl, ?_⟩) (by assumption) ?_
        rotate_left
        · intro w hSw; go_simp; try with_reducible rfl
        simp only [Act.put, List.setIfInBounds_toArray, List.set_cons_zero, List.set_cons_succ, List.getElem_toArray, List.getElem_cons_zero, List.getElem_cons_succ]
        refine wpAnyH_take (i := 24) (v := ?_) rfl (by kernel_rfl) (by kernel_rfl) (by kernel_rfl) (fun _ _ _ h => h) (Or.inl ⟨by rfl, ?_⟩) (by assumption) ?_
        rotate_left
        · intro w h; have hf := h.f4; go_simp; try with_reducible rfl
        simp only [Act.put, List.setIfInBounds_toArray, List.set_cons_zero, List.set_cons_succ, List.getElem_toArray, List.getElem_cons_zero, List.getElem_cons_succ]
        refine wpAnyH_take (i := 25) (v := ?_) rfl (by kernel_rfl) (by kernel_rfl) (by kernel_rfl) (fun _ _ _ h => h) (Or.inl ⟨by rfl, ?_⟩) (by assumption) ?_
        rotate_left
        · intro w hSw; go_simp; try with_reducible rfl
        simp only [Act.put, List.setIfInBounds_toArray, List.set_cons_zero, List.set_cons_succ, List.getElem_toArray, List.getElem_cons_zero, List.getElem_cons_succ]
        refine wpAnyH_take (i := 26) (v := ?_) rfl (by kernel_rfl) (by kernel_rfl) (by kernel_rfl) (fun _ _ _ h => h) (Or.inl ⟨by rfl, ?_⟩) (by assumption) ?_
        rotate_left
        · intro w hSw; go_simp; try with_reducible rfl
        simp only [Act.put, List.setIfInBounds_toArray, List.set_cons_zero, List.set_cons_succ, List.getElem_toArray, List.getElem_cons_zero, List.getElem_cons_succ]
        refine wpAnyH_take (i := 27) (v := ?_) rfl (by kernel_rfl) (by kernel_rfl) (by kernel_rfl) (fun _ _ _ h => h) (Or.inl ⟨by rfl, ?_⟩) (by assumption) ?_
        rotate_left
        · intro w hSw; go_simp; try with_reducible rfl
        simp only [Act.put, List.setIfInBounds_toArray, List.set_cons_zero, List.set_cons_succ, List.getElem_toArray, List.getElem_cons_zero, List.getElem_cons_succ]
        refine wpAnyH_take (i := 28) (v := ?_) rfl (by kernel_rfl) (by kernel_rfl) (by kernel_rfl) (fun _ _ _ h => h) (Or.inl ⟨by rfl, ?_⟩) (by assumption) ?_
        rotate_left
        · intro w hSw; go_simp; try with_reducible rfl
        simp only [Act.put, List.setIfInBounds_toArray, List.set_cons_zero, List.set_cons_succ, List.getElem_toArray, List.getElem_cons_zero, List.getElem_cons_succ]
        refine wpAnyH_done (by kernel_rfl) ?_ _
        have HE := Lib.hid hHeld
        go_wp2_with fail
        go_ret
        exact ⟨rfl, HE.out.bel⟩
end Go.Proofs.YtilahcnpjbnjiaaDoor

