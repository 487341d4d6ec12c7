/- Part of the proof: ScriptLines, ScriptParses, ScriptShows. -/
import Derived.Test.YtdbgeobolongmaaGreatDoorSA32
import Derived.Test.YtdbgeobolongmaaGreatDoorSA33
set_option linter.unusedVariables false
set_option linter.unusedSimpArgs false
set_option maxRecDepth 100000
set_option maxHeartbeats 4000000
namespace Go.Proofs.YtdbgeobolongmaaGreatDoor
open Go.RowKit Go.Shelf Go.Proofs Go.OctetPlain Go.PrefixPlain Go.Proofs.Tryz
theorem r32_SameStep0 (a b : StV) (W : World) (A : vG (fun _ => True) W a) (B : vG (fun _ => True) W b) (pa : a.t.pf.addr.length = 16) (pb : b.t.pf.addr.length = 16) (al : a.t.hop.labels.length <= 1073741824) (ar : a.t.hop.repair.length <= 1073741824) (aw : a.t.ways.length <= 1073741824) (bl : b.t.hop.labels.length <= 1073741824) (br : b.t.hop.repair.length <= 1073741824) (bw : b.t.ways.length <= 1073741824) :
  zCB 12 #[.agg (zY a), .agg (zY b)] W (.bool ((((((((((((decide (a.t.hop = b.t.hop)) && (decide (a.t.ways = b.t.ways))) && (a.t.is == b.t.is)) && (decide ((a.t.port, a.t.mpls, a.t.bytes) = (b.t.port, b.t.mpls, b.t.bytes)))) && (a.t.kind == b.t.kind)) && (a.t.a == b.t.a)) && (a.t.n == b.t.n)) && (a.t.owner == b.t.owner)) && (decide ((a.t.s1, a.t.s2) = (b.t.s1, b.t.s2)))) && (decide (a.t.pf = b.t.pf))) && (a.t.text == b.t.text)))) := by
 have HT0 : Hid (∀ w1 w2, w1 = W.alloc (.cells (zY a) 46) -> w2 = w1.alloc (.cells (zY b) 46) -> TwoD W a b W.heap.size w1.heap.size w2) := qh fun w1 w2 h1 h2 => by
  subst h2; subst h1; exact ⟨⟨(Blk.new W _ _).alloc _, pa⟩, ⟨Blk.new _ _ _, pb⟩, (yD W _).alloc zi _, ⟨A, pa⟩, ⟨B, pb⟩⟩
 have HC : Hid (∀ W', zW W W' -> Calls prog 32 #[.agg (hopA a.t.hop a.vl a.vr), .agg (hopA b.t.hop b.vl b.vr)] W' fun e w' => e = .returned (.bool (decide (a.t.hop = b.t.hop))) /\ Below W'.heap.size W' w') := qh fun W' hW => ref_SameHop a.t.hop b.t.hop a.vl a.vr b.vl b.vr W' (wP.below ⟨al, ar, A.l.sl, A.r.sl⟩ hW zn) (wP.below ⟨bl, br, B.l.sl, B.r.sl⟩ hW zn); have HY : Hid (∀ W', zW W W' -> Calls prog 33 #[a.vw, b.vw] W' fun e w' => e = .returned (.bool (decide (a.t.ways = b.t.ways))) /\ Below W'.heap.size W' w') := qh fun W' hW => r18_Same a.t.ways b.t.ways aw bw a.vw b.vw W' (A.ws.sl.below hW zn) (B.ws.sl.below hW zn); rw [← zAu, ← zAu] at HC; have HIA := qh (zDr a.t.hop a.vl a.vr); have HIB := qh (zDr b.t.hop b.vl b.vr); clear A B al ar bl br aw bw
 go_enter func12, ntmps12
 go_wp2_with (first
  | (refine yS rfl _ (.tmp 0) rf (zY a) rf ?_; intro w1 E1; have HE1 := qh E1; clear E1)
  | (refine yS rfl _ (.tmp 1) rf (zY b) rf ?_; intro w2 E2; have HT := qh (HT0.o w1 w2 HE1.o E2); have hra := qh HT.o.A.hop; have hrb := qh HT.o.B.hop; clear E2)
  | (refine vF rfl _ (.tmp 8) rf _ 25 rf (hopL a.t.hop a.vl a.vr) _ hra.o underlying29 rfl HIA.o ?_)
  | (refine vF rfl _ (.tmp 11) rf _ 25 rf (hopL b.t.hop b.vl b.vr) _ hrb.o underlying29 rfl HIB.o ?_))
 refine zT (HC.o _ HT.o.bel) fun w3 hb3 => ?_; replace HT := qh (HT.o.next hb3); have c31 := HT.o.A.c31; have d31 := HT.o.B.c31; clear hb3 hra hrb; go_wp2_with fail
 refine zT (HY.o _ HT.o.bel) fun w4 hb4 => ?_; replace HT := qh (HT.o.next hb4); clear c31 d31 hb4 HC HY HIA HIB; generalize hh0 : decide (a.t.hop = b.t.hop) = h0 at *; generalize hw0 : decide (a.t.ways = b.t.ways) = w0 at *; have HH0 := qh hh0; have HW0 := qh hw0; clear hh0 hw0
 go_upto_region 3 with fail
 refine zBi _ rf (fun OPS hO => ?_); have G1 : Hid (vY OPS 1 22) := qh (vY.of hO rf rf); have G4 : Hid (vY OPS 4 25) := qh (vY.of hO rf rf); have G11 : Hid (vY OPS 11 32) := qh (vY.of hO rf rf); have G18 : Hid (vY OPS 18 39) := qh (vY.of hO rf rf); have G27 : Hid (vY OPS 27 48) := qh (vY.of hO rf rf); have G36 : Hid (vY OPS 36 57) := qh (vY.of hO rf rf); have G45 : Hid (vY OPS 45 66) := qh (vY.of hO rf rf); have G54 : Hid (vY OPS 54 75) := qh (vY.of hO rf rf); have G63 : Hid (vY OPS 63 84) := qh (vY.of hO rf rf); have G72 : Hid (vY OPS 72 93) := qh (vY.of hO rf rf); clear hO; refine segD_hw a b W _ _ _ HT.o _ _ G1.o ?_; intro n21 n22 n23 n24; refine segD_is a b W _ _ _ HT.o _ G4.o ?_; intro n26 n27 n28 n29 n30 n31; refine segD_pk a b W _ _ _ HT.o _ G11.o ?_; intro n33 n34 n35 n36 n37 n38; refine segD_kind a b W _ _ _ HT.o _ G18.o ?_; intro n40 n41 n42 n43 n44 n45 n46 n47; refine segD_a a b W _ _ _ HT.o _ G27.o ?_; intro n49 n50 n51 n52 n53 n54 n55 n56; refine segD_n a b W _ _ _ HT.o _ G36.o ?_; intro n58 n59 n60 n61 n62 n63 n64 n65; refine segD_owner a b W _ _ _ HT.o _ G45.o ?_; intro n67 n68 n69 n70 n71 n72 n73 n74; refine segD_sp a b W _ _ _ HT.o _ G54.o ?_; intro n76 n77 n78 n79 n80 n81 n82 n83; refine segD_pf a b W _ _ _ HT.o _ G63.o ?_; intro n85 n86 n87 n88 n89 n90 n91 n92; refine segD_text a b W _ _ _ HT.o _ G72.o ?_; intro n94 n95 n96 n97 n98 n99 n100 n101
 go_wp2
 go_ret
 have e0 := HH0.o; have e1 := HW0.o; subst e0 e1; exact ⟨rfl, HT.o.bel⟩
theorem pW (a b : StV) (W : World) (A : vG (fun _ => True) W a) (B : vG (fun _ => True) W b) (pa : a.t.pf.addr.length = 16) (pb : b.t.pf.addr.length = 16) (al : a.t.hop.labels.length <= 1073741824) (ar : a.t.hop.repair.length <= 1073741824) (aw : a.t.ways.length <= 1073741824) (bl : b.t.hop.labels.length <= 1073741824) (br : b.t.hop.repair.length <= 1073741824) (bw : b.t.ways.length <= 1073741824) :
  zCB 12 #[.agg (zY a), .agg (zY b)] W (.bool (decide (a.t = b.t))) := by
 have h := r32_SameStep0 a b W A B pa pb al ar aw bl br bw
 have he : ((((((((((((decide (a.t.hop = b.t.hop)) && (decide (a.t.ways = b.t.ways))) && (a.t.is == b.t.is)) && (decide ((a.t.port, a.t.mpls, a.t.bytes) = (b.t.port, b.t.mpls, b.t.bytes)))) && (a.t.kind == b.t.kind)) && (a.t.a == b.t.a)) && (a.t.n == b.t.n)) && (a.t.owner == b.t.owner)) && (decide ((a.t.s1, a.t.s2) = (b.t.s1, b.t.s2)))) && (decide (a.t.pf = b.t.pf))) && (a.t.text == b.t.text))) = decide (a.t = b.t) := by
  rw [rV]; simp only [xO, uP, xP, rZ]; obtain ⟨ta, x1, x2, x3, x4⟩ := a; obtain ⟨tb, y1, y2, y3, y4⟩ := b
  cases ta; cases tb
  simp only [Sc.Stp.mk.injEq]
  constructor
  ·rintro ⟨⟨⟨⟨⟨⟨⟨⟨⟨⟨h1, h2⟩, h3⟩, h4, h5, h6⟩, h7⟩, h8⟩, h9⟩, h10⟩, h11, h12⟩, h13⟩, h14⟩
   exact ⟨h3, h7, h8, h9, h10, h11, h12, h13, h1, h2, h14, h4, h5, h6⟩
  ·rintro ⟨h3, h7, h8, h9, h10, h11, h12, h13, h1, h2, h14, h4, h5, h6⟩
   exact ⟨⟨⟨⟨⟨⟨⟨⟨⟨⟨h1, h2⟩, h3⟩, h4, h5, h6⟩, h7⟩, h8⟩, h9⟩, h10⟩, h11, h12⟩, h13⟩, h14⟩
 rw [he] at h; exact h
end Go.Proofs.YtdbgeobolongmaaGreatDoor
