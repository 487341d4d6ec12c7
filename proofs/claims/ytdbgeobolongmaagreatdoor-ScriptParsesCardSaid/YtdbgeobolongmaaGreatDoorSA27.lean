/- Part of the proof: ScriptLines, ScriptParses, ScriptShows. -/
import Derived.Test.YtdbgeobolongmaaGreatDoorSA26
set_option linter.unusedVariables false
set_option linter.unusedSimpArgs false
set_option maxRecDepth 100000
set_option maxHeartbeats 4000000
namespace Go.Proofs.YtdbgeobolongmaaGreatDoor
open Go.RowKit Go.Shelf Go.Proofs Go.OctetPlain Go.PrefixPlain Go.Proofs.Tryz
section
variable {y0 y1 y2 y3 y4 y5 y6 y7 y8 : TypeId} {p0 p1 p2 p3 p4 p5 p6 p7 p8 : String} {f0 f1 f2 f3 f4 f5 f6 f7 f8 : Array Edge} {u4 u5 u6 u7 u8 u9 hC gC dP dV dK gJ dH dL dN eM eH gH dZ eX gD cV eP hD eR gI eW gR cZ dO dR cT dE gS hB gM cS dU eJ dY gV dT eF gO eN eG cX eU gZ dJ gU gB : Value} {U : List Value} {OPS : Array Oper} {Q : Exit -> Act -> World -> Prop} {rest : List Oper}
theorem seg_is (a b : StV) (W w : World) (g k : Nat) (HT0 : TwoS W a b g k w)
  (h : ∀ n5 n6 n7 n8 n9 : Value, wpList prog OPS Q rest (zFr a b g k (u4::n5::n6::n7::n8::n9::.bool (a.t.is == b.t.is)::U)) w) :
  wpList prog OPS Q (⟨some 5, .fieldAddr 37 (.tmp 2) 0, y0, p0, f0, none⟩ :: ⟨some 6, .load 4 (.tmp 5), y1, p1, f1, none⟩ :: ⟨some 7, .fieldAddr 37 (.tmp 3) 0, y2, p2, f2, none⟩ :: ⟨some 8, .load 4 (.tmp 7), y3, p3, f3, none⟩ :: ⟨some 9, .binOp .eql 4 (.tmp 6) (.tmp 8) 4, y4, p4, f4, none⟩ :: ⟨some 10, .move (.tmp 9), y5, p5, f5, none⟩ :: rest) (zFr a b g k (u4::u5::u6::u7::u8::u9::hC::U)) w := by
 unfold zFr; have HT := qh HT0; have p1 := HT0.ok.p16; have p2 := HT0.ok2.p16; have H := qh h; clear h HT0; have cA0 := HT.o.A.c0; have cB0 := HT.o.B.c0; clear p1 p2; go_wp2_with fail
 exact H.o _ _ _ _ _
theorem seg_kind (a b : StV) (W w : World) (g k : Nat) (HT0 : TwoS W a b g k w) (c : Bool) (hg : vY OPS 5 10)
  (h : ∀ n11 n12 n13 n14 n15 n16 n17 n18 : Value, wpList prog OPS Q rest (zFr a b g k (u4::u5::u6::u7::u8::u9::.bool c::n11::n12::n13::n14::n15::n16::n17::n18::.bool (c && (a.t.kind == b.t.kind))::U)) w) :
  wpList prog OPS Q (⟨some 11, .fieldAddr 37 (.tmp 2) 1, y0, p0, f0, some (5, true)⟩ :: ⟨some 12, .fieldAddr 32 (.tmp 11) 0, y1, p1, f1, some (5, true)⟩ :: ⟨some 13, .load 3 (.tmp 12), y2, p2, f2, some (5, true)⟩ :: ⟨some 14, .fieldAddr 37 (.tmp 3) 1, y3, p3, f3, some (5, true)⟩ :: ⟨some 15, .fieldAddr 32 (.tmp 14) 0, y4, p4, f4, some (5, true)⟩ :: ⟨some 16, .load 3 (.tmp 15), y5, p5, f5, some (5, true)⟩ :: ⟨some 17, .binOp .eql 3 (.tmp 13) (.tmp 16) 3, y6, p6, f6, some (5, true)⟩ :: ⟨some 18, .pick (.tmp 10) (.tmp 17) (.const (.bool false)), y7, p7, f7, none⟩ :: ⟨some 19, .move (.tmp 18), y8, p8, f8, none⟩ :: rest) (zFr a b g k (u4::u5::u6::u7::u8::u9::.bool c::gC::dP::dV::dK::gJ::dH::dL::dN::eM::U)) w := by
 unfold zFr; have HT := qh HT0; have p1 := HT0.ok.p16; have p2 := HT0.ok2.p16; have HG := qh hg; have H := qh h; clear h HT0 hg; have cA1 := HT.o.A.c1; have cB1 := HT.o.B.c1; clear p1 p2
 cases c
 ·(iterate 7 refine uT HG.o rfl rfl ?_)
  go_wp2_with fail
  exact H.o _ _ _ _ _ _ _ _
 ·refine uO HG.o [_, _, _, _, _, _, _] _ _ _ zi rfl ?_
  simp only [yM, xH, yC, yJ]; go_wp2_with fail
  exact H.o _ _ _ _ _ _ _ _
theorem seg_a (a b : StV) (W w : World) (g k : Nat) (HT0 : TwoS W a b g k w) (c : Bool) (hg : vY OPS 14 19)
  (h : ∀ n20 n21 n22 n23 n24 n25 n26 n27 : Value, wpList prog OPS Q rest (zFr a b g k (u4::u5::u6::u7::u8::u9::hC::gC::dP::dV::dK::gJ::dH::dL::dN::.bool c::n20::n21::n22::n23::n24::n25::n26::n27::.bool (c && (a.t.a == b.t.a))::U)) w) :
  wpList prog OPS Q (⟨some 20, .fieldAddr 37 (.tmp 2) 1, y0, p0, f0, some (14, true)⟩ :: ⟨some 21, .fieldAddr 32 (.tmp 20) 1, y1, p1, f1, some (14, true)⟩ :: ⟨some 22, .load 3 (.tmp 21), y2, p2, f2, some (14, true)⟩ :: ⟨some 23, .fieldAddr 37 (.tmp 3) 1, y3, p3, f3, some (14, true)⟩ :: ⟨some 24, .fieldAddr 32 (.tmp 23) 1, y4, p4, f4, some (14, true)⟩ :: ⟨some 25, .load 3 (.tmp 24), y5, p5, f5, some (14, true)⟩ :: ⟨some 26, .binOp .eql 3 (.tmp 22) (.tmp 25) 3, y6, p6, f6, some (14, true)⟩ :: ⟨some 27, .pick (.tmp 19) (.tmp 26) (.const (.bool false)), y7, p7, f7, none⟩ :: ⟨some 28, .move (.tmp 27), y8, p8, f8, none⟩ :: rest) (zFr a b g k (u4::u5::u6::u7::u8::u9::hC::gC::dP::dV::dK::gJ::dH::dL::dN::.bool c::eH::gH::dZ::eX::gD::cV::eP::hD::eR::U)) w := by
 unfold zFr; have HT := qh HT0; have p1 := HT0.ok.p16; have p2 := HT0.ok2.p16; have HG := qh hg; have H := qh h; clear h HT0 hg; have cA2 := HT.o.A.c2; have cB2 := HT.o.B.c2; clear p1 p2
 cases c
 ·(iterate 7 refine uT HG.o rfl rfl ?_)
  go_wp2_with fail
  exact H.o _ _ _ _ _ _ _ _
 ·refine uO HG.o [_, _, _, _, _, _, _] _ _ _ zi rfl ?_
  simp only [yM, xH, yC, yJ]; go_wp2_with fail
  exact H.o _ _ _ _ _ _ _ _
theorem seg_n (a b : StV) (W w : World) (g k : Nat) (HT0 : TwoS W a b g k w) (c : Bool) (hg : vY OPS 23 28)
  (h : ∀ n29 n30 n31 n32 n33 n34 n35 n36 : Value, wpList prog OPS Q rest (zFr a b g k (u4::u5::u6::u7::u8::u9::hC::gC::dP::dV::dK::gJ::dH::dL::dN::eM::eH::gH::dZ::eX::gD::cV::eP::hD::.bool c::n29::n30::n31::n32::n33::n34::n35::n36::.bool (c && (a.t.n == b.t.n))::U)) w) :
  wpList prog OPS Q (⟨some 29, .fieldAddr 37 (.tmp 2) 1, y0, p0, f0, some (23, true)⟩ :: ⟨some 30, .fieldAddr 32 (.tmp 29) 2, y1, p1, f1, some (23, true)⟩ :: ⟨some 31, .load 3 (.tmp 30), y2, p2, f2, some (23, true)⟩ :: ⟨some 32, .fieldAddr 37 (.tmp 3) 1, y3, p3, f3, some (23, true)⟩ :: ⟨some 33, .fieldAddr 32 (.tmp 32) 2, y4, p4, f4, some (23, true)⟩ :: ⟨some 34, .load 3 (.tmp 33), y5, p5, f5, some (23, true)⟩ :: ⟨some 35, .binOp .eql 3 (.tmp 31) (.tmp 34) 3, y6, p6, f6, some (23, true)⟩ :: ⟨some 36, .pick (.tmp 28) (.tmp 35) (.const (.bool false)), y7, p7, f7, none⟩ :: ⟨some 37, .move (.tmp 36), y8, p8, f8, none⟩ :: rest) (zFr a b g k (u4::u5::u6::u7::u8::u9::hC::gC::dP::dV::dK::gJ::dH::dL::dN::eM::eH::gH::dZ::eX::gD::cV::eP::hD::.bool c::gI::eW::gR::cZ::dO::dR::cT::dE::gS::U)) w := by
 unfold zFr; have HT := qh HT0; have p1 := HT0.ok.p16; have p2 := HT0.ok2.p16; have HG := qh hg; have H := qh h; clear h HT0 hg; have cA3 := HT.o.A.c3; have cB3 := HT.o.B.c3; clear p1 p2
 cases c
 ·(iterate 7 refine uT HG.o rfl rfl ?_)
  go_wp2_with fail
  exact H.o _ _ _ _ _ _ _ _
 ·refine uO HG.o [_, _, _, _, _, _, _] _ _ _ zi rfl ?_
  simp only [yM, xH, yC, yJ]; go_wp2_with fail
  exact H.o _ _ _ _ _ _ _ _
theorem seg_owner (a b : StV) (W w : World) (g k : Nat) (HT0 : TwoS W a b g k w) (c : Bool) (hg : vY OPS 32 37)
  (h : ∀ n38 n39 n40 n41 n42 n43 n44 n45 : Value, wpList prog OPS Q rest (zFr a b g k (u4::u5::u6::u7::u8::u9::hC::gC::dP::dV::dK::gJ::dH::dL::dN::eM::eH::gH::dZ::eX::gD::cV::eP::hD::eR::gI::eW::gR::cZ::dO::dR::cT::dE::.bool c::n38::n39::n40::n41::n42::n43::n44::n45::.bool (c && (a.t.owner == b.t.owner))::U)) w) :
  wpList prog OPS Q (⟨some 38, .fieldAddr 37 (.tmp 2) 1, y0, p0, f0, some (32, true)⟩ :: ⟨some 39, .fieldAddr 32 (.tmp 38) 3, y1, p1, f1, some (32, true)⟩ :: ⟨some 40, .load 3 (.tmp 39), y2, p2, f2, some (32, true)⟩ :: ⟨some 41, .fieldAddr 37 (.tmp 3) 1, y3, p3, f3, some (32, true)⟩ :: ⟨some 42, .fieldAddr 32 (.tmp 41) 3, y4, p4, f4, some (32, true)⟩ :: ⟨some 43, .load 3 (.tmp 42), y5, p5, f5, some (32, true)⟩ :: ⟨some 44, .binOp .eql 3 (.tmp 40) (.tmp 43) 3, y6, p6, f6, some (32, true)⟩ :: ⟨some 45, .pick (.tmp 37) (.tmp 44) (.const (.bool false)), y7, p7, f7, none⟩ :: ⟨some 46, .move (.tmp 45), y8, p8, f8, none⟩ :: rest) (zFr a b g k (u4::u5::u6::u7::u8::u9::hC::gC::dP::dV::dK::gJ::dH::dL::dN::eM::eH::gH::dZ::eX::gD::cV::eP::hD::eR::gI::eW::gR::cZ::dO::dR::cT::dE::.bool c::hB::gM::cS::dU::eJ::dY::gV::dT::eF::U)) w := by
 unfold zFr; have HT := qh HT0; have p1 := HT0.ok.p16; have p2 := HT0.ok2.p16; have HG := qh hg; have H := qh h; clear h HT0 hg; have cA4 := HT.o.A.c4; have cB4 := HT.o.B.c4; clear p1 p2
 cases c
 ·(iterate 7 refine uT HG.o rfl rfl ?_)
  go_wp2_with fail
  exact H.o _ _ _ _ _ _ _ _
 ·refine uO HG.o [_, _, _, _, _, _, _] _ _ _ zi rfl ?_
  simp only [yM, xH, yC, yJ]; go_wp2_with fail
  exact H.o _ _ _ _ _ _ _ _
theorem seg_sp (a b : StV) (W w : World) (g k : Nat) (HT0 : TwoS W a b g k w) (c : Bool) (hg : vY OPS 41 46)
  (h : ∀ n47 n48 n49 n50 n51 n52 n53 n54 : Value, wpList prog OPS Q rest (zFr a b g k (u4::u5::u6::u7::u8::u9::hC::gC::dP::dV::dK::gJ::dH::dL::dN::eM::eH::gH::dZ::eX::gD::cV::eP::hD::eR::gI::eW::gR::cZ::dO::dR::cT::dE::gS::hB::gM::cS::dU::eJ::dY::gV::dT::.bool c::n47::n48::n49::n50::n51::n52::n53::n54::.bool (c && (decide ((a.t.s1, a.t.s2) = (b.t.s1, b.t.s2))))::U)) w) :
  wpList prog OPS Q (⟨some 47, .fieldAddr 37 (.tmp 2) 1, y0, p0, f0, some (41, true)⟩ :: ⟨some 48, .fieldAddr 32 (.tmp 47) 4, y1, p1, f1, some (41, true)⟩ :: ⟨some 49, .load 23 (.tmp 48), y2, p2, f2, some (41, true)⟩ :: ⟨some 50, .fieldAddr 37 (.tmp 3) 1, y3, p3, f3, some (41, true)⟩ :: ⟨some 51, .fieldAddr 32 (.tmp 50) 4, y4, p4, f4, some (41, true)⟩ :: ⟨some 52, .load 23 (.tmp 51), y5, p5, f5, some (41, true)⟩ :: ⟨some 53, .binOp .eql 23 (.tmp 49) (.tmp 52) 23, y6, p6, f6, some (41, true)⟩ :: ⟨some 54, .pick (.tmp 46) (.tmp 53) (.const (.bool false)), y7, p7, f7, none⟩ :: ⟨some 55, .move (.tmp 54), y8, p8, f8, none⟩ :: rest) (zFr a b g k (u4::u5::u6::u7::u8::u9::hC::gC::dP::dV::dK::gJ::dH::dL::dN::eM::eH::gH::dZ::eX::gD::cV::eP::hD::eR::gI::eW::gR::cZ::dO::dR::cT::dE::gS::hB::gM::cS::dU::eJ::dY::gV::dT::.bool c::gO::eN::eG::cX::eU::gZ::dJ::gU::gB::U)) w := by
 unfold zFr; have HT := qh HT0; have p1 := HT0.ok.p16; have p2 := HT0.ok2.p16; have HG := qh hg; have H := qh h; clear h HT0 hg; have cA5 := HT.o.A.c5; have cB5 := HT.o.B.c5; have cA6 := HT.o.A.c6; have cB6 := HT.o.B.c6; have hsp : ∀ w, (Op.equalIn 10000 23 (.agg #[.int .i64 a.t.s1, .int .i64 a.t.s2]) (.agg #[.int .i64 b.t.s1, .int .i64 b.t.s2])).run prog w = .ok (decide ((a.t.s1, a.t.s2) = (b.t.s1, b.t.s2))) w := fun w => run_span (a.t.s1, a.t.s2) (b.t.s1, b.t.s2) w; have hgs := fun w op x y => GuardAt.agg (P := prog) (T := 23) (fun c : Array Value => c) kf op x y #[.int .i64 a.t.s1, .int .i64 a.t.s2] #[.int .i64 b.t.s1, .int .i64 b.t.s2] w; generalize decide ((a.t.s1, a.t.s2) = (b.t.s1, b.t.s2)) = v at *; clear p1 p2
 cases c
 ·(iterate 7 refine uT HG.o rfl rfl ?_)
  go_wp2_with fail
  exact H.o _ _ _ _ _ _ _ _
 ·refine uO HG.o [_, _, _, _, _, _, _] _ _ _ zi rfl ?_
  simp only [yM, xH, yC, yJ]; go_wp2_with fail
  exact H.o _ _ _ _ _ _ _ _
end
end Go.Proofs.YtdbgeobolongmaaGreatDoor
