/- Part of the proof: ScriptLines, ScriptParses, ScriptShows. -/
import Derived.Test.YtdbgeobolongmaaGreatDoorSA28
set_option linter.unusedVariables false
set_option linter.unusedSimpArgs false
set_option maxRecDepth 100000
set_option maxHeartbeats 4000000
namespace Go.Proofs.YtdbgeobolongmaaGreatDoor
open Go.RowKit Go.Shelf Go.Proofs Go.OctetPlain Go.PrefixPlain Go.Proofs.Tryz
section
variable {u4 u7 u8 u9 gM eM cZ dF cU eT cR cV cX dW dR eR dJ eH eN cG dZ gN eB eS eG gB cJ cY dB cD cO gC gL eW cC dE dT dI gF dD dP eY dX dQ cH eE gJ cT gE eL cL eI u5 u6 : Value} {y0 y1 y2 y3 y4 y5 y6 y7 y8 : TypeId} {p0 p1 p2 p3 p4 p5 p6 p7 p8 : String} {f0 f1 f2 f3 f4 f5 f6 f7 f8 : Array Edge} {U : List Value} {OPS : Array Oper} {Q : Exit -> Act -> World -> Prop} {rest : List Oper}
theorem segD_hw (a b : StV) (W w : World) (g k : Nat) (HT0 : TwoD W a b g k w) (h0 w0 : Bool) (hg : vY OPS 1 22) {y0 y1 y2 y3 y4 : TypeId} {p0 p1 p2 p3 p4 : String} {f0 f1 f2 f3 f4 : Array Edge}
  (h : ∀ n21 n22 n23 n24 : Value, wpList prog OPS Q rest (zFr a b g k (u4::.bool h0::.bool w0::u7::u8::u9::gM::eM::cZ::dF::cU::eT::cR::cV::cX::dW::dR::n21::n22::n23::n24::.bool (h0 && w0)::U)) w) :
  wpList prog OPS Q (⟨some 21, .move (.tmp 5), y0, p0, f0, none⟩ :: ⟨some 22, .move (.tmp 21), y1, p1, f1, none⟩ :: ⟨some 23, .move (.tmp 6), y2, p2, f2, some (1, true)⟩ :: ⟨some 24, .pick (.tmp 22) (.tmp 23) (.const (.bool false)), y3, p3, f3, none⟩ :: ⟨some 25, .move (.tmp 24), y4, p4, f4, none⟩ :: rest) (zFr a b g k (u4::.bool h0::.bool w0::u7::u8::u9::gM::eM::cZ::dF::cU::eT::cR::cV::cX::dW::dR::eR::dJ::eH::eN::cG::U)) w := by
 unfold zFr; have HT := qh HT0; have p1 := HT0.ok.2; have p2 := HT0.ok2.2; have HG := qh hg; have H := qh h; clear h HT0 hg; clear p1 p2
 iterate 6 go_step
 cases h0
 ·refine uT HG.o rfl rfl ?_
  go_wp2_with fail
  exact H.o _ _ _ _
 ·refine uO HG.o [_] _ _ _ zi rfl ?_
  simp only [yM, xH, yC, yJ]; go_wp2_with fail
  exact H.o _ _ _ _
theorem segD_is (a b : StV) (W w : World) (g k : Nat) (HT0 : TwoD W a b g k w) (c : Bool) (hg : vY OPS 4 25)
  (h : ∀ n26 n27 n28 n29 n30 n31 : Value, wpList prog OPS Q rest (zFr a b g k (u4::u5::u6::u7::u8::u9::gM::eM::cZ::dF::cU::eT::cR::cV::cX::dW::dR::eR::dJ::eH::eN::.bool c::n26::n27::n28::n29::n30::n31::.bool (c && (a.t.is == b.t.is))::U)) w) :
  wpList prog OPS Q (⟨some 26, .fieldAddr 46 (.tmp 2) 0, y0, p0, f0, some (4, true)⟩ :: ⟨some 27, .load 4 (.tmp 26), y1, p1, f1, some (4, true)⟩ :: ⟨some 28, .fieldAddr 46 (.tmp 3) 0, y2, p2, f2, some (4, true)⟩ :: ⟨some 29, .load 4 (.tmp 28), y3, p3, f3, some (4, true)⟩ :: ⟨some 30, .binOp .eql 4 (.tmp 27) (.tmp 29) 4, y4, p4, f4, some (4, true)⟩ :: ⟨some 31, .pick (.tmp 25) (.tmp 30) (.const (.bool false)), y5, p5, f5, none⟩ :: ⟨some 32, .move (.tmp 31), y6, p6, f6, none⟩ :: rest) (zFr a b g k (u4::u5::u6::u7::u8::u9::gM::eM::cZ::dF::cU::eT::cR::cV::cX::dW::dR::eR::dJ::eH::eN::.bool c::dZ::gN::eB::eS::eG::gB::cJ::U)) w := by
 unfold zFr; have HT := qh HT0; have p1 := HT0.ok.2; have p2 := HT0.ok2.2; have HG := qh hg; have H := qh h; clear h HT0 hg; have cA0 := HT.o.A.c0; have cB0 := HT.o.B.c0; clear p1 p2
 cases c
 ·(iterate 5 refine uT HG.o rfl rfl ?_)
  go_wp2_with fail
  exact H.o _ _ _ _ _ _
 ·refine uO HG.o [_, _, _, _, _] _ _ _ zi rfl ?_
  simp only [yM, xH, yC, yJ]; go_wp2_with fail
  exact H.o _ _ _ _ _ _
theorem segD_pk (a b : StV) (W w : World) (g k : Nat) (HT0 : TwoD W a b g k w) (c : Bool) (hg : vY OPS 11 32)
  (h : ∀ n33 n34 n35 n36 n37 n38 : Value, wpList prog OPS Q rest (zFr a b g k (u4::u5::u6::u7::u8::u9::gM::eM::cZ::dF::cU::eT::cR::cV::cX::dW::dR::eR::dJ::eH::eN::cG::dZ::gN::eB::eS::eG::gB::.bool c::n33::n34::n35::n36::n37::n38::.bool (c && (decide ((a.t.port, a.t.mpls, a.t.bytes) = (b.t.port, b.t.mpls, b.t.bytes))))::U)) w) :
  wpList prog OPS Q (⟨some 33, .fieldAddr 46 (.tmp 2) 2, y0, p0, f0, some (11, true)⟩ :: ⟨some 34, .load 44 (.tmp 33), y1, p1, f1, some (11, true)⟩ :: ⟨some 35, .fieldAddr 46 (.tmp 3) 2, y2, p2, f2, some (11, true)⟩ :: ⟨some 36, .load 44 (.tmp 35), y3, p3, f3, some (11, true)⟩ :: ⟨some 37, .binOp .eql 44 (.tmp 34) (.tmp 36) 44, y4, p4, f4, some (11, true)⟩ :: ⟨some 38, .pick (.tmp 32) (.tmp 37) (.const (.bool false)), y5, p5, f5, none⟩ :: ⟨some 39, .move (.tmp 38), y6, p6, f6, none⟩ :: rest) (zFr a b g k (u4::u5::u6::u7::u8::u9::gM::eM::cZ::dF::cU::eT::cR::cV::cX::dW::dR::eR::dJ::eH::eN::cG::dZ::gN::eB::eS::eG::gB::.bool c::cY::dB::cD::cO::gC::gL::eW::U)) w := by
 unfold zFr; have HT := qh HT0; have p1 := HT0.ok.2; have p2 := HT0.ok2.2; have HG := qh hg; have H := qh h; clear h HT0 hg; have cA33 := HT.o.A.c33; have cB33 := HT.o.B.c33; have cA34 := HT.o.A.c34; have cB34 := HT.o.B.c34; have cA35 := HT.o.A.c35; have cB35 := HT.o.B.c35; rw [HT.o.ok.1.b] at cA35; rw [HT.o.ok2.1.b] at cB35; have hsp := fun w => run_pk a.t.port b.t.port a.t.mpls b.t.mpls a.t.bytes b.t.bytes w; have hgs := fun w op x y => GuardAt.agg (P := prog) (T := 44) (fun c : Array Value => c) kf op x y #[.int .i64 a.t.port, .bool a.t.mpls, .string (str a.t.bytes)] #[.int .i64 b.t.port, .bool b.t.mpls, .string (str b.t.bytes)] w; generalize decide ((a.t.port, a.t.mpls, a.t.bytes) = (b.t.port, b.t.mpls, b.t.bytes)) = v at *; clear p1 p2
 cases c
 ·(iterate 5 refine uT HG.o rfl rfl ?_)
  go_wp2_with fail
  exact H.o _ _ _ _ _ _
 ·refine uO HG.o [_, _, _, _, _] _ _ _ zi rfl ?_
  simp only [yM, xH, yC, yJ]; go_wp2_with fail
  exact H.o _ _ _ _ _ _
theorem segD_kind (a b : StV) (W w : World) (g k : Nat) (HT0 : TwoD W a b g k w) (c : Bool) (hg : vY OPS 18 39)
  (h : ∀ n40 n41 n42 n43 n44 n45 n46 n47 : Value, wpList prog OPS Q rest (zFr a b g k (u4::u5::u6::u7::u8::u9::gM::eM::cZ::dF::cU::eT::cR::cV::cX::dW::dR::eR::dJ::eH::eN::cG::dZ::gN::eB::eS::eG::gB::cJ::cY::dB::cD::cO::gC::gL::.bool c::n40::n41::n42::n43::n44::n45::n46::n47::.bool (c && (a.t.kind == b.t.kind))::U)) w) :
  wpList prog OPS Q (⟨some 40, .fieldAddr 46 (.tmp 2) 1, y0, p0, f0, some (18, true)⟩ :: ⟨some 41, .fieldAddr 42 (.tmp 40) 0, y1, p1, f1, some (18, true)⟩ :: ⟨some 42, .load 3 (.tmp 41), y2, p2, f2, some (18, true)⟩ :: ⟨some 43, .fieldAddr 46 (.tmp 3) 1, y3, p3, f3, some (18, true)⟩ :: ⟨some 44, .fieldAddr 42 (.tmp 43) 0, y4, p4, f4, some (18, true)⟩ :: ⟨some 45, .load 3 (.tmp 44), y5, p5, f5, some (18, true)⟩ :: ⟨some 46, .binOp .eql 3 (.tmp 42) (.tmp 45) 3, y6, p6, f6, some (18, true)⟩ :: ⟨some 47, .pick (.tmp 39) (.tmp 46) (.const (.bool false)), y7, p7, f7, none⟩ :: ⟨some 48, .move (.tmp 47), y8, p8, f8, none⟩ :: rest) (zFr a b g k (u4::u5::u6::u7::u8::u9::gM::eM::cZ::dF::cU::eT::cR::cV::cX::dW::dR::eR::dJ::eH::eN::cG::dZ::gN::eB::eS::eG::gB::cJ::cY::dB::cD::cO::gC::gL::.bool c::cC::dE::dT::dI::gF::dD::dP::eY::dX::U)) w := by
 unfold zFr; have HT := qh HT0; have p1 := HT0.ok.2; have p2 := HT0.ok2.2; have HG := qh hg; have H := qh h; clear h HT0 hg; have cA1 := HT.o.A.c1; have cB1 := HT.o.B.c1; clear p1 p2
 cases c
 ·(iterate 7 refine uT HG.o rfl rfl ?_)
  go_wp2_with fail
  exact H.o _ _ _ _ _ _ _ _
 ·refine uO HG.o [_, _, _, _, _, _, _] _ _ _ zi rfl ?_
  simp only [yM, xH, yC, yJ]; go_wp2_with fail
  exact H.o _ _ _ _ _ _ _ _
theorem segD_a (a b : StV) (W w : World) (g k : Nat) (HT0 : TwoD W a b g k w) (c : Bool) (hg : vY OPS 27 48)
  (h : ∀ n49 n50 n51 n52 n53 n54 n55 n56 : Value, wpList prog OPS Q rest (zFr a b g k (u4::u5::u6::u7::u8::u9::gM::eM::cZ::dF::cU::eT::cR::cV::cX::dW::dR::eR::dJ::eH::eN::cG::dZ::gN::eB::eS::eG::gB::cJ::cY::dB::cD::cO::gC::gL::eW::cC::dE::dT::dI::gF::dD::dP::eY::.bool c::n49::n50::n51::n52::n53::n54::n55::n56::.bool (c && (a.t.a == b.t.a))::U)) w) :
  wpList prog OPS Q (⟨some 49, .fieldAddr 46 (.tmp 2) 1, y0, p0, f0, some (27, true)⟩ :: ⟨some 50, .fieldAddr 42 (.tmp 49) 1, y1, p1, f1, some (27, true)⟩ :: ⟨some 51, .load 3 (.tmp 50), y2, p2, f2, some (27, true)⟩ :: ⟨some 52, .fieldAddr 46 (.tmp 3) 1, y3, p3, f3, some (27, true)⟩ :: ⟨some 53, .fieldAddr 42 (.tmp 52) 1, y4, p4, f4, some (27, true)⟩ :: ⟨some 54, .load 3 (.tmp 53), y5, p5, f5, some (27, true)⟩ :: ⟨some 55, .binOp .eql 3 (.tmp 51) (.tmp 54) 3, y6, p6, f6, some (27, true)⟩ :: ⟨some 56, .pick (.tmp 48) (.tmp 55) (.const (.bool false)), y7, p7, f7, none⟩ :: ⟨some 57, .move (.tmp 56), y8, p8, f8, none⟩ :: rest) (zFr a b g k (u4::u5::u6::u7::u8::u9::gM::eM::cZ::dF::cU::eT::cR::cV::cX::dW::dR::eR::dJ::eH::eN::cG::dZ::gN::eB::eS::eG::gB::cJ::cY::dB::cD::cO::gC::gL::eW::cC::dE::dT::dI::gF::dD::dP::eY::.bool c::dQ::cH::eE::gJ::cT::gE::eL::cL::eI::U)) w := by
 unfold zFr; have HT := qh HT0; have p1 := HT0.ok.2; have p2 := HT0.ok2.2; have HG := qh hg; have H := qh h; clear h HT0 hg; have cA2 := HT.o.A.c2; have cB2 := HT.o.B.c2; clear p1 p2
 cases c
 ·(iterate 7 refine uT HG.o rfl rfl ?_)
  go_wp2_with fail
  exact H.o _ _ _ _ _ _ _ _
 ·refine uO HG.o [_, _, _, _, _, _, _] _ _ _ zi rfl ?_
  simp only [yM, xH, yC, yJ]; go_wp2_with fail
  exact H.o _ _ _ _ _ _ _ _
end
end Go.Proofs.YtdbgeobolongmaaGreatDoor
