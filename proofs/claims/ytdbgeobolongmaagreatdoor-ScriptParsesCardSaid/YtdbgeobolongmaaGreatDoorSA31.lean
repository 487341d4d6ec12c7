/- Part of the proof: ScriptLines, ScriptParses, ScriptShows. -/
import Derived.Test.YtdbgeobolongmaaGreatDoorSA26
set_option linter.unusedVariables false
set_option linter.unusedSimpArgs false
set_option maxRecDepth 100000
set_option maxHeartbeats 4000000
namespace Go.Proofs.YtdbgeobolongmaaGreatDoor
open Go.RowKit Go.Shelf Go.Proofs Go.OctetPlain Go.PrefixPlain Go.Proofs.Tryz
section
variable {y0 y1 y2 y3 y4 y5 y6 y7 y8 : TypeId} {p0 p1 p2 p3 p4 p5 p6 p7 p8 : String} {f0 f1 f2 f3 f4 f5 f6 f7 f8 : Array Edge} {u4 u5 u6 u7 u8 u9 hC gC dP dV dK gJ dH dL dN eM eH gH dZ eX gD cV eP hD eR gI eW gR cZ dO dR cT dE gS hB gM cS dU eJ dY gV dT eF gO eN eG cX eU gZ dJ gU gB dB eY eD dW eO dG dQ hA gF gQ eI eV eS gP eQ eT gK gG gW gL dA eK eZ dF gX cU eC dC gE gA dS dX eE gN cY eA eL gT gY dM dD eB dI cD cJ cR cF cA cN cM cE cO cH cQ cB cI cP cK cL cC cG cW : Value} {U : List Value} {OPS : Array Oper} {Q : Exit -> Act -> World -> Prop} {rest : List Oper}
theorem seg_port (a b : StV) (W w : World) (g k : Nat) (HT0 : TwoS W a b g k w) (c : Bool) (hg : vY OPS 86 91)
  (h : ∀ n92 n93 n94 n95 n96 n97 n98 n99 : Value, wpList prog OPS Q rest (zFr a b g k (u4::u5::u6::u7::u8::u9::hC::gC::dP::dV::dK::gJ::dH::dL::dN::eM::eH::gH::dZ::eX::gD::cV::eP::hD::eR::gI::eW::gR::cZ::dO::dR::cT::dE::gS::hB::gM::cS::dU::eJ::dY::gV::dT::eF::gO::eN::eG::cX::eU::gZ::dJ::gU::gB::dB::eY::eD::dW::eO::dG::dQ::hA::gF::gQ::eI::eV::eS::gP::eQ::eT::gK::gG::gW::gL::dA::eK::eZ::dF::gX::cU::eC::dC::gE::gA::dS::dX::eE::gN::cY::.bool c::n92::n93::n94::n95::n96::n97::n98::n99::.bool (c && (a.t.port == b.t.port))::U)) w) :
  wpList prog OPS Q (⟨some 92, .fieldAddr 37 (.tmp 2) 2, y0, p0, f0, some (86, true)⟩ :: ⟨some 93, .fieldAddr 35 (.tmp 92) 0, y1, p1, f1, some (86, true)⟩ :: ⟨some 94, .load 3 (.tmp 93), y2, p2, f2, some (86, true)⟩ :: ⟨some 95, .fieldAddr 37 (.tmp 3) 2, y3, p3, f3, some (86, true)⟩ :: ⟨some 96, .fieldAddr 35 (.tmp 95) 0, y4, p4, f4, some (86, true)⟩ :: ⟨some 97, .load 3 (.tmp 96), y5, p5, f5, some (86, true)⟩ :: ⟨some 98, .binOp .eql 3 (.tmp 94) (.tmp 97) 3, y6, p6, f6, some (86, true)⟩ :: ⟨some 99, .pick (.tmp 91) (.tmp 98) (.const (.bool false)), y7, p7, f7, none⟩ :: ⟨some 100, .move (.tmp 99), y8, p8, f8, none⟩ :: rest) (zFr a b g k (u4::u5::u6::u7::u8::u9::hC::gC::dP::dV::dK::gJ::dH::dL::dN::eM::eH::gH::dZ::eX::gD::cV::eP::hD::eR::gI::eW::gR::cZ::dO::dR::cT::dE::gS::hB::gM::cS::dU::eJ::dY::gV::dT::eF::gO::eN::eG::cX::eU::gZ::dJ::gU::gB::dB::eY::eD::dW::eO::dG::dQ::hA::gF::gQ::eI::eV::eS::gP::eQ::eT::gK::gG::gW::gL::dA::eK::eZ::dF::gX::cU::eC::dC::gE::gA::dS::dX::eE::gN::cY::.bool c::eA::eL::gT::gY::dM::dD::eB::dI::cD::U)) w := by
 unfold zFr; have HT := qh HT0; have p1 := HT0.ok.p16; have p2 := HT0.ok2.p16; have HG := qh hg; have H := qh h; clear h HT0 hg; have cA33 := HT.o.A.c33; have cB33 := HT.o.B.c33; clear p1 p2
 cases c
 ·(iterate 7 refine uT HG.o rfl rfl ?_)
  go_wp2_with fail
  exact H.o _ _ _ _ _ _ _ _
 ·refine uO HG.o [_, _, _, _, _, _, _] _ _ _ zi rfl ?_
  simp only [yM, xH, yC, yJ]; go_wp2_with fail
  exact H.o _ _ _ _ _ _ _ _
theorem seg_mpls (a b : StV) (W w : World) (g k : Nat) (HT0 : TwoS W a b g k w) (c : Bool) (hg : vY OPS 95 100)
  (h : ∀ n101 n102 n103 n104 n105 n106 n107 n108 : Value, wpList prog OPS Q rest (zFr a b g k (u4::u5::u6::u7::u8::u9::hC::gC::dP::dV::dK::gJ::dH::dL::dN::eM::eH::gH::dZ::eX::gD::cV::eP::hD::eR::gI::eW::gR::cZ::dO::dR::cT::dE::gS::hB::gM::cS::dU::eJ::dY::gV::dT::eF::gO::eN::eG::cX::eU::gZ::dJ::gU::gB::dB::eY::eD::dW::eO::dG::dQ::hA::gF::gQ::eI::eV::eS::gP::eQ::eT::gK::gG::gW::gL::dA::eK::eZ::dF::gX::cU::eC::dC::gE::gA::dS::dX::eE::gN::cY::cW::eA::eL::gT::gY::dM::dD::eB::dI::.bool c::n101::n102::n103::n104::n105::n106::n107::n108::.bool (c && (a.t.mpls == b.t.mpls))::U)) w) :
  wpList prog OPS Q (⟨some 101, .fieldAddr 37 (.tmp 2) 2, y0, p0, f0, some (95, true)⟩ :: ⟨some 102, .fieldAddr 35 (.tmp 101) 1, y1, p1, f1, some (95, true)⟩ :: ⟨some 103, .load 4 (.tmp 102), y2, p2, f2, some (95, true)⟩ :: ⟨some 104, .fieldAddr 37 (.tmp 3) 2, y3, p3, f3, some (95, true)⟩ :: ⟨some 105, .fieldAddr 35 (.tmp 104) 1, y4, p4, f4, some (95, true)⟩ :: ⟨some 106, .load 4 (.tmp 105), y5, p5, f5, some (95, true)⟩ :: ⟨some 107, .binOp .eql 4 (.tmp 103) (.tmp 106) 4, y6, p6, f6, some (95, true)⟩ :: ⟨some 108, .pick (.tmp 100) (.tmp 107) (.const (.bool false)), y7, p7, f7, none⟩ :: ⟨some 109, .move (.tmp 108), y8, p8, f8, none⟩ :: rest) (zFr a b g k (u4::u5::u6::u7::u8::u9::hC::gC::dP::dV::dK::gJ::dH::dL::dN::eM::eH::gH::dZ::eX::gD::cV::eP::hD::eR::gI::eW::gR::cZ::dO::dR::cT::dE::gS::hB::gM::cS::dU::eJ::dY::gV::dT::eF::gO::eN::eG::cX::eU::gZ::dJ::gU::gB::dB::eY::eD::dW::eO::dG::dQ::hA::gF::gQ::eI::eV::eS::gP::eQ::eT::gK::gG::gW::gL::dA::eK::eZ::dF::gX::cU::eC::dC::gE::gA::dS::dX::eE::gN::cY::cW::eA::eL::gT::gY::dM::dD::eB::dI::.bool c::cJ::cR::cF::cA::cN::cM::cE::cO::cH::U)) w := by
 unfold zFr; have HT := qh HT0; have p1 := HT0.ok.p16; have p2 := HT0.ok2.p16; have HG := qh hg; have H := qh h; clear h HT0 hg; have cA34 := HT.o.A.c34; have cB34 := HT.o.B.c34; clear p1 p2
 cases c
 ·(iterate 7 refine uT HG.o rfl rfl ?_)
  go_wp2_with fail
  exact H.o _ _ _ _ _ _ _ _
 ·refine uO HG.o [_, _, _, _, _, _, _] _ _ _ zi rfl ?_
  simp only [yM, xH, yC, yJ]; go_wp2_with fail
  exact H.o _ _ _ _ _ _ _ _
theorem seg_bytes (a b : StV) (W w : World) (g k : Nat) (HT0 : TwoS W a b g k w) (c : Bool) (hg : vY OPS 104 109)
  (h : ∀ w', TwoS W a b g k w' -> ∀ n110 n111 n112 n113 n114 n115 n116 n117 : Value, wpList prog OPS Q rest ⟨#[.agg (zY a), .agg (zY b), .pointer (some ⟨g, 0, none⟩), .pointer (some ⟨k, 0, none⟩), .bool (c && (decide (a.t.bytes = b.t.bytes))), u5, u6, u7, u8, u9, hC, gC, dP, dV, dK, gJ, dH, dL, dN, eM, eH, gH, dZ, eX, gD, cV, eP, hD, eR, gI, eW, gR, cZ, dO, dR, cT, dE, gS, hB, gM, cS, dU, eJ, dY, gV, dT, eF, gO, eN, eG, cX, eU, gZ, dJ, gU, gB, dB, eY, eD, dW, eO, dG, dQ, hA, gF, gQ, eI, eV, eS, gP, eQ, eT, gK, gG, gW, gL, dA, eK, eZ, dF, gX, cU, eC, dC, gE, gA, dS, dX, eE, gN, cY, cW, eA, eL, gT, gY, dM, dD, eB, dI, cD, cJ, cR, cF, cA, cN, cM, cE, cO, .bool c, n110, n111, n112, n113, n114, n115, n116, n117], []⟩ w') :
  wpList prog OPS Q (⟨some 110, .fieldAddr 37 (.tmp 2) 2, y0, p0, f0, some (104, true)⟩ :: ⟨some 111, .fieldAddr 35 (.tmp 110) 2, y1, p1, f1, some (104, true)⟩ :: ⟨some 112, .load 33 (.tmp 111), y2, p2, f2, some (104, true)⟩ :: ⟨some 113, .fieldAddr 37 (.tmp 3) 2, y3, p3, f3, some (104, true)⟩ :: ⟨some 114, .fieldAddr 35 (.tmp 113) 2, y4, p4, f4, some (104, true)⟩ :: ⟨some 115, .load 33 (.tmp 114), y5, p5, f5, some (104, true)⟩ :: ⟨some 116, .call { callee := .value (.func 75), args := #[.tmp 112, .tmp 115], argTypes := #[33, 33] }, y6, p6, f6, some (104, true)⟩ :: ⟨some 117, .pick (.tmp 109) (.tmp 116) (.const (.bool false)), y7, p7, f7, none⟩ :: ⟨some 4, .assign (.tmp 117), y8, p8, f8, none⟩ :: rest) ⟨#[.agg (zY a), .agg (zY b), .pointer (some ⟨g, 0, none⟩), .pointer (some ⟨k, 0, none⟩), u4, u5, u6, u7, u8, u9, hC, gC, dP, dV, dK, gJ, dH, dL, dN, eM, eH, gH, dZ, eX, gD, cV, eP, hD, eR, gI, eW, gR, cZ, dO, dR, cT, dE, gS, hB, gM, cS, dU, eJ, dY, gV, dT, eF, gO, eN, eG, cX, eU, gZ, dJ, gU, gB, dB, eY, eD, dW, eO, dG, dQ, hA, gF, gQ, eI, eV, eS, gP, eQ, eT, gK, gG, gW, gL, dA, eK, eZ, dF, gX, cU, eC, dC, gE, gA, dS, dX, eE, gN, cY, cW, eA, eL, gT, gY, dM, dD, eB, dI, cD, cJ, cR, cF, cA, cN, cM, cE, cO, .bool c, cQ, cB, cI, cP, cK, cL, cC, cG], []⟩ w := by
 have HT := qh HT0; have p1 := HT0.ok.p16; have p2 := HT0.ok2.p16; have HG := qh hg; have H := qh h; clear h HT0 hg; have cA35 := HT.o.A.c35; have cB35 := HT.o.B.c35; have HC := qh (equalB_any a.t.bytes b.t.bytes HT.o.ok.nb HT.o.ok2.nb a.vb b.vb w (HT.o.ok.below HT.o.bel).I.b.sl (HT.o.ok2.below HT.o.bel).I.b.sl); clear p1 p2
 cases c
 ·(iterate 7 refine uT HG.o rfl rfl ?_)
  go_wp2_with fail
  exact H.o w HT.o _ _ _ _ _ _ _ _
 ·refine uO HG.o [_, _, _, _, _, _, _] _ _ _ zi rfl ?_
  simp only [yM, xH, yC, yJ]; go_wp2_with fail
  refine zT HC.o fun w1 hb1 => ?_; replace HT := qh (HT.o.next hb1); clear hb1; go_wp2_with fail
  exact H.o _ HT.o _ _ _ _ _ _ _ _
end
end Go.Proofs.YtdbgeobolongmaaGreatDoor
