/- Part of the proof: ScriptLines, ScriptParses, ScriptShows. -/
import Derived.Test.YtdbgeobolongmaaGreatDoorSA26
set_option linter.unusedVariables false
set_option linter.unusedSimpArgs false
set_option maxRecDepth 100000
set_option maxHeartbeats 4000000
namespace Go.Proofs.YtdbgeobolongmaaGreatDoor
open Go.RowKit Go.Shelf Go.Proofs Go.OctetPlain Go.PrefixPlain Go.Proofs.Tryz
section
variable {y0 y1 y2 y3 y4 y5 y6 y7 y8 : TypeId} {p0 p1 p2 p3 p4 p5 p6 p7 p8 : String} {f0 f1 f2 f3 f4 f5 f6 f7 f8 : Array Edge} {u4 u5 u6 u7 u8 u9 hC gC dP dV dK gJ dH dL dN eM eH gH dZ eX gD cV eP hD eR gI eW gR cZ dO dR cT dE gS hB gM cS dU eJ dY gV dT eF gO eN eG cX eU gZ dJ gU dB eY eD dW eO dG dQ hA gF gQ eI eV eS gP eQ eT gK gG gB : Value} {U : List Value}
theorem seg_pf (a b : StV) (W w : World) (g k : Nat) (HT0 : TwoS W a b g k w) (c : Bool) {OPS : Array Oper} {Q : Exit -> Act -> World -> Prop} {rest : List Oper} (hg : vY OPS 50 55)
  (h : ∀ n56 n57 n58 n59 n60 n61 n62 n63 : Value, wpList prog OPS Q rest (zFr a b g k (u4::u5::u6::u7::u8::u9::hC::gC::dP::dV::dK::gJ::dH::dL::dN::eM::eH::gH::dZ::eX::gD::cV::eP::hD::eR::gI::eW::gR::cZ::dO::dR::cT::dE::gS::hB::gM::cS::dU::eJ::dY::gV::dT::eF::gO::eN::eG::cX::eU::gZ::dJ::gU::.bool c::n56::n57::n58::n59::n60::n61::n62::n63::.bool (c && (decide (a.t.pf = b.t.pf)))::U)) w) :
  wpList prog OPS Q (⟨some 56, .fieldAddr 37 (.tmp 2) 1, y0, p0, f0, some (50, true)⟩ :: ⟨some 57, .fieldAddr 32 (.tmp 56) 5, y1, p1, f1, some (50, true)⟩ :: ⟨some 58, .load 26 (.tmp 57), y2, p2, f2, some (50, true)⟩ :: ⟨some 59, .fieldAddr 37 (.tmp 3) 1, y3, p3, f3, some (50, true)⟩ :: ⟨some 60, .fieldAddr 32 (.tmp 59) 5, y4, p4, f4, some (50, true)⟩ :: ⟨some 61, .load 26 (.tmp 60), y5, p5, f5, some (50, true)⟩ :: ⟨some 62, .binOp .eql 26 (.tmp 58) (.tmp 61) 26, y6, p6, f6, some (50, true)⟩ :: ⟨some 63, .pick (.tmp 55) (.tmp 62) (.const (.bool false)), y7, p7, f7, none⟩ :: ⟨some 64, .move (.tmp 63), y8, p8, f8, none⟩ :: rest) (zFr a b g k (u4::u5::u6::u7::u8::u9::hC::gC::dP::dV::dK::gJ::dH::dL::dN::eM::eH::gH::dZ::eX::gD::cV::eP::hD::eR::gI::eW::gR::cZ::dO::dR::cT::dE::gS::hB::gM::cS::dU::eJ::dY::gV::dT::eF::gO::eN::eG::cX::eU::gZ::dJ::gU::.bool c::dB::eY::eD::dW::eO::dG::dQ::hA::gF::U)) w := by
 unfold zFr; have HT := qh HT0; have p1 := HT0.ok.p16; have p2 := HT0.ok2.p16; have HG := qh hg; have H := qh h; clear h HT0 hg; have hpf : ∀ w, (Op.equalIn 10000 26 (.agg (pfA a.t.pf)) (.agg (pfA b.t.pf))).run prog w = .ok (decide (a.t.pf = b.t.pf)) w := fun w => eq_pf p1 p2 w; have hgp := fun w op x y => GuardAt.agg (P := prog) (T := 26) (fun c : Array Value => c) kf op x y (pfA a.t.pf) (pfA b.t.pf) w; have HRA := qh HT.o.A.pfA; have HRB := qh HT.o.B.pfA; have HIA := qh (infoPL p1); have HIB := qh (infoPL p2); generalize pfA a.t.pf = PA at *; generalize pfA b.t.pf = PB at *; generalize decide (a.t.pf = b.t.pf) = v at *; clear p1 p2
 cases c
 ·(iterate 7 refine uT HG.o rfl rfl ?_)
  go_wp2_with fail
  exact H.o _ _ _ _ _ _ _ _
 ·refine uO HG.o [_, _, _, _, _, _, _] _ _ _ zi rfl ?_
  simp only [yM, xH, yC, yJ]
  go_wp2_with (first
   | (refine vF rfl _ (.tmp 57) rf g 7 rf PA.toList _ HRA.o underlying26 rfl HIA.o ?_)
   | (refine vF rfl _ (.tmp 60) rf k 7 rf PB.toList _ HRB.o underlying26 rfl HIB.o ?_))
  exact H.o _ _ _ _ _ _ _ _
theorem seg_text (a b : StV) (W w : World) (g k : Nat) (HT0 : TwoS W a b g k w) (c : Bool) {OPS : Array Oper} {Q : Exit -> Act -> World -> Prop} {rest : List Oper} (hg : vY OPS 59 64)
  (h : ∀ n65 n66 n67 n68 n69 n70 n71 n72 : Value, wpList prog OPS Q rest (zFr a b g k (u4::u5::u6::u7::u8::u9::hC::gC::dP::dV::dK::gJ::dH::dL::dN::eM::eH::gH::dZ::eX::gD::cV::eP::hD::eR::gI::eW::gR::cZ::dO::dR::cT::dE::gS::hB::gM::cS::dU::eJ::dY::gV::dT::eF::gO::eN::eG::cX::eU::gZ::dJ::gU::gB::dB::eY::eD::dW::eO::dG::dQ::hA::.bool c::n65::n66::n67::n68::n69::n70::n71::n72::.bool (c && (a.t.text == b.t.text))::U)) w) :
  wpList prog OPS Q (⟨some 65, .fieldAddr 37 (.tmp 2) 1, y0, p0, f0, some (59, true)⟩ :: ⟨some 66, .fieldAddr 32 (.tmp 65) 8, y1, p1, f1, some (59, true)⟩ :: ⟨some 67, .load 9 (.tmp 66), y2, p2, f2, some (59, true)⟩ :: ⟨some 68, .fieldAddr 37 (.tmp 3) 1, y3, p3, f3, some (59, true)⟩ :: ⟨some 69, .fieldAddr 32 (.tmp 68) 8, y4, p4, f4, some (59, true)⟩ :: ⟨some 70, .load 9 (.tmp 69), y5, p5, f5, some (59, true)⟩ :: ⟨some 71, .binOp .eql 9 (.tmp 67) (.tmp 70) 9, y6, p6, f6, some (59, true)⟩ :: ⟨some 72, .pick (.tmp 64) (.tmp 71) (.const (.bool false)), y7, p7, f7, none⟩ :: ⟨some 73, .move (.tmp 72), y8, p8, f8, none⟩ :: rest) (zFr a b g k (u4::u5::u6::u7::u8::u9::hC::gC::dP::dV::dK::gJ::dH::dL::dN::eM::eH::gH::dZ::eX::gD::cV::eP::hD::eR::gI::eW::gR::cZ::dO::dR::cT::dE::gS::hB::gM::cS::dU::eJ::dY::gV::dT::eF::gO::eN::eG::cX::eU::gZ::dJ::gU::gB::dB::eY::eD::dW::eO::dG::dQ::hA::.bool c::gQ::eI::eV::eS::gP::eQ::eT::gK::gG::U)) w := by
 unfold zFr; have HT := qh HT0; have p1 := HT0.ok.p16; have p2 := HT0.ok2.p16; have HG := qh hg; have H := qh h; clear h HT0 hg; have cA32 := HT.o.A.c32; have cB32 := HT.o.B.c32; have htl := vX; clear p1 p2
 cases c
 ·(iterate 7 refine uT HG.o rfl rfl ?_)
  go_wp2_with fail
  exact H.o _ _ _ _ _ _ _ _
 ·refine uO HG.o [_, _, _, _, _, _, _] _ _ _ zi rfl ?_
  simp only [yM, xH, yC, yJ]; go_wp2_with fail
  exact H.o _ _ _ _ _ _ _ _
end
end Go.Proofs.YtdbgeobolongmaaGreatDoor
