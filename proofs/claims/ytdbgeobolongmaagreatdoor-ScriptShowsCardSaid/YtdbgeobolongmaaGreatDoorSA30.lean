/- Part of the proof: ScriptLines, ScriptParses, ScriptShows. -/
import Derived.Test.YtdbgeobolongmaaGreatDoorSA26
set_option linter.unusedVariables false
set_option linter.unusedSimpArgs false
set_option maxRecDepth 100000
set_option maxHeartbeats 4000000
namespace Go.Proofs.YtdbgeobolongmaaGreatDoor
open Go.RowKit Go.Shelf Go.Proofs Go.OctetPlain Go.PrefixPlain Go.Proofs.Tryz
section
variable {y0 y1 y2 y3 y4 y5 y6 y7 y8 : TypeId} {p0 p1 p2 p3 p4 p5 p6 p7 p8 : String} {f0 f1 f2 f3 f4 f5 f6 f7 f8 : Array Edge} {u4 u5 u6 u7 u8 u9 hC gC dP dV dK gJ dH dL dN eM eH gH dZ eX gD cV eP hD eR gI eW gR cZ dO dR cT dE gS hB gM cS dU eJ dY gV dT eF gO eN eG cX eU gZ dJ gU gB dB eY eD dW eO dG dQ hA gF gQ eI eV eS gP eQ eT gK gW gL dA eK eZ dF gX cW eC dC gE gA dS dX eE gN cY cU gG : Value} {U : List Value}
theorem seg_hop (a b : StV) (W w : World) (g k : Nat) (HT0 : TwoS W a b g k w) (c : Bool) {OPS : Array Oper} {Q : Exit -> Act -> World -> Prop} {rest : List Oper} (hg : vY OPS 68 73)
  (h : ∀ w', TwoS W a b g k w' -> ∀ n74 n75 n76 n77 n78 n79 n80 n81 : Value, wpList prog OPS Q rest (zFr a b g k (u4::u5::u6::u7::u8::u9::hC::gC::dP::dV::dK::gJ::dH::dL::dN::eM::eH::gH::dZ::eX::gD::cV::eP::hD::eR::gI::eW::gR::cZ::dO::dR::cT::dE::gS::hB::gM::cS::dU::eJ::dY::gV::dT::eF::gO::eN::eG::cX::eU::gZ::dJ::gU::gB::dB::eY::eD::dW::eO::dG::dQ::hA::gF::gQ::eI::eV::eS::gP::eQ::eT::gK::.bool c::n74::n75::n76::n77::n78::n79::n80::n81::.bool (c && (decide (a.t.hop = b.t.hop)))::U)) w') :
  wpList prog OPS Q (⟨some 74, .fieldAddr 37 (.tmp 2) 1, y0, p0, f0, some (68, true)⟩ :: ⟨some 75, .fieldAddr 32 (.tmp 74) 6, y1, p1, f1, some (68, true)⟩ :: ⟨some 76, .load 29 (.tmp 75), y2, p2, f2, some (68, true)⟩ :: ⟨some 77, .fieldAddr 37 (.tmp 3) 1, y3, p3, f3, some (68, true)⟩ :: ⟨some 78, .fieldAddr 32 (.tmp 77) 6, y4, p4, f4, some (68, true)⟩ :: ⟨some 79, .load 29 (.tmp 78), y5, p5, f5, some (68, true)⟩ :: ⟨some 80, .call { callee := .value (.func 73), args := #[.tmp 76, .tmp 79], argTypes := #[29, 29] }, y6, p6, f6, some (68, true)⟩ :: ⟨some 81, .pick (.tmp 73) (.tmp 80) (.const (.bool false)), y7, p7, f7, none⟩ :: ⟨some 82, .move (.tmp 81), y8, p8, f8, none⟩ :: rest) (zFr a b g k (u4::u5::u6::u7::u8::u9::hC::gC::dP::dV::dK::gJ::dH::dL::dN::eM::eH::gH::dZ::eX::gD::cV::eP::hD::eR::gI::eW::gR::cZ::dO::dR::cT::dE::gS::hB::gM::cS::dU::eJ::dY::gV::dT::eF::gO::eN::eG::cX::eU::gZ::dJ::gU::gB::dB::eY::eD::dW::eO::dG::dQ::hA::gF::gQ::eI::eV::eS::gP::eQ::eT::gK::.bool c::gW::gL::dA::eK::eZ::dF::gX::cW::eC::U)) w := by
 unfold zFr; have HT := qh HT0; have p1 := HT0.ok.p16; have p2 := HT0.ok2.p16; have HG := qh hg; have H := qh h; clear h HT0 hg; have HC := qh (hop_Same a.t.hop b.t.hop a.vl a.vr b.vl b.vr w (HT.o.ok.below HT.o.bel).hop (HT.o.ok2.below HT.o.bel).hop); have HRA := qh HT.o.A.hop; have HRB := qh HT.o.B.hop; have HIA := qh (zDr a.t.hop a.vl a.vr); have HIB := qh (zDr b.t.hop b.vl b.vr); rw [← zAu, ← zAu] at HC; generalize hopL a.t.hop a.vl a.vr = PA at *; generalize hopL b.t.hop b.vl b.vr = PB at *; clear p1 p2
 cases c
 ·(iterate 7 refine uT HG.o rfl rfl ?_)
  go_wp2_with fail
  exact H.o w HT.o _ _ _ _ _ _ _ _
 ·refine uO HG.o [_, _, _, _, _, _, _] _ _ _ zi rfl ?_
  simp only [yM, xH, yC, yJ]
  go_wp2_with (first
   | (refine vF rfl _ (.tmp 75) rf g 25 rf PA _ HRA.o underlying29 rfl HIA.o ?_)
   | (refine vF rfl _ (.tmp 78) rf k 25 rf PB _ HRB.o underlying29 rfl HIB.o ?_))
  refine zT HC.o fun w1 hb1 => ?_; replace HT := qh (HT.o.next hb1); clear hb1; go_wp2_with fail
  exact H.o _ HT.o _ _ _ _ _ _ _ _
theorem seg_ways (a b : StV) (W w : World) (g k : Nat) (HT0 : TwoS W a b g k w) (c : Bool) {OPS : Array Oper} {Q : Exit -> Act -> World -> Prop} {rest : List Oper} (hg : vY OPS 77 82)
  (h : ∀ w', TwoS W a b g k w' -> ∀ n83 n84 n85 n86 n87 n88 n89 n90 : Value, wpList prog OPS Q rest (zFr a b g k (u4::u5::u6::u7::u8::u9::hC::gC::dP::dV::dK::gJ::dH::dL::dN::eM::eH::gH::dZ::eX::gD::cV::eP::hD::eR::gI::eW::gR::cZ::dO::dR::cT::dE::gS::hB::gM::cS::dU::eJ::dY::gV::dT::eF::gO::eN::eG::cX::eU::gZ::dJ::gU::gB::dB::eY::eD::dW::eO::dG::dQ::hA::gF::gQ::eI::eV::eS::gP::eQ::eT::gK::gG::gW::gL::dA::eK::eZ::dF::gX::cW::.bool c::n83::n84::n85::n86::n87::n88::n89::n90::.bool (c && (decide (a.t.ways = b.t.ways)))::U)) w') :
  wpList prog OPS Q (⟨some 83, .fieldAddr 37 (.tmp 2) 1, y0, p0, f0, some (77, true)⟩ :: ⟨some 84, .fieldAddr 32 (.tmp 83) 7, y1, p1, f1, some (77, true)⟩ :: ⟨some 85, .load 30 (.tmp 84), y2, p2, f2, some (77, true)⟩ :: ⟨some 86, .fieldAddr 37 (.tmp 3) 1, y3, p3, f3, some (77, true)⟩ :: ⟨some 87, .fieldAddr 32 (.tmp 86) 7, y4, p4, f4, some (77, true)⟩ :: ⟨some 88, .load 30 (.tmp 87), y5, p5, f5, some (77, true)⟩ :: ⟨some 89, .call { callee := .value (.func 74), args := #[.tmp 85, .tmp 88], argTypes := #[30, 30] }, y6, p6, f6, some (77, true)⟩ :: ⟨some 90, .pick (.tmp 82) (.tmp 89) (.const (.bool false)), y7, p7, f7, none⟩ :: ⟨some 91, .move (.tmp 90), y8, p8, f8, none⟩ :: rest) (zFr a b g k (u4::u5::u6::u7::u8::u9::hC::gC::dP::dV::dK::gJ::dH::dL::dN::eM::eH::gH::dZ::eX::gD::cV::eP::hD::eR::gI::eW::gR::cZ::dO::dR::cT::dE::gS::hB::gM::cS::dU::eJ::dY::gV::dT::eF::gO::eN::eG::cX::eU::gZ::dJ::gU::gB::dB::eY::eD::dW::eO::dG::dQ::hA::gF::gQ::eI::eV::eS::gP::eQ::eT::gK::gG::gW::gL::dA::eK::eZ::dF::gX::cW::.bool c::dC::gE::gA::dS::dX::eE::gN::cY::cU::U)) w := by
 unfold zFr; have HT := qh HT0; have p1 := HT0.ok.p16; have p2 := HT0.ok2.p16; have HG := qh hg; have H := qh h; clear h HT0 hg; have cA31 := HT.o.A.c31; have cB31 := HT.o.B.c31; have HC := qh (equalW_any a.t.ways b.t.ways HT.o.ok.nw HT.o.ok2.nw a.vw b.vw w (HT.o.ok.below HT.o.bel).I.ws.sl (HT.o.ok2.below HT.o.bel).I.ws.sl); clear p1 p2
 cases c
 ·(iterate 7 refine uT HG.o rfl rfl ?_)
  go_wp2_with fail
  exact H.o w HT.o _ _ _ _ _ _ _ _
 ·refine uO HG.o [_, _, _, _, _, _, _] _ _ _ zi rfl ?_
  simp only [yM, xH, yC, yJ]; go_wp2_with fail
  refine zT HC.o fun w1 hb1 => ?_; replace HT := qh (HT.o.next hb1); clear hb1; go_wp2_with fail
  exact H.o _ HT.o _ _ _ _ _ _ _ _
end
end Go.Proofs.YtdbgeobolongmaaGreatDoor
