/- Part of the proof: ScriptLines, ScriptParses, ScriptShows. -/
import Derived.Test.YtdbgeobolongmaaGreatDoorSA28
set_option linter.unusedVariables false
set_option linter.unusedSimpArgs false
set_option maxRecDepth 100000
set_option maxHeartbeats 4000000
namespace Go.Proofs.YtdbgeobolongmaaGreatDoor
open Go.RowKit Go.Shelf Go.Proofs Go.OctetPlain Go.PrefixPlain Go.Proofs.Tryz
section
variable {y0 y1 y2 y3 y4 y5 y6 y7 y8 : TypeId} {p0 p1 p2 p3 p4 p5 p6 p7 p8 : String} {f0 f1 f2 f3 f4 f5 f6 f7 f8 : Array Edge} {u4 u5 u6 u7 u8 u9 gM eM cZ dF cU eT cR cV cX dW dR eR dJ eH eN cF dZ gN eB eS eG gB cJ cY dB cD cO gC gL eW cC dE dT dI gF dD dP eY dX dQ cH eE gJ cT gE eL cL dN dG dY cQ dA gK eP gA dS eF eC eZ eA eD eU eQ gG eV cK dU eJ cP gH cE dM cM eO eK dC dH dO eX cI cG dK dV gD gI cW cN dL cS cA cB eI : Value} {U : List Value} {OPS : Array Oper} {Q : Exit -> Act -> World -> Prop} {rest : List Oper}
theorem segD_n (a b : StV) (W w : World) (g k : Nat) (HT0 : TwoD W a b g k w) (c : Bool) (hg : vY OPS 36 57)
  (h : ∀ n58 n59 n60 n61 n62 n63 n64 n65 : Value, wpList prog OPS Q rest (zFr a b g k (u4::u5::u6::u7::u8::u9::gM::eM::cZ::dF::cU::eT::cR::cV::cX::dW::dR::eR::dJ::eH::eN::cF::dZ::gN::eB::eS::eG::gB::cJ::cY::dB::cD::cO::gC::gL::eW::cC::dE::dT::dI::gF::dD::dP::eY::dX::dQ::cH::eE::gJ::cT::gE::eL::cL::.bool c::n58::n59::n60::n61::n62::n63::n64::n65::.bool (c && (a.t.n == b.t.n))::U)) w) :
  wpList prog OPS Q (⟨some 58, .fieldAddr 46 (.tmp 2) 1, y0, p0, f0, some (36, true)⟩ :: ⟨some 59, .fieldAddr 42 (.tmp 58) 2, y1, p1, f1, some (36, true)⟩ :: ⟨some 60, .load 3 (.tmp 59), y2, p2, f2, some (36, true)⟩ :: ⟨some 61, .fieldAddr 46 (.tmp 3) 1, y3, p3, f3, some (36, true)⟩ :: ⟨some 62, .fieldAddr 42 (.tmp 61) 2, y4, p4, f4, some (36, true)⟩ :: ⟨some 63, .load 3 (.tmp 62), y5, p5, f5, some (36, true)⟩ :: ⟨some 64, .binOp .eql 3 (.tmp 60) (.tmp 63) 3, y6, p6, f6, some (36, true)⟩ :: ⟨some 65, .pick (.tmp 57) (.tmp 64) (.const (.bool false)), y7, p7, f7, none⟩ :: ⟨some 66, .move (.tmp 65), y8, p8, f8, none⟩ :: rest) (zFr a b g k (u4::u5::u6::u7::u8::u9::gM::eM::cZ::dF::cU::eT::cR::cV::cX::dW::dR::eR::dJ::eH::eN::cF::dZ::gN::eB::eS::eG::gB::cJ::cY::dB::cD::cO::gC::gL::eW::cC::dE::dT::dI::gF::dD::dP::eY::dX::dQ::cH::eE::gJ::cT::gE::eL::cL::.bool c::dN::dG::dY::cQ::dA::gK::eP::gA::dS::U)) w := by
 unfold zFr; have HT := qh HT0; have p1 := HT0.ok.2; have p2 := HT0.ok2.2; have HG := qh hg; have H := qh h; clear h HT0 hg; have cA3 := HT.o.A.c3; have cB3 := HT.o.B.c3; clear p1 p2
 cases c
 ·(iterate 7 refine uT HG.o rfl rfl ?_)
  go_wp2_with fail
  exact H.o _ _ _ _ _ _ _ _
 ·refine uO HG.o [_, _, _, _, _, _, _] _ _ _ zi rfl ?_
  simp only [yM, xH, yC, yJ]; go_wp2_with fail
  exact H.o _ _ _ _ _ _ _ _
theorem segD_owner (a b : StV) (W w : World) (g k : Nat) (HT0 : TwoD W a b g k w) (c : Bool) (hg : vY OPS 45 66)
  (h : ∀ n67 n68 n69 n70 n71 n72 n73 n74 : Value, wpList prog OPS Q rest (zFr a b g k (u4::u5::u6::u7::u8::u9::gM::eM::cZ::dF::cU::eT::cR::cV::cX::dW::dR::eR::dJ::eH::eN::cF::dZ::gN::eB::eS::eG::gB::cJ::cY::dB::cD::cO::gC::gL::eW::cC::dE::dT::dI::gF::dD::dP::eY::dX::dQ::cH::eE::gJ::cT::gE::eL::cL::eI::dN::dG::dY::cQ::dA::gK::eP::gA::.bool c::n67::n68::n69::n70::n71::n72::n73::n74::.bool (c && (a.t.owner == b.t.owner))::U)) w) :
  wpList prog OPS Q (⟨some 67, .fieldAddr 46 (.tmp 2) 1, y0, p0, f0, some (45, true)⟩ :: ⟨some 68, .fieldAddr 42 (.tmp 67) 3, y1, p1, f1, some (45, true)⟩ :: ⟨some 69, .load 3 (.tmp 68), y2, p2, f2, some (45, true)⟩ :: ⟨some 70, .fieldAddr 46 (.tmp 3) 1, y3, p3, f3, some (45, true)⟩ :: ⟨some 71, .fieldAddr 42 (.tmp 70) 3, y4, p4, f4, some (45, true)⟩ :: ⟨some 72, .load 3 (.tmp 71), y5, p5, f5, some (45, true)⟩ :: ⟨some 73, .binOp .eql 3 (.tmp 69) (.tmp 72) 3, y6, p6, f6, some (45, true)⟩ :: ⟨some 74, .pick (.tmp 66) (.tmp 73) (.const (.bool false)), y7, p7, f7, none⟩ :: ⟨some 75, .move (.tmp 74), y8, p8, f8, none⟩ :: rest) (zFr a b g k (u4::u5::u6::u7::u8::u9::gM::eM::cZ::dF::cU::eT::cR::cV::cX::dW::dR::eR::dJ::eH::eN::cF::dZ::gN::eB::eS::eG::gB::cJ::cY::dB::cD::cO::gC::gL::eW::cC::dE::dT::dI::gF::dD::dP::eY::dX::dQ::cH::eE::gJ::cT::gE::eL::cL::eI::dN::dG::dY::cQ::dA::gK::eP::gA::.bool c::eF::eC::eZ::eA::eD::eU::eQ::gG::eV::U)) w := by
 unfold zFr; have HT := qh HT0; have p1 := HT0.ok.2; have p2 := HT0.ok2.2; have HG := qh hg; have H := qh h; clear h HT0 hg; have cA4 := HT.o.A.c4; have cB4 := HT.o.B.c4; clear p1 p2
 cases c
 ·(iterate 7 refine uT HG.o rfl rfl ?_)
  go_wp2_with fail
  exact H.o _ _ _ _ _ _ _ _
 ·refine uO HG.o [_, _, _, _, _, _, _] _ _ _ zi rfl ?_
  simp only [yM, xH, yC, yJ]; go_wp2_with fail
  exact H.o _ _ _ _ _ _ _ _
theorem segD_sp (a b : StV) (W w : World) (g k : Nat) (HT0 : TwoD W a b g k w) (c : Bool) (hg : vY OPS 54 75)
  (h : ∀ n76 n77 n78 n79 n80 n81 n82 n83 : Value, wpList prog OPS Q rest (zFr a b g k (u4::u5::u6::u7::u8::u9::gM::eM::cZ::dF::cU::eT::cR::cV::cX::dW::dR::eR::dJ::eH::eN::cF::dZ::gN::eB::eS::eG::gB::cJ::cY::dB::cD::cO::gC::gL::eW::cC::dE::dT::dI::gF::dD::dP::eY::dX::dQ::cH::eE::gJ::cT::gE::eL::cL::eI::dN::dG::dY::cQ::dA::gK::eP::gA::dS::eF::eC::eZ::eA::eD::eU::eQ::gG::.bool c::n76::n77::n78::n79::n80::n81::n82::n83::.bool (c && (decide ((a.t.s1, a.t.s2) = (b.t.s1, b.t.s2))))::U)) w) :
  wpList prog OPS Q (⟨some 76, .fieldAddr 46 (.tmp 2) 1, y0, p0, f0, some (54, true)⟩ :: ⟨some 77, .fieldAddr 42 (.tmp 76) 4, y1, p1, f1, some (54, true)⟩ :: ⟨some 78, .load 23 (.tmp 77), y2, p2, f2, some (54, true)⟩ :: ⟨some 79, .fieldAddr 46 (.tmp 3) 1, y3, p3, f3, some (54, true)⟩ :: ⟨some 80, .fieldAddr 42 (.tmp 79) 4, y4, p4, f4, some (54, true)⟩ :: ⟨some 81, .load 23 (.tmp 80), y5, p5, f5, some (54, true)⟩ :: ⟨some 82, .binOp .eql 23 (.tmp 78) (.tmp 81) 23, y6, p6, f6, some (54, true)⟩ :: ⟨some 83, .pick (.tmp 75) (.tmp 82) (.const (.bool false)), y7, p7, f7, none⟩ :: ⟨some 84, .move (.tmp 83), y8, p8, f8, none⟩ :: rest) (zFr a b g k (u4::u5::u6::u7::u8::u9::gM::eM::cZ::dF::cU::eT::cR::cV::cX::dW::dR::eR::dJ::eH::eN::cF::dZ::gN::eB::eS::eG::gB::cJ::cY::dB::cD::cO::gC::gL::eW::cC::dE::dT::dI::gF::dD::dP::eY::dX::dQ::cH::eE::gJ::cT::gE::eL::cL::eI::dN::dG::dY::cQ::dA::gK::eP::gA::dS::eF::eC::eZ::eA::eD::eU::eQ::gG::.bool c::cK::dU::eJ::cP::gH::cE::dM::cM::eO::U)) w := by
 unfold zFr; have HT := qh HT0; have p1 := HT0.ok.2; have p2 := HT0.ok2.2; have HG := qh hg; have H := qh h; clear h HT0 hg; have cA5 := HT.o.A.c5; have cB5 := HT.o.B.c5; have cA6 := HT.o.A.c6; have cB6 := HT.o.B.c6; have hsp : ∀ w, (Op.equalIn 10000 23 (.agg #[.int .i64 a.t.s1, .int .i64 a.t.s2]) (.agg #[.int .i64 b.t.s1, .int .i64 b.t.s2])).run prog w = .ok (decide ((a.t.s1, a.t.s2) = (b.t.s1, b.t.s2))) w := fun w => run_span (a.t.s1, a.t.s2) (b.t.s1, b.t.s2) w; have hgs := fun w op x y => GuardAt.agg (P := prog) (T := 23) (fun c : Array Value => c) kf op x y #[.int .i64 a.t.s1, .int .i64 a.t.s2] #[.int .i64 b.t.s1, .int .i64 b.t.s2] w; generalize decide ((a.t.s1, a.t.s2) = (b.t.s1, b.t.s2)) = v at *; clear p1 p2
 cases c
 ·(iterate 7 refine uT HG.o rfl rfl ?_)
  go_wp2_with fail
  exact H.o _ _ _ _ _ _ _ _
 ·refine uO HG.o [_, _, _, _, _, _, _] _ _ _ zi rfl ?_
  simp only [yM, xH, yC, yJ]; go_wp2_with fail
  exact H.o _ _ _ _ _ _ _ _
theorem segD_pf (a b : StV) (W w : World) (g k : Nat) (HT0 : TwoD W a b g k w) (c : Bool) (hg : vY OPS 63 84)
  (h : ∀ n85 n86 n87 n88 n89 n90 n91 n92 : Value, wpList prog OPS Q rest (zFr a b g k (u4::u5::u6::u7::u8::u9::gM::eM::cZ::dF::cU::eT::cR::cV::cX::dW::dR::eR::dJ::eH::eN::cF::dZ::gN::eB::eS::eG::gB::cJ::cY::dB::cD::cO::gC::gL::eW::cC::dE::dT::dI::gF::dD::dP::eY::dX::dQ::cH::eE::gJ::cT::gE::eL::cL::eI::dN::dG::dY::cQ::dA::gK::eP::gA::dS::eF::eC::eZ::eA::eD::eU::eQ::gG::eV::cK::dU::eJ::cP::gH::cE::dM::cM::.bool c::n85::n86::n87::n88::n89::n90::n91::n92::.bool (c && (decide (a.t.pf = b.t.pf)))::U)) w) :
  wpList prog OPS Q (⟨some 85, .fieldAddr 46 (.tmp 2) 1, y0, p0, f0, some (63, true)⟩ :: ⟨some 86, .fieldAddr 42 (.tmp 85) 5, y1, p1, f1, some (63, true)⟩ :: ⟨some 87, .load 26 (.tmp 86), y2, p2, f2, some (63, true)⟩ :: ⟨some 88, .fieldAddr 46 (.tmp 3) 1, y3, p3, f3, some (63, true)⟩ :: ⟨some 89, .fieldAddr 42 (.tmp 88) 5, y4, p4, f4, some (63, true)⟩ :: ⟨some 90, .load 26 (.tmp 89), y5, p5, f5, some (63, true)⟩ :: ⟨some 91, .binOp .eql 26 (.tmp 87) (.tmp 90) 26, y6, p6, f6, some (63, true)⟩ :: ⟨some 92, .pick (.tmp 84) (.tmp 91) (.const (.bool false)), y7, p7, f7, none⟩ :: ⟨some 93, .move (.tmp 92), y8, p8, f8, none⟩ :: rest) (zFr a b g k (u4::u5::u6::u7::u8::u9::gM::eM::cZ::dF::cU::eT::cR::cV::cX::dW::dR::eR::dJ::eH::eN::cF::dZ::gN::eB::eS::eG::gB::cJ::cY::dB::cD::cO::gC::gL::eW::cC::dE::dT::dI::gF::dD::dP::eY::dX::dQ::cH::eE::gJ::cT::gE::eL::cL::eI::dN::dG::dY::cQ::dA::gK::eP::gA::dS::eF::eC::eZ::eA::eD::eU::eQ::gG::eV::cK::dU::eJ::cP::gH::cE::dM::cM::.bool c::eK::dC::dH::dO::eX::cI::cG::dK::dV::U)) w := by
 unfold zFr; have HT := qh HT0; have p1 := HT0.ok.2; have p2 := HT0.ok2.2; have HG := qh hg; have H := qh h; clear h HT0 hg; have hpf : ∀ w, (Op.equalIn 10000 26 (.agg (pfA a.t.pf)) (.agg (pfA b.t.pf))).run prog w = .ok (decide (a.t.pf = b.t.pf)) w := fun w => eq_pf p1 p2 w; have hgp := fun w op x y => GuardAt.agg (P := prog) (T := 26) (fun c : Array Value => c) kf op x y (pfA a.t.pf) (pfA b.t.pf) w; have HRA := qh HT.o.A.pfA; have HRB := qh HT.o.B.pfA; have HIA := qh (infoPL p1); have HIB := qh (infoPL p2); generalize pfA a.t.pf = PA at *; generalize pfA b.t.pf = PB at *; generalize decide (a.t.pf = b.t.pf) = v at *; clear p1 p2
 cases c
 ·(iterate 7 refine uT HG.o rfl rfl ?_)
  go_wp2_with fail
  exact H.o _ _ _ _ _ _ _ _
 ·refine uO HG.o [_, _, _, _, _, _, _] _ _ _ zi rfl ?_
  simp only [yM, xH, yC, yJ]
  go_wp2_with (first
   | (refine vF rfl _ (.tmp 86) rf g 7 rf PA.toList _ HRA.o underlying26 rfl HIA.o ?_)
   | (refine vF rfl _ (.tmp 89) rf k 7 rf PB.toList _ HRB.o underlying26 rfl HIB.o ?_))
  exact H.o _ _ _ _ _ _ _ _
theorem segD_text (a b : StV) (W w : World) (g k : Nat) (HT0 : TwoD W a b g k w) (c : Bool) (hg : vY OPS 72 93)
  (h : ∀ n94 n95 n96 n97 n98 n99 n100 n101 : Value, wpList prog OPS Q rest ⟨#[.agg (zY a), .agg (zY b), .pointer (some ⟨g, 0, none⟩), .pointer (some ⟨k, 0, none⟩), .bool (c && (a.t.text == b.t.text)), u5, u6, u7, u8, u9, gM, eM, cZ, dF, cU, eT, cR, cV, cX, dW, dR, eR, dJ, eH, eN, cF, dZ, gN, eB, eS, eG, gB, cJ, cY, dB, cD, cO, gC, gL, eW, cC, dE, dT, dI, gF, dD, dP, eY, dX, dQ, cH, eE, gJ, cT, gE, eL, cL, eI, dN, dG, dY, cQ, dA, gK, eP, gA, dS, eF, eC, eZ, eA, eD, eU, eQ, gG, eV, cK, dU, eJ, cP, gH, cE, dM, cM, eO, eK, dC, dH, dO, eX, cI, cG, dK, .bool c, n94, n95, n96, n97, n98, n99, n100, n101], []⟩ w) :
  wpList prog OPS Q (⟨some 94, .fieldAddr 46 (.tmp 2) 1, y0, p0, f0, some (72, true)⟩ :: ⟨some 95, .fieldAddr 42 (.tmp 94) 8, y1, p1, f1, some (72, true)⟩ :: ⟨some 96, .load 9 (.tmp 95), y2, p2, f2, some (72, true)⟩ :: ⟨some 97, .fieldAddr 46 (.tmp 3) 1, y3, p3, f3, some (72, true)⟩ :: ⟨some 98, .fieldAddr 42 (.tmp 97) 8, y4, p4, f4, some (72, true)⟩ :: ⟨some 99, .load 9 (.tmp 98), y5, p5, f5, some (72, true)⟩ :: ⟨some 100, .binOp .eql 9 (.tmp 96) (.tmp 99) 9, y6, p6, f6, some (72, true)⟩ :: ⟨some 101, .pick (.tmp 93) (.tmp 100) (.const (.bool false)), y7, p7, f7, none⟩ :: ⟨some 4, .assign (.tmp 101), y8, p8, f8, none⟩ :: rest) ⟨#[.agg (zY a), .agg (zY b), .pointer (some ⟨g, 0, none⟩), .pointer (some ⟨k, 0, none⟩), u4, u5, u6, u7, u8, u9, gM, eM, cZ, dF, cU, eT, cR, cV, cX, dW, dR, eR, dJ, eH, eN, cF, dZ, gN, eB, eS, eG, gB, cJ, cY, dB, cD, cO, gC, gL, eW, cC, dE, dT, dI, gF, dD, dP, eY, dX, dQ, cH, eE, gJ, cT, gE, eL, cL, eI, dN, dG, dY, cQ, dA, gK, eP, gA, dS, eF, eC, eZ, eA, eD, eU, eQ, gG, eV, cK, dU, eJ, cP, gH, cE, dM, cM, eO, eK, dC, dH, dO, eX, cI, cG, dK, .bool c, gD, gI, cW, cN, dL, cS, cA, cB], []⟩ w := by
 have HT := qh HT0; have p1 := HT0.ok.2; have p2 := HT0.ok2.2; have HG := qh hg; have H := qh h; clear h HT0 hg; have cA32 := HT.o.A.c32; have cB32 := HT.o.B.c32; have htl := vX; clear p1 p2
 cases c
 ·(iterate 7 refine uT HG.o rfl rfl ?_)
  go_wp2_with fail
  exact H.o _ _ _ _ _ _ _ _
 ·refine uO HG.o [_, _, _, _, _, _, _] _ _ _ zi rfl ?_
  simp only [yM, xH, yC, yJ]; go_wp2_with fail
  exact H.o _ _ _ _ _ _ _ _
end
end Go.Proofs.YtdbgeobolongmaaGreatDoor
