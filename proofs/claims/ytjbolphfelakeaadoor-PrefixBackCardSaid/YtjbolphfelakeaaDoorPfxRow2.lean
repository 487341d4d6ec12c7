/- prefixBack returns true for every input; the card. -/
import Derived.Test.YtjbolphfelakeaaDoorPfxRow
import Derived.Test.YtjbolphfelakeaaDoorPfxBack
namespace Go.Proofs.YtjbolphfelakeaaDoor
open Go.ChangeShapes Go.WideShapes Go.ChangeAt Go.RowKit Go.Deep Go.Joins
open Go.ChangeMaps (open_string)
set_option linter.unusedVariables false
section
variable {H : Type} {enc : TypeId × Value → H}

set_option maxRecDepth 100000 in
theorem prefixBack_contract (W : World) (base : Nat) (args : Array Value) (ds gs : List (DataW H)) (before : List MemPlace)
    (hval : ∀ (j : Nat) t v, Tryd.f4.params[j]? = some t → args[j]? = some v → Value.okWide Tryd.prog W .any base t v)
    (hW : DataW.Whole enc Tryd.prog Tryd.f4.params.toList Rows.prefixBackSpec.vars false W args.toList ds gs before) (hL : laidMet Tryd.prog Rows.prefixBackRow.laid W) (hS : W.ShapedOpen Tryd.prog) :
    Calls Tryd.prog 4 args W fun e W' => ∃ v, e = .returned v ∧ Rows.prefixBackSpec.post enc Tryd.prog Tryd.f4 false true false false W args v W' := by
  have hT := pt_of_laid hL hS
  have hW' := hW
  obtain ⟨p, q, hA0, hV, hbe, hfz, hnd⟩ := hW
  have hA : DataW.TrodAll enc Tryd.prog W 0 (fun _ => true) true Tryd.f4.params.toList args.toList ds p := hA0
  obtain ⟨rfl, rfl⟩ := trodVars_none hV
  rw [Tryd.params4] at hA hval
  obtain ⟨v0, vs0, d0, ds0, p0, q0, hargs, rfl, rfl, h0, r0⟩ := trodAll_cons hA
  obtain ⟨v1, vs1, d1, ds1, p1, q1, rfl, rfl, rfl, h1, r1⟩ := trodAll_cons r0
  obtain ⟨v2, vs2, d2, ds2, p2, q2, rfl, rfl, rfl, h2, r2⟩ := trodAll_cons r1
  obtain ⟨rfl, rfl, rfl⟩ := trodAll_nil r2
  obtain rfl : args = #[v0, v1, v2] := by cases args; simp_all
  obtain ⟨p0P, hp0, lp0, rfl⟩ := pf_of_arg (hval 0 _ v0 rfl rfl) h0
  obtain ⟨l1, hl1, rfl⟩ := arr16_of_arg (hval 1 _ v1 rfl rfl) h1
  obtain ⟨n2, rfl, _, _, wn2⟩ := open_int Tryd.underlying3 (hval 2 _ v2 rfl rfl) h2
  have hn2 : -9223372036854775808 ≤ n2 ∧ n2 ≤ 9223372036854775807 := by simpa [Lit.wf, IntKind.min, IntKind.max, IntKind.signed, IntKind.bits] using wn2
  refine (law_back8 p0P hp0 lp0 l1 hl1 n2 hn2 W hT).mono fun e W' ⟨he, hb⟩ => ⟨_, he, ?_⟩
  exact post_true hW' hA0 hbe rfl rfl (by kernel_rfl) rfl hb

set_option maxRecDepth 100000 in
theorem prefixBack_lifted (os : Os) (started : os.Started) (H : Type) (enc : TypeId × Value → H) :
    ReturnsInHanded {} Tryd.checked os 4 .any (fun w args => (Rows.prefixBackSpec.pre enc Tryd.prog Tryd.f4 Rows.prefixBackRow.domain false w args ∧ laidMet Tryd.prog Rows.prefixBackRow.laid w) ∧ sizedMet enc Tryd.prog Tryd.f4 (OpenSpec.ofChange Rows.prefixBackSpec) false w args)
      (Rows.prefixBackSpec.post enc Tryd.prog Tryd.f4 false true false false) := by
  refine returns_and_shaped (C := Tryd.checked) (X := fun w _ => laidMet Tryd.prog Rows.prefixBackRow.laid w) (fun _ _ _ hh h => h.of_heap hh) own started (by kernel_rfl) Tryd.func4
    (ChangeSpec.witness_at (enc := enc) (C := Tryd.checked) (os := os) (X := fun w _ => laidMet Tryd.prog Rows.prefixBackRow.laid w) false (laidWorld os) #[.agg #[.bool false, .int .u8 0, .int .u8 0, .int .u8 0, .int .u8 0, .int .u8 0, .int .u8 0, .int .u8 0, .int .u8 0, .int .u8 0, .int .u8 0, .int .u8 0, .int .u8 0, .int .u8 0, .int .u8 0, .int .u8 0, .int .u8 0, .int .i64 0], .agg (Array.replicate 16 (.int .u8 0)), .int .i64 0] 8 rfl (by kernel_rfl) (by kernel_rfl) (by kernel_rfl) (by kernel_rfl) (by kernel_rfl) (laidWorld_met os _)) ?_
  intro W base args ds gs before hval hW _ _ hL hS _
  exact prefixBack_contract W base args ds gs before hval hW hL hS

theorem prefixBack_row : Rows.PrefixBackSaid :=
  OpenClaim.holds_of_wide 4 Tryd.f4 rfl rfl rfl rfl rfl rfl rfl ⟨rfl, rfl, rfl, rfl, rfl⟩ rfl rfl rfl rfl rfl (by kernel_rfl) Tryd.func4 (by kernel_rfl)
    (of_decide_eq_true (by kernel_rfl)) (by unfold Func.isWrapper; first | (rw [if_pos (by decide +kernel)]; kernel_rfl) | (rw [if_neg (by decide +kernel)]; exact ⟨rfl, rfl⟩))
    (fun os started H enc _ => prefixBack_lifted os started H enc)

theorem prefixBack_proved : Rows.PrefixBackCardSaid :=
  Claim7.holds_tied_plain_at .later [] [.data, .data, .data, .data, .sentinel, .sentinel, .pinned] true (true, "e97fb526d84fa7d89be67a06cfb862acdbed9c956e010469a68daa34caf5d415") true
    prefixBack_row (fun _ h => by cases h) (by kernel_rfl) (fun _ h => by cases h) prefixBack_row_tie rfl ⟨rfl, rfl⟩ (by kernel_rfl) rfl
    (fun g fn hg hfn => by
      obtain rfl : g = 4 := Option.some.inj ((show Tryd.prog.funcNamed "footplate/footplatelaw08.PrefixBack" = some 4 by kernel_rfl).symm.trans hg) |>.symm
      obtain rfl : fn = Tryd.f4 := (Option.some.inj (Tryd.func4.symm.trans hfn)).symm
      exact ⟨by kernel_rfl, fun j t ht => by
        rw [Tryd.params4] at ht
        have hm : t = 24 ∨ t = 22 ∨ t = 3 := by
          match j, ht with
          | 0, ht => cases ht; exact Or.inl rfl
          | 1, ht => cases ht; exact Or.inr (Or.inl rfl)
          | 2, ht => cases ht; exact Or.inr (Or.inr (rfl))
          | j + 3, ht => simp at ht
        rcases hm with rfl | rfl | rfl
        · exact (show Tryd.prog.wantsStandIn 24 = false by kernel_rfl)
        · exact (show Tryd.prog.wantsStandIn 22 = false by kernel_rfl)
        · exact (show Tryd.prog.wantsStandIn 3 = false by kernel_rfl)⟩)
    (by kernel_rfl)
end
end Go.Proofs.YtjbolphfelakeaaDoor
