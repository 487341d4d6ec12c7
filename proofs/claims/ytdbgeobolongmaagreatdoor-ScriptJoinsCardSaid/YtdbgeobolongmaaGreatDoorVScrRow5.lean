/- Part of the proof: contracts of the functions that the statements of layer 32 reach. -/
import Derived.Test.YtdbgeobolongmaaGreatDoorVScrRow
import Derived.Test.YtdbgeobolongmaaGreatDoorVScrLawJ
set_option linter.unusedVariables false
set_option linter.unusedSimpArgs false
set_option maxRecDepth 100000
namespace Go.Proofs.YtdbgeobolongmaaGreatDoor
open Go.ChangeShapes Go.WideShapes Go.ChangeAt Go.RowKit Go.Deep Go.Joins
open Go.ChangeMaps (open_string)
section
variable {H : Type} {enc : TypeId × Value → H}
theorem scriptJoins_contract (W : World) (base : Nat) (args : Array Value) (ds gs : List (DataW H)) (before : List MemPlace)
  (hval : ∀ (j : Nat) t v, Tryz.f7.params[j]? = some t → args[j]? = some v → Value.okWide Tryz.prog W .any base t v)
  (hW : DataW.Whole enc Tryz.prog Tryz.f7.params.toList Rows.scriptJoinsSpec.vars false W args.toList ds gs before) (hL : laidMet Tryz.prog Rows.scriptJoinsRow.laid W) (hS : W.ShapedOpen Tryz.prog) :
  Calls Tryz.prog 7 args W fun e W' => ∃ v, e = .returned v ∧ Rows.scriptJoinsSpec.post enc Tryz.prog Tryz.f7 false true false false W args v W' := by
 have hT := st_of_laid hL hS
 have hW' := hW
 obtain ⟨p, q, hA0, hV, hbe, hfz, hnd⟩ := hW
 have hA : DataW.TrodAll enc Tryz.prog W 0 (fun _ => true) true Tryz.f7.params.toList args.toList ds p := hA0
 obtain ⟨rfl, rfl⟩ := trodVars_none hV
 rw [Tryz.params7] at hA hval
 obtain ⟨v0, vs0, d0, ds0, p0, q0, hargs, rfl, rfl, h0, r0⟩ := trodAll_cons hA
 obtain ⟨v1, vs1, d1, ds1, p1, q1, rfl, rfl, rfl, h1, r1⟩ := trodAll_cons r0
 obtain ⟨rfl, rfl, rfl⟩ := trodAll_nil r1
 obtain rfl : args = #[v0, v1] := by cases args; simp_all
 obtain ⟨b0, rfl, _, _, hs0⟩ := open_string Tryz.underlying9 (hval 0 _ v0 rfl rfl) h0
 obtain ⟨s0, rfl, hsl0⟩ := str_of b0
 obtain ⟨b1, rfl, _, _, hs1⟩ := open_string Tryz.underlying9 (hval 1 _ v1 rfl rfl) h1
 obtain ⟨s1, rfl, hsl1⟩ := str_of b1
 refine (law_joins s0 s1 (by have := hs0; unfold maxLen at this; omega) (by have := hs1; unfold maxLen at this; omega) W hT).mono fun e W' ⟨he, hb⟩ => ⟨_, he, ?_⟩
 exact post_true hW' hA0 hbe rfl rfl (by kernel_rfl) rfl hb
theorem scriptJoins_lifted (os : Os) (started : os.Started) (H : Type) (enc : TypeId × Value → H) :
  ReturnsInHanded {} Tryz.checked os 7 .any (fun w args => (Rows.scriptJoinsSpec.pre enc Tryz.prog Tryz.f7 Rows.scriptJoinsRow.domain false w args ∧ laidMet Tryz.prog Rows.scriptJoinsRow.laid w) ∧ sizedMet enc Tryz.prog Tryz.f7 (OpenSpec.ofChange Rows.scriptJoinsSpec) false w args)
   (Rows.scriptJoinsSpec.post enc Tryz.prog Tryz.f7 false true false false) := by
 refine returns_and_shaped (C := Tryz.checked) (X := fun w _ => laidMet Tryz.prog Rows.scriptJoinsRow.laid w) (fun _ _ _ hh h => h.of_heap hh) own started (by kernel_rfl) Tryz.func7
  (ChangeSpec.witness_at (enc := enc) (C := Tryz.checked) (os := os) (X := fun w _ => laidMet Tryz.prog Rows.scriptJoinsRow.laid w) false (laidWorld os) #[.string ⟨#[]⟩, .string ⟨#[]⟩] 8 rfl (by kernel_rfl) (by kernel_rfl) (by kernel_rfl) (by kernel_rfl) (by kernel_rfl) (laidWorld_met os _)) ?_
 intro W base args ds gs before hval hW _ _ hL hS _
 exact scriptJoins_contract W base args ds gs before hval hW hL hS
theorem scriptJoins_row : Rows.ScriptJoinsSaid :=
 OpenClaim.holds_of_wide 7 Tryz.f7 rfl rfl rfl rfl rfl rfl rfl ⟨rfl, rfl, rfl, rfl, rfl⟩ rfl rfl rfl rfl rfl (by kernel_rfl) Tryz.func7 (by kernel_rfl)
  (of_decide_eq_true (by kernel_rfl)) (by unfold Func.isWrapper; first | (rw [if_pos (by decide +kernel)]; kernel_rfl) | (rw [if_neg (by decide +kernel)]; exact ⟨rfl, rfl⟩))
  (fun os started H enc _ => scriptJoins_lifted os started H enc)
theorem scriptJoins_proved : Rows.ScriptJoinsCardSaid :=
 Claim7.holds_tied_plain_at .later [] [.data, .data, .data, .data, .sentinel, .sentinel, .widerDeep, .pinned] true (true, "87cc8784f0db81280fee01503a782d61de721ceefd32dd679fb2ed49ecd61f44") true
  scriptJoins_row (fun _ h => by cases h) (by kernel_rfl) (fun _ h => by cases h) scriptJoins_row_tie rfl ⟨rfl, rfl⟩ (by kernel_rfl) rfl
  (fun g fn hg hfn => by
   obtain rfl : g = 7 := Option.some.inj ((show Tryz.prog.funcNamed "footplate/footplatelaw32.ScriptJoins" = some 7 by kernel_rfl).symm.trans hg) |>.symm
   obtain rfl : fn = Tryz.f7 := (Option.some.inj (Tryz.func7.symm.trans hfn)).symm
   exact ⟨by kernel_rfl, fun j t ht => by
    rw [Tryz.params7] at ht
    have hm : t = 9 ∨ t = 9 := by
     match j, ht with
     | 0, ht => cases ht; exact Or.inl rfl
     | 1, ht => cases ht; exact Or.inr (rfl)
     | j + 2, ht => simp at ht
    rcases hm with rfl | rfl
    ·exact (show Tryz.prog.wantsStandIn 9 = false by kernel_rfl)
    ·exact (show Tryz.prog.wantsStandIn 9 = false by kernel_rfl)⟩)
  (by kernel_rfl)
end
end Go.Proofs.YtdbgeobolongmaaGreatDoor
