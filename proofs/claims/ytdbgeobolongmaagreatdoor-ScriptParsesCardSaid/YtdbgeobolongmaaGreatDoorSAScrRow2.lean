/- Part of the proof: ScriptLines, ScriptParses, ScriptShows. -/
import Derived.Test.YtdbgeobolongmaaGreatDoorSAScrRow
import Derived.Test.YtdbgeobolongmaaGreatDoorSAScrLawP
set_option linter.unusedVariables false
set_option linter.unusedSimpArgs false
set_option maxRecDepth 100000
namespace Go.Proofs.YtdbgeobolongmaaGreatDoor
open Go.ChangeShapes Go.WideShapes Go.ChangeAt Go.RowKit Go.Deep Go.Joins
open Go.ChangeMaps (open_string)
section
variable {H : Type} {enc : TypeId × Value -> H}
theorem scriptParses_contract (W : World) (base : Nat) (args : Array Value) (ds gs : List (DataW H)) (before : List MemPlace)
  (hval : ∀ (j : Nat) t v, Tryz.f4.params[j]? = some t -> args[j]? = some v -> Value.okWide Tryz.prog W .any base t v)
  (hW : DataW.Whole enc Tryz.prog Tryz.f4.params.toList Rows.scriptParsesSpec.vars false W args.toList ds gs before) (hL : laidMet Tryz.prog Rows.scriptParsesRow.laid W) (hS : W.ShapedOpen Tryz.prog) :
  Calls Tryz.prog 4 args W fun e W' => ∃ v, e = .returned v /\ Rows.scriptParsesSpec.post enc Tryz.prog Tryz.f4 false true false false W args v W' := by
 have hT := zBq hL hS; have hW' := hW; obtain ⟨p, q, hA0, hV, hbe, hfz, hnd⟩ := hW; have hA : DataW.TrodAll enc Tryz.prog W 0 (fun _ => true) true Tryz.f4.params.toList args.toList ds p := hA0; obtain ⟨rfl, rfl⟩ := trodVars_none hV; rw [Tryz.params4] at hA hval; obtain ⟨v0, vs0, d0, ds0, p0, q0, hargs, rfl, rfl, h0, r0⟩ := trodAll_cons hA; obtain ⟨rfl, rfl, rfl⟩ := trodAll_nil r0; obtain rfl : args = #[v0] := by cases args; simp_all
 obtain ⟨b0, rfl, _, _, hs0⟩ := open_string Tryz.underlying9 (hval 0 _ v0 rfl rfl) h0; obtain ⟨s0, rfl, hsl0⟩ := str_of b0; refine (law_parses s0 (by have := hs0; unfold maxLen at this; omega) W hT).mono fun e W' ⟨he, hb⟩ => ⟨_, he, ?_⟩; exact zEe hW' hA0 hbe rfl rfl kf rfl hb
theorem scriptParses_lifted (os : Os) (started : os.Started) (H : Type) (enc : TypeId × Value -> H) :
  ReturnsInHanded {} Tryz.checked os 4 .any (fun w args => (Rows.scriptParsesSpec.pre enc Tryz.prog Tryz.f4 Rows.scriptParsesRow.domain false w args /\ laidMet Tryz.prog Rows.scriptParsesRow.laid w) /\ sizedMet enc Tryz.prog Tryz.f4 (OpenSpec.ofChange Rows.scriptParsesSpec) false w args)
   (Rows.scriptParsesSpec.post enc Tryz.prog Tryz.f4 false true false false) := by
 refine sS (C := Tryz.checked) (X := fun w _ => laidMet Tryz.prog Rows.scriptParsesRow.laid w) (fun _ _ _ hh h => h.of_heap hh) own started kf Tryz.func4
  (ChangeSpec.witness_at (enc := enc) (C := Tryz.checked) (os := os) (X := fun w _ => laidMet Tryz.prog Rows.scriptParsesRow.laid w) false (laidWorld os) #[.string ⟨#[]⟩] 8 rfl kf kf kf kf kf (nR os _)) ?_
 intro W base args ds gs before hval hW _ _ hL hS _; exact scriptParses_contract W base args ds gs before hval hW hL hS
theorem scriptParses_row : Rows.ScriptParsesSaid :=
 OpenClaim.holds_of_wide 4 Tryz.f4 rfl rfl rfl rfl rfl rfl rfl ⟨rfl, rfl, rfl, rfl, rfl⟩ rfl rfl rfl rfl rfl kf Tryz.func4 kf
  (kV kf) (by unfold Func.isWrapper; first | (rw [zN (by decide +kernel)]; kernel_rfl) | (rw [zH (by decide +kernel)]; exact ⟨rfl, rfl⟩))
  (fun os started H enc _ => scriptParses_lifted os started H enc)
theorem scriptParses_proved : Rows.ScriptParsesCardSaid :=
 Claim7.holds_tied_plain_at .later [] [.data, .data, .data, .data, .sentinel, .sentinel, .widerDeep, .pinned] true (true, "87cc8784f0db81280fee01503a782d61de721ceefd32dd679fb2ed49ecd61f44") true
  scriptParses_row (fun _ h => by cases h) kf (fun _ h => by cases h) scriptParses_row_tie rfl ⟨rfl, rfl⟩ kf rfl
  (fun g fn hg hfn => by
   obtain rfl : g = 4 := vW ((show Tryz.prog.funcNamed "footplate/footplatelaw32.ScriptParses" = some 4 from kf).symm.trans hg) |>.symm
   obtain rfl : fn = Tryz.f4 := (vW (Tryz.func4.symm.trans hfn)).symm
   exact ⟨kf, fun j t ht => by
    rw [Tryz.params4] at ht
    have hm : t = 9 := by
     match j, ht with
     | 0, ht => cases ht; exact rfl
     | j + 1, ht => simp at ht
    rcases hm with rfl
    ·exact (show Tryz.prog.wantsStandIn 9 = false from kf)⟩)
  kf
end
end Go.Proofs.YtdbgeobolongmaaGreatDoor
