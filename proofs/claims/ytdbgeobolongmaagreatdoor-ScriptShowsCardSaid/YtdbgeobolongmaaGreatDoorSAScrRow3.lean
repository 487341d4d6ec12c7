/- Part of the proof: ScriptLines, ScriptParses, ScriptShows. -/
import Derived.Test.YtdbgeobolongmaaGreatDoorSAScrRow
import Derived.Test.YtdbgeobolongmaaGreatDoorSAScrLawS
set_option linter.unusedVariables false
set_option linter.unusedSimpArgs false
set_option maxRecDepth 100000
namespace Go.Proofs.YtdbgeobolongmaaGreatDoor
open Go.ChangeShapes Go.WideShapes Go.ChangeAt Go.RowKit Go.Deep Go.Joins
open Go.ChangeMaps (open_string)
section
variable {H : Type} {enc : TypeId × Value -> H}
theorem scriptShows_contract (W : World) (base : Nat) (args : Array Value) (ds gs : List (DataW H)) (before : List MemPlace)
  (hval : ∀ (j : Nat) t v, Tryz.f5.params[j]? = some t -> args[j]? = some v -> Value.okWide Tryz.prog W .any base t v)
  (hW : DataW.Whole enc Tryz.prog Tryz.f5.params.toList Rows.scriptShowsSpec.vars false W args.toList ds gs before) (hL : laidMet Tryz.prog Rows.scriptShowsRow.laid W) (hS : W.ShapedOpen Tryz.prog) :
  Calls Tryz.prog 5 args W fun e W' => ∃ v, e = .returned v /\ Rows.scriptShowsSpec.post enc Tryz.prog Tryz.f5 false true false false W args v W' := by
 have hT := zBq hL hS; have hW' := hW; obtain ⟨p, q, hA0, hV, hbe, hfz, hnd⟩ := hW; have hA : DataW.TrodAll enc Tryz.prog W 0 (fun _ => true) true Tryz.f5.params.toList args.toList ds p := hA0; obtain ⟨rfl, rfl⟩ := trodVars_none hV; rw [Tryz.params5] at hA hval; obtain ⟨v0, vs0, d0, ds0, p0, q0, hargs, rfl, rfl, h0, r0⟩ := trodAll_cons hA; obtain ⟨rfl, rfl, rfl⟩ := trodAll_nil r0; obtain rfl : args = #[v0] := by cases args; simp_all
 obtain ⟨x0, sa0, va0, rfl, hAs0, hr10, hr20, hr30, nb0⟩ := script_of_arg (hval 0 _ v0 rfl rfl) h0; refine (law_shows x0 sa0 va0 W hT hAs0 hr10 hr20 hr30 nb0).mono fun e W' ⟨he, hb⟩ => ⟨_, he, ?_⟩; exact zEe hW' hA0 hbe rfl rfl kf rfl hb
theorem scriptShows_lifted (os : Os) (started : os.Started) (H : Type) (enc : TypeId × Value -> H) :
  ReturnsInHanded {} Tryz.checked os 5 .any (fun w args => (Rows.scriptShowsSpec.pre enc Tryz.prog Tryz.f5 Rows.scriptShowsRow.domain false w args /\ laidMet Tryz.prog Rows.scriptShowsRow.laid w) /\ sizedMet enc Tryz.prog Tryz.f5 (OpenSpec.ofChange Rows.scriptShowsSpec) false w args)
   (Rows.scriptShowsSpec.post enc Tryz.prog Tryz.f5 false true false false) := by
 refine sS (C := Tryz.checked) (X := fun w _ => laidMet Tryz.prog Rows.scriptShowsRow.laid w) (fun _ _ _ hh h => h.of_heap hh) own started kf Tryz.func5
  (ChangeSpec.witness_at (enc := enc) (C := Tryz.checked) (os := os) (X := fun w _ => laidMet Tryz.prog Rows.scriptShowsRow.laid w) false (laidWorld os) #[.agg #[.int .i64 0, .int .i64 0, .int .i64 0, .int .u8 0, .int .u8 0, .int .u8 0, .int .u8 0, .int .u8 0, .int .u8 0, .int .u8 0, .int .u8 0, .int .u8 0, .int .u8 0, .int .u8 0, .int .u8 0, .int .u8 0, .int .u8 0, .int .u8 0, .int .u8 0, .int .u8 0, .int .u8 0, .int .u8 0, .int .u8 0, .slice none 0 0]] 8 rfl kf kf kf kf kf (nR os _)) ?_
 intro W base args ds gs before hval hW _ _ hL hS _; exact scriptShows_contract W base args ds gs before hval hW hL hS
theorem scriptShows_row : Rows.ScriptShowsSaid :=
 OpenClaim.holds_of_wide 5 Tryz.f5 rfl rfl rfl rfl rfl rfl rfl ⟨rfl, rfl, rfl, rfl, rfl⟩ rfl rfl rfl rfl rfl kf Tryz.func5 kf
  (kV kf) (by unfold Func.isWrapper; first | (rw [zN (by decide +kernel)]; kernel_rfl) | (rw [zH (by decide +kernel)]; exact ⟨rfl, rfl⟩))
  (fun os started H enc _ => scriptShows_lifted os started H enc)
theorem scriptShows_proved : Rows.ScriptShowsCardSaid :=
 Claim7.holds_tied_plain_at .later [] [.data, .data, .data, .data, .sentinel, .sentinel, .widerDeep, .pinned] true (true, "87cc8784f0db81280fee01503a782d61de721ceefd32dd679fb2ed49ecd61f44") true
  scriptShows_row (fun _ h => by cases h) kf (fun _ h => by cases h) scriptShows_row_tie rfl ⟨rfl, rfl⟩ kf rfl
  (fun g fn hg hfn => by
   obtain rfl : g = 5 := vW ((show Tryz.prog.funcNamed "footplate/footplatelaw32.ScriptShows" = some 5 from kf).symm.trans hg) |>.symm
   obtain rfl : fn = Tryz.f5 := (vW (Tryz.func5.symm.trans hfn)).symm
   exact ⟨kf, fun j t ht => by
    rw [Tryz.params5] at ht
    have hm : t = 61 := by
     match j, ht with
     | 0, ht => cases ht; exact rfl
     | j + 1, ht => simp at ht
    rcases hm with rfl
    ·exact (show Tryz.prog.wantsStandIn 61 = false from kf)⟩)
  kf
end
end Go.Proofs.YtdbgeobolongmaaGreatDoor
