/- Part of the proof: ScriptLines, ScriptParses, ScriptShows. -/
import Derived.Test.YtdbgeobolongmaaGreatDoorSAScrRow
import Derived.Test.YtdbgeobolongmaaGreatDoorSAScrLawL
set_option linter.unusedVariables false
set_option linter.unusedSimpArgs false
set_option maxRecDepth 100000
namespace Go.Proofs.YtdbgeobolongmaaGreatDoor
open Go.ChangeShapes Go.WideShapes Go.ChangeAt Go.RowKit Go.Deep Go.Joins
open Go.ChangeMaps (open_string)
section
variable {H : Type} {enc : TypeId × Value -> H}
theorem scriptLines_contract (W : World) (base : Nat) (args : Array Value) (ds gs : List (DataW H)) (before : List MemPlace)
  (hval : ∀ (j : Nat) t v, Tryz.f3.params[j]? = some t -> args[j]? = some v -> Value.okWide Tryz.prog W .any base t v)
  (hW : DataW.Whole enc Tryz.prog Tryz.f3.params.toList Rows.scriptLinesSpec.vars false W args.toList ds gs before) (hL : laidMet Tryz.prog Rows.scriptLinesRow.laid W) (hS : W.ShapedOpen Tryz.prog) :
  Calls Tryz.prog 3 args W fun e W' => ∃ v, e = .returned v /\ Rows.scriptLinesSpec.post enc Tryz.prog Tryz.f3 false true false false W args v W' := by
 have hT := zBq hL hS; have hW' := hW; obtain ⟨p, q, hA0, hV, hbe, hfz, hnd⟩ := hW; have hA : DataW.TrodAll enc Tryz.prog W 0 (fun _ => true) true Tryz.f3.params.toList args.toList ds p := hA0; obtain ⟨rfl, rfl⟩ := trodVars_none hV; rw [Tryz.params3] at hA hval; obtain ⟨v0, vs0, d0, ds0, p0, q0, hargs, rfl, rfl, h0, r0⟩ := trodAll_cons hA; obtain ⟨v1, vs1, d1, ds1, p1, q1, rfl, rfl, rfl, h1, r1⟩ := trodAll_cons r0; obtain ⟨rfl, rfl, rfl⟩ := trodAll_nil r1; obtain rfl : args = #[v0, v1] := by cases args; simp_all
 obtain ⟨b0, rfl, _, _, hs0⟩ := open_string Tryz.underlying9 (hval 0 _ v0 rfl rfl) h0; obtain ⟨s0, rfl, hsl0⟩ := str_of b0; obtain ⟨t1, rfl, hi1, hp1, nb1⟩ := step_of_arg (hval 1 _ v1 rfl rfl) h1; refine (law_lines s0 (by have := hs0; unfold maxLen at this; omega) t1 W hT hp1 hi1 nb1).mono fun e W' ⟨he, hb⟩ => ⟨_, he, ?_⟩; exact zEe hW' hA0 hbe rfl rfl kf rfl hb
theorem scriptLines_lifted (os : Os) (started : os.Started) (H : Type) (enc : TypeId × Value -> H) :
  ReturnsInHanded {} Tryz.checked os 3 .any (fun w args => (Rows.scriptLinesSpec.pre enc Tryz.prog Tryz.f3 Rows.scriptLinesRow.domain false w args /\ laidMet Tryz.prog Rows.scriptLinesRow.laid w) /\ sizedMet enc Tryz.prog Tryz.f3 (OpenSpec.ofChange Rows.scriptLinesSpec) false w args)
   (Rows.scriptLinesSpec.post enc Tryz.prog Tryz.f3 false true false false) := by
 refine sS (C := Tryz.checked) (X := fun w _ => laidMet Tryz.prog Rows.scriptLinesRow.laid w) (fun _ _ _ hh h => h.of_heap hh) own started kf Tryz.func3
  (ChangeSpec.witness_at (enc := enc) (C := Tryz.checked) (os := os) (X := fun w _ => laidMet Tryz.prog Rows.scriptLinesRow.laid w) false (laidWorld os) #[.string ⟨#[]⟩, .agg #[.bool false, .int .i64 0, .int .i64 0, .int .i64 0, .int .i64 0, .int .i64 0, .int .i64 0, .bool false, .int .u8 0, .int .u8 0, .int .u8 0, .int .u8 0, .int .u8 0, .int .u8 0, .int .u8 0, .int .u8 0, .int .u8 0, .int .u8 0, .int .u8 0, .int .u8 0, .int .u8 0, .int .u8 0, .int .u8 0, .int .u8 0, .int .i64 0, .int .i64 0, .slice none 0 0, .int .i64 0, .int .i64 0, .slice none 0 0, .bool false, .slice none 0 0, .string ⟨#[]⟩, .int .i64 0, .bool false, .slice none 0 0]] 8 rfl kf kf kf kf kf (nR os _)) ?_
 intro W base args ds gs before hval hW _ _ hL hS _; exact scriptLines_contract W base args ds gs before hval hW hL hS
theorem scriptLines_row : Rows.ScriptLinesSaid :=
 OpenClaim.holds_of_wide 3 Tryz.f3 rfl rfl rfl rfl rfl rfl rfl ⟨rfl, rfl, rfl, rfl, rfl⟩ rfl rfl rfl rfl rfl kf Tryz.func3 kf
  (kV kf) (by unfold Func.isWrapper; first | (rw [zN (by decide +kernel)]; kernel_rfl) | (rw [zH (by decide +kernel)]; exact ⟨rfl, rfl⟩))
  (fun os started H enc _ => scriptLines_lifted os started H enc)
theorem scriptLines_proved : Rows.ScriptLinesCardSaid :=
 Claim7.holds_tied_plain_at .later [] [.data, .data, .data, .data, .sentinel, .sentinel, .widerDeep, .pinned] true (true, "87cc8784f0db81280fee01503a782d61de721ceefd32dd679fb2ed49ecd61f44") true
  scriptLines_row (fun _ h => by cases h) kf (fun _ h => by cases h) scriptLines_row_tie rfl ⟨rfl, rfl⟩ kf rfl
  (fun g fn hg hfn => by
   obtain rfl : g = 3 := vW ((show Tryz.prog.funcNamed "footplate/footplatelaw32.ScriptLines" = some 3 from kf).symm.trans hg) |>.symm
   obtain rfl : fn = Tryz.f3 := (vW (Tryz.func3.symm.trans hfn)).symm
   exact ⟨kf, fun j t ht => by
    rw [Tryz.params3] at ht
    have hm : t = 9 ∨ t = 37 := by
     match j, ht with
     | 0, ht => cases ht; exact Or.inl rfl
     | 1, ht => cases ht; exact Or.inr (rfl)
     | j + 2, ht => simp at ht
    rcases hm with rfl | rfl
    ·exact (show Tryz.prog.wantsStandIn 9 = false from kf)
    ·exact (show Tryz.prog.wantsStandIn 37 = false from kf)⟩)
  kf
end
end Go.Proofs.YtdbgeobolongmaaGreatDoor
