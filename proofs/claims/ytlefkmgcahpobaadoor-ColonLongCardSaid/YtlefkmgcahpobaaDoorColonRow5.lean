/- colonLong returns true for every input; the card. -/
import Derived.Test.YtlefkmgcahpobaaDoorColonRow
import Derived.Test.YtlefkmgcahpobaaDoorColonLong
namespace Go.Proofs.YtlefkmgcahpobaaDoor
open Go.ChangeShapes Go.WideShapes Go.ChangeAt Go.RowKit Go.Deep Go.Joins
open Go.ChangeMaps (open_string)
set_option linter.unusedVariables false
section
variable {H : Type} {enc : TypeId × Value → H}

set_option maxRecDepth 100000 in
theorem colonLong_contract (W : World) (base : Nat) (args : Array Value) (ds gs : List (DataW H)) (before : List MemPlace)
    (hval : ∀ (j : Nat) t v, Tryd.f13.params[j]? = some t → args[j]? = some v → Value.okWide Tryd.prog W .any base t v)
    (hW : DataW.Whole enc Tryd.prog Tryd.f13.params.toList Rows.colonLongSpec.vars false W args.toList ds gs before) (hL : laidMet Tryd.prog Rows.colonLongRow.laid W) (hS : W.ShapedOpen Tryd.prog) :
    Calls Tryd.prog 13 args W fun e W' => ∃ v, e = .returned v ∧ Rows.colonLongSpec.post enc Tryd.prog Tryd.f13 false true false false W args v W' := by
  have hT := ct_of_laid hL hS
  have hW' := hW
  obtain ⟨p, q, hA0, hV, hbe, hfz, hnd⟩ := hW
  have hA : DataW.TrodAll enc Tryd.prog W 0 (fun _ => true) true Tryd.f13.params.toList args.toList ds p := hA0
  obtain ⟨rfl, rfl⟩ := trodVars_none hV
  rw [Tryd.params13] at hA hval
  obtain ⟨v0, vs0, d0, ds0, p0, q0, hargs, rfl, rfl, h0, r0⟩ := trodAll_cons hA
  obtain ⟨v1, vs1, d1, ds1, p1, q1, rfl, rfl, rfl, h1, r1⟩ := trodAll_cons r0
  obtain ⟨rfl, rfl, rfl⟩ := trodAll_nil r1
  obtain rfl : args = #[v0, v1] := by cases args; simp_all
  obtain ⟨l0, hl0, rfl⟩ := arr16_of_arg (hval 0 _ v0 rfl rfl) h0
  obtain ⟨n1, rfl, _, _⟩ := open_bool Tryd.underlying4 (hval 1 _ v1 rfl rfl) h1
  refine (law_long l0 hl0 n1 W hT).mono fun e W' ⟨he, hb⟩ => ⟨_, he, ?_⟩
  exact post_true hW' hA0 hbe rfl rfl (by kernel_rfl) rfl hb

set_option maxRecDepth 100000 in
theorem colonLong_lifted (os : Os) (started : os.Started) (H : Type) (enc : TypeId × Value → H) :
    ReturnsInHanded {} Tryd.checked os 13 .any (fun w args => (Rows.colonLongSpec.pre enc Tryd.prog Tryd.f13 Rows.colonLongRow.domain false w args ∧ laidMet Tryd.prog Rows.colonLongRow.laid w) ∧ sizedMet enc Tryd.prog Tryd.f13 (OpenSpec.ofChange Rows.colonLongSpec) false w args)
      (Rows.colonLongSpec.post enc Tryd.prog Tryd.f13 false true false false) := by
  refine returns_and_shaped (C := Tryd.checked) (X := fun w _ => laidMet Tryd.prog Rows.colonLongRow.laid w) (fun _ _ _ hh h => h.of_heap hh) own started (by kernel_rfl) Tryd.func13
    (ChangeSpec.witness_at (enc := enc) (C := Tryd.checked) (os := os) (X := fun w _ => laidMet Tryd.prog Rows.colonLongRow.laid w) false (laidWorldC os) #[.agg (Array.replicate 16 (.int .u8 0)), .bool false] 8 rfl (by kernel_rfl) (by kernel_rfl) (by kernel_rfl) (by kernel_rfl) (by kernel_rfl) (laidWorldC_met os _)) ?_
  intro W base args ds gs before hval hW _ _ hL hS _
  exact colonLong_contract W base args ds gs before hval hW hL hS

theorem colonLong_row : Rows.ColonLongSaid :=
  OpenClaim.holds_of_wide 13 Tryd.f13 rfl rfl rfl rfl rfl rfl rfl ⟨rfl, rfl, rfl, rfl, rfl⟩ rfl rfl rfl rfl rfl (by kernel_rfl) Tryd.func13 (by kernel_rfl)
    (of_decide_eq_true (by kernel_rfl)) (by unfold Func.isWrapper; first | (rw [if_pos (by decide +kernel)]; kernel_rfl) | (rw [if_neg (by decide +kernel)]; exact ⟨rfl, rfl⟩))
    (fun os started H enc _ => colonLong_lifted os started H enc)

theorem colonLong_proved : Rows.ColonLongCardSaid :=
  Claim7.holds_tied_plain_at .later [] [.data, .data, .data, .data, .pinned] true (true, "712ea9591f0ef38ca214dc7646283e663fad71180b3b907acfc2057f68144099") true
    colonLong_row (fun _ h => by cases h) (by kernel_rfl) (fun _ h => by cases h) colonLong_row_tie rfl ⟨rfl, rfl⟩ (by kernel_rfl) rfl
    (fun g fn hg hfn => by
      obtain rfl : g = 13 := Option.some.inj ((show Tryd.prog.funcNamed "footplate/footplatelaw07.ColonLong" = some 13 by kernel_rfl).symm.trans hg) |>.symm
      obtain rfl : fn = Tryd.f13 := (Option.some.inj (Tryd.func13.symm.trans hfn)).symm
      exact ⟨by kernel_rfl, fun j t ht => by
        rw [Tryd.params13] at ht
        have hm : t = 50 ∨ t = 4 := by
          match j, ht with
          | 0, ht => cases ht; exact Or.inl rfl
          | 1, ht => cases ht; exact Or.inr (rfl)
          | j + 2, ht => simp at ht
        rcases hm with rfl | rfl
        · exact (show Tryd.prog.wantsStandIn 50 = false by kernel_rfl)
        · exact (show Tryd.prog.wantsStandIn 4 = false by kernel_rfl)⟩)
    (by kernel_rfl)
end
end Go.Proofs.YtlefkmgcahpobaaDoor
