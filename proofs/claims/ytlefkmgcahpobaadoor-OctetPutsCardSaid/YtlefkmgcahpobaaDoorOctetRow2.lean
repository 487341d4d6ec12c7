/- octetPuts returns true for every input; the card. -/
import Derived.Test.YtlefkmgcahpobaaDoorOctetRow
namespace Go.Proofs.YtlefkmgcahpobaaDoor
open Go.ChangeShapes Go.WideShapes Go.ChangeAt Go.RowKit Go.Deep Go.Joins
open Go.ChangeMaps (open_string)
set_option linter.unusedVariables false
section
variable {H : Type} {enc : TypeId × Value → H}

set_option maxRecDepth 100000 in
theorem octetPuts_contract (W : World) (base : Nat) (args : Array Value) (ds gs : List (DataW H)) (before : List MemPlace)
    (hval : ∀ (j : Nat) t v, Tryd.f4.params[j]? = some t → args[j]? = some v → Value.okWide Tryd.prog W .any base t v)
    (hW : DataW.Whole enc Tryd.prog Tryd.f4.params.toList Rows.octetPutsSpec.vars false W args.toList ds gs before) (hL : laidMet Tryd.prog Rows.octetPutsRow.laid W) :
    Calls Tryd.prog 4 args W fun e W' => ∃ v, e = .returned v ∧ Rows.octetPutsSpec.post enc Tryd.prog Tryd.f4 false true false false W args v W' := by
  have hT := tabs_of_laid hL
  have hW' := hW
  obtain ⟨p, q, hA0, hV, hbe, hfz, hnd⟩ := hW
  have hA : DataW.TrodAll enc Tryd.prog W 0 (fun _ => true) true Tryd.f4.params.toList args.toList ds p := hA0
  obtain ⟨rfl, rfl⟩ := trodVars_none hV
  rw [Tryd.params4] at hA hval
  obtain ⟨v0, vs0, d0, ds0, p0, q0, hargs, rfl, rfl, h0, r0⟩ := trodAll_cons hA
  obtain ⟨v1, vs1, d1, ds1, p1, q1, rfl, rfl, rfl, h1, r1⟩ := trodAll_cons r0
  obtain ⟨v2, vs2, d2, ds2, p2, q2, rfl, rfl, rfl, h2, r2⟩ := trodAll_cons r1
  obtain ⟨rfl, rfl, rfl⟩ := trodAll_nil r2
  obtain rfl : args = #[v0, v1, v2] := by cases args; simp_all
  obtain ⟨l0, hl0⟩ := bytes_of_arg (hval 0 _ v0 rfl rfl) h0
  obtain ⟨n1, rfl, _, _, wn1⟩ := open_int Tryd.underlying3 (hval 1 _ v1 rfl rfl) h1
  have hn1 : -9223372036854775808 ≤ n1 ∧ n1 ≤ 9223372036854775807 := by simpa [Lit.wf, IntKind.min, IntKind.max, IntKind.signed, IntKind.bits] using wn1
  obtain ⟨n2, rfl, _, _, wn2⟩ := open_int Tryd.underlying24 (hval 2 _ v2 rfl rfl) h2
  have hn2 : 0 ≤ n2 ∧ n2 ≤ 18446744073709551615 := by simpa [Lit.wf, IntKind.min, IntKind.max, IntKind.signed, IntKind.bits] using wn2
  obtain ⟨x2, rfl⟩ : ∃ x : Nat, n2 = x := ⟨n2.toNat, by omega⟩
  refine (law_puts l0 n1 x2 hn1 (by omega) v0 W hT hl0).mono fun e W' ⟨he, hb⟩ => ⟨_, he, ?_⟩
  exact post_true hW' hA0 hbe rfl rfl (by kernel_rfl) rfl hb

set_option maxRecDepth 100000 in
theorem octetPuts_lifted (os : Os) (started : os.Started) (H : Type) (enc : TypeId × Value → H) :
    ReturnsInHanded {} Tryd.checked os 4 .any (fun w args => (Rows.octetPutsSpec.pre enc Tryd.prog Tryd.f4 Rows.octetPutsRow.domain false w args ∧ laidMet Tryd.prog Rows.octetPutsRow.laid w) ∧ sizedMet enc Tryd.prog Tryd.f4 (OpenSpec.ofChange Rows.octetPutsSpec) false w args)
      (Rows.octetPutsSpec.post enc Tryd.prog Tryd.f4 false true false false) := by
  refine returnsInHanded_of_change_and (C := Tryd.checked) (X := fun w _ => laidMet Tryd.prog Rows.octetPutsRow.laid w) (fun _ _ _ hh h => h.of_heap hh) own started (by kernel_rfl) Tryd.func4
    (ChangeSpec.witness_at (enc := enc) (C := Tryd.checked) (os := os) (X := fun w _ => laidMet Tryd.prog Rows.octetPutsRow.laid w) false (laidWorld os) #[.slice none 0 0, .int .i64 0, .int .u64 0] 8 rfl (by kernel_rfl) (by kernel_rfl) (by kernel_rfl) (by kernel_rfl) (by kernel_rfl) (laidWorld_met os _)) ?_
  intro W base args ds gs before hval hW _ _ hL _
  exact octetPuts_contract W base args ds gs before hval hW hL

theorem octetPuts_row : Rows.OctetPutsSaid :=
  OpenClaim.holds_of_wide 4 Tryd.f4 rfl rfl rfl rfl rfl rfl rfl ⟨rfl, rfl, rfl, rfl, rfl⟩ rfl rfl rfl rfl rfl (by kernel_rfl) Tryd.func4 (by kernel_rfl)
    (of_decide_eq_true (by kernel_rfl)) (by unfold Func.isWrapper; first | (rw [if_pos (by decide +kernel)]; kernel_rfl) | (rw [if_neg (by decide +kernel)]; exact ⟨rfl, rfl⟩))
    (fun os started H enc _ => octetPuts_lifted os started H enc)

theorem octetPuts_proved : Rows.OctetPutsCardSaid :=
  Claim7.holds_tied_plain_at .later [] [.data, .data, .data, .sentinel, .sentinel] true (true, "712ea9591f0ef38ca214dc7646283e663fad71180b3b907acfc2057f68144099") true
    octetPuts_row (fun _ h => by cases h) (by kernel_rfl) (fun _ h => by cases h) octetPuts_row_tie rfl ⟨rfl, rfl⟩ (by kernel_rfl) rfl
    (fun g fn hg hfn => by
      obtain rfl : g = 4 := Option.some.inj ((show Tryd.prog.funcNamed "footplate/footplatelaw01.OctetPuts" = some 4 by kernel_rfl).symm.trans hg) |>.symm
      obtain rfl : fn = Tryd.f4 := (Option.some.inj (Tryd.func4.symm.trans hfn)).symm
      exact ⟨by kernel_rfl, fun j t ht => by
        rw [Tryd.params4] at ht
        have hm : t = 22 ∨ t = 3 ∨ t = 24 := by
          match j, ht with
          | 0, ht => cases ht; exact Or.inl rfl
          | 1, ht => cases ht; exact Or.inr (Or.inl rfl)
          | 2, ht => cases ht; exact Or.inr (Or.inr (rfl))
          | j + 3, ht => simp at ht
        rcases hm with rfl | rfl | rfl
        · exact (show Tryd.prog.wantsStandIn 22 = false by kernel_rfl)
        · exact (show Tryd.prog.wantsStandIn 3 = false by kernel_rfl)
        · exact (show Tryd.prog.wantsStandIn 24 = false by kernel_rfl)⟩)
    (by kernel_rfl)
end
end Go.Proofs.YtlefkmgcahpobaaDoor
