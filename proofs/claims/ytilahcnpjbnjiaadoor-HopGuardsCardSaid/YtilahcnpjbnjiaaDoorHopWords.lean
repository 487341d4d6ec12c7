/- The document's words of a text. -/
import Derived.Test.YtilahcnpjbnjiaaDoorHopSplit
import Derived.Test.YtilahcnpjbnjiaaDoorHopShow
import Derived.Test.YtilahcnpjbnjiaaDoorOctetRef
namespace Go.Proofs.YtilahcnpjbnjiaaDoor
set_option linter.unusedVariables false
set_option linter.unusedSimpArgs false
open Go.RowKit Go.Shelf Go.Proofs Go.OctetPlain

def glue (now : Hp.Wd) : List Hp.Wd → List Hp.Wd
  | [] => [now]
  | w :: ws => (now ++ w) :: ws
theorem glue_nil (ws : List Hp.Wd) (h : ws ≠ []) : glue [] ws = ws := by cases ws with | nil => exact absurd rfl h | cons w ws => rfl
structure WdS (w wr : World) (s : List UInt8) (k : Nat) (out : List Hp.Wd) (now : Hp.Wd) (vo : Value) : Prop where
  own : wr.ownsRow w.heap.size 9 1 vo out.length (flat encS out)
  bel : Below w.heap.size w wr
  eq : Hp.spl s = out ++ glue now (Hp.spl (s.drop k))
  len : out.length ≤ k
  ln2 : now.length ≤ k
set_option maxRecDepth 100000 in
set_option maxHeartbeats 1000000 in
theorem ref_words (s : List UInt8) (hs : s.length ≤ 1000000) (w : World) :
    Calls Tryd.prog 35 #[.string (str s)] w fun e w' => ∃ v, e = .returned v ∧ w'.ownsRow w.heap.size 9 1 v (Hp.spl s).length (flat encS (Hp.spl s)) ∧ Below w.heap.size w w' := by
  have hsz : (str s).size = s.length := str_size s
  go_enter Tryd.func35, Tryd.ntmps35
  go_wp2_with fail
  go_loopw [3, 4, 5] (fun vo vn vi wr => ∃ (k : Nat) (out : List Hp.Wd) (now : Hp.Wd), vi = .int .i64 k ∧ k ≤ s.length ∧ vn = .string (str now) ∧ Hid (WdS w wr s k out now vo)) (fun _ _ vi _ => s.length - (intOf vi).toNat)
  case atStart => exact ⟨0, [], [], rfl, Nat.zero_le _, rfl, Lib.hid ⟨World.ownsRow_nil _ _ _ _, Below.refl _ _, by rw [List.drop_zero, glue_nil _ (Hp.spl_ne s)]; rfl, Nat.le_refl _, Nat.le_refl _⟩⟩
  case round =>
    obtain ⟨k, out, now, rfl, hk, rfl, HW⟩ := hrel
    have hol := HW.out.len
    have hnl := HW.out.ln2
    have hz := HW.out.bel.size
    by_cases hlt : k < s.length
    · obtain ⟨c, hcg⟩ : ∃ c, s[k] = c := ⟨_, rfl⟩
      have HDR : Hid (s.drop k = c :: s.drop (k + 1)) := Lib.hid (by rw [← hcg]; exact List.drop_eq_getElem_cons hlt)
      have hg : ∀ h, (str s)[k]'h = c := fun h => by rw [str_get, hcg]
      have HX : Hid ((str s).extract k (k + 1) = str [c]) := by
        rw [str_cut, HDR.out, show k + 1 - k = 1 by omega]; exact Lib.hid rfl
      clear hcg
      have hns : (str now).size = now.length := str_size _
      by_cases hc : c = 32
      · subst hc
        go_wp2_with (at_builtin; go_loud (refine wpList_app elemS rfl (.tmp 16) (.tmp 18) rfl w.heap.size u3 _ _ rfl HW.out.own 1 1 [.string _] rfl rfl (by simp [Value.oneCell']) (by omega) (by omega) ?_; intro v4 w4 hown4 _ _ hb4))
        refine ⟨⟨k + 1, out ++ [now], [], by go_num, by omega, rfl, Lib.hid ⟨?_, HW.out.bel.trans hb4, ?_, by simp; omega, by simp⟩⟩, by simp [intOf]; omega⟩
        · rw [flat_append, List.length_append]; exact hown4
        · rw [HW.out.eq, HDR.out, Hp.spl, if_pos rfl, glue_nil _ (Hp.spl_ne _)]
          simp [glue]
      · have hne : ((c.toNat : Int) == 32) = false := by
          simp only [beq_eq_false_iff_ne, ne_eq]
          exact fun h => hc (UInt8.toNat_inj.1 (by have : c.toNat = 32 := (by omega); rw [this]; rfl))
        have HC := Lib.hid hc
        clear hc
        go_wp2_with fail
        refine ⟨⟨k + 1, out, now ++ [c], by go_num, by omega, by rw [HX.out, str_app], Lib.hid ⟨HW.out.own, HW.out.bel, ?_, by omega, by simp; omega⟩⟩, by simp [intOf]; omega⟩
        rw [HW.out.eq, HDR.out, Hp.spl, if_neg HC.out]
        congr 1
        cases hq : Hp.spl (s.drop (k + 1)) with
        | nil => exact absurd hq (Hp.spl_ne _)
        | cons v vs => simp [glue]
    · obtain rfl : k = s.length := by omega
      have HE : Hid (Hp.spl s = out ++ [now]) := by
        have h := HW.out.eq
        rw [List.drop_length] at h
        have h2 : glue now (Hp.spl []) = [now] := by simp [Hp.spl, glue]
        rw [h2] at h
        exact Lib.hid h
      go_wp2_with (at_builtin; go_loud (refine wpList_app elemS rfl (.tmp 27) (.tmp 29) rfl w.heap.size u3 _ _ rfl HW.out.own 1 1 [.string _] rfl rfl (by simp [Value.oneCell']) (by omega) (by omega) ?_; intro v4 w4 hown4 _ _ hb4))
      go_ret
      refine ⟨_, rfl, ?_, HW.out.bel.trans hb4⟩
      rw [HE.out, flat_append, List.length_append]
      exact hown4
end Go.Proofs.YtilahcnpjbnjiaaDoor
