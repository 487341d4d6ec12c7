/- slices.SortFunc over spans by their first labels. -/
import Derived.Test.YtcioiiobjfblbaaSortBase
import Derived.Test.YtcioiiobjfblbaaSlotsAllBase
import Derived.Test.YtcioiiobjfblbaaShelf
namespace Go.Proofs.Ytcioiiobjfblbaa
set_option linter.unusedVariables false
set_option linter.unusedSimpArgs false
open Go.RowKit Go.Shelf Go.Lib Go.Sort Go.Proofs

instance : Inhabited Sl.It := ⟨(0, 0)⟩

set_option maxHeartbeats 1000000 in
/-- cmp.Compare(a.First, b.First): two boxes are laid -/
theorem cmpIt (x y : Sl.It) (W : World) : Calls Try.prog 55 #[.agg #[.int .i64 x.1, .int .i64 x.2], .agg #[.int .i64 y.1, .int .i64 y.2]] W fun e w' => e = .returned (.int .i64 (Lib.compareInt x.1 y.1)) ∧ ∃ q os', w' = grow (W.drewN q) os' := by
  have hcon := fun W' => AnyG.cmp_Compare_int Try.cmpInt x.1 y.1 W'
  change ∀ W', Calls Try.prog 56 _ _ _ at hcon
  generalize Lib.compareInt x.1 y.1 = r at hcon ⊢
  go_enter Try.func55, Try.ntmps55
  go_wp2_with (go_at_call 56; refine (hcon _).mono ?_; rintro e w' ⟨rfl, rfl⟩)
  go_ret
  exact ⟨rfl, 0, _, by rw [alloc_eq_grow, alloc_eq_grow, grow_grow]; rfl⟩
theorem cmpLaysIt (blk off size : Nat) (w : World) : CmpLays Try.prog 55 #[] encIt 2 (fun x y => Lib.compareInt x.1 y.1) blk off size w := fun _ _ _ _ x y => cmpIt x y _
theorem ltIt (x y : Sl.It) : ltOf (fun x y : Sl.It => Lib.compareInt x.1 y.1) x y = decide (x.1 < y.1) := by
  unfold ltOf Lib.compareInt
  by_cases h1 : x.1 < y.1
  · simp [h1]
  · by_cases h2 : y.1 < x.1 <;> simp [h1, h2]
theorem swoIt : SWO (ltOf fun x y : Sl.It => Lib.compareInt x.1 y.1) where
  irrefl x := by rw [ltIt]; simp
  trans x y z h1 h2 := by rw [ltIt] at *; simp at *; omega
  ntrans x y z h1 h2 := by rw [ltIt] at *; simp at *; omega

set_option maxHeartbeats 2000000 in
theorem insNoneIt (p : Option Addr) (cap : Nat) (fv : Value) (w : World) :
    Calls Try.prog 68 #[.slice p 0 cap, .int .i64 0, .int .i64 0, fv] w fun e w' => e = .returned (.tuple #[]) ∧ w' = w := by
  go_enter Try.func68, Try.ntmps68
  go_wp2
  refine wp_loop_rounds 1 ?_
  rw [rounds_succ]
  go_wp2
  go_end0
  exact ⟨rfl, rfl⟩
set_option maxHeartbeats 2000000 in
theorem pdqNoneIt (p : Option Addr) (cap : Nat) (lim : Int) (fv : Value) (w : World) :
    Calls Try.prog 60 #[.slice p 0 cap, .int .i64 0, .int .i64 0, .int .i64 lim, fv] w fun e w' => e = .returned (.tuple #[]) ∧ w' = w := by
  go_enter Try.func60, Try.ntmps60
  go_wp2
  refine wp_loop_rounds 1 ?_
  rw [rounds_succ]
  go_wp2_with (go_at_call 68; refine (insNoneIt p cap fv _).mono ?_; rintro e w' ⟨rfl, rfl⟩)
  (try simp only [Exit.inBlock, Exit.then])
  refine bodyPost_ret (results_none rfl _ _ _) rfl ?_
  exact ⟨rfl, rfl⟩
set_option maxHeartbeats 2000000 in
theorem sortNoneIt (p : Option Addr) (cap : Nat) (fv : Value) (w : World) :
    Calls Try.prog 54 #[.slice p 0 cap, fv] w fun e w' => e = .returned (.tuple #[]) ∧ w' = w := by
  go_enter Try.func54, Try.ntmps54
  go_wp2_with (first
    | (go_at_call 61; refine (Any.bits_Len Try.bitsLen 0 _ (by omega) (by omega)).mono ?_; rintro e w' ⟨rfl, rfl⟩)
    | (go_at_call 60; refine (pdqNoneIt p cap _ fv _).mono ?_; rintro e w' ⟨rfl, rfl⟩))
  go_end0
  exact ⟨rfl, rfl⟩

/-- what lies behind the sort -/
def SortedIt (B : Nat) (v : Value) (zs : List Sl.It) (w : World) (e : Ending) (w' : World) : Prop :=
  e = .returned (.tuple #[]) ∧ ∃ d, d.Perm zs ∧ d.Pairwise (fun a b => a.1 ≤ b.1) ∧ w'.ownsRow B 57 2 v d.length (flat encIt d) ∧ Below B w w'

theorem sortIt (zs : List Sl.It) (hl : zs.length ≤ 4611686018427387903) (v : Value) (w : World) (B : Nat) (hB : B ≤ w.heap.size) (h : w.ownsRow B 57 2 v zs.length (flat encIt zs)) :
    Calls Try.prog 54 #[v, .func (.func 55) #[] #[]] w (SortedIt B v zs w) := by
  by_cases h0 : zs = []
  · subst h0
    obtain ⟨p, cap, hv, _⟩ := owns_it h
    rw [hv] at h ⊢
    refine (sortNoneIt p cap _ w).mono ?_
    rintro e w' ⟨rfl, rfl⟩
    exact ⟨rfl, [], List.Perm.refl _, List.Pairwise.nil, h, Below.refl _ _⟩
  · rcases h.2 with ⟨_, h1⟩ | ⟨g, cap, cur, hv, hb, hg, hn, hc, hs, ht⟩
    · exact absurd (List.eq_nil_of_length_eq_zero h1) h0
    · have eg : ∀ args w, (callFunc 55 args).run Try.prog w = .ok (.enter 55 args) w := enters_of Try.func55 (by kernel_rfl) rfl
      have hcon := AnyQ.slices_SortFunc Try.sortIt 2 Try.isAgg57 Try.sizeOf57 encIt (fun _ => rfl) (fun x v hv => encIt_one x v hv) (fun x y => Lib.compareInt x.1 y.1) swoIt 55 #[] g 0 cap zs.toArray w eg (cmpLaysIt g 0 zs.toArray.size w) (holds_of_owns encIt_len h hv) (Array.getElem?_eq_some_iff.1 hg).1 (by simp; omega)
      change Calls Try.prog 54 _ _ _ at hcon
      rw [hv]
      simp only [List.size_toArray] at hcon
      refine hcon.mono ?_
      rintro e w' ⟨rfl, d', n, os, hp, hsr, rfl⟩
      have hpl := perm_of_in (d := zs.toArray) (by simpa using hp)
      have hsz : d'.size = zs.length := by simpa using hp.1
      obtain ⟨ho, hgr⟩ := owns_of_sort (enc := encIt) encIt_len h hv d' hsz n os
      refine ⟨rfl, d'.toList, by simpa using hpl, ?_, by rw [hv] at ho; exact ho, (Below.refl _ _).grown hgr hB (fun k hk => by cases hk; exact hb)⟩
      refine List.pairwise_iff_getElem.2 fun i j hi hj hij => ?_
      simp at hi hj
      have := hsr i j (Nat.zero_le _) hij (by omega)
      rw [ltIt] at this
      simp [hi, hj] at this ⊢
      exact this
end Go.Proofs.Ytcioiiobjfblbaa
