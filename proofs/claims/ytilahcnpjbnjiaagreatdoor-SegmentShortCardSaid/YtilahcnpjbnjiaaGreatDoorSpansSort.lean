/- slices.SortFunc over spans by their first labels. -/
import Derived.Test.YtilahcnpjbnjiaaGreatDoorSortBase
import Derived.Test.YtilahcnpjbnjiaaGreatDoorSpansRef
import Derived.Test.YtilahcnpjbnjiaaGreatDoorShelf
namespace Go.Proofs.YtilahcnpjbnjiaaGreatDoor
set_option linter.unusedVariables false
set_option linter.unusedSimpArgs false
open Go.RowKit Go.Shelf Go.Lib Go.Sort Go.Proofs

instance : Inhabited Sp.S := ⟨(0, 0)⟩

set_option maxHeartbeats 1000000 in
/-- cmp.Compare(a.First, b.First): two boxes are laid -/
theorem cmpSp (x y : Sp.S) (W : World) : Calls Tryz.prog 122 #[.agg #[.int .i64 x.1, .int .i64 x.2], .agg #[.int .i64 y.1, .int .i64 y.2]] W fun e w' => e = .returned (.int .i64 (Lib.compareInt x.1 y.1)) ∧ ∃ q os', w' = grow (W.drewN q) os' := by
  have hcon := fun W' => AnyG.cmp_Compare_int Tryz.cmpInt x.1 y.1 W'
  change ∀ W', Calls Tryz.prog 85 _ _ _ at hcon
  generalize Lib.compareInt x.1 y.1 = r at hcon ⊢
  go_enter Tryz.func122, Tryz.ntmps122
  go_wp2_with (go_at_call 85; refine (hcon _).mono ?_; rintro e w' ⟨rfl, rfl⟩)
  go_ret
  exact ⟨rfl, 0, _, by rw [alloc_eq_grow, alloc_eq_grow, grow_grow]; rfl⟩
theorem cmpLaysSp (blk off size : Nat) (w : World) : CmpLays Tryz.prog 122 #[] encSp 2 (fun x y => Lib.compareInt x.1 y.1) blk off size w := fun _ _ _ _ x y => cmpSp x y _
theorem ltSp (x y : Sp.S) : ltOf (fun x y : Sp.S => Lib.compareInt x.1 y.1) x y = decide (x.1 < y.1) := by
  unfold ltOf Lib.compareInt
  by_cases h1 : x.1 < y.1
  · simp [h1]
  · by_cases h2 : y.1 < x.1 <;> simp [h1, h2]
theorem swoSp : SWO (ltOf fun x y : Sp.S => Lib.compareInt x.1 y.1) where
  irrefl x := by rw [ltSp]; simp
  trans x y z h1 h2 := by rw [ltSp] at *; simp at *; omega
  ntrans x y z h1 h2 := by rw [ltSp] at *; simp at *; omega

set_option maxHeartbeats 2000000 in
theorem insNone (p : Option Addr) (cap : Nat) (fv : Value) (w : World) :
    Calls Tryz.prog 134 #[.slice p 0 cap, .int .i64 0, .int .i64 0, fv] w fun e w' => e = .returned (.tuple #[]) ∧ w' = w := by
  go_enter Tryz.func134, Tryz.ntmps134
  go_wp2
  refine wp_loop_rounds 1 ?_
  rw [rounds_succ]
  go_wp2
  go_end0
  exact ⟨rfl, rfl⟩
set_option maxHeartbeats 2000000 in
theorem pdqNone (p : Option Addr) (cap : Nat) (lim : Int) (fv : Value) (w : World) :
    Calls Tryz.prog 132 #[.slice p 0 cap, .int .i64 0, .int .i64 0, .int .i64 lim, fv] w fun e w' => e = .returned (.tuple #[]) ∧ w' = w := by
  go_enter Tryz.func132, Tryz.ntmps132
  go_wp2
  refine wp_loop_rounds 1 ?_
  rw [rounds_succ]
  go_wp2_with (go_at_call 134; refine (insNone p cap fv _).mono ?_; rintro e w' ⟨rfl, rfl⟩)
  (try simp only [Exit.inBlock, Exit.then])
  refine bodyPost_ret (results_none rfl _ _ _) rfl ?_
  exact ⟨rfl, rfl⟩
set_option maxHeartbeats 2000000 in
theorem sortNone (p : Option Addr) (cap : Nat) (fv : Value) (w : World) :
    Calls Tryz.prog 129 #[.slice p 0 cap, fv] w fun e w' => e = .returned (.tuple #[]) ∧ w' = w := by
  go_enter Tryz.func129, Tryz.ntmps129
  go_wp2_with (first
    | (go_at_call 133; refine (Any.bits_Len Tryz.bitsLen 0 _ (by omega) (by omega)).mono ?_; rintro e w' ⟨rfl, rfl⟩)
    | (go_at_call 132; refine (pdqNone p cap _ fv _).mono ?_; rintro e w' ⟨rfl, rfl⟩))
  go_end0
  exact ⟨rfl, rfl⟩

/-- what lies behind the sort -/
def SortedSp (B : Nat) (v : Value) (zs : List Sp.S) (w : World) (e : Ending) (w' : World) : Prop :=
  e = .returned (.tuple #[]) ∧ ∃ d, d.Perm zs ∧ Sp.Rising d ∧ w'.ownsRow B 35 2 v d.length (flat encSp d) ∧ Below B w w'

theorem sortSp (zs : List Sp.S) (hl : zs.length ≤ 4611686018427387903) (v : Value) (w : World) (B : Nat) (hB : B ≤ w.heap.size) (h : w.ownsRow B 35 2 v zs.length (flat encSp zs)) :
    Calls Tryz.prog 129 #[v, .func (.func 122) #[] #[]] w (SortedSp B v zs w) := by
  by_cases h0 : zs = []
  · subst h0
    obtain ⟨p, cap, hv, _⟩ := owns_sp h
    rw [hv] at h ⊢
    refine (sortNone p cap _ w).mono ?_
    rintro e w' ⟨rfl, rfl⟩
    exact ⟨rfl, [], List.Perm.refl _, List.Pairwise.nil, h, Below.refl _ _⟩
  · rcases h.2 with ⟨_, h1⟩ | ⟨g, cap, cur, hv, hb, hg, hn, hc, hs, ht⟩
    · exact absurd (List.eq_nil_of_length_eq_zero h1) h0
    · have eg : ∀ args w, (callFunc 122 args).run Tryz.prog w = .ok (.enter 122 args) w := enters_of Tryz.func122 (by kernel_rfl) rfl
      have hcon := AnyQ.slices_SortFunc Tryz.sortSp 2 Tryz.isAgg35 Tryz.sizeOf35 encSp (fun _ => rfl) (fun x v hv => encSp_one x v hv) (fun x y => Lib.compareInt x.1 y.1) swoSp 122 #[] g 0 cap zs.toArray w eg (cmpLaysSp g 0 zs.toArray.size w) (holds_of_owns encSp_len h hv) (Array.getElem?_eq_some_iff.1 hg).1 (by simp; omega)
      change Calls Tryz.prog 129 _ _ _ at hcon
      rw [hv]
      simp only [List.size_toArray] at hcon
      refine hcon.mono ?_
      rintro e w' ⟨rfl, d', n, os, hp, hsr, rfl⟩
      have hpl := perm_of_in (d := zs.toArray) (by simpa using hp)
      have hsz : d'.size = zs.length := by simpa using hp.1
      obtain ⟨ho, hgr⟩ := owns_of_sort (enc := encSp) encSp_len h hv d' hsz n os
      refine ⟨rfl, d'.toList, by simpa using hpl, ?_, by rw [hv] at ho; exact ho, (Below.refl _ _).grown hgr hB (fun k hk => by cases hk; exact hb)⟩
      refine List.pairwise_iff_getElem.2 fun i j hi hj hij => ?_
      simp at hi hj
      have := hsr i j (Nat.zero_le _) hij (by omega)
      rw [ltSp] at this
      simp [hi, hj] at this ⊢
      exact this
end Go.Proofs.YtilahcnpjbnjiaaGreatDoor
