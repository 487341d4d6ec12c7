/- The library's searches over blocks, with the closures of the space package. -/
import Derived.Test.YtilahcnpjbnjiaaGreatDoorSpcDel
import Derived.Test.YtilahcnpjbnjiaaGreatDoorMSpan
namespace Go.Proofs.YtilahcnpjbnjiaaGreatDoor
set_option linter.unusedVariables false
set_option linter.unusedSimpArgs false
open Go.RowKit Go.Shelf Go.Proofs

instance : Inhabited Sp.Bk := ⟨⟨(0, 0), 0, 0⟩⟩
theorem cloneBk_any (l : List Sp.Bk) (hl : l.length ≤ 1073741824) (v : Value) (w : World) (hv : SlR w 4 encBk v l) :
    Calls Tryz.prog 66 #[v] w (RetRow w.heap.size 99 4 l.length (flat encBk l) w) := by
  obtain ⟨p, cap, rfl, hc1, hc2, hR⟩ := hv
  cases p with
  | none =>
    have h0 := hR.1 rfl
    have hl0 : l = [] := List.eq_nil_of_length_eq_zero h0
    subst hl0
    have hcon := AnyE.slices_Clone_nil Tryz.cloneBk 0 cap w
    change Calls Tryz.prog 66 _ _ _ at hcon
    refine hcon.mono ?_
    rintro e w' ⟨rfl, rfl⟩
    exact ⟨_, rfl, World.ownsRow_nil _ _ _ _, Below.refl _ _⟩
  | some a =>
    obtain ⟨hsp, _, _⟩ := hR.2 a rfl
    obtain ⟨_, _, _, i0, z, hi, hz, hsz, hby, hzs⟩ := elemBk
    have hcon := AnyE.slices_Clone Tryz.cloneBk i0 z 4 32 hi hz hsz hby hzs (by omega) Tryz.sizeOf99 a.block a.off l.length cap (flat encBk l) w (flat_length encBk_len l) (by unfold maxLen; omega) (by omega) (hR.cells encBk_len (by omega)) (flat_one encBk_one l)
    change Calls Tryz.prog 66 _ _ _ at hcon
    have ha : a = ⟨a.block, a.off, none⟩ := by cases a; simp_all
    rw [ha]
    refine hcon.mono ?_
    rintro e w' ⟨v', rfl, ho, _, hb⟩
    exact ⟨v', rfl, ho, hb⟩
/-- the first place, or -1 -/
def findN {α : Type} (q : α → Bool) (l : List α) : Int := match l.findIdx? q with | some i => (i : Int) | none => -1
theorem idx_find {α : Type} [Inhabited α] (q : α → Bool) (d : α) : ∀ (l : List α) (i : Nat), Lib.idxByFrom (fun _ y => q y) d l i = match l.findIdx? q with | some k => ((i + k : Nat) : Int) | none => -1
  | [], i => by simp [Lib.idxByFrom]
  | y :: r, i => by
    have ih := idx_find q d r (i + 1)
    unfold Lib.idxByFrom
    rw [List.findIdx?_cons]
    by_cases h : q y = true
    · simp [h]
    · rw [if_neg h, if_neg h, ih]
      cases r.findIdx? q with
      | none => rfl
      | some k =>
        show ((i + 1 + k : Nat) : Int) = ((i + (k + 1) : Nat) : Int)
        congr 1
        omega
/-! ## the closures -/
set_option maxHeartbeats 1000000 in
theorem put_closure (x y : Sp.Bk) (W : World) : Calls Tryz.prog 84 #[.agg (encBk x).toArray, .agg (encBk y).toArray] W fun e w' => e = .returned (.int .i64 (Lib.compareInt x.sp.1 y.sp.1)) ∧ Below W.heap.size W w' := by
  obtain ⟨⟨x1, x2⟩, xo, xa⟩ := x
  obtain ⟨⟨y1, y2⟩, yo, ya⟩ := y
  have hcon := fun W' => AnyG.cmp_Compare_int Tryz.cmpInt x1 y1 W'
  change ∀ W', Calls Tryz.prog 85 _ _ _ at hcon
  simp only [encBk]
  generalize Lib.compareInt x1 y1 = r at hcon ⊢
  go_enter Tryz.func84, Tryz.ntmps84
  go_wp2_with (go_at_call 85; refine (hcon _).mono ?_; rintro e w' ⟨rfl, rfl⟩)
  go_ret
  exact ⟨rfl, ((Below.refl _ _).alloc (Nat.le_refl _) _).alloc (by simp) _⟩
end Go.Proofs.YtilahcnpjbnjiaaGreatDoor
