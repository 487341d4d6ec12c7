/- The library's searches over blocks, with the closures of the space package. -/
import Derived.Test.YtbeombmblifohaaSpcDel
import Derived.Test.YtbeombmblifohaaSpansFns2
import Derived.Test.YtbeombmblifohaaSpansCut
namespace Go.Proofs.Ytbeombmblifohaa
set_option linter.unusedVariables false
set_option linter.unusedSimpArgs false
open Go.RowKit Go.Shelf Go.Proofs

instance : Inhabited Sp.Bk := ⟨⟨(0, 0), 0, 0⟩⟩
theorem cloneBk_any (l : List Sp.Bk) (hl : l.length ≤ 1073741824) (v : Value) (w : World) (hv : SlR w 4 encBk v l) :
    Calls Try.prog 36 #[v] w (RetRow w.heap.size 47 4 l.length (flat encBk l) w) := by
  obtain ⟨p, cap, rfl, hc1, hc2, hR⟩ := hv
  cases p with
  | none =>
    have h0 := hR.1 rfl
    have hl0 : l = [] := List.eq_nil_of_length_eq_zero h0
    subst hl0
    have hcon := AnyE.slices_Clone_nil Try.cloneBk 0 cap w
    change Calls Try.prog 36 _ _ _ at hcon
    refine hcon.mono ?_
    rintro e w' ⟨rfl, rfl⟩
    exact ⟨_, rfl, World.ownsRow_nil _ _ _ _, Below.refl _ _⟩
  | some a =>
    obtain ⟨hsp, _, _⟩ := hR.2 a rfl
    obtain ⟨_, _, _, i0, z, hi, hz, hsz, hby, hzs⟩ := elemBk
    have hcon := AnyE.slices_Clone Try.cloneBk i0 z 4 32 hi hz hsz hby hzs (by omega) Try.sizeOf47 a.block a.off l.length cap (flat encBk l) w (flat_length encBk_len l) (by unfold maxLen; omega) (by omega) (hR.cells encBk_len (by omega)) (flat_one encBk_one l)
    change Calls Try.prog 36 _ _ _ at hcon
    have ha : a = ⟨a.block, a.off, none⟩ := by cases a; simp_all
    rw [ha]
    refine hcon.mono ?_
    rintro e w' ⟨v', rfl, ho, _, hb⟩
    exact ⟨v', rfl, ho, hb⟩
/-- the first place, or -1 -/
def findN {α : Type} (q : α → Bool) (l : List α) : Int := match l.findIdx? q with | some i => (i : Int) | none => -1
theorem idx_find {α : Type} [Inhabited α] (q : α → Bool) (d : α) : ∀ (l : List α) (i : Nat), Lib.idxByFrom (fun _ y => q y) d l i = match l.findIdx? q with | some k => ((i + k : Nat) : Int) | none => -1
  | [], i => by simp [Lib.idxByFrom]
  | y :: r, i => by
    have ih := idx_find q d r (i + 1)
    unfold Lib.idxByFrom
    rw [List.findIdx?_cons]
    by_cases h : q y = true
    · simp [h]
    · rw [if_neg h, if_neg h, ih]
      cases r.findIdx? q with
      | none => rfl
      | some k =>
        show ((i + 1 + k : Nat) : Int) = ((i + (k + 1) : Nat) : Int)
        congr 1
        omega
theorem indexBk_none (p : Option Addr) (cap : Nat) (fv : Value) (w : World) :
    Calls Try.prog 43 #[.slice p 0 cap, fv] w fun e w' => e = .returned (.int .i64 (-1)) ∧ Below w.heap.size w w' := by
  go_enter Try.func43, Try.ntmps43
  go_wp2
  refine wp_loop_rounds 1 ?_
  rw [rounds_succ]
  go_wp2
  go_ret
  exact ⟨rfl, Below.refl _ _⟩
theorem containsBk_none (p : Option Addr) (cap : Nat) (fv : Value) (w : World) :
    Calls Try.prog 50 #[.slice p 0 cap, fv] w fun e w' => e = .returned (.bool false) ∧ Below w.heap.size w w' := by
  go_enter Try.func50, Try.ntmps50
  go_wp2_with (go_at_call 43; refine (indexBk_none p cap fv _).mono ?_; rintro e w' ⟨rfl, hb⟩)
  go_ret
  exact ⟨rfl, hb⟩
theorem containsBk_any (g : Nat) (lb : Array Value) (q : Sp.Bk → Bool) (l : List Sp.Bk) (hl : l.length ≤ 1073741824) (v : Value) (w : World) (hv : SlR w 4 encBk v l) (eg : ∀ args w, (callFunc g args).run Try.prog w = .ok (.enter g args) w)
    (hq : ∀ (W : World) (x : Sp.Bk), Below w.heap.size w W → Calls Try.prog g (#[.agg (encBk x).toArray] ++ lb) W fun e w' => e = .returned (.bool (q x)) ∧ Below W.heap.size W w') :
    Calls Try.prog 50 #[v, .func (.func g) #[] lb] w fun e w' => e = .returned (.bool (l.any q)) ∧ Below w.heap.size w w' := by
  obtain ⟨p, cap, rfl, hc1, hc2, hR⟩ := hv
  cases p with
  | none =>
    have h0 := hR.1 rfl
    have hl0 : l = [] := List.eq_nil_of_length_eq_zero h0
    subst hl0
    exact containsBk_none none cap _ w
  | some a =>
    obtain ⟨hsp, hbk, hcell⟩ := hR.2 a rfl
    have ha : a = ⟨a.block, a.off, none⟩ := by cases a; simp_all
    have hcon := AnyQ.slices_ContainsFunc Try.containsBk 4 Try.isAgg47 Try.sizeOf47 encBk (fun _ => rfl) q g lb eg a.block a.off l.length cap l w
      (fun W x hW => (hq W x hW).mono fun e w' ⟨he, hb⟩ => ⟨he, hW.trans (hb.mono hW.size)⟩) (Nat.le_refl _) (by omega) hbk
      (fun j hj i v hv => hcell j l[j]! (by simp [hj]) i v hv)
    change Calls Try.prog 50 _ _ _ at hcon
    rw [ha]
    rw [List.take_length] at hcon
    exact hcon
theorem indexBk_any (g : Nat) (lb : Array Value) (q : Sp.Bk → Bool) (l : List Sp.Bk) (hl : l.length ≤ 1073741824) (v : Value) (w : World) (hv : SlR w 4 encBk v l) (eg : ∀ args w, (callFunc g args).run Try.prog w = .ok (.enter g args) w)
    (hq : ∀ (W : World) (x : Sp.Bk), Below w.heap.size w W → Calls Try.prog g (#[.agg (encBk x).toArray] ++ lb) W fun e w' => e = .returned (.bool (q x)) ∧ Below W.heap.size W w') :
    Calls Try.prog 43 #[v, .func (.func g) #[] lb] w fun e w' => e = .returned (.int .i64 (findN q l)) ∧ Below w.heap.size w w' := by
  obtain ⟨p, cap, rfl, hc1, hc2, hR⟩ := hv
  cases p with
  | none =>
    have h0 := hR.1 rfl
    have hl0 : l = [] := List.eq_nil_of_length_eq_zero h0
    subst hl0
    exact indexBk_none none cap _ w
  | some a =>
    obtain ⟨hsp, hbk, hcell⟩ := hR.2 a rfl
    have ha : a = ⟨a.block, a.off, none⟩ := by cases a; simp_all
    have hcon := AnyQ.slices_IndexFunc Try.indexBk 4 Try.isAgg47 Try.sizeOf47 encBk (fun _ => rfl) q g lb eg a.block a.off l.length cap l w
      (fun W x hW => (hq W x hW).mono fun e w' ⟨he, hb⟩ => ⟨he, hW.trans (hb.mono hW.size)⟩) (Nat.le_refl _) (by omega) hbk
      (fun j hj i v hv => hcell j l[j]! (by simp [hj]) i v hv)
    change Calls Try.prog 43 _ _ _ at hcon
    rw [ha]
    rw [List.take_length] at hcon
    have e : Lib.idxBy (fun _ y => q y) l default = findN q l := by
      unfold Lib.idxBy findN
      rw [idx_find]
      cases l.findIdx? q with
      | none => rfl
      | some k => simp
    rw [e] at hcon
    exact hcon

/-! ## the closures -/
set_option maxHeartbeats 1000000 in
theorem free_closure (a b o : Int) (Bs Bo : Nat) (x : Sp.Bk) (W : World) (h0 : W.cell? ⟨Bs, 0, none⟩ = some (.int .i64 a)) (h1 : W.cell? ⟨Bs, 1, none⟩ = some (.int .i64 b)) (h2 : W.cell? ⟨Bo, 0, none⟩ = some (.int .i64 o)) :
    Calls Try.prog 44 #[.agg (encBk x).toArray, .pointer (some ⟨Bs, 0, none⟩), .pointer (some ⟨Bo, 0, none⟩)] W fun e w' => e = .returned (.bool (Sp.isB (a, b) o x)) ∧ Below W.heap.size W w' := by
  obtain ⟨⟨x1, x2⟩, xo, xa⟩ := x
  have hbs : Bs < W.heap.size := World.block_lt_of_cell? W _ h0
  have hbo : Bo < W.heap.size := World.block_lt_of_cell? W _ h2
  have hr : Hid (Sp.isB (a, b) o ⟨(x1, x2), xo, xa⟩ = (decide (((x1, x2) : Sp.S) = (a, b)) && decide (xo = o))) := Lib.hid rfl
  have hb : ∀ o n, Below W.heap.size W ((W.alloc o).drewN n) := fun o n => below_drewN ((Below.refl _ _).alloc (Nat.le_refl _) _) n
  simp only [encBk]
  go_enter Try.func44, Try.ntmps44
  go_wp2_with fail
  all_goals go_ret
  all_goals refine ⟨?_, hb _ 0⟩
  all_goals rw [hr.out]
  all_goals (clear h0 h1 h2 hb hr; simp_all [Bool.beq_eq_decide_eq])
theorem close_closure (k : Int) (Bk : Nat) (x : Sp.Bk) (W : World) (h0 : W.cell? ⟨Bk, 0, none⟩ = some (.int .i64 k)) :
    Calls Try.prog 51 #[.agg (encBk x).toArray, .pointer (some ⟨Bk, 0, none⟩)] W fun e w' => e = .returned (.bool (decide (x.area = k))) ∧ Below W.heap.size W w' := by
  obtain ⟨⟨x1, x2⟩, xo, xa⟩ := x
  have hbs : Bk < W.heap.size := World.block_lt_of_cell? W _ h0
  simp only [encBk]
  go_enter Try.func51, Try.ntmps51
  go_wp2_with fail
  go_ret
  exact ⟨by first | rfl | simp, (Below.refl _ _).alloc (Nat.le_refl _) _⟩
set_option maxHeartbeats 1000000 in
theorem put_closure (x y : Sp.Bk) (W : World) : Calls Try.prog 61 #[.agg (encBk x).toArray, .agg (encBk y).toArray] W fun e w' => e = .returned (.int .i64 (Lib.compareInt x.sp.1 y.sp.1)) ∧ Below W.heap.size W w' := by
  obtain ⟨⟨x1, x2⟩, xo, xa⟩ := x
  obtain ⟨⟨y1, y2⟩, yo, ya⟩ := y
  have hcon := fun W' => AnyG.cmp_Compare_int Try.cmpInt x1 y1 W'
  change ∀ W', Calls Try.prog 62 _ _ _ at hcon
  simp only [encBk]
  generalize Lib.compareInt x1 y1 = r at hcon ⊢
  go_enter Try.func61, Try.ntmps61
  go_wp2_with (go_at_call 62; refine (hcon _).mono ?_; rintro e w' ⟨rfl, rfl⟩)
  go_ret
  exact ⟨rfl, ((Below.refl _ _).alloc (Nat.le_refl _) _).alloc (by simp) _⟩
end Go.Proofs.Ytbeombmblifohaa
