/- The walk's laws inside a fence, for loops over iterators. -/
import Derived.RangeFuncNested
import Derived.RangeFuncBound
import Derived.RangeFuncCalls
import Derived.RangeFuncLeaves
import Derived.RangeFuncBox
import Derived.Shelf.Abstract
import Derived.Shelf.RegionOpen
import Derived.WalkKit
import Derived.OwnWalkIn
import Derived.TacticsInMore
import Derived.LoopNIn
import Derived.LoopIn
import Derived.Maps.OwnIn
import Derived.StillTailTactics
import Derived.Test.YtilahcnpjbnjiaaDoorBase
namespace Go.Proofs.YtilahcnpjbnjiaaDoor
set_option linter.unusedVariables false
set_option linter.unusedSimpArgs false
open Go.RowKit Go.Shelf Go.Proofs

abbrev FW : Fence := Fence.wide

/-- onto a row of the call's own what a block just made holds -/
theorem wpListIn_app {F : Fence} {nF : Nat} {P : Program} {w : World} {ops : Array Oper} {rest : List Oper} {o : Oper} {a : Act} {Q : Exit → Act → World → Prop} {t e : TypeId} {size bytes : Nat} (hE : ElemOk P t e size bytes) (hgd : o.guard = none) (s x : Operand)
    (ho : o.op = .call { callee := .builtin .append, args := #[s, x], argTypes := #[t, t] })
    (base : Nat) (v : Value) (n : Nat) (xs : List Value) (hs : a.eval s = v) (hown : w.ownsRow base e size v n xs)
    (m c : Nat) (news : List Value) (hx : a.eval x = .slice (some ⟨w.heap.size, 0, none⟩) m c) (hl : news.length = m * size) (h1 : ∀ u ∈ news, u.oneCell' = true)
    (hsm : n + m ≤ 1099511627776) (hbase : base ≤ w.heap.size)
    (h : ∀ v' w', w'.ownsRow base e size v' (n + m) (xs ++ news) → (w.alloc (.cells news.toArray e)).grownBy w' v.ownBlock → Below base w w' → (v'.ownBlock = v.ownBlock ∨ v'.ownBlock = some (w.heap.size + 1)) → wpListIn F nF P ops Q rest (a.put o.dst v') w') :
    wpListIn F nF P ops Q (o :: rest) a (w.alloc (.cells news.toArray e)) := by
  obtain ⟨ht, hb, hsz, i, z, hi, hz, hsize, hby, hzs⟩ := hE
  refine wpListIn_append_own_at _ hgd s x t ho base e i z size bytes ht hi hz hsize hby hzs hsz v n xs hs (hown.alloc _) ⟨w.heap.size, 0, none⟩ m c news hx hl (cell_new_list w news e) h1 (by unfold maxLen; omega) (size_bytes hsm hb) (by simp; omega) ?_
  intro v' w' h2 h3 _ h5
  exact h v' w' h2 h3 (((Below.refl _ _).alloc hbase _).trans (below_grown (Below.refl _ _) h3 (hown.alloc _) (Nat.le_refl _) (by simp; omega))) (by simpa using h5)

/-- a block known whole -/
def Blk (w : World) (g : Nat) (t : TypeId) (cs : Array Value) : Prop := w.heap[g]? = some (.cells cs t (0, 0))
theorem Blk.lt {w : World} {g : Nat} {t : TypeId} {cs : Array Value} (h : Blk w g t cs) : g < w.heap.size := (Array.getElem?_eq_some_iff.1 h).1
theorem Blk.cell {w : World} {g : Nat} {t : TypeId} {cs : Array Value} (h : Blk w g t cs) (i : Nat) : w.cell? ⟨g, i, none⟩ = cs[i]? := cell_of_row w g i cs t (0, 0) h
theorem Blk.kept {W W' : World} {row : Option Nat} {B : Nat} {t : TypeId} {cs : Array Value} (h : Blk W B t cs) (hg : W.grownBy W' row) (hne : some B ≠ row) : Blk W' B t cs := (hg.block B h.lt hne).trans h
theorem Blk.new (w : World) (t : TypeId) (cs : Array Value) : Blk (w.alloc (.cells cs t)) w.heap.size t cs := World.alloc_heap_new w _
theorem Blk.own {W W' : World} {row : Option Nat} {B : Nat} {t : TypeId} {cs : Array Value} (h : Blk W B t cs) (hg : W.grownBy W' row) (hr : ∀ r, row = some r → ∃ o : Obj, W.heap[r]? = some o ∧ o.isCells = false) : Blk W' B t cs :=
  h.kept hg fun e => by obtain ⟨o, ho, hc⟩ := hr B e.symm; rw [show W.heap[B]? = _ from h] at ho; cases ho; cases hc

/-! ## a region that draws its order, in a round: the plain laws serve -/
def noDefer (ops : Array Oper) : Bool := ops.all fun o => match o.op with | .defer _ => false | _ => true
theorem noDefer_spec {ops : Array Oper} (h : noDefer ops = true) {i : Nat} {o : Oper} (ho : ops[i]? = some o) : ∀ c, o.op ≠ .defer c := by
  intro c hc
  unfold noDefer at h
  rw [Array.all_eq_true] at h
  have hi := (Array.getElem?_eq_some_iff.1 ho)
  have := h i hi.1
  rw [hi.2, hc] at this
  cases this

section
variable {P : Program} {ops : Array Oper} {Q : Exit → Act → World → Prop} {md : Region.Mode} {l n : Nat}
theorem wpInRound_of_wp {o : Oper} {a : Act} {w : World} {K K' : Act → World → Prop} (hnd : ∀ c, o.op ≠ .defer c) (hK : ∀ a w, K a w → K' a w) (h : o.wp P a w K Q) : o.wpIn (FW.inRound l) n P a w K' Q := by
  refine ⟨fun _ _ => trivial, ?_⟩
  rw [Oper.semAt_eq _ _ _ hnd]
  unfold Oper.wp at h
  generalize (execOp a.eval o).run P w = r at h
  cases r with
  | ok x w' =>
    cases x with
    | value v => exact hK _ _ h
    | skip => exact hK _ _ h
    | defer d => exact hK _ _ h
    | enter f args => exact ⟨(fun e => by cases e), CallsIn.inRound l (callsIn_wide.2 (Calls.mono h (fun e w'' he => by cases e <;> first | exact hK _ _ he | exact he)))⟩
    | row row args =>
      refine ⟨(fun e => by cases e), ?_⟩
      have h' : Rows P row args w' fun v w'' => K (a.put o.dst v) w'' := h
      intro c cs _
      obtain ⟨v, w'', hv, hs⟩ := h' c cs
      exact ⟨v, w'', hK _ _ hv, stepsIn_wide.2 hs⟩
    | _ => exact absurd h (by simp [Oper.upon])
  | halt x w' => cases x <;> exact h

theorem wpAnyInRound (hnd : noDefer ops = true) (hQ : ¬ LetsOut Q) : ∀ (fuel : Nat) (listed : Array Bool) (a : Act) (w : World), wpAny P md ops Q fuel listed a w → wpAnyIn (FW.inRound l) n P md ops Q fuel listed a w
  | 0, _, _, _, h => h
  | fuel + 1, listed, a, w, h => by
    refine ⟨h.1, fun i hi => ?_⟩
    have h2 := h.2 i hi
    unfold wpOp at h2
    unfold wpOpIn
    cases ho : ops[i]? with
    | none => rw [ho] at h2; exact wpAnyInRound hnd hQ fuel _ _ _ h2
    | some o =>
      rw [ho] at h2
      simp only at h2 ⊢
      split
      · rename_i hw
        rw [if_pos hw] at h2
        rcases h2 with h2 | h2
        · exact wpInRound_of_wp (noDefer_spec hnd ho) (fun a w h => wpAnyInRound hnd hQ fuel _ _ _ h) h2
        · exact absurd h2.2 hQ
      · rename_i hw
        rw [if_neg hw] at h2
        exact ⟨fun _ _ => trivial, wpAnyInRound hnd hQ fuel _ _ _ h2⟩

theorem wpInRound_any {id : Nat} {a : Act} {w : World} (hm : P.follows .mixedOrders = true) (hnd : noDefer ops = true) (hQ : ¬ LetsOut Q)
    (h : wpAny P .any ops Q ops.size (Array.replicate ops.size false) a { w with drawn := w.drawn + 1 }) : (Code.region id ops true).wpIn (FW.inRound l) n P Q a w :=
  wpIn_region_any hm (wpAnyInRound hnd hQ _ _ _ _ h)

/-- what reads only -/
theorem wpInRound_quiet {id : Nat} {a : Act} {w : World} {ol : List Oper} (hm : P.follows .mixedOrders = true) (hB : Region.lexB .any ol.toArray = true) (hnd : noDefer ol.toArray = true) (hQ : ¬ LetsOut Q)
    (h : wpQuiet P ol.toArray (fun w' => ∃ n, w' = w.drewN n) (fun a' => ∀ w', (∃ n, w' = w.drewN n) → Q .normal a' w') ol a) : (Code.region id ol.toArray true).wpIn (FW.inRound l) n P Q a w := by
  simp only [Region.lexB, Bool.and_eq_true] at hB
  refine wpInRound_any hm hnd hQ (wpAny_of_quiet (C := fun w' => ∃ n, w' = w.drewN n) (Q := fun a' => ∀ w', (∃ n, w' = w.drewN n) → Q .normal a' w') (fun _ w' hw' h => h w' hw') _ _ _ _ ⟨1, rfl⟩ ?_)
  have := wpAnyQ_lex (C := fun w' => ∃ n, w' = w.drewN n) (md := .any) hB.1 ol 0 (Array.replicate ol.toArray.size false) a (by simp) (by simpa using hB.2) h
  simpa using this

/-- what reads, and then writes, in one forced order -/
theorem wpInRound_still_tail {id : Nat} {a : Act} {w : World} {ol : List Oper} (k : Nat) (hm : P.follows .mixedOrders = true) (hB : Region.lexTailB .any ol.toArray k = true) (hnd : noDefer ol.toArray = true) (hQ : ¬ LetsOut Q)
    (h : wpStill P ol.toArray w.drew (fun a' => wpList P ol.toArray Q (ol.drop k) a' w.drew) (ol.take k) a) : (Code.region id ol.toArray true).wpIn (FW.inRound l) n P Q a w := by
  simp only [Region.lexTailB, Bool.and_eq_true, decide_eq_true_eq] at hB
  obtain ⟨⟨⟨⟨hsel, hn⟩, hs⟩, hc⟩, hlex⟩ := hB
  have hn' : k < ol.length := by simpa using hn
  have htl : (ol.take k).length = k := by simp; omega
  have hdl : (ol.drop k).length = ol.toArray.size - k := by simp
  have inv0 : HeadInv .any ol.toArray k (Array.replicate ol.toArray.size false) :=
    ⟨by simp, fun j oj _ hl => (by rw [getD_replicate_false] at hl; cases hl), fun t _ ht => getD_in (by simpa using ht) (getD_replicate_false _ _)⟩
  have H := wpAnyL_lex (md := .any) (g := ol.toArray.size - k) hsel hs hc hn (ol.take k) 0 _ a (fun j hj => by
    have hj' : j < k := by rw [htl] at hj; exact hj
    simp [hj']) (by simpa using htl) inv0 (by rw [htl]; exact hlex) h
  refine wpInRound_any hm hnd hQ ?_
  have := wpAny_of_head (Q' := Q) (g := ol.toArray.size - k) (fun listed a' hL => by
    have := wpAny_of_seq (md := .any) (Q' := Q) (ol.drop k) k listed a' { w with drawn := w.drawn + 1 } (fun j => by simp [List.getElem?_drop]) (by rw [hdl]; exact hL.1) hL.2
    rwa [hdl] at this) _ _ _ H
  rw [htl, show k + (ol.toArray.size - k) = ol.toArray.size by omega] at this
  exact this
end

/-! ## what a loop's body keeps of an iterator's own memory -/
/-- Kp: what a round keeps; Safe W g: block g is none of the body's -/
structure Keeps (Kp : World → World → Prop) (Safe : World → Nat → Prop) : Prop where
  size : ∀ {A B : World}, Kp A B → A.heap.size ≤ B.heap.size
  safe : ∀ {A B : World} {g : Nat}, Kp A B → Safe A g → Safe B g
  same : ∀ {A B : World} {g : Nat} {c : Array Value} {t : TypeId} {f : Nat × Nat}, Kp A B → Safe A g → A.heap[g]? = some (.cells c t f) → B.heap[g]? = some (.cells c t f)
  grow : ∀ {A B : World} {g : Nat}, Below A.heap.size A B → Safe A g → Safe B g
/-- whatever is new behind W is safe -/
def Fresh (Safe : World → Nat → Prop) (W : World) : Prop := ∀ W2, Below W.heap.size W W2 → ∀ g, W.heap.size ≤ g → g < W2.heap.size → Safe W2 g

theorem Keeps.below (n₀ : Nat) : Keeps (Below n₀) (fun _ g => g < n₀) :=
  ⟨fun h => h.size, fun _ h => h, fun h hg hc => (h.block _ hg).trans hc, fun _ h => h⟩

theorem RdP.keeps {α : Type} {A B : World} {k : Nat} {enc : α → List Value} {p : Option Addr} {xs : List α} {Kp : World → World → Prop} {Safe : World → Nat → Prop} (K : Keeps Kp Safe) (h : RdP A k enc p xs) (hs : ∀ a, p = some a → Safe A a.block) (hk : Kp A B) : RdP B k enc p xs := by
  refine ⟨h.1, fun a ha => ?_⟩
  obtain ⟨h6, h7, h8⟩ := h.2 a ha
  refine ⟨h6, Nat.lt_of_lt_of_le h7 (K.size hk), fun i x hx j u hu => ?_⟩
  have hc := h8 i x hx j u hu
  rw [← hc]
  unfold World.cell? at hc ⊢
  cases hh : A.heap[a.block]? with
  | none => rw [hh] at hc; cases hc
  | some o =>
    cases o with
    | cells c t f => rw [K.same hk (hs a ha) hh]
    | _ => rw [hh] at hc; cases hc

/-- the first block that a body's own row may lie in: the row of the slice in box B0; all is free if there is none -/
def nOf (B0 : Nat) (W : World) : Nat := match W.cell? ⟨B0, 0, none⟩ with | some (.slice (some a) _ _) => a.block | _ => W.heap.size
/-- a body that appends to the slice in box B0 -/
def KpOut (B0 : Nat) (A B : World) : Prop :=
  A.heap.size ≤ B.heap.size ∧ nOf B0 A ≤ nOf B0 B ∧ ∀ g c t f, g < nOf B0 A → g ≠ B0 → A.heap[g]? = some (.cells c t f) → B.heap[g]? = some (.cells c t f)
def SafeOut (B0 : Nat) (W : World) (g : Nat) : Prop := B0 < W.heap.size ∧ g < nOf B0 W ∧ g ≠ B0

theorem nOf_same {B0 : Nat} {A B : World} (h : B.cell? ⟨B0, 0, none⟩ = A.cell? ⟨B0, 0, none⟩) (hs : A.heap.size ≤ B.heap.size) : nOf B0 A ≤ nOf B0 B := by
  unfold nOf
  rw [h]
  split
  · exact Nat.le_refl _
  · exact hs
theorem Keeps.out (B0 : Nat) : Keeps (KpOut B0) (SafeOut B0) := by
  refine ⟨fun h => h.1, fun h hs => ⟨Nat.lt_of_lt_of_le hs.1 h.1, Nat.lt_of_lt_of_le hs.2.1 h.2.1, hs.2.2⟩, fun h hs hc => h.2.2 _ _ _ _ hs.2.1 hs.2.2 hc, fun h hs => ⟨Nat.lt_of_lt_of_le hs.1 h.size, Nat.lt_of_lt_of_le hs.2.1 (nOf_same (h.cell (p := ⟨B0, 0, none⟩) hs.1) h.size), hs.2.2⟩⟩
theorem KpOut.trans {B0 : Nat} {A B C : World} (h : KpOut B0 A B) (k : KpOut B0 B C) : KpOut B0 A C :=
  ⟨Nat.le_trans h.1 k.1, Nat.le_trans h.2.1 k.2.1, fun g c t f hg hne hc => k.2.2 g c t f (Nat.lt_of_lt_of_le hg h.2.1) hne (h.2.2 g c t f hg hne hc)⟩
theorem KpOut.putObj {B0 : Nat} {W : World} (l : Nat) (o o' : Obj) (hl : B0 < l) (ho : W.heap[l]? = some o) (hc : o.isCells = false) : KpOut B0 W (W.putObj l o') := by
  have hg := grownBy_putObj' W l o'
  have hcell : (W.putObj l o').cell? ⟨B0, 0, none⟩ = W.cell? ⟨B0, 0, none⟩ := by
    by_cases hb : B0 < W.heap.size
    · exact World.cell?_of_block (hg.block B0 hb (by simp; omega))
    · have := (Array.getElem?_eq_some_iff.1 ho).1; omega
  refine ⟨hg.size, nOf_same hcell hg.size, fun g c t f hgl _ hcc => ?_⟩
  rw [hg.block g (Array.getElem?_eq_some_iff.1 hcc).1 (fun e => by cases e; rw [ho] at hcc; cases hcc; cases hc)]
  exact hcc
theorem nOf_some {B0 : Nat} {W : World} {t : TypeId} {a : Addr} {n c : Nat} (h : Boxed W B0 t (.slice (some a) n c)) : nOf B0 W = a.block := by
  unfold nOf; rw [h.cell]
theorem nOf_none {B0 : Nat} {W : World} {t : TypeId} {n c : Nat} (h : Boxed W B0 t (.slice none n c)) : nOf B0 W = W.heap.size := by
  unfold nOf; rw [h.cell]
/-- the row grows, its slice goes back into the box -/
theorem KpOut.appended {B0 : Nat} {W w1 : World} {t e : TypeId} {v : Value} {base k n n' g' c' : Nat} {xs : List Value} {tmp : Obj} (hv : Boxed W B0 t v) (hown : W.ownsRow base e k v n xs)
    (hg : (W.alloc tmp).grownBy w1 v.ownBlock) (hat : Value.ownBlock (.slice (some ⟨g', 0, none⟩) n' c') = v.ownBlock ∨ Value.ownBlock (.slice (some ⟨g', 0, none⟩) n' c') = some (W.heap.size + 1)) (hne : some B0 ≠ v.ownBlock) :
    KpOut B0 W (w1.setCell ⟨B0, 0, none⟩ (.slice (some ⟨g', 0, none⟩) n' c')) := by
  have hs1 := hg.size
  simp at hs1
  have hb1 : Boxed w1 B0 t v := (hv.alloc tmp).kept hg hne
  have hb2 : Boxed (w1.setCell ⟨B0, 0, none⟩ (.slice (some ⟨g', 0, none⟩) n' c')) B0 t (.slice (some ⟨g', 0, none⟩) n' c') := hb1.set _
  have hn2 : nOf B0 (w1.setCell ⟨B0, 0, none⟩ (.slice (some ⟨g', 0, none⟩) n' c')) = g' := nOf_some hb2
  have hcase : nOf B0 W ≤ g' ∧ ∀ j, j < nOf B0 W → some j ≠ v.ownBlock := by
    rcases hown.2 with ⟨rfl, _⟩ | ⟨g, cap, cur, rfl, _, hgg, _⟩
    · rw [nOf_none hv]
      simp [Value.ownBlock] at hat ⊢
      omega
    · have hgl := (Array.getElem?_eq_some_iff.1 hgg).1
      rw [nOf_some hv]
      simp [Value.ownBlock] at hat ⊢
      refine ⟨by omega, fun j hj => by omega⟩
  refine ⟨by simp [World.setCell]; omega, by rw [hn2]; exact hcase.1, fun j c ty f hj hjB hc => ?_⟩
  have hjl := (Array.getElem?_eq_some_iff.1 hc).1
  rw [Below.heap_setCell _ _ _ _ hjB, hg.block j (by simp; omega) (hcase.2 j hj), Below.heap_alloc W tmp j hjl]
  exact hc
/-- a cell of the row is written -/
theorem KpOut.setRow {B0 : Nat} {W : World} {t : TypeId} {g n c : Nat} (hv : Boxed W B0 t (.slice (some ⟨g, 0, none⟩) n c)) (hne : B0 ≠ g) (i : Nat) (u : Value) : KpOut B0 W (W.setCell ⟨g, i, none⟩ u) := by
  have hcell : (W.setCell ⟨g, i, none⟩ u).cell? ⟨B0, 0, none⟩ = W.cell? ⟨B0, 0, none⟩ := World.cell?_setCell_other _ _ _ _ (by simp only [ne_eq, Addr.mk.injEq]; omega)
  refine ⟨by simp [World.setCell], nOf_same hcell (by simp [World.setCell]), fun j c' ty f hj hjB hc => ?_⟩
  rw [nOf_some hv] at hj
  simp at hj
  rw [Below.heap_setCell _ _ _ _ (by simp; omega)]
  exact hc
theorem KpOut.of_below {B0 : Nat} {W W' : World} (h : B0 < W.heap.size) (hb : Below W.heap.size W W') : KpOut B0 W W' :=
  ⟨hb.size, nOf_same (hb.cell (p := ⟨B0, 0, none⟩) h) hb.size, fun j _ _ _ _ _ hc => (hb.block j (Array.getElem?_eq_some_iff.1 hc).1).trans hc⟩
theorem KpOut.of_drewN {B0 : Nat} {W : World} (n : Nat) : KpOut B0 W (W.drewN n) := ⟨Nat.le_refl _, Nat.le_refl _, fun _ _ _ _ _ _ h => h⟩
theorem KpOut.of_drew {B0 : Nat} {W : World} : KpOut B0 W W.drew := ⟨Nat.le_refl _, Nat.le_refl _, fun _ _ _ _ _ _ h => h⟩
theorem fresh_out {B0 : Nat} {W : World} {n c : Nat} (h : W.cell? ⟨B0, 0, none⟩ = some (.slice none n c)) : Fresh (SafeOut B0) W := by
  intro W2 hb g hg hg2
  have hB : B0 < W.heap.size := World.block_lt_of_cell? W _ h
  refine ⟨Nat.lt_of_lt_of_le hB hb.size, ?_, by omega⟩
  unfold nOf
  rw [(hb.cell (p := ⟨B0, 0, none⟩) hB).trans h]
  exact hg2

end Go.Proofs.YtilahcnpjbnjiaaDoor
