import Derived.Test.YtilahcnpjbnjiaaGreatDoorProg
import Derived.WalkKit
import Derived.Deep.QuietTactic
import Derived.BigQuiet
import Derived.Lib.Hide
import Derived.Maps.AppendAt
import Derived.Deep.RegionHeld3
import Derived.StillTailTactics
import Derived.RangeFuncNested
import Derived.RangeFuncBound
import Derived.RangeFuncCalls
import Derived.RangeFuncLeaves
import Derived.RangeFuncBox
import Derived.Shelf.Abstract
import Derived.Shelf.RegionOpen
import Derived.OwnWalkIn
import Derived.TacticsInMore
import Derived.LoopNIn
import Derived.LoopIn
import Derived.Maps.OwnIn
import Derived.Laws.Rows
import Derived.Laws.Tables
import Derived.Laws.CopyOwn
import Derived.Lib.OthersKept
import Derived.Lib.AppendZerosOnto
import Derived.Lib.Overlaps
import Derived.Laws.CopyRow
import Derived.OrdersHeld
import Derived.Deep.RegionHeld
/- What a slice value reads as in a world; small facts for the walks. -/
namespace Go.Proofs.YtilahcnpjbnjiaaGreatDoor
set_option linter.unusedVariables false
set_option linter.unusedSimpArgs false
open Go.RowKit

/-- from the pointer p on lie the elements xs, k cells each -/
def RdP {α : Type} (w : World) (k : Nat) (enc : α → List Value) (p : Option Addr) (xs : List α) : Prop :=
  (p = none → xs.length = 0) ∧ ∀ a, p = some a → a.spot = none ∧ a.block < w.heap.size ∧ ∀ i x, xs[i]? = some x → ∀ j u, (enc x)[j]? = some u → w.cell? ⟨a.block, a.off + i * k + j, none⟩ = some u

/-- the slice value v reads as xs -/
def SlR {α : Type} (w : World) (k : Nat) (enc : α → List Value) (v : Value) (xs : List α) : Prop :=
  ∃ (p : Option Addr) (cap : Nat), v = .slice p xs.length cap ∧ xs.length ≤ cap ∧ cap ≤ 9223372036854775807 ∧ RdP w k enc p xs

theorem RdP.below {α : Type} {w w' : World} {k : Nat} {enc : α → List Value} {p : Option Addr} {xs : List α} (h : RdP w k enc p xs) {B : Nat} (hb : Below B w w') (hB : w.heap.size ≤ B) : RdP w' k enc p xs := by
  refine ⟨h.1, fun a ha => ?_⟩
  obtain ⟨h6, h7, h8⟩ := h.2 a ha
  exact ⟨h6, Nat.lt_of_lt_of_le h7 hb.size, fun i x hx j u hu => by rw [← h8 i x hx j u hu]; exact hb.cell (p := ⟨a.block, _, none⟩) (Nat.lt_of_lt_of_le h7 hB)⟩
theorem SlR.below {α : Type} {w w' : World} {k : Nat} {enc : α → List Value} {v : Value} {xs : List α} (h : SlR w k enc v xs) {B : Nat} (hb : Below B w w') (hB : w.heap.size ≤ B) : SlR w' k enc v xs := by
  obtain ⟨p, cap, h1, h2, h3, h4⟩ := h
  exact ⟨p, cap, h1, h2, h3, h4.below hb hB⟩
theorem RdP.grown {α : Type} {w w' : World} {k : Nat} {enc : α → List Value} {p : Option Addr} {xs : List α} (h : RdP w k enc p xs) {row : Option Nat} (hg : w.grownBy w' row) (hr : ∀ a, p = some a → row ≠ some a.block) : RdP w' k enc p xs := by
  refine ⟨h.1, fun a ha => ?_⟩
  obtain ⟨h6, h7, h8⟩ := h.2 a ha
  refine ⟨h6, Nat.lt_of_lt_of_le h7 hg.size, fun i x hx j u hu => hg.cell (h8 i x hx j u hu) (fun e => hr a ha e.symm)⟩
theorem RdP.at {α : Type} {w : World} {k : Nat} {enc : α → List Value} {p : Option Addr} {xs : List α} (h : RdP w k enc p xs) {i : Nat} (hi : i < xs.length) :
    ∃ b off, p = some ⟨b, off, none⟩ ∧ b < w.heap.size ∧ ∀ j u, (enc xs[i])[j]? = some u → w.cell? ⟨b, off + i * k + j, none⟩ = some u := by
  cases p with
  | none => have := h.1 rfl; omega
  | some a =>
    obtain ⟨h6, h7, h8⟩ := h.2 a rfl
    exact ⟨a.block, a.off, by cases a; simp_all, h7, fun j u hu => h8 i _ (List.getElem?_eq_getElem hi) j u hu⟩
theorem RdP.in {α : Type} {w : World} {k : Nat} {enc : α → List Value} {b off : Nat} {xs : List α} (h : RdP w k enc (some ⟨b, off, none⟩) xs) {i : Nat} (hi : i < xs.length) :
    ∀ j u, (enc xs[i])[j]? = some u → w.cell? ⟨b, off + i * k + j, none⟩ = some u := by
  obtain ⟨_, _, h8⟩ := h.2 _ rfl
  exact fun j u hu => h8 i _ (List.getElem?_eq_getElem hi) j u hu
theorem RdP.lt {α : Type} {w : World} {k : Nat} {enc : α → List Value} {a : Addr} {xs : List α} (h : RdP w k enc (some a) xs) : a.block < w.heap.size := (h.2 _ rfl).2.1

/-- the cells of a list of elements -/
def flat {α : Type} (enc : α → List Value) (xs : List α) : List Value := xs.flatMap enc
theorem flat_length {α : Type} {enc : α → List Value} {k : Nat} (hk : ∀ x, (enc x).length = k) (xs : List α) : (flat enc xs).length = xs.length * k := by
  induction xs with
  | nil => simp [flat]
  | cons x r ih => simp only [flat, List.flatMap_cons, List.length_append, hk, List.length_cons] at ih ⊢; rw [ih, Nat.add_mul]; omega
theorem flat_append {α : Type} (enc : α → List Value) (xs ys : List α) : flat enc (xs ++ ys) = flat enc xs ++ flat enc ys := by simp [flat]
theorem flat_at {α : Type} {enc : α → List Value} {k : Nat} (hk : ∀ x, (enc x).length = k) : ∀ {xs : List α} {i : Nat} {x : α}, xs[i]? = some x → ∀ {j : Nat} {u : Value}, (enc x)[j]? = some u → (flat enc xs)[i * k + j]? = some u
  | [], i, x, h, _, _, _ => by simp at h
  | y :: r, 0, x, h, j, u, hu => by
    simp at h; subst h
    have hj : j < (enc y).length := (List.getElem?_eq_some_iff.1 hu).1
    simp only [flat, List.flatMap_cons, Nat.zero_mul, Nat.zero_add]
    rw [List.getElem?_append_left hj]; exact hu
  | y :: r, i + 1, x, h, j, u, hu => by
    have h' : r[i]? = some x := by simpa using h
    have := flat_at hk h' hu
    simp only [flat, List.flatMap_cons] at this ⊢
    rw [List.getElem?_append_right (by rw [hk, Nat.add_mul]; omega), hk, show (i + 1) * k + j - k = i * k + j by rw [Nat.add_mul]; omega]
    exact this

/-- what a call owns reads as what it holds -/
theorem SlR.of_owns {α : Type} {w : World} {k : Nat} {enc : α → List Value} {v : Value} {xs : List α} {base : Nat} {e : TypeId} (hk : ∀ x, (enc x).length = k) (h : w.ownsRow base e k v xs.length (flat enc xs)) : SlR w k enc v xs := by
  rcases h.2 with ⟨rfl, h0⟩ | ⟨g, cap, cur, rfl, hb, hg, hn, hc, hs, ht⟩
  · exact ⟨none, 0, by rw [h0], by omega, by omega, fun _ => h0, fun a ha => by cases ha⟩
  · refine ⟨some ⟨g, 0, none⟩, cap, rfl, hn, by unfold maxLen at hc; omega, (fun e => by cases e), fun a ha => ?_⟩
    cases ha
    refine ⟨rfl, (Array.getElem?_eq_some_iff.1 hg).1, fun i x hx j u hu => ?_⟩
    have := h.cells (g := g) rfl (i * k + j) u (flat_at hk hx hu)
    rw [← this]
    congr 1
    unfold Addr.add
    split
    · rename_i h0; simp [Nat.add_assoc, h0]
    · simp [Nat.add_assoc]

theorem bcell {W w1 : World} (hb : Below W.heap.size W w1) : (∀ b o, b < W.heap.size → w1.cell? ⟨b, o, none⟩ = W.cell? ⟨b, o, none⟩) ∧ (∀ b o, b < W.heap.size → w1.frozen? ⟨b, o, none⟩ = W.frozen? ⟨b, o, none⟩) :=
  ⟨fun b o h => hb.cell (p := ⟨b, o, none⟩) h, fun b o h => hb.frozen (p := ⟨b, o, none⟩) h⟩

theorem below_drewN {B : Nat} {a w : World} (h : Below B a w) (n : Nat) : Below B a (w.drewN n) := ⟨h.os, h.tape, h.output, h.size, h.block⟩

theorem owns_below {w w' : World} {base : Nat} {e : TypeId} {size : Nat} {v : Value} {n : Nat} {xs : List Value} (h : w.ownsRow base e size v n xs) {B : Nat} (hb : Below B w w') (hB : w.heap.size ≤ B) : w'.ownsRow base e size v n xs :=
  h.kept (row := none) ⟨hb.os, hb.tape, hb.output, hb.size, fun k hk _ => hb.block k (Nat.lt_of_lt_of_le hk hB)⟩ (by cases v.ownBlock <;> simp)
theorem owns_base {w : World} {base base' : Nat} {e : TypeId} {size : Nat} {v : Value} {n : Nat} {xs : List Value} (h : w.ownsRow base e size v n xs) (hb : base' ≤ base) : w.ownsRow base' e size v n xs := by
  refine ⟨h.1, ?_⟩
  rcases h.2 with h0 | ⟨g, cap, cur, hv, hg, rest⟩
  · exact .inl h0
  · exact .inr ⟨g, cap, cur, hv, by omega, rest⟩
/-- a block just made of a list of cells -/
theorem cell_new_list (w : World) (l : List Value) (t : TypeId) : ∀ j u, l[j]? = some u → (w.alloc (.cells l.toArray t)).cell? ((⟨w.heap.size, 0, none⟩ : Addr).add j) = some u := by
  intro j u hu
  have hadd : (⟨w.heap.size, 0, none⟩ : Addr).add j = ⟨w.heap.size, j, none⟩ := by unfold Addr.add; split <;> simp_all
  rw [hadd, cell_of_row _ w.heap.size j l.toArray t (0, 0) (heap_alloc_new w _)]
  simpa using hu
theorem below_grown {B : Nat} {a w w' : World} {v : Value} {base : Nat} {e : TypeId} {size n : Nat} {xs : List Value} (h : Below B a w) (hg : w.grownBy w' v.ownBlock) (ho : w.ownsRow base e size v n xs) (hB : B ≤ base) (hs : B ≤ w.heap.size) : Below B a w' :=
  h.grown hg hs fun k hk => Nat.le_trans hB (ho.lt k hk).1

/-- two cells of one block, written one behind the other -/
theorem set2 {W : World} {b : Nat} {v0 v1 : Value} (h0 : W.cell? ⟨b, 0, none⟩ = some v0) (h1 : W.cell? ⟨b, 1, none⟩ = some v1) (x y : Value) :
    (W.setCell ⟨b, 0, none⟩ x).cell? ⟨b, 0, none⟩ = some x ∧ ((W.setCell ⟨b, 0, none⟩ x).setCell ⟨b, 1, none⟩ y).cell? ⟨b, 1, none⟩ = some y := by
  have a0 : (W.setCell ⟨b, 0, none⟩ x).cell? ⟨b, 1, none⟩ = some v1 := by rw [World.cell?_setCell_other _ _ _ _ (by simp)]; exact h1
  exact ⟨World.cell?_setCell_same' _ _ _ (by rw [h0]; rfl), World.cell?_setCell_same' _ _ _ (by rw [a0]; rfl)⟩

/-- a slice's length -/
def lenOf : Value → Nat | .slice _ n _ => n | _ => 0

def boolOf : Value → Nat | .bool true => 1 | _ => 0

/-- a slice of the call's own comes back; nothing that was there has turned -/
def RetRow (B : Nat) (E k n : Nat) (cells : List Value) (w : World) (e : Ending) (w' : World) : Prop := ∃ v, e = .returned v ∧ w'.ownsRow B E k v n cells ∧ Below B w w'
/-- an int comes back -/
def RetInt (P : Int → Prop) (w : World) (e : Ending) (w' : World) : Prop := ∃ n : Int, e = .returned (.int .i64 n) ∧ P n ∧ Below w.heap.size w w'

/-! ## append onto a row of the call's own -/
/-- e is the element type of the slice type t: size cells, so many bytes each -/
def ElemOk (P : Program) (t e : TypeId) (size bytes : Nat) : Prop :=
  P.underlying t = some (.slice e) ∧ bytes ≤ 128 ∧ 0 < size ∧ ∃ i z, P.info? e = some i ∧ i.zero = some z ∧ i.size = size ∧ i.bytes = bytes ∧ z.cells.size = size
theorem ElemOk.mk {P : Program} {t e : TypeId} {size bytes : Nat} {z : Value} (ht : P.underlying t = some (.slice e)) (h : (P.info? e).map (fun i => (i.zero, i.size, i.bytes)) = some (some z, size, bytes)) (hb : bytes ≤ 128) (hs : 0 < size) (hz : z.cells.size = size) : ElemOk P t e size bytes := by
  obtain ⟨i, h1, h2, h3, h4⟩ := info_parts h
  exact ⟨ht, hb, hs, i, z, h1, h2, h3, h4, hz⟩
theorem size_bytes {n bytes : Nat} (h : n ≤ 1099511627776) (hb : bytes ≤ 128) : n * bytes ≤ 140737488355328 := by
  have : n * bytes ≤ 1099511627776 * 128 := Nat.mul_le_mul h hb
  omega
theorem run_append_none {P : Program} (w : World) {base : Nat} {t ty e : TypeId} {size bytes : Nat} (hE : ElemOk P t e size bytes) {v : Value} {n : Nat} {xs : List Value} (hown : w.ownsRow base e size v n xs) (c : Nat) :
    (Builtin.append_ #[t, t] ty #[v, .slice none 0 c]).run P w = .ok v w := by
  obtain ⟨ht, _, _, i, z, hi, _⟩ := hE
  rcases hown.2 with ⟨rfl, rfl⟩ | ⟨g, cap, cur, rfl, _, _, hnc, _⟩
  · simp [Builtin.append_, run_underlying ht, sizeOf, typeInfo, hi, Builtin.lenOf, Builtin.firstCells]
  · simp [Builtin.append_, run_underlying ht, sizeOf, typeInfo, hi, Builtin.lenOf, Builtin.firstCells, hnc, storeCells]
section
variable {P : Program} {w : World} {ops : Array Oper} {rest : List Oper} {o : Oper} {a : Act} {Q : Exit → Act → World → Prop}
/-- onto it what a block just made holds -/
theorem wpList_app {t e : TypeId} {size bytes : Nat} (hE : ElemOk P t e size bytes) (hgd : o.guard = none) (s x : Operand)
    (ho : o.op = .call { callee := .builtin .append, args := #[s, x], argTypes := #[t, t] })
    (base : Nat) (v : Value) (n : Nat) (xs : List Value) (hs : a.eval s = v) (hown : w.ownsRow base e size v n xs)
    (m c : Nat) (news : List Value) (hx : a.eval x = .slice (some ⟨w.heap.size, 0, none⟩) m c) (hl : news.length = m * size) (h1 : ∀ u ∈ news, u.oneCell' = true)
    (hsm : n + m ≤ 1099511627776) (hbase : base ≤ w.heap.size)
    (h : ∀ v' w', w'.ownsRow base e size v' (n + m) (xs ++ news) → w.grownBy w' v.ownBlock → (v'.ownBlock = v.ownBlock ∨ v'.ownBlock = some (w.heap.size + 1)) → Below base w w' → wpList P ops Q rest (a.put o.dst v') w') :
    wpList P ops Q (o :: rest) a (w.alloc (.cells news.toArray e)) := by
  obtain ⟨ht, hb, hsz, i, z, hi, hz, hsize, hby, hzs⟩ := hE
  refine wpList_plain hgd fun K hK => ?_
  obtain ⟨v', w', hr, h2, h3, h4, h5⟩ := run_append_own_at (P := P) (w.alloc (.cells news.toArray e)) base t o.type e i z size bytes ht hi hz hsize hby hzs hsz v n xs (hown.alloc _) ⟨w.heap.size, 0, none⟩ m c news hl (cell_new_list w news e) h1 (by unfold maxLen; omega) (size_bytes hsm hb) (by simp; omega)
  have hg : w.grownBy w' v.ownBlock := by
    refine ⟨h3.os, h3.tape, h3.output, Nat.le_trans (by simp) h3.size, fun k hk hne => ?_⟩
    rw [h3.block k (by simp; omega) hne]
    exact Below.heap_alloc w _ k hk
  unfold Oper.wp execOp
  simp only [ho, resolve, invoke, builtin, Sem.run_bind, Sem.run_pure, Result.andThen_ok, List.map_toArray, List.map_cons, List.map_nil, hs, hx, hr]
  exact hK _ _ (h v' w' h2 hg (by simpa using h5) (below_grown (Below.refl _ _) hg hown (Nat.le_refl _) hbase))
/-- onto it what a slice holds -/
theorem wpList_app_sl {α : Type} {t e : TypeId} {size bytes : Nat} (hE : ElemOk P t e size bytes) (hgd : o.guard = none) (s x : Operand)
    (ho : o.op = .call { callee := .builtin .append, args := #[s, x], argTypes := #[t, t] })
    (base : Nat) (v : Value) (n : Nat) (xs : List Value) (hs : a.eval s = v) (hown : w.ownsRow base e size v n xs)
    (enc : α → List Value) (hk : ∀ x, (enc x).length = size) (p : Option Addr) (c : Nat) (ys : List α) (hx : a.eval x = .slice p ys.length c) (hr : RdP w size enc p ys) (h1 : ∀ y, ∀ u ∈ enc y, u.oneCell' = true)
    (hsm : n + ys.length ≤ 1099511627776) (hbase : base ≤ w.heap.size)
    (h : ∀ v' w', w'.ownsRow base e size v' (n + ys.length) (xs ++ flat enc ys) → w.grownBy w' v.ownBlock → (v'.ownBlock = v.ownBlock ∨ v'.ownBlock = some w.heap.size) → Below base w w' → wpList P ops Q rest (a.put o.dst v') w') :
    wpList P ops Q (o :: rest) a w := by
  have hE' := hE
  obtain ⟨ht, hb, hsz, i, z, hi, hz, hsize, hby, hzs⟩ := hE
  refine wpList_plain hgd fun K hK => ?_
  cases p with
  | none =>
    have h0 := hr.1 rfl
    have hys : ys = [] := List.eq_nil_of_length_eq_zero h0
    subst hys
    have hrun := run_append_none (ty := o.type) w hE' hown c
    unfold Oper.wp execOp
    simp only [List.length_nil] at hx
    simp only [ho, resolve, invoke, builtin, Sem.run_bind, Sem.run_pure, Result.andThen_ok, List.map_toArray, List.map_cons, List.map_nil, hs, hx, hrun]
    exact hK _ _ (h v w (by simpa [flat] using hown) ⟨rfl, rfl, rfl, Nat.le_refl _, fun _ _ _ => rfl⟩ (.inl rfl) (Below.refl _ _))
  | some ad =>
    obtain ⟨hsp, _, hcell⟩ := hr.2 ad rfl
    have hnews : ∀ j u, (flat enc ys)[j]? = some u → w.cell? (ad.add j) = some u := by
      intro j u hu
      have hjl : j < (flat enc ys).length := (List.getElem?_eq_some_iff.1 hu).1
      rw [flat_length hk] at hjl
      have hi' : j / size < ys.length := Nat.div_lt_of_lt_mul (by rw [Nat.mul_comm]; exact hjl)
      have hm : j % size < (enc ys[j / size]).length := by rw [hk]; exact Nat.mod_lt _ hsz
      have hfl := flat_at hk (List.getElem?_eq_getElem hi') (List.getElem?_eq_getElem hm)
      have hj : j / size * size + j % size = j := by rw [Nat.mul_comm]; exact Nat.div_add_mod j size
      rw [hj, hu] at hfl
      have := hcell _ _ (List.getElem?_eq_getElem hi') _ _ ((List.getElem?_eq_getElem hm).trans hfl.symm)
      rw [← this]
      congr 1
      unfold Addr.add
      split
      · rename_i h0; subst h0; cases ad; simp_all
      · cases ad; simp only [Addr.mk.injEq, true_and, and_true]; omega
    obtain ⟨v', w', hr', h2, h3, h4, h5⟩ := run_append_own_at (P := P) w base t o.type e i z size bytes ht hi hz hsize hby hzs hsz v n xs hown ad ys.length c (flat enc ys) (flat_length hk ys) hnews (by intro u hu; simp only [flat, List.mem_flatMap] at hu; obtain ⟨y, _, hy⟩ := hu; exact h1 y u hy) (by unfold maxLen; omega) (size_bytes hsm hb) hbase
    unfold Oper.wp execOp
    simp only [ho, resolve, invoke, builtin, Sem.run_bind, Sem.run_pure, Result.andThen_ok, List.map_toArray, List.map_cons, List.map_nil, hs, hx, hr']
    exact hK _ _ (h v' w' h2 h3 h5 (below_grown (Below.refl _ _) h3 hown (Nat.le_refl _) hbase))
end
/-- the same as a step of a region that draws its order -/
theorem step_app {P : Program} {w : World} {ops : Array Oper} {o : Oper} {a : Act} {K : Act → World → Prop} {Q : Exit → Act → World → Prop} {E : Prop} {t e : TypeId} {size bytes : Nat} (hE : ElemOk P t e size bytes) (hgd : o.guard = none) (s x : Operand)
    (ho : o.op = .call { callee := .builtin .append, args := #[s, x], argTypes := #[t, t] })
    (base : Nat) (v : Value) (n : Nat) (xs : List Value) (hs : a.eval s = v) (hown : w.ownsRow base e size v n xs)
    (ad : Addr) (m c : Nat) (news : List Value) (hx : a.eval x = .slice (some ad) m c) (hl : news.length = m * size) (hnews : ∀ j u, news[j]? = some u → w.cell? (ad.add j) = some u) (h1 : ∀ u ∈ news, u.oneCell' = true)
    (hsm : n + m ≤ 1099511627776) (hbase : base ≤ w.heap.size)
    (h : ∀ v' w', w'.ownsRow base e size v' (n + m) (xs ++ news) → w.grownBy w' v.ownBlock → Below base w w' → K (a.put o.dst v') w') :
    if Region.wanted o (yielded ops a.tmps) = true then Oper.wp P o a w K Q else E := by
  have hw : Region.wanted o (yielded ops a.tmps) = true := by simp [Region.wanted, hgd]
  rw [if_pos hw]
  obtain ⟨ht, hb, hsz, i, z, hi, hz, hsize, hby, hzs⟩ := hE
  obtain ⟨v', w', hr, h2, h3, h4, h5⟩ := run_append_own_at (P := P) w base t o.type e i z size bytes ht hi hz hsize hby hzs hsz v n xs hown ad m c news hl hnews h1 (by unfold maxLen; omega) (size_bytes hsm hb) hbase
  unfold Oper.wp execOp
  simp only [ho, resolve, invoke, builtin, Sem.run_bind, Sem.run_pure, Result.andThen_ok, List.map_toArray, List.map_cons, List.map_nil, hs, hx, hr]
  exact h v' w' h2 h3 (below_grown (Below.refl _ _) h3 hown (Nat.le_refl _) hbase)
theorem owns_len {w : World} {base : Nat} {e : TypeId} {size : Nat} {v : Value} {n : Nat} {xs : List Value} (h : w.ownsRow base e size v n xs) : lenOf v = n := by
  rcases h.2 with ⟨rfl, rfl⟩ | ⟨g, cap, cur, rfl, _⟩ <;> rfl

theorem ret_int {k : IntKind} {a b : Int} (h : a = b) : Ending.returned (.int k a) = .returned (.int k b) := by rw [h]
theorem ret_v {k : IntKind} {a b : Int} (h : a = b) : Value.int k a = .int k b := by rw [h]
theorem ret_bool {a b : Bool} (h : a = b) : Ending.returned (.bool a) = .returned (.bool b) := by rw [h]

end Go.Proofs.YtilahcnpjbnjiaaGreatDoor

/- The walk's laws inside a fence, for loops over iterators. -/
namespace Go.Proofs.YtilahcnpjbnjiaaGreatDoor
set_option linter.unusedVariables false
set_option linter.unusedSimpArgs false
open Go.RowKit Go.Shelf Go.Proofs

abbrev FW : Fence := Fence.wide

/-- onto a row of the call's own what a block just made holds -/
theorem wpListIn_app {F : Fence} {nF : Nat} {P : Program} {w : World} {ops : Array Oper} {rest : List Oper} {o : Oper} {a : Act} {Q : Exit → Act → World → Prop} {t e : TypeId} {size bytes : Nat} (hE : ElemOk P t e size bytes) (hgd : o.guard = none) (s x : Operand)
    (ho : o.op = .call { callee := .builtin .append, args := #[s, x], argTypes := #[t, t] })
    (base : Nat) (v : Value) (n : Nat) (xs : List Value) (hs : a.eval s = v) (hown : w.ownsRow base e size v n xs)
    (m c : Nat) (news : List Value) (hx : a.eval x = .slice (some ⟨w.heap.size, 0, none⟩) m c) (hl : news.length = m * size) (h1 : ∀ u ∈ news, u.oneCell' = true)
    (hsm : n + m ≤ 1099511627776) (hbase : base ≤ w.heap.size)
    (h : ∀ v' w', w'.ownsRow base e size v' (n + m) (xs ++ news) → (w.alloc (.cells news.toArray e)).grownBy w' v.ownBlock → Below base w w' → (v'.ownBlock = v.ownBlock ∨ v'.ownBlock = some (w.heap.size + 1)) → wpListIn F nF P ops Q rest (a.put o.dst v') w') :
    wpListIn F nF P ops Q (o :: rest) a (w.alloc (.cells news.toArray e)) := by
  obtain ⟨ht, hb, hsz, i, z, hi, hz, hsize, hby, hzs⟩ := hE
  refine wpListIn_append_own_at _ hgd s x t ho base e i z size bytes ht hi hz hsize hby hzs hsz v n xs hs (hown.alloc _) ⟨w.heap.size, 0, none⟩ m c news hx hl (cell_new_list w news e) h1 (by unfold maxLen; omega) (size_bytes hsm hb) (by simp; omega) ?_
  intro v' w' h2 h3 _ h5
  exact h v' w' h2 h3 (((Below.refl _ _).alloc hbase _).trans (below_grown (Below.refl _ _) h3 (hown.alloc _) (Nat.le_refl _) (by simp; omega))) (by simpa using h5)

/-- a block known whole -/
def Blk (w : World) (g : Nat) (t : TypeId) (cs : Array Value) : Prop := w.heap[g]? = some (.cells cs t (0, 0))
theorem Blk.lt {w : World} {g : Nat} {t : TypeId} {cs : Array Value} (h : Blk w g t cs) : g < w.heap.size := (Array.getElem?_eq_some_iff.1 h).1
theorem Blk.cell {w : World} {g : Nat} {t : TypeId} {cs : Array Value} (h : Blk w g t cs) (i : Nat) : w.cell? ⟨g, i, none⟩ = cs[i]? := cell_of_row w g i cs t (0, 0) h
theorem Blk.kept {W W' : World} {row : Option Nat} {B : Nat} {t : TypeId} {cs : Array Value} (h : Blk W B t cs) (hg : W.grownBy W' row) (hne : some B ≠ row) : Blk W' B t cs := (hg.block B h.lt hne).trans h
theorem Blk.new (w : World) (t : TypeId) (cs : Array Value) : Blk (w.alloc (.cells cs t)) w.heap.size t cs := World.alloc_heap_new w _
theorem Blk.own {W W' : World} {row : Option Nat} {B : Nat} {t : TypeId} {cs : Array Value} (h : Blk W B t cs) (hg : W.grownBy W' row) (hr : ∀ r, row = some r → ∃ o : Obj, W.heap[r]? = some o ∧ o.isCells = false) : Blk W' B t cs :=
  h.kept hg fun e => by obtain ⟨o, ho, hc⟩ := hr B e.symm; rw [show W.heap[B]? = _ from h] at ho; cases ho; cases hc

/-! ## a region that draws its order, in a round: the plain laws serve -/
def noDefer (ops : Array Oper) : Bool := ops.all fun o => match o.op with | .defer _ => false | _ => true
theorem noDefer_spec {ops : Array Oper} (h : noDefer ops = true) {i : Nat} {o : Oper} (ho : ops[i]? = some o) : ∀ c, o.op ≠ .defer c := by
  intro c hc
  unfold noDefer at h
  rw [Array.all_eq_true] at h
  have hi := (Array.getElem?_eq_some_iff.1 ho)
  have := h i hi.1
  rw [hi.2, hc] at this
  cases this

section
variable {P : Program} {ops : Array Oper} {Q : Exit → Act → World → Prop} {md : Region.Mode} {l n : Nat}
theorem wpInRound_of_wp {o : Oper} {a : Act} {w : World} {K K' : Act → World → Prop} (hnd : ∀ c, o.op ≠ .defer c) (hK : ∀ a w, K a w → K' a w) (h : o.wp P a w K Q) : o.wpIn (FW.inRound l) n P a w K' Q := by
  refine ⟨fun _ _ => trivial, ?_⟩
  rw [Oper.semAt_eq _ _ _ hnd]
  unfold Oper.wp at h
  generalize (execOp a.eval o).run P w = r at h
  cases r with
  | ok x w' =>
    cases x with
    | value v => exact hK _ _ h
    | skip => exact hK _ _ h
    | defer d => exact hK _ _ h
    | enter f args => exact ⟨(fun e => by cases e), CallsIn.inRound l (callsIn_wide.2 (Calls.mono h (fun e w'' he => by cases e <;> first | exact hK _ _ he | exact he)))⟩
    | row row args =>
      refine ⟨(fun e => by cases e), ?_⟩
      have h' : Rows P row args w' fun v w'' => K (a.put o.dst v) w'' := h
      intro c cs _
      obtain ⟨v, w'', hv, hs⟩ := h' c cs
      exact ⟨v, w'', hK _ _ hv, stepsIn_wide.2 hs⟩
    | _ => exact absurd h (by simp [Oper.upon])
  | halt x w' => cases x <;> exact h

theorem wpAnyInRound (hnd : noDefer ops = true) (hQ : ¬ LetsOut Q) : ∀ (fuel : Nat) (listed : Array Bool) (a : Act) (w : World), wpAny P md ops Q fuel listed a w → wpAnyIn (FW.inRound l) n P md ops Q fuel listed a w
  | 0, _, _, _, h => h
  | fuel + 1, listed, a, w, h => by
    refine ⟨h.1, fun i hi => ?_⟩
    have h2 := h.2 i hi
    unfold wpOp at h2
    unfold wpOpIn
    cases ho : ops[i]? with
    | none => rw [ho] at h2; exact wpAnyInRound hnd hQ fuel _ _ _ h2
    | some o =>
      rw [ho] at h2
      simp only at h2 ⊢
      split
      · rename_i hw
        rw [if_pos hw] at h2
        rcases h2 with h2 | h2
        · exact wpInRound_of_wp (noDefer_spec hnd ho) (fun a w h => wpAnyInRound hnd hQ fuel _ _ _ h) h2
        · exact absurd h2.2 hQ
      · rename_i hw
        rw [if_neg hw] at h2
        exact ⟨fun _ _ => trivial, wpAnyInRound hnd hQ fuel _ _ _ h2⟩

theorem wpInRound_any {id : Nat} {a : Act} {w : World} (hm : P.follows .mixedOrders = true) (hnd : noDefer ops = true) (hQ : ¬ LetsOut Q)
    (h : wpAny P .any ops Q ops.size (Array.replicate ops.size false) a { w with drawn := w.drawn + 1 }) : (Code.region id ops true).wpIn (FW.inRound l) n P Q a w :=
  wpIn_region_any hm (wpAnyInRound hnd hQ _ _ _ _ h)

/-- what reads only -/
theorem wpInRound_quiet {id : Nat} {a : Act} {w : World} {ol : List Oper} (hm : P.follows .mixedOrders = true) (hB : Region.lexB .any ol.toArray = true) (hnd : noDefer ol.toArray = true) (hQ : ¬ LetsOut Q)
    (h : wpQuiet P ol.toArray (fun w' => ∃ n, w' = w.drewN n) (fun a' => ∀ w', (∃ n, w' = w.drewN n) → Q .normal a' w') ol a) : (Code.region id ol.toArray true).wpIn (FW.inRound l) n P Q a w := by
  simp only [Region.lexB, Bool.and_eq_true] at hB
  refine wpInRound_any hm hnd hQ (wpAny_of_quiet (C := fun w' => ∃ n, w' = w.drewN n) (Q := fun a' => ∀ w', (∃ n, w' = w.drewN n) → Q .normal a' w') (fun _ w' hw' h => h w' hw') _ _ _ _ ⟨1, rfl⟩ ?_)
  have := wpAnyQ_lex (C := fun w' => ∃ n, w' = w.drewN n) (md := .any) hB.1 ol 0 (Array.replicate ol.toArray.size false) a (by simp) (by simpa using hB.2) h
  simpa using this

/-- what reads, and then writes, in one forced order -/
theorem wpInRound_still_tail {id : Nat} {a : Act} {w : World} {ol : List Oper} (k : Nat) (hm : P.follows .mixedOrders = true) (hB : Region.lexTailB .any ol.toArray k = true) (hnd : noDefer ol.toArray = true) (hQ : ¬ LetsOut Q)
    (h : wpStill P ol.toArray w.drew (fun a' => wpList P ol.toArray Q (ol.drop k) a' w.drew) (ol.take k) a) : (Code.region id ol.toArray true).wpIn (FW.inRound l) n P Q a w := by
  simp only [Region.lexTailB, Bool.and_eq_true, decide_eq_true_eq] at hB
  obtain ⟨⟨⟨⟨hsel, hn⟩, hs⟩, hc⟩, hlex⟩ := hB
  have hn' : k < ol.length := by simpa using hn
  have htl : (ol.take k).length = k := by simp; omega
  have hdl : (ol.drop k).length = ol.toArray.size - k := by simp
  have inv0 : HeadInv .any ol.toArray k (Array.replicate ol.toArray.size false) :=
    ⟨by simp, fun j oj _ hl => (by rw [getD_replicate_false] at hl; cases hl), fun t _ ht => getD_in (by simpa using ht) (getD_replicate_false _ _)⟩
  have H := wpAnyL_lex (md := .any) (g := ol.toArray.size - k) hsel hs hc hn (ol.take k) 0 _ a (fun j hj => by
    have hj' : j < k := by rw [htl] at hj; exact hj
    simp [hj']) (by simpa using htl) inv0 (by rw [htl]; exact hlex) h
  refine wpInRound_any hm hnd hQ ?_
  have := wpAny_of_head (Q' := Q) (g := ol.toArray.size - k) (fun listed a' hL => by
    have := wpAny_of_seq (md := .any) (Q' := Q) (ol.drop k) k listed a' { w with drawn := w.drawn + 1 } (fun j => by simp [List.getElem?_drop]) (by rw [hdl]; exact hL.1) hL.2
    rwa [hdl] at this) _ _ _ H
  rw [htl, show k + (ol.toArray.size - k) = ol.toArray.size by omega] at this
  exact this
end

/-! ## what a loop's body keeps of an iterator's own memory -/
/-- Kp: what a round keeps; Safe W g: block g is none of the body's -/
structure Keeps (Kp : World → World → Prop) (Safe : World → Nat → Prop) : Prop where
  size : ∀ {A B : World}, Kp A B → A.heap.size ≤ B.heap.size
  safe : ∀ {A B : World} {g : Nat}, Kp A B → Safe A g → Safe B g
  same : ∀ {A B : World} {g : Nat} {c : Array Value} {t : TypeId} {f : Nat × Nat}, Kp A B → Safe A g → A.heap[g]? = some (.cells c t f) → B.heap[g]? = some (.cells c t f)
  grow : ∀ {A B : World} {g : Nat}, Below A.heap.size A B → Safe A g → Safe B g
/-- whatever is new behind W is safe -/
def Fresh (Safe : World → Nat → Prop) (W : World) : Prop := ∀ W2, Below W.heap.size W W2 → ∀ g, W.heap.size ≤ g → g < W2.heap.size → Safe W2 g

theorem Keeps.below (n₀ : Nat) : Keeps (Below n₀) (fun _ g => g < n₀) :=
  ⟨fun h => h.size, fun _ h => h, fun h hg hc => (h.block _ hg).trans hc, fun _ h => h⟩

theorem RdP.keeps {α : Type} {A B : World} {k : Nat} {enc : α → List Value} {p : Option Addr} {xs : List α} {Kp : World → World → Prop} {Safe : World → Nat → Prop} (K : Keeps Kp Safe) (h : RdP A k enc p xs) (hs : ∀ a, p = some a → Safe A a.block) (hk : Kp A B) : RdP B k enc p xs := by
  refine ⟨h.1, fun a ha => ?_⟩
  obtain ⟨h6, h7, h8⟩ := h.2 a ha
  refine ⟨h6, Nat.lt_of_lt_of_le h7 (K.size hk), fun i x hx j u hu => ?_⟩
  have hc := h8 i x hx j u hu
  rw [← hc]
  unfold World.cell? at hc ⊢
  cases hh : A.heap[a.block]? with
  | none => rw [hh] at hc; cases hc
  | some o =>
    cases o with
    | cells c t f => rw [K.same hk (hs a ha) hh]
    | _ => rw [hh] at hc; cases hc

/-- the first block that a body's own row may lie in: the row of the slice in box B0; all is free if there is none -/
def nOf (B0 : Nat) (W : World) : Nat := match W.cell? ⟨B0, 0, none⟩ with | some (.slice (some a) _ _) => a.block | _ => W.heap.size
/-- a body that appends to the slice in box B0 -/
def KpOut (B0 : Nat) (A B : World) : Prop :=
  A.heap.size ≤ B.heap.size ∧ nOf B0 A ≤ nOf B0 B ∧ ∀ g c t f, g < nOf B0 A → g ≠ B0 → A.heap[g]? = some (.cells c t f) → B.heap[g]? = some (.cells c t f)
def SafeOut (B0 : Nat) (W : World) (g : Nat) : Prop := B0 < W.heap.size ∧ g < nOf B0 W ∧ g ≠ B0

theorem nOf_same {B0 : Nat} {A B : World} (h : B.cell? ⟨B0, 0, none⟩ = A.cell? ⟨B0, 0, none⟩) (hs : A.heap.size ≤ B.heap.size) : nOf B0 A ≤ nOf B0 B := by
  unfold nOf
  rw [h]
  split
  · exact Nat.le_refl _
  · exact hs
theorem Keeps.out (B0 : Nat) : Keeps (KpOut B0) (SafeOut B0) := by
  refine ⟨fun h => h.1, fun h hs => ⟨Nat.lt_of_lt_of_le hs.1 h.1, Nat.lt_of_lt_of_le hs.2.1 h.2.1, hs.2.2⟩, fun h hs hc => h.2.2 _ _ _ _ hs.2.1 hs.2.2 hc, fun h hs => ⟨Nat.lt_of_lt_of_le hs.1 h.size, Nat.lt_of_lt_of_le hs.2.1 (nOf_same (h.cell (p := ⟨B0, 0, none⟩) hs.1) h.size), hs.2.2⟩⟩
theorem KpOut.trans {B0 : Nat} {A B C : World} (h : KpOut B0 A B) (k : KpOut B0 B C) : KpOut B0 A C :=
  ⟨Nat.le_trans h.1 k.1, Nat.le_trans h.2.1 k.2.1, fun g c t f hg hne hc => k.2.2 g c t f (Nat.lt_of_lt_of_le hg h.2.1) hne (h.2.2 g c t f hg hne hc)⟩
theorem KpOut.putObj {B0 : Nat} {W : World} (l : Nat) (o o' : Obj) (hl : B0 < l) (ho : W.heap[l]? = some o) (hc : o.isCells = false) : KpOut B0 W (W.putObj l o') := by
  have hg := grownBy_putObj' W l o'
  have hcell : (W.putObj l o').cell? ⟨B0, 0, none⟩ = W.cell? ⟨B0, 0, none⟩ := by
    by_cases hb : B0 < W.heap.size
    · exact World.cell?_of_block (hg.block B0 hb (by simp; omega))
    · have := (Array.getElem?_eq_some_iff.1 ho).1; omega
  refine ⟨hg.size, nOf_same hcell hg.size, fun g c t f hgl _ hcc => ?_⟩
  rw [hg.block g (Array.getElem?_eq_some_iff.1 hcc).1 (fun e => by cases e; rw [ho] at hcc; cases hcc; cases hc)]
  exact hcc
theorem nOf_some {B0 : Nat} {W : World} {t : TypeId} {a : Addr} {n c : Nat} (h : Boxed W B0 t (.slice (some a) n c)) : nOf B0 W = a.block := by
  unfold nOf; rw [h.cell]
theorem nOf_none {B0 : Nat} {W : World} {t : TypeId} {n c : Nat} (h : Boxed W B0 t (.slice none n c)) : nOf B0 W = W.heap.size := by
  unfold nOf; rw [h.cell]
/-- the row grows, its slice goes back into the box -/
theorem KpOut.appended {B0 : Nat} {W w1 : World} {t e : TypeId} {v : Value} {base k n n' g' c' : Nat} {xs : List Value} {tmp : Obj} (hv : Boxed W B0 t v) (hown : W.ownsRow base e k v n xs)
    (hg : (W.alloc tmp).grownBy w1 v.ownBlock) (hat : Value.ownBlock (.slice (some ⟨g', 0, none⟩) n' c') = v.ownBlock ∨ Value.ownBlock (.slice (some ⟨g', 0, none⟩) n' c') = some (W.heap.size + 1)) (hne : some B0 ≠ v.ownBlock) :
    KpOut B0 W (w1.setCell ⟨B0, 0, none⟩ (.slice (some ⟨g', 0, none⟩) n' c')) := by
  have hs1 := hg.size
  simp at hs1
  have hb1 : Boxed w1 B0 t v := (hv.alloc tmp).kept hg hne
  have hb2 : Boxed (w1.setCell ⟨B0, 0, none⟩ (.slice (some ⟨g', 0, none⟩) n' c')) B0 t (.slice (some ⟨g', 0, none⟩) n' c') := hb1.set _
  have hn2 : nOf B0 (w1.setCell ⟨B0, 0, none⟩ (.slice (some ⟨g', 0, none⟩) n' c')) = g' := nOf_some hb2
  have hcase : nOf B0 W ≤ g' ∧ ∀ j, j < nOf B0 W → some j ≠ v.ownBlock := by
    rcases hown.2 with ⟨rfl, _⟩ | ⟨g, cap, cur, rfl, _, hgg, _⟩
    · rw [nOf_none hv]
      simp [Value.ownBlock] at hat ⊢
      omega
    · have hgl := (Array.getElem?_eq_some_iff.1 hgg).1
      rw [nOf_some hv]
      simp [Value.ownBlock] at hat ⊢
      refine ⟨by omega, fun j hj => by omega⟩
  refine ⟨by simp [World.setCell]; omega, by rw [hn2]; exact hcase.1, fun j c ty f hj hjB hc => ?_⟩
  have hjl := (Array.getElem?_eq_some_iff.1 hc).1
  rw [Below.heap_setCell _ _ _ _ hjB, hg.block j (by simp; omega) (hcase.2 j hj), Below.heap_alloc W tmp j hjl]
  exact hc
/-- a cell of the row is written -/
theorem KpOut.setRow {B0 : Nat} {W : World} {t : TypeId} {g n c : Nat} (hv : Boxed W B0 t (.slice (some ⟨g, 0, none⟩) n c)) (hne : B0 ≠ g) (i : Nat) (u : Value) : KpOut B0 W (W.setCell ⟨g, i, none⟩ u) := by
  have hcell : (W.setCell ⟨g, i, none⟩ u).cell? ⟨B0, 0, none⟩ = W.cell? ⟨B0, 0, none⟩ := World.cell?_setCell_other _ _ _ _ (by simp only [ne_eq, Addr.mk.injEq]; omega)
  refine ⟨by simp [World.setCell], nOf_same hcell (by simp [World.setCell]), fun j c' ty f hj hjB hc => ?_⟩
  rw [nOf_some hv] at hj
  simp at hj
  rw [Below.heap_setCell _ _ _ _ (by simp; omega)]
  exact hc
theorem KpOut.of_below {B0 : Nat} {W W' : World} (h : B0 < W.heap.size) (hb : Below W.heap.size W W') : KpOut B0 W W' :=
  ⟨hb.size, nOf_same (hb.cell (p := ⟨B0, 0, none⟩) h) hb.size, fun j _ _ _ _ _ hc => (hb.block j (Array.getElem?_eq_some_iff.1 hc).1).trans hc⟩
theorem KpOut.of_drewN {B0 : Nat} {W : World} (n : Nat) : KpOut B0 W (W.drewN n) := ⟨Nat.le_refl _, Nat.le_refl _, fun _ _ _ _ _ _ h => h⟩
theorem KpOut.of_drew {B0 : Nat} {W : World} : KpOut B0 W W.drew := ⟨Nat.le_refl _, Nat.le_refl _, fun _ _ _ _ _ _ h => h⟩
theorem fresh_out {B0 : Nat} {W : World} {n c : Nat} (h : W.cell? ⟨B0, 0, none⟩ = some (.slice none n c)) : Fresh (SafeOut B0) W := by
  intro W2 hb g hg hg2
  have hB : B0 < W.heap.size := World.block_lt_of_cell? W _ h
  refine ⟨Nat.lt_of_lt_of_le hB hb.size, ?_, by omega⟩
  unfold nOf
  rw [(hb.cell (p := ⟨B0, 0, none⟩) hB).trans h]
  exact hg2

end Go.Proofs.YtilahcnpjbnjiaaGreatDoor

/- Blocks known whole: what an alloc, a store, a call leaves of them. -/
namespace Go.Proofs.YtilahcnpjbnjiaaGreatDoor
set_option linter.unusedVariables false
set_option linter.unusedSimpArgs false
open Go.RowKit Go.Shelf Go.Proofs

theorem slr_lit {α : Type} {enc : α → List Value} {k : Nat} (hk : ∀ x, (enc x).length = k) (w : World) (e : TypeId) (xs : List α) (hl : xs.length ≤ 1048576) (cs : Array Value) (hcs : cs = (flat enc xs).toArray) :
    SlR (w.alloc (.cells cs e)) k enc (.slice (some ⟨w.heap.size, 0, none⟩) xs.length xs.length) xs := by
  subst hcs
  refine ⟨_, _, rfl, Nat.le_refl _, by omega, (fun h => by cases h), fun a ha => ?_⟩
  cases ha
  refine ⟨rfl, by simp, fun i x hx j u hu => ?_⟩
  have h := cell_new_list w (flat enc xs) e (i * k + j) u (flat_at hk hx hu)
  have hadd : (⟨w.heap.size, 0, none⟩ : Addr).add (i * k + j) = ⟨w.heap.size, 0 + i * k + j, none⟩ := by unfold Addr.add; split <;> simp_all [Nat.add_assoc]
  rw [hadd] at h
  exact h

theorem belowA (W : World) (o : Obj) : Below W.heap.size W (W.alloc o) := (Below.refl W.heap.size _).alloc (Nat.le_refl _) _
theorem belowA2 {W W' : World} {o : Obj} (h : Below (W.alloc o).heap.size (W.alloc o) W') : Below W.heap.size W W' := (belowA W o).trans (h.mono (by simp))
theorem Blk.alloc {w : World} {g : Nat} {t : TypeId} {cs : Array Value} (h : Blk w g t cs) (o : Obj) : Blk (w.alloc o) g t cs := (Below.heap_alloc w o g h.lt).trans h
theorem Blk.other {w : World} {g : Nat} {t : TypeId} {cs : Array Value} (h : Blk w g t cs) (a : Addr) (v : Value) (hne : g ≠ a.block) : Blk (w.setCell a v) g t cs := (Below.heap_setCell w a v g hne).trans h
theorem Blk.set {w : World} {g : Nat} {t : TypeId} {cs : Array Value} (h : Blk w g t cs) (i : Nat) (v : Value) : Blk (w.setCell ⟨g, i, none⟩ v) g t (cs.setIfInBounds i v) := by
  obtain ⟨hlt, hk⟩ := Array.getElem?_eq_some_iff.1 h
  show (w.heap.modify g _)[g]? = _
  rw [Array.getElem?_eq_getElem (by rw [Array.size_modify]; exact hlt), Array.getElem_modify_self, hk]
  rfl
theorem Blk.drewN {w : World} {g : Nat} {t : TypeId} {cs : Array Value} (h : Blk w g t cs) (n : Nat) : Blk (w.drewN n) g t cs := h
theorem Blk.drew {w : World} {g : Nat} {t : TypeId} {cs : Array Value} (h : Blk w g t cs) : Blk w.drew g t cs := h
theorem Blk.frozen' {w : World} {g : Nat} {t : TypeId} {cs : Array Value} (h : Blk w g t cs) (i : Nat) : w.frozen? ⟨g, i, none⟩ = false := by
  simp [World.frozen?, show w.heap[g]? = _ from h]
theorem Blk.below {w w' : World} {g : Nat} {t : TypeId} {cs : Array Value} (h : Blk w g t cs) {B : Nat} (hb : Below B w w') (hg : g < B) : Blk w' g t cs := (hb.block g hg).trans h
theorem Blk.setRow {w : World} {g : Nat} {t : TypeId} {cs : Array Value} (h : Blk w g t cs) (cs' : Array Value) : Blk (w.setRow g cs') g t cs' := setRow_heap w g cs cs' t (0, 0) h
theorem Blk.otherRow {w : World} {g : Nat} {t : TypeId} {cs : Array Value} (h : Blk w g t cs) (k : Nat) (cs' : Array Value) (hne : g ≠ k) : Blk (w.setRow k cs') g t cs := (setRow_other w k g cs' hne).trans h
/-- the whole array, by value -/
theorem Blk.loadAt {w : World} {g : Nat} {t : TypeId} {cs : Array Value} (h : Blk w g t cs) {ty e : TypeId} {n : Nat} (hu : Tryz.prog.underlying ty = some (.array n e)) (hi : (Tryz.prog.info? ty).map (·.size) = some cs.size) :
    (Instr.loadAt ty (.pointer (some ⟨g, 0, none⟩))).run Tryz.prog w = .ok (.agg cs) w := by
  simp only [Instr.loadAt, Instr.sureAddr, Sem.run_bind, Sem.run_pure, Result.andThen]
  exact run_loadVar_row w g t ty cs (0, 0) _ h hu rfl hi
theorem Blk.loadVar {w : World} {g : Nat} {t : TypeId} {cs : Array Value} (h : Blk w g t cs) {ty e : TypeId} {n : Nat} (hu : Tryz.prog.underlying ty = some (.array n e)) (hi : (Tryz.prog.info? ty).map (·.size) = some cs.size) :
    (Go.loadVar ty ⟨g, 0, none⟩).run Tryz.prog w = .ok (.agg cs) w := run_loadVar_row w g t ty cs (0, 0) _ h hu rfl hi
theorem Blk.storeAt {w : World} {g : Nat} {t : TypeId} {cs : Array Value} (h : Blk w g t cs) {ty : TypeId} (cs' : Array Value) (hi : (Tryz.prog.info? ty).map (·.size) = some cs'.size) (ho : cs.size = cs'.size) (h1 : cs'.all (·.oneCell') = true) :
    (Instr.storeAt ty (.pointer (some ⟨g, 0, none⟩)) (.agg cs')).run Tryz.prog w = .ok () (w.setRow g cs') := by
  simp only [Instr.storeAt, Instr.sureAddr, Sem.run_bind, Sem.run_pure, Result.andThen]
  exact run_storeVar_row w g t ty cs cs' h hi ho h1

end Go.Proofs.YtilahcnpjbnjiaaGreatDoor

/- copy, clear, append of zeros at elements of several cells; what is laid into a row. -/
namespace Go.Proofs.YtilahcnpjbnjiaaGreatDoor
set_option linter.unusedVariables false
set_option linter.unusedSimpArgs false
open Go.RowKit Go.Shelf Go.Proofs

theorem min_cells {n k : Nat} : n * k = k * n := Nat.mul_comm _ _
theorem run_copyK {P : Program} (w : World) (dT sT ty elem : TypeId) (k g o dLen dCap : Nat) (a : Addr) (sLen sCap : Nat) (cur : Array Value) (t : TypeId) (cs : List Value)
    (hu : P.underlying dT = some (.slice elem)) (hs : (P.info? elem).map (·.size) = some k)
    (hg : w.heap[g]? = some (.cells cur t (0, 0))) (hn : cs.length = Nat.min sLen dLen * k)
    (hsrc : ∀ j v, cs[j]? = some v → w.cell? (a.add j) = some v) (hfit : o + cs.length ≤ cur.size) (h1 : ∀ v ∈ cs, v.oneCell' = true) :
    (Builtin.copy_ #[dT, sT] ty #[.slice (some ⟨g, o, none⟩) dLen dCap, .slice (some a) sLen sCap]).run P w =
      .ok (goInt (Nat.min sLen dLen)) (w.setRow g (cur.toList.take o ++ cs ++ cur.toList.drop (o + cs.length)).toArray) := by
  have hl := run_loadCells_list (P := P) w a cs hsrc
  have hst := run_storeCells_at P g o t cs 0 cur w hg (by simpa using hfit) h1
  cases hq : P.info? elem with
  | none => simp [hq] at hs
  | some i =>
    have hi : i.size = k := by simpa [hq] using hs
    rw [hn] at hl
    simp only [Nat.add_zero] at hst
    simp [Builtin.copy_, run_underlying hu, Builtin.lenOf, Builtin.firstCells, sizeOf, typeInfo, hq, hi, hl, hst]
theorem run_clearK {P : Program} (w : World) (t ty elem : TypeId) (g o n c : Nat) (cur : Array Value) (bt : TypeId) (zs : List Value) (hn : 0 < n)
    (hu : P.underlying t = some (.slice elem)) (z : Value) (hz : ∀ w, (zeroValue elem).run P w = .ok z w) (hzs : (Builtin.zeroCells z.cells n).toList = zs)
    (hg : w.heap[g]? = some (.cells cur bt (0, 0))) (hfit : o + zs.length ≤ cur.size) (h1 : ∀ v ∈ zs, v.oneCell' = true) :
    (Builtin.clear_ #[t] ty #[.slice (some ⟨g, o, none⟩) n c]).run P w = .ok (.tuple #[]) (w.setRow g (cur.toList.take o ++ zs ++ cur.toList.drop (o + zs.length)).toArray) := by
  have hst := run_storeCells_at P g o bt zs 0 cur w hg (by simpa using hfit) h1
  obtain ⟨m, rfl⟩ : ∃ m, n = m + 1 := ⟨n - 1, by omega⟩
  simp only [Nat.add_zero] at hst
  simp [Builtin.clear_, run_underlying hu, hz, hzs, hst]

theorem wpList_copy_run1 {P : Program} (w : World) {ops : Array Oper} {rest : List Oper} {o : Oper} {a : Act} {Q : Exit → Act → World → Prop} (hgd : o.guard = none) (d s : Operand) (t t' : TypeId)
    (ho : o.op = .call { callee := .builtin .copy, args := #[d, s], argTypes := #[t, t'] }) (v u : Value) (hd : a.eval d = v) (hs : a.eval s = u) {v' : Value} {w' : World}
    (hr : (Builtin.copy_ #[t, t'] o.type #[v, u]).run P w = .ok v' w') (h : wpList P ops Q rest (a.put o.dst v') w') : wpList P ops Q (o :: rest) a w :=
  wpList_plain hgd fun _ hK => by
    unfold Oper.wp execOp
    simp only [ho, resolve, invoke, builtin, Sem.run_bind, Sem.run_pure, Result.andThen_ok, List.map_toArray, List.map_cons, List.map_nil, hd, hs, hr]
    exact hK _ _ h
theorem wpList_clear_run1 {P : Program} (w : World) {ops : Array Oper} {rest : List Oper} {o : Oper} {a : Act} {Q : Exit → Act → World → Prop} (hgd : o.guard = none) (d : Operand) (t : TypeId)
    (ho : o.op = .call { callee := .builtin .clear, args := #[d], argTypes := #[t] }) (v : Value) (hd : a.eval d = v) {v' : Value} {w' : World}
    (hr : (Builtin.clear_ #[t] o.type #[v]).run P w = .ok v' w') (h : wpList P ops Q rest (a.put o.dst v') w') : wpList P ops Q (o :: rest) a w :=
  wpList_plain hgd fun _ hK => by
    unfold Oper.wp execOp
    simp only [ho, resolve, invoke, builtin, Sem.run_bind, Sem.run_pure, Result.andThen_ok, List.map_toArray, List.map_cons, List.map_nil, hd, hr]
    exact hK _ _ h
theorem step_copy_run1 {P : Program} {ops : Array Oper} {o : Oper} {a : Act} {w : World} {K : Act → World → Prop} {Q : Exit → Act → World → Prop} {E : Prop}
    (hg : o.guard = none) (d x : Operand) (dT sT : TypeId) (hop : o.op = Op.call { callee := Callee.builtin Builtin.copy, args := #[d, x], argTypes := #[dT, sT] })
    (v u : Value) (hd : a.eval d = v) (hx : a.eval x = u) {v' : Value} {w' : World} (hr : (Builtin.copy_ #[dT, sT] o.type #[v, u]).run P w = .ok v' w') (hK : K (a.put o.dst v') w') :
    if Region.wanted o (yielded ops a.tmps) = true then Oper.wp P o a w K Q else E := by
  have hw : Region.wanted o (yielded ops a.tmps) = true := by simp [Region.wanted, hg]
  rw [if_pos hw]
  unfold Oper.wp
  simp [execOp, hop, resolve, invoke, builtin, hd, hx, hr, Result.andThen]
  exact hK

/-- what stands ahead of a place, the new cells, what stood behind -/
theorem splice_take {α : Type} (L cs : List α) (o : Nat) (h : o + cs.length ≤ L.length) : (splice L o cs).take (o + cs.length) = L.take o ++ cs := by
  unfold splice
  rw [← List.append_assoc, List.take_append_of_le_length (by simp; omega), List.take_of_length_le (by simp; omega)]
theorem splice_drop {α : Type} (L cs : List α) (o : Nat) (h : o + cs.length ≤ L.length) : (splice L o cs).drop (o + cs.length) = L.drop (o + cs.length) := by
  unfold splice
  rw [← List.append_assoc, List.drop_append_of_le_length (by simp; omega), List.drop_of_length_le (by simp; omega)]
  rfl
/-- room in place: the cells from i on move, the new ones come -/
theorem insert_cells {α : Type} (cur F E : List α) (i k n : Nat) (hF : cur.take (n * k) = F) (hl : n * k + k ≤ cur.length) (hi : i ≤ n) (hE : E.length = k) :
    (splice (splice cur (i * k + k) (F.drop (i * k))) (i * k) E).take (n * k + k) = F.take (i * k) ++ (E ++ F.drop (i * k)) := by
  have hik : i * k ≤ n * k := Nat.mul_le_mul_right k hi
  have hFl : F.length = n * k := by rw [← hF, List.length_take]; omega
  have hd : (F.drop (i * k)).length = n * k - i * k := by simp [hFl]
  have h1 : (splice cur (i * k + k) (F.drop (i * k))).take (n * k + k) = cur.take (i * k + k) ++ F.drop (i * k) := by
    have := splice_take cur (F.drop (i * k)) (i * k + k) (by omega)
    rw [hd, show i * k + k + (n * k - i * k) = n * k + k by omega] at this
    exact this
  have hl1 : (splice cur (i * k + k) (F.drop (i * k))).length = cur.length := length_splice _ _ _ (by omega)
  generalize splice cur (i * k + k) (F.drop (i * k)) = M at h1 hl1
  unfold splice
  have hM1 : M.take (i * k) = F.take (i * k) := by
    have h := congrArg (List.take (i * k)) h1
    rw [List.take_take, Nat.min_eq_left (by omega), List.take_append_of_le_length (by simp; omega), List.take_take, Nat.min_eq_left (by omega)] at h
    rw [h, ← hF, List.take_take, Nat.min_eq_left hik]
  have hM2 : (M.drop (i * k + k)).take (n * k - i * k) = F.drop (i * k) := by
    have h := congrArg (List.drop (i * k + k)) h1
    rw [List.drop_take, show (cur.take (i * k + k) ++ F.drop (i * k)).drop (i * k + k) = F.drop (i * k) from List.drop_left' (by simp; omega)] at h
    rw [show n * k + k - (i * k + k) = n * k - i * k by omega] at h
    exact h
  rw [hE, hM1]
  have h3 : F.take (i * k) ++ (E ++ M.drop (i * k + k)) = (F.take (i * k) ++ E) ++ M.drop (i * k + k) := by simp
  rw [h3, List.take_append, List.take_of_length_le (by simp; omega), show n * k + k - (F.take (i * k) ++ E).length = n * k - i * k by simp; omega, hM2]
  simp
theorem flat_take {α : Type} {enc : α → List Value} {k : Nat} (hk : ∀ x, (enc x).length = k) (xs : List α) (i : Nat) (hi : i ≤ xs.length) : (flat enc xs).take (i * k) = flat enc (xs.take i) := by
  have h1 : flat enc xs = flat enc (xs.take i) ++ flat enc (xs.drop i) := by rw [← flat_append, List.take_append_drop]
  have h2 : (flat enc (xs.take i)).length = i * k := by rw [flat_length hk, List.length_take, Nat.min_eq_left hi]
  rw [h1]
  exact List.take_left' h2
theorem flat_drop {α : Type} {enc : α → List Value} {k : Nat} (hk : ∀ x, (enc x).length = k) (xs : List α) (i : Nat) (hi : i ≤ xs.length) : (flat enc xs).drop (i * k) = flat enc (xs.drop i) := by
  have h1 : flat enc xs = flat enc (xs.take i) ++ flat enc (xs.drop i) := by rw [← flat_append, List.take_append_drop]
  have h2 : (flat enc (xs.take i)).length = i * k := by rw [flat_length hk, List.length_take, Nat.min_eq_left hi]
  rw [h1]
  exact List.drop_left' h2
theorem flat_insert {α : Type} {enc : α → List Value} {k : Nat} (hk : ∀ x, (enc x).length = k) (xs : List α) (i : Nat) (hi : i ≤ xs.length) (x : α) : flat enc (xs.take i ++ x :: xs.drop i) = (flat enc xs).take (i * k) ++ (enc x ++ (flat enc xs).drop (i * k)) := by
  rw [flat_take hk xs i hi, flat_drop hk xs i hi]
  simp [flat]
theorem flat_one {α : Type} {enc : α → List Value} (h1 : ∀ x, ∀ u ∈ enc x, u.oneCell' = true) (xs : List α) : ∀ u ∈ flat enc xs, u.oneCell' = true := by
  intro u hu
  simp only [flat, List.mem_flatMap] at hu
  obtain ⟨x, _, hx⟩ := hu
  exact h1 x u hx
end Go.Proofs.YtilahcnpjbnjiaaGreatDoor

/- A drawn region, walked by hand in the order of the text: loads of whole arrays, calls that make memory. -/
namespace Go.Proofs.YtilahcnpjbnjiaaGreatDoor
open Go Go.RowKit
section
variable {P : Program} {ops : Array Oper} {Q : Exit → Act → World → Prop} {md : Region.Mode} {S : World → Prop}
theorem yieldsIf_load_row {op : Oper} {a : Act} (hw : Region.wanted op (yielded ops a.tmps) = true) (ty : TypeId) (x : Operand) (ho : op.op = .load ty x)
    (g : Nat) (hx : a.eval x = .pointer (some ⟨g, 0, none⟩)) (t : TypeId) (cs : Array Value) (d : TypeDesc) (hS : ∀ w, S w → Blk w g t cs)
    (hu : P.underlying ty = some d) (hd : (match d with | .struct _ | .array _ _ => true | _ => false) = true) (hi : (P.info? ty).map (·.size) = some cs.size) : YieldsIf P ops S op (.agg cs) a :=
  .inl ⟨hw, fun w h => by
    unfold execOp
    simp only [ho, hx, Instr.loadAt, Instr.sureAddr, Sem.run_bind, Sem.run_pure, Result.andThen_ok, run_loadVar_row w g t ty cs (0, 0) d (hS w h) hu hd hi]⟩
/-- an operation that is not wanted -/
theorem yieldsIf_off {op : Oper} {a : Act} (hw : Region.wanted op (yielded ops a.tmps) = false) : YieldsIf P ops S op undef a := .inr ⟨hw, rfl⟩
/-- the one operation that may come up -/
theorem held_step {i : Nat} {o : Oper} {fuel : Nat} {listed : Array Bool} {a : Act} {w : World} (ho : ops[i]? = some o) (hr : Region.ready md ops listed = [i]) (hw : Region.wanted o (yielded ops a.tmps) = true)
    (h : ∀ K' : Act → World → Prop, Shut (∀ a w, S w → (S w → wpAnyH P md ops Q S fuel (listed.setIfInBounds i true) a w) → K' a w) → Oper.wp P o a w K' Q) : wpAnyH P md ops Q S (fuel + 1) listed a w :=
  wpAnyH_ready hr (by simp) (AllReadyH.cons ho (fun K hK => by rw [if_pos hw]; exact h K hK) AllReadyH.nil)
end
end Go.Proofs.YtilahcnpjbnjiaaGreatDoor

/- A drawn region by hand: two operations that may come up. -/
namespace Go.Proofs.YtilahcnpjbnjiaaGreatDoor
open Go Go.RowKit
section
variable {P : Program} {ops : Array Oper} {Q : Exit → Act → World → Prop} {md : Region.Mode} {S : World → Prop}
theorem held_two {i j : Nat} {o p : Oper} {fuel : Nat} {listed : Array Bool} {a : Act} {w : World} (ho : ops[i]? = some o) (hp : ops[j]? = some p) (hr : Region.ready md ops listed = [i, j]) (hw : Region.wanted o (yielded ops a.tmps) = true) (hw2 : Region.wanted p (yielded ops a.tmps) = true)
    (h : ∀ K' : Act → World → Prop, Shut (∀ a w, S w → (S w → wpAnyH P md ops Q S fuel (listed.setIfInBounds i true) a w) → K' a w) → Oper.wp P o a w K' Q)
    (h2 : ∀ K' : Act → World → Prop, Shut (∀ a w, S w → (S w → wpAnyH P md ops Q S fuel (listed.setIfInBounds j true) a w) → K' a w) → Oper.wp P p a w K' Q) : wpAnyH P md ops Q S (fuel + 1) listed a w :=
  wpAnyH_ready hr (by simp) (AllReadyH.cons ho (fun K hK => by rw [if_pos hw]; exact h K hK) (AllReadyH.cons hp (fun K hK => by rw [if_pos hw2]; exact h2 K hK) AllReadyH.nil))
end
end Go.Proofs.YtilahcnpjbnjiaaGreatDoor
