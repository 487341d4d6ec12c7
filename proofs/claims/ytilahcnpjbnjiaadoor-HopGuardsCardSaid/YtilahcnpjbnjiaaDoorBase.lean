/- What a slice value reads as in a world; small facts for the walks. -/
import Derived.Test.YtilahcnpjbnjiaaDoorProg
import Derived.WalkKit
import Derived.Deep.QuietTactic
import Derived.BigQuiet
import Derived.Lib.Hide
import Derived.Maps.AppendAt
import Derived.Deep.RegionHeld3
import Derived.StillTailTactics
namespace Go.Proofs.YtilahcnpjbnjiaaDoor
set_option linter.unusedVariables false
set_option linter.unusedSimpArgs false
open Go.RowKit

/-- from the pointer p on lie the elements xs, k cells each -/
def RdP {α : Type} (w : World) (k : Nat) (enc : α → List Value) (p : Option Addr) (xs : List α) : Prop :=
  (p = none → xs.length = 0) ∧ ∀ a, p = some a → a.spot = none ∧ a.block < w.heap.size ∧ ∀ i x, xs[i]? = some x → ∀ j u, (enc x)[j]? = some u → w.cell? ⟨a.block, a.off + i * k + j, none⟩ = some u

/-- the slice value v reads as xs -/
def SlR {α : Type} (w : World) (k : Nat) (enc : α → List Value) (v : Value) (xs : List α) : Prop :=
  ∃ (p : Option Addr) (cap : Nat), v = .slice p xs.length cap ∧ xs.length ≤ cap ∧ cap ≤ 9223372036854775807 ∧ RdP w k enc p xs

theorem RdP.below {α : Type} {w w' : World} {k : Nat} {enc : α → List Value} {p : Option Addr} {xs : List α} (h : RdP w k enc p xs) {B : Nat} (hb : Below B w w') (hB : w.heap.size ≤ B) : RdP w' k enc p xs := by
  refine ⟨h.1, fun a ha => ?_⟩
  obtain ⟨h6, h7, h8⟩ := h.2 a ha
  exact ⟨h6, Nat.lt_of_lt_of_le h7 hb.size, fun i x hx j u hu => by rw [← h8 i x hx j u hu]; exact hb.cell (p := ⟨a.block, _, none⟩) (Nat.lt_of_lt_of_le h7 hB)⟩
theorem SlR.below {α : Type} {w w' : World} {k : Nat} {enc : α → List Value} {v : Value} {xs : List α} (h : SlR w k enc v xs) {B : Nat} (hb : Below B w w') (hB : w.heap.size ≤ B) : SlR w' k enc v xs := by
  obtain ⟨p, cap, h1, h2, h3, h4⟩ := h
  exact ⟨p, cap, h1, h2, h3, h4.below hb hB⟩
theorem RdP.grown {α : Type} {w w' : World} {k : Nat} {enc : α → List Value} {p : Option Addr} {xs : List α} (h : RdP w k enc p xs) {row : Option Nat} (hg : w.grownBy w' row) (hr : ∀ a, p = some a → row ≠ some a.block) : RdP w' k enc p xs := by
  refine ⟨h.1, fun a ha => ?_⟩
  obtain ⟨h6, h7, h8⟩ := h.2 a ha
  refine ⟨h6, Nat.lt_of_lt_of_le h7 hg.size, fun i x hx j u hu => hg.cell (h8 i x hx j u hu) (fun e => hr a ha e.symm)⟩
theorem RdP.at {α : Type} {w : World} {k : Nat} {enc : α → List Value} {p : Option Addr} {xs : List α} (h : RdP w k enc p xs) {i : Nat} (hi : i < xs.length) :
    ∃ b off, p = some ⟨b, off, none⟩ ∧ b < w.heap.size ∧ ∀ j u, (enc xs[i])[j]? = some u → w.cell? ⟨b, off + i * k + j, none⟩ = some u := by
  cases p with
  | none => have := h.1 rfl; omega
  | some a =>
    obtain ⟨h6, h7, h8⟩ := h.2 a rfl
    exact ⟨a.block, a.off, by cases a; simp_all, h7, fun j u hu => h8 i _ (List.getElem?_eq_getElem hi) j u hu⟩
theorem RdP.in {α : Type} {w : World} {k : Nat} {enc : α → List Value} {b off : Nat} {xs : List α} (h : RdP w k enc (some ⟨b, off, none⟩) xs) {i : Nat} (hi : i < xs.length) :
    ∀ j u, (enc xs[i])[j]? = some u → w.cell? ⟨b, off + i * k + j, none⟩ = some u := by
  obtain ⟨_, _, h8⟩ := h.2 _ rfl
  exact fun j u hu => h8 i _ (List.getElem?_eq_getElem hi) j u hu
theorem RdP.lt {α : Type} {w : World} {k : Nat} {enc : α → List Value} {a : Addr} {xs : List α} (h : RdP w k enc (some a) xs) : a.block < w.heap.size := (h.2 _ rfl).2.1

/-- the cells of a list of elements -/
def flat {α : Type} (enc : α → List Value) (xs : List α) : List Value := xs.flatMap enc
theorem flat_length {α : Type} {enc : α → List Value} {k : Nat} (hk : ∀ x, (enc x).length = k) (xs : List α) : (flat enc xs).length = xs.length * k := by
  induction xs with
  | nil => simp [flat]
  | cons x r ih => simp only [flat, List.flatMap_cons, List.length_append, hk, List.length_cons] at ih ⊢; rw [ih, Nat.add_mul]; omega
theorem flat_append {α : Type} (enc : α → List Value) (xs ys : List α) : flat enc (xs ++ ys) = flat enc xs ++ flat enc ys := by simp [flat]
theorem flat_at {α : Type} {enc : α → List Value} {k : Nat} (hk : ∀ x, (enc x).length = k) : ∀ {xs : List α} {i : Nat} {x : α}, xs[i]? = some x → ∀ {j : Nat} {u : Value}, (enc x)[j]? = some u → (flat enc xs)[i * k + j]? = some u
  | [], i, x, h, _, _, _ => by simp at h
  | y :: r, 0, x, h, j, u, hu => by
    simp at h; subst h
    have hj : j < (enc y).length := (List.getElem?_eq_some_iff.1 hu).1
    simp only [flat, List.flatMap_cons, Nat.zero_mul, Nat.zero_add]
    rw [List.getElem?_append_left hj]; exact hu
  | y :: r, i + 1, x, h, j, u, hu => by
    have h' : r[i]? = some x := by simpa using h
    have := flat_at hk h' hu
    simp only [flat, List.flatMap_cons] at this ⊢
    rw [List.getElem?_append_right (by rw [hk, Nat.add_mul]; omega), hk, show (i + 1) * k + j - k = i * k + j by rw [Nat.add_mul]; omega]
    exact this

/-- what a call owns reads as what it holds -/
theorem SlR.of_owns {α : Type} {w : World} {k : Nat} {enc : α → List Value} {v : Value} {xs : List α} {base : Nat} {e : TypeId} (hk : ∀ x, (enc x).length = k) (h : w.ownsRow base e k v xs.length (flat enc xs)) : SlR w k enc v xs := by
  rcases h.2 with ⟨rfl, h0⟩ | ⟨g, cap, cur, rfl, hb, hg, hn, hc, hs, ht⟩
  · exact ⟨none, 0, by rw [h0], by omega, by omega, fun _ => h0, fun a ha => by cases ha⟩
  · refine ⟨some ⟨g, 0, none⟩, cap, rfl, hn, by unfold maxLen at hc; omega, (fun e => by cases e), fun a ha => ?_⟩
    cases ha
    refine ⟨rfl, (Array.getElem?_eq_some_iff.1 hg).1, fun i x hx j u hu => ?_⟩
    have := h.cells (g := g) rfl (i * k + j) u (flat_at hk hx hu)
    rw [← this]
    congr 1
    unfold Addr.add
    split
    · rename_i h0; simp [Nat.add_assoc, h0]
    · simp [Nat.add_assoc]

theorem bcell {W w1 : World} (hb : Below W.heap.size W w1) : (∀ b o, b < W.heap.size → w1.cell? ⟨b, o, none⟩ = W.cell? ⟨b, o, none⟩) ∧ (∀ b o, b < W.heap.size → w1.frozen? ⟨b, o, none⟩ = W.frozen? ⟨b, o, none⟩) :=
  ⟨fun b o h => hb.cell (p := ⟨b, o, none⟩) h, fun b o h => hb.frozen (p := ⟨b, o, none⟩) h⟩

theorem below_drewN {B : Nat} {a w : World} (h : Below B a w) (n : Nat) : Below B a (w.drewN n) := ⟨h.os, h.tape, h.output, h.size, h.block⟩

theorem owns_below {w w' : World} {base : Nat} {e : TypeId} {size : Nat} {v : Value} {n : Nat} {xs : List Value} (h : w.ownsRow base e size v n xs) {B : Nat} (hb : Below B w w') (hB : w.heap.size ≤ B) : w'.ownsRow base e size v n xs :=
  h.kept (row := none) ⟨hb.os, hb.tape, hb.output, hb.size, fun k hk _ => hb.block k (Nat.lt_of_lt_of_le hk hB)⟩ (by cases v.ownBlock <;> simp)
theorem owns_base {w : World} {base base' : Nat} {e : TypeId} {size : Nat} {v : Value} {n : Nat} {xs : List Value} (h : w.ownsRow base e size v n xs) (hb : base' ≤ base) : w.ownsRow base' e size v n xs := by
  refine ⟨h.1, ?_⟩
  rcases h.2 with h0 | ⟨g, cap, cur, hv, hg, rest⟩
  · exact .inl h0
  · exact .inr ⟨g, cap, cur, hv, by omega, rest⟩
/-- a block just made of a list of cells -/
theorem cell_new_list (w : World) (l : List Value) (t : TypeId) : ∀ j u, l[j]? = some u → (w.alloc (.cells l.toArray t)).cell? ((⟨w.heap.size, 0, none⟩ : Addr).add j) = some u := by
  intro j u hu
  have hadd : (⟨w.heap.size, 0, none⟩ : Addr).add j = ⟨w.heap.size, j, none⟩ := by unfold Addr.add; split <;> simp_all
  rw [hadd, cell_of_row _ w.heap.size j l.toArray t (0, 0) (heap_alloc_new w _)]
  simpa using hu
theorem below_grown {B : Nat} {a w w' : World} {v : Value} {base : Nat} {e : TypeId} {size n : Nat} {xs : List Value} (h : Below B a w) (hg : w.grownBy w' v.ownBlock) (ho : w.ownsRow base e size v n xs) (hB : B ≤ base) (hs : B ≤ w.heap.size) : Below B a w' :=
  h.grown hg hs fun k hk => Nat.le_trans hB (ho.lt k hk).1

/-- two cells of one block, written one behind the other -/
theorem set2 {W : World} {b : Nat} {v0 v1 : Value} (h0 : W.cell? ⟨b, 0, none⟩ = some v0) (h1 : W.cell? ⟨b, 1, none⟩ = some v1) (x y : Value) :
    (W.setCell ⟨b, 0, none⟩ x).cell? ⟨b, 0, none⟩ = some x ∧ ((W.setCell ⟨b, 0, none⟩ x).setCell ⟨b, 1, none⟩ y).cell? ⟨b, 1, none⟩ = some y := by
  have a0 : (W.setCell ⟨b, 0, none⟩ x).cell? ⟨b, 1, none⟩ = some v1 := by rw [World.cell?_setCell_other _ _ _ _ (by simp)]; exact h1
  exact ⟨World.cell?_setCell_same' _ _ _ (by rw [h0]; rfl), World.cell?_setCell_same' _ _ _ (by rw [a0]; rfl)⟩

/-- a slice's length -/
def lenOf : Value → Nat | .slice _ n _ => n | _ => 0

def boolOf : Value → Nat | .bool true => 1 | _ => 0

/-- a slice of the call's own comes back; nothing that was there has turned -/
def RetRow (B : Nat) (E k n : Nat) (cells : List Value) (w : World) (e : Ending) (w' : World) : Prop := ∃ v, e = .returned v ∧ w'.ownsRow B E k v n cells ∧ Below B w w'
/-- an int comes back -/
def RetInt (P : Int → Prop) (w : World) (e : Ending) (w' : World) : Prop := ∃ n : Int, e = .returned (.int .i64 n) ∧ P n ∧ Below w.heap.size w w'

/-! ## append onto a row of the call's own -/
/-- e is the element type of the slice type t: size cells, so many bytes each -/
def ElemOk (P : Program) (t e : TypeId) (size bytes : Nat) : Prop :=
  P.underlying t = some (.slice e) ∧ bytes ≤ 128 ∧ 0 < size ∧ ∃ i z, P.info? e = some i ∧ i.zero = some z ∧ i.size = size ∧ i.bytes = bytes ∧ z.cells.size = size
theorem ElemOk.mk {P : Program} {t e : TypeId} {size bytes : Nat} {z : Value} (ht : P.underlying t = some (.slice e)) (h : (P.info? e).map (fun i => (i.zero, i.size, i.bytes)) = some (some z, size, bytes)) (hb : bytes ≤ 128) (hs : 0 < size) (hz : z.cells.size = size) : ElemOk P t e size bytes := by
  obtain ⟨i, h1, h2, h3, h4⟩ := info_parts h
  exact ⟨ht, hb, hs, i, z, h1, h2, h3, h4, hz⟩
theorem size_bytes {n bytes : Nat} (h : n ≤ 1099511627776) (hb : bytes ≤ 128) : n * bytes ≤ 140737488355328 := by
  have : n * bytes ≤ 1099511627776 * 128 := Nat.mul_le_mul h hb
  omega
theorem run_append_none {P : Program} (w : World) {base : Nat} {t ty e : TypeId} {size bytes : Nat} (hE : ElemOk P t e size bytes) {v : Value} {n : Nat} {xs : List Value} (hown : w.ownsRow base e size v n xs) (c : Nat) :
    (Builtin.append_ #[t, t] ty #[v, .slice none 0 c]).run P w = .ok v w := by
  obtain ⟨ht, _, _, i, z, hi, _⟩ := hE
  rcases hown.2 with ⟨rfl, rfl⟩ | ⟨g, cap, cur, rfl, _, _, hnc, _⟩
  · simp [Builtin.append_, run_underlying ht, sizeOf, typeInfo, hi, Builtin.lenOf, Builtin.firstCells]
  · simp [Builtin.append_, run_underlying ht, sizeOf, typeInfo, hi, Builtin.lenOf, Builtin.firstCells, hnc, storeCells]
section
variable {P : Program} {w : World} {ops : Array Oper} {rest : List Oper} {o : Oper} {a : Act} {Q : Exit → Act → World → Prop}
/-- onto it what a block just made holds -/
theorem wpList_app {t e : TypeId} {size bytes : Nat} (hE : ElemOk P t e size bytes) (hgd : o.guard = none) (s x : Operand)
    (ho : o.op = .call { callee := .builtin .append, args := #[s, x], argTypes := #[t, t] })
    (base : Nat) (v : Value) (n : Nat) (xs : List Value) (hs : a.eval s = v) (hown : w.ownsRow base e size v n xs)
    (m c : Nat) (news : List Value) (hx : a.eval x = .slice (some ⟨w.heap.size, 0, none⟩) m c) (hl : news.length = m * size) (h1 : ∀ u ∈ news, u.oneCell' = true)
    (hsm : n + m ≤ 1099511627776) (hbase : base ≤ w.heap.size)
    (h : ∀ v' w', w'.ownsRow base e size v' (n + m) (xs ++ news) → w.grownBy w' v.ownBlock → (v'.ownBlock = v.ownBlock ∨ v'.ownBlock = some (w.heap.size + 1)) → Below base w w' → wpList P ops Q rest (a.put o.dst v') w') :
    wpList P ops Q (o :: rest) a (w.alloc (.cells news.toArray e)) := by
  obtain ⟨ht, hb, hsz, i, z, hi, hz, hsize, hby, hzs⟩ := hE
  refine wpList_plain hgd fun K hK => ?_
  obtain ⟨v', w', hr, h2, h3, h4, h5⟩ := run_append_own_at (P := P) (w.alloc (.cells news.toArray e)) base t o.type e i z size bytes ht hi hz hsize hby hzs hsz v n xs (hown.alloc _) ⟨w.heap.size, 0, none⟩ m c news hl (cell_new_list w news e) h1 (by unfold maxLen; omega) (size_bytes hsm hb) (by simp; omega)
  have hg : w.grownBy w' v.ownBlock := by
    refine ⟨h3.os, h3.tape, h3.output, Nat.le_trans (by simp) h3.size, fun k hk hne => ?_⟩
    rw [h3.block k (by simp; omega) hne]
    exact Below.heap_alloc w _ k hk
  unfold Oper.wp execOp
  simp only [ho, resolve, invoke, builtin, Sem.run_bind, Sem.run_pure, Result.andThen_ok, List.map_toArray, List.map_cons, List.map_nil, hs, hx, hr]
  exact hK _ _ (h v' w' h2 hg (by simpa using h5) (below_grown (Below.refl _ _) hg hown (Nat.le_refl _) hbase))
/-- onto it what a slice holds -/
theorem wpList_app_sl {α : Type} {t e : TypeId} {size bytes : Nat} (hE : ElemOk P t e size bytes) (hgd : o.guard = none) (s x : Operand)
    (ho : o.op = .call { callee := .builtin .append, args := #[s, x], argTypes := #[t, t] })
    (base : Nat) (v : Value) (n : Nat) (xs : List Value) (hs : a.eval s = v) (hown : w.ownsRow base e size v n xs)
    (enc : α → List Value) (hk : ∀ x, (enc x).length = size) (p : Option Addr) (c : Nat) (ys : List α) (hx : a.eval x = .slice p ys.length c) (hr : RdP w size enc p ys) (h1 : ∀ y, ∀ u ∈ enc y, u.oneCell' = true)
    (hsm : n + ys.length ≤ 1099511627776) (hbase : base ≤ w.heap.size)
    (h : ∀ v' w', w'.ownsRow base e size v' (n + ys.length) (xs ++ flat enc ys) → w.grownBy w' v.ownBlock → (v'.ownBlock = v.ownBlock ∨ v'.ownBlock = some w.heap.size) → Below base w w' → wpList P ops Q rest (a.put o.dst v') w') :
    wpList P ops Q (o :: rest) a w := by
  have hE' := hE
  obtain ⟨ht, hb, hsz, i, z, hi, hz, hsize, hby, hzs⟩ := hE
  refine wpList_plain hgd fun K hK => ?_
  cases p with
  | none =>
    have h0 := hr.1 rfl
    have hys : ys = [] := List.eq_nil_of_length_eq_zero h0
    subst hys
    have hrun := run_append_none (ty := o.type) w hE' hown c
    unfold Oper.wp execOp
    simp only [List.length_nil] at hx
    simp only [ho, resolve, invoke, builtin, Sem.run_bind, Sem.run_pure, Result.andThen_ok, List.map_toArray, List.map_cons, List.map_nil, hs, hx, hrun]
    exact hK _ _ (h v w (by simpa [flat] using hown) ⟨rfl, rfl, rfl, Nat.le_refl _, fun _ _ _ => rfl⟩ (.inl rfl) (Below.refl _ _))
  | some ad =>
    obtain ⟨hsp, _, hcell⟩ := hr.2 ad rfl
    have hnews : ∀ j u, (flat enc ys)[j]? = some u → w.cell? (ad.add j) = some u := by
      intro j u hu
      have hjl : j < (flat enc ys).length := (List.getElem?_eq_some_iff.1 hu).1
      rw [flat_length hk] at hjl
      have hi' : j / size < ys.length := Nat.div_lt_of_lt_mul (by rw [Nat.mul_comm]; exact hjl)
      have hm : j % size < (enc ys[j / size]).length := by rw [hk]; exact Nat.mod_lt _ hsz
      have hfl := flat_at hk (List.getElem?_eq_getElem hi') (List.getElem?_eq_getElem hm)
      have hj : j / size * size + j % size = j := by rw [Nat.mul_comm]; exact Nat.div_add_mod j size
      rw [hj, hu] at hfl
      have := hcell _ _ (List.getElem?_eq_getElem hi') _ _ ((List.getElem?_eq_getElem hm).trans hfl.symm)
      rw [← this]
      congr 1
      unfold Addr.add
      split
      · rename_i h0; subst h0; cases ad; simp_all
      · cases ad; simp only [Addr.mk.injEq, true_and, and_true]; omega
    obtain ⟨v', w', hr', h2, h3, h4, h5⟩ := run_append_own_at (P := P) w base t o.type e i z size bytes ht hi hz hsize hby hzs hsz v n xs hown ad ys.length c (flat enc ys) (flat_length hk ys) hnews (by intro u hu; simp only [flat, List.mem_flatMap] at hu; obtain ⟨y, _, hy⟩ := hu; exact h1 y u hy) (by unfold maxLen; omega) (size_bytes hsm hb) hbase
    unfold Oper.wp execOp
    simp only [ho, resolve, invoke, builtin, Sem.run_bind, Sem.run_pure, Result.andThen_ok, List.map_toArray, List.map_cons, List.map_nil, hs, hx, hr']
    exact hK _ _ (h v' w' h2 h3 h5 (below_grown (Below.refl _ _) h3 hown (Nat.le_refl _) hbase))
end
/-- the same as a step of a region that draws its order -/
theorem step_app {P : Program} {w : World} {ops : Array Oper} {o : Oper} {a : Act} {K : Act → World → Prop} {Q : Exit → Act → World → Prop} {E : Prop} {t e : TypeId} {size bytes : Nat} (hE : ElemOk P t e size bytes) (hgd : o.guard = none) (s x : Operand)
    (ho : o.op = .call { callee := .builtin .append, args := #[s, x], argTypes := #[t, t] })
    (base : Nat) (v : Value) (n : Nat) (xs : List Value) (hs : a.eval s = v) (hown : w.ownsRow base e size v n xs)
    (ad : Addr) (m c : Nat) (news : List Value) (hx : a.eval x = .slice (some ad) m c) (hl : news.length = m * size) (hnews : ∀ j u, news[j]? = some u → w.cell? (ad.add j) = some u) (h1 : ∀ u ∈ news, u.oneCell' = true)
    (hsm : n + m ≤ 1099511627776) (hbase : base ≤ w.heap.size)
    (h : ∀ v' w', w'.ownsRow base e size v' (n + m) (xs ++ news) → w.grownBy w' v.ownBlock → Below base w w' → K (a.put o.dst v') w') :
    if Region.wanted o (yielded ops a.tmps) = true then Oper.wp P o a w K Q else E := by
  have hw : Region.wanted o (yielded ops a.tmps) = true := by simp [Region.wanted, hgd]
  rw [if_pos hw]
  obtain ⟨ht, hb, hsz, i, z, hi, hz, hsize, hby, hzs⟩ := hE
  obtain ⟨v', w', hr, h2, h3, h4, h5⟩ := run_append_own_at (P := P) w base t o.type e i z size bytes ht hi hz hsize hby hzs hsz v n xs hown ad m c news hl hnews h1 (by unfold maxLen; omega) (size_bytes hsm hb) hbase
  unfold Oper.wp execOp
  simp only [ho, resolve, invoke, builtin, Sem.run_bind, Sem.run_pure, Result.andThen_ok, List.map_toArray, List.map_cons, List.map_nil, hs, hx, hr]
  exact h v' w' h2 h3 (below_grown (Below.refl _ _) h3 hown (Nat.le_refl _) hbase)
theorem owns_len {w : World} {base : Nat} {e : TypeId} {size : Nat} {v : Value} {n : Nat} {xs : List Value} (h : w.ownsRow base e size v n xs) : lenOf v = n := by
  rcases h.2 with ⟨rfl, rfl⟩ | ⟨g, cap, cur, rfl, _⟩ <;> rfl

theorem ret_int {k : IntKind} {a b : Int} (h : a = b) : Ending.returned (.int k a) = .returned (.int k b) := by rw [h]
theorem ret_v {k : IntKind} {a b : Int} (h : a = b) : Value.int k a = .int k b := by rw [h]
theorem ret_bool {a b : Bool} (h : a = b) : Ending.returned (.bool a) = .returned (.bool b) := by rw [h]

end Go.Proofs.YtilahcnpjbnjiaaDoor
