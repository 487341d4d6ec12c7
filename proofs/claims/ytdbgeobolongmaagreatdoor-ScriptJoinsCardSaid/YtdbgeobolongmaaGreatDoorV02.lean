/- Part of the proof: contracts of the functions that the statements of layer 32 reach. -/
import Derived.Test.YtdbgeobolongmaaGreatDoorProg
import Derived.WalkKit
import Derived.Deep.QuietTactic
import Derived.BigQuiet
import Derived.Lib.Hide
import Derived.Maps.AppendAt
import Derived.Deep.RegionHeld3
import Derived.StillTailTactics
import Derived.Test.YtdbgeobolongmaaGreatDoorRows
import Derived.ProofKit
import Derived.OpenShut
import Derived.Carry
import Derived.Deep.SlicePairs
import Derived.Lib.SmallJoins
import Derived.JoinedOf
import Derived.WideWitness
import Derived.Shelf.Strings.Shaped
import Derived.Shelf.Strings.SplitShaped
import Derived.Shelf.Strings.OnBuilder
import Derived.Ground.NamesProg
import Derived.Shelf.Slices.Equal
import Derived.Shelf.Slices.Empties2
import Derived.Shelf.SlicesE.Clone
import Derived.Shelf.SlicesE.IndexFunc
import Derived.Ground.SlgnProg
import Derived.Ground.SlgfProg
import Derived.Shelf.SlGeneric
import Derived.Laws.BytesArg
import Derived.Shelf.Bytes.SlSmallAll
import Derived.Lib.OthersKept
import Derived.Lib.DecodeN
import Derived.Test.YtdbgeobolongmaaGreatDoorV01
set_option linter.unusedVariables false
set_option linter.unusedSimpArgs false
namespace Go.Proofs.YtdbgeobolongmaaGreatDoor
open Go.RowKit
def RdP {α : Type} (w : World) (k : Nat) (enc : α → List Value) (p : Option Addr) (xs : List α) : Prop :=
 (p = none → xs.length = 0) ∧ ∀ a, p = some a → xs.length ≠ 0 → a.spot = none ∧ a.block < w.heap.size ∧ ∀ i x, xs[i]? = some x → ∀ j u, (enc x)[j]? = some u → w.cell? ⟨a.block, a.off + i * k + j, none⟩ = some u
def SlR {α : Type} (w : World) (k : Nat) (enc : α → List Value) (v : Value) (xs : List α) : Prop :=
 ∃ (p : Option Addr) (cap : Nat), v = .slice p xs.length cap ∧ xs.length ≤ cap ∧ cap ≤ 9223372036854775807 ∧ RdP w k enc p xs
theorem RdP.below {α : Type} {w w' : World} {k : Nat} {enc : α → List Value} {p : Option Addr} {xs : List α} (h : RdP w k enc p xs) {B : Nat} (hb : Below B w w') (hB : w.heap.size ≤ B) : RdP w' k enc p xs := by
 refine ⟨h.1, fun a ha hn => ?_⟩
 obtain ⟨h6, h7, h8⟩ := h.2 a ha hn
 exact ⟨h6, Nat.lt_of_lt_of_le h7 hb.size, fun i x hx j u hu => by rw [← h8 i x hx j u hu]; exact hb.cell (p := ⟨a.block, _, none⟩) (Nat.lt_of_lt_of_le h7 hB)⟩
theorem SlR.below {α : Type} {w w' : World} {k : Nat} {enc : α → List Value} {v : Value} {xs : List α} (h : SlR w k enc v xs) {B : Nat} (hb : Below B w w') (hB : w.heap.size ≤ B) : SlR w' k enc v xs := by
 obtain ⟨p, cap, h1, h2, h3, h4⟩ := h
 exact ⟨p, cap, h1, h2, h3, h4.below hb hB⟩
theorem RdP.grown {α : Type} {w w' : World} {k : Nat} {enc : α → List Value} {p : Option Addr} {xs : List α} (h : RdP w k enc p xs) {row : Option Nat} (hg : w.grownBy w' row) (hr : ∀ a, p = some a → xs.length ≠ 0 → row ≠ some a.block) : RdP w' k enc p xs := by
 refine ⟨h.1, fun a ha hn => ?_⟩
 obtain ⟨h6, h7, h8⟩ := h.2 a ha hn
 refine ⟨h6, Nat.lt_of_lt_of_le h7 hg.size, fun i x hx j u hu => hg.cell (h8 i x hx j u hu) (fun e => hr a ha hn e.symm)⟩
theorem RdP.grownS {α : Type} {w w' : World} {k : Nat} {enc : α → List Value} {p : Option Addr} {xs : List α} (h : RdP w k enc p xs) {row : Option Nat} (hg : w.grownBy w' row) (hr : ∀ a, p = some a → row ≠ some a.block) : RdP w' k enc p xs := h.grown hg fun a ha _ => hr a ha
theorem RdP.at {α : Type} {w : World} {k : Nat} {enc : α → List Value} {p : Option Addr} {xs : List α} (h : RdP w k enc p xs) {i : Nat} (hi : i < xs.length) :
  ∃ b off, p = some ⟨b, off, none⟩ ∧ b < w.heap.size ∧ ∀ j u, (enc xs[i])[j]? = some u → w.cell? ⟨b, off + i * k + j, none⟩ = some u := by
 cases p with
 | none => have := h.1 rfl; omega
 | some a =>
  obtain ⟨h6, h7, h8⟩ := h.2 a rfl (by omega)
  exact ⟨a.block, a.off, by cases a; simp_all, h7, fun j u hu => h8 i _ (List.getElem?_eq_getElem hi) j u hu⟩
theorem RdP.in {α : Type} {w : World} {k : Nat} {enc : α → List Value} {b off : Nat} {xs : List α} (h : RdP w k enc (some ⟨b, off, none⟩) xs) {i : Nat} (hi : i < xs.length) :
  ∀ j u, (enc xs[i])[j]? = some u → w.cell? ⟨b, off + i * k + j, none⟩ = some u := by
 obtain ⟨_, _, h8⟩ := h.2 _ rfl (by omega)
 exact fun j u hu => h8 i _ (List.getElem?_eq_getElem hi) j u hu
def flat {α : Type} (enc : α → List Value) (xs : List α) : List Value := xs.flatMap enc
theorem flat_length {α : Type} {enc : α → List Value} {k : Nat} (hk : ∀ x, (enc x).length = k) (xs : List α) : (flat enc xs).length = xs.length * k := by
 induction xs with
 | nil => simp [flat]
 | cons x r ih => simp only [flat, List.flatMap_cons, List.length_append, hk, List.length_cons] at ih ⊢; rw [ih, Nat.add_mul]; omega
theorem flat_append {α : Type} (enc : α → List Value) (xs ys : List α) : flat enc (xs ++ ys) = flat enc xs ++ flat enc ys := by simp [flat]
theorem flat_at {α : Type} {enc : α → List Value} {k : Nat} (hk : ∀ x, (enc x).length = k) : ∀ {xs : List α} {i : Nat} {x : α}, xs[i]? = some x → ∀ {j : Nat} {u : Value}, (enc x)[j]? = some u → (flat enc xs)[i * k + j]? = some u
 | [], i, x, h, _, _, _ => by simp at h
 | y :: r, 0, x, h, j, u, hu => by
  simp at h; subst h
  have hj : j < (enc y).length := (List.getElem?_eq_some_iff.1 hu).1
  simp only [flat, List.flatMap_cons, Nat.zero_mul, Nat.zero_add]
  rw [List.getElem?_append_left hj]; exact hu
 | y :: r, i + 1, x, h, j, u, hu => by
  have h' : r[i]? = some x := by simpa using h
  have := flat_at hk h' hu
  simp only [flat, List.flatMap_cons] at this ⊢
  rw [List.getElem?_append_right (by rw [hk, Nat.add_mul]; omega), hk, show (i + 1) * k + j - k = i * k + j by rw [Nat.add_mul]; omega]
  exact this
theorem SlR.of_owns {α : Type} {w : World} {k : Nat} {enc : α → List Value} {v : Value} {xs : List α} {base : Nat} {e : TypeId} (hk : ∀ x, (enc x).length = k) (h : w.ownsRow base e k v xs.length (flat enc xs)) : SlR w k enc v xs := by
 rcases h.2 with ⟨rfl, h0⟩ | ⟨g, cap, cur, rfl, hb, hg, hn, hc, hs, ht⟩
 ·exact ⟨none, 0, by rw [h0], by omega, by omega, fun _ => h0, fun a ha _ => by cases ha⟩
 ·refine ⟨some ⟨g, 0, none⟩, cap, rfl, hn, by unfold maxLen at hc; omega, (fun e => by cases e), fun a ha _ => ?_⟩
  cases ha
  refine ⟨rfl, (Array.getElem?_eq_some_iff.1 hg).1, fun i x hx j u hu => ?_⟩
  have := h.cells (g := g) rfl (i * k + j) u (flat_at hk hx hu)
  rw [← this]
  congr 1
  unfold Addr.add
  split
  ·rename_i h0; simp [Nat.add_assoc, h0]
  ·simp [Nat.add_assoc]
theorem bcell {W w1 : World} (hb : Below W.heap.size W w1) : (∀ b o, b < W.heap.size → w1.cell? ⟨b, o, none⟩ = W.cell? ⟨b, o, none⟩) ∧ (∀ b o, b < W.heap.size → w1.frozen? ⟨b, o, none⟩ = W.frozen? ⟨b, o, none⟩) :=
 ⟨fun b o h => hb.cell (p := ⟨b, o, none⟩) h, fun b o h => hb.frozen (p := ⟨b, o, none⟩) h⟩
theorem below_drewN {B : Nat} {a w : World} (h : Below B a w) (n : Nat) : Below B a (w.drewN n) := ⟨h.os, h.tape, h.output, h.size, h.block⟩
theorem owns_below {w w' : World} {base : Nat} {e : TypeId} {size : Nat} {v : Value} {n : Nat} {xs : List Value} (h : w.ownsRow base e size v n xs) {B : Nat} (hb : Below B w w') (hB : w.heap.size ≤ B) : w'.ownsRow base e size v n xs :=
 h.kept (row := none) ⟨hb.os, hb.tape, hb.output, hb.size, fun k hk _ => hb.block k (Nat.lt_of_lt_of_le hk hB)⟩ (by cases v.ownBlock <;> simp)
theorem owns_base {w : World} {base base' : Nat} {e : TypeId} {size : Nat} {v : Value} {n : Nat} {xs : List Value} (h : w.ownsRow base e size v n xs) (hb : base' ≤ base) : w.ownsRow base' e size v n xs := by
 refine ⟨h.1, ?_⟩
 rcases h.2 with h0 | ⟨g, cap, cur, hv, hg, rest⟩
 ·exact .inl h0
 ·exact .inr ⟨g, cap, cur, hv, by omega, rest⟩
theorem cell_new_list (w : World) (l : List Value) (t : TypeId) : ∀ j u, l[j]? = some u → (w.alloc (.cells l.toArray t)).cell? ((⟨w.heap.size, 0, none⟩ : Addr).add j) = some u := by
 intro j u hu
 have hadd : (⟨w.heap.size, 0, none⟩ : Addr).add j = ⟨w.heap.size, j, none⟩ := by unfold Addr.add; split <;> simp_all
 rw [hadd, cell_of_row _ w.heap.size j l.toArray t (0, 0) (heap_alloc_new w _)]
 simpa using hu
theorem below_grown {B : Nat} {a w w' : World} {v : Value} {base : Nat} {e : TypeId} {size n : Nat} {xs : List Value} (h : Below B a w) (hg : w.grownBy w' v.ownBlock) (ho : w.ownsRow base e size v n xs) (hB : B ≤ base) (hs : B ≤ w.heap.size) : Below B a w' :=
 h.grown hg hs fun k hk => Nat.le_trans hB (ho.lt k hk).1
def lenOf : Value → Nat | .slice _ n _ => n | _ => 0
def ElemOk (P : Program) (t e : TypeId) (size bytes : Nat) : Prop :=
 P.underlying t = some (.slice e) ∧ bytes ≤ 128 ∧ 0 < size ∧ ∃ i z, P.info? e = some i ∧ i.zero = some z ∧ i.size = size ∧ i.bytes = bytes ∧ z.cells.size = size
theorem ElemOk.mk {P : Program} {t e : TypeId} {size bytes : Nat} {z : Value} (ht : P.underlying t = some (.slice e)) (h : (P.info? e).map (fun i => (i.zero, i.size, i.bytes)) = some (some z, size, bytes)) (hb : bytes ≤ 128) (hs : 0 < size) (hz : z.cells.size = size) : ElemOk P t e size bytes := by
 obtain ⟨i, h1, h2, h3, h4⟩ := info_parts h
 exact ⟨ht, hb, hs, i, z, h1, h2, h3, h4, hz⟩
theorem size_bytes {n bytes : Nat} (h : n ≤ 1099511627776) (hb : bytes ≤ 128) : n * bytes ≤ 140737488355328 := by
 have : n * bytes ≤ 1099511627776 * 128 := Nat.mul_le_mul h hb
 omega
theorem run_append_none {P : Program} (w : World) {base : Nat} {t ty e : TypeId} {size bytes : Nat} (hE : ElemOk P t e size bytes) {v : Value} {n : Nat} {xs : List Value} (hown : w.ownsRow base e size v n xs) (c : Nat) :
  (Builtin.append_ #[t, t] ty #[v, .slice none 0 c]).run P w = .ok v w := by
 obtain ⟨ht, _, _, i, z, hi, _⟩ := hE
 rcases hown.2 with ⟨rfl, rfl⟩ | ⟨g, cap, cur, rfl, _, _, hnc, _⟩
 ·simp [Builtin.append_, run_underlying ht, sizeOf, typeInfo, hi, Builtin.lenOf, Builtin.firstCells]
 ·simp [Builtin.append_, run_underlying ht, sizeOf, typeInfo, hi, Builtin.lenOf, Builtin.firstCells, hnc, storeCells]
section
variable {P : Program} {w : World} {ops : Array Oper} {rest : List Oper} {o : Oper} {a : Act} {Q : Exit → Act → World → Prop}
theorem wpList_app {t e : TypeId} {size bytes : Nat} (hE : ElemOk P t e size bytes) (hgd : o.guard = none) (s x : Operand)
  (ho : o.op = .call { callee := .builtin .append, args := #[s, x], argTypes := #[t, t] })
  (base : Nat) (v : Value) (n : Nat) (xs : List Value) (hs : a.eval s = v) (hown : w.ownsRow base e size v n xs)
  (m c : Nat) (news : List Value) (hx : a.eval x = .slice (some ⟨w.heap.size, 0, none⟩) m c) (hl : news.length = m * size) (h1 : ∀ u ∈ news, u.oneCell' = true)
  (hsm : n + m ≤ 1099511627776) (hbase : base ≤ w.heap.size)
  (h : ∀ v' w', w'.ownsRow base e size v' (n + m) (xs ++ news) → w.grownBy w' v.ownBlock → (v'.ownBlock = v.ownBlock ∨ v'.ownBlock = some (w.heap.size + 1)) → Below base w w' → wpList P ops Q rest (a.put o.dst v') w') :
  wpList P ops Q (o :: rest) a (w.alloc (.cells news.toArray e)) := by
 obtain ⟨ht, hb, hsz, i, z, hi, hz, hsize, hby, hzs⟩ := hE
 refine wpList_plain hgd fun K hK => ?_
 obtain ⟨v', w', hr, h2, h3, h4, h5⟩ := run_append_own_at (P := P) (w.alloc (.cells news.toArray e)) base t o.type e i z size bytes ht hi hz hsize hby hzs hsz v n xs (hown.alloc _) ⟨w.heap.size, 0, none⟩ m c news hl (cell_new_list w news e) h1 (by unfold maxLen; omega) (size_bytes hsm hb) (by simp; omega)
 have hg : w.grownBy w' v.ownBlock := by
  refine ⟨h3.os, h3.tape, h3.output, Nat.le_trans (by simp) h3.size, fun k hk hne => ?_⟩
  rw [h3.block k (by simp; omega) hne]
  exact Below.heap_alloc w _ k hk
 unfold Oper.wp execOp
 simp only [ho, resolve, invoke, builtin, Sem.run_bind, Sem.run_pure, Result.andThen_ok, List.map_toArray, List.map_cons, List.map_nil, hs, hx, hr]
 exact hK _ _ (h v' w' h2 hg (by simpa using h5) (below_grown (Below.refl _ _) hg hown (Nat.le_refl _) hbase))
theorem wpList_app_sl {α : Type} {t e : TypeId} {size bytes : Nat} (hE : ElemOk P t e size bytes) (hgd : o.guard = none) (s x : Operand)
  (ho : o.op = .call { callee := .builtin .append, args := #[s, x], argTypes := #[t, t] })
  (base : Nat) (v : Value) (n : Nat) (xs : List Value) (hs : a.eval s = v) (hown : w.ownsRow base e size v n xs)
  (enc : α → List Value) (hk : ∀ x, (enc x).length = size) (p : Option Addr) (c : Nat) (ys : List α) (hx : a.eval x = .slice p ys.length c) (hr : RdP w size enc p ys) (h1 : ∀ y, ∀ u ∈ enc y, u.oneCell' = true)
  (hsm : n + ys.length ≤ 1099511627776) (hbase : base ≤ w.heap.size)
  (h : ∀ v' w', w'.ownsRow base e size v' (n + ys.length) (xs ++ flat enc ys) → w.grownBy w' v.ownBlock → (v'.ownBlock = v.ownBlock ∨ v'.ownBlock = some w.heap.size) → Below base w w' → wpList P ops Q rest (a.put o.dst v') w') :
  wpList P ops Q (o :: rest) a w := by
 have hE' := hE
 obtain ⟨ht, hb, hsz, i, z, hi, hz, hsize, hby, hzs⟩ := hE
 refine wpList_plain hgd fun K hK => ?_
 cases p with
 | none =>
  have h0 := hr.1 rfl
  have hys : ys = [] := List.eq_nil_of_length_eq_zero h0
  subst hys
  have hrun := run_append_none (ty := o.type) w hE' hown c
  unfold Oper.wp execOp
  simp only [List.length_nil] at hx
  simp only [ho, resolve, invoke, builtin, Sem.run_bind, Sem.run_pure, Result.andThen_ok, List.map_toArray, List.map_cons, List.map_nil, hs, hx, hrun]
  exact hK _ _ (h v w (by simpa [flat] using hown) ⟨rfl, rfl, rfl, Nat.le_refl _, fun _ _ _ => rfl⟩ (.inl rfl) (Below.refl _ _))
 | some ad =>
  have hnews : ∀ j u, (flat enc ys)[j]? = some u → w.cell? (ad.add j) = some u := by
   intro j u hu
   have hjl : j < (flat enc ys).length := (List.getElem?_eq_some_iff.1 hu).1
   rw [flat_length hk] at hjl
   have hi' : j / size < ys.length := Nat.div_lt_of_lt_mul (by rw [Nat.mul_comm]; exact hjl)
   obtain ⟨hsp, _, hcell⟩ := hr.2 ad rfl (Nat.ne_of_gt (Nat.lt_of_le_of_lt (Nat.zero_le _) hi'))
   have hm : j % size < (enc ys[j / size]).length := by rw [hk]; exact Nat.mod_lt _ hsz
   have hfl := flat_at hk (List.getElem?_eq_getElem hi') (List.getElem?_eq_getElem hm)
   have hj : j / size * size + j % size = j := by rw [Nat.mul_comm]; exact Nat.div_add_mod j size
   rw [hj, hu] at hfl
   have := hcell _ _ (List.getElem?_eq_getElem hi') _ _ ((List.getElem?_eq_getElem hm).trans hfl.symm)
   rw [← this]
   congr 1
   unfold Addr.add
   split
   ·rename_i h0; subst h0; cases ad; simp_all
   ·cases ad; simp only [Addr.mk.injEq, true_and, and_true]; omega
  obtain ⟨v', w', hr', h2, h3, h4, h5⟩ := run_append_own_at (P := P) w base t o.type e i z size bytes ht hi hz hsize hby hzs hsz v n xs hown ad ys.length c (flat enc ys) (flat_length hk ys) hnews (by intro u hu; simp only [flat, List.mem_flatMap] at hu; obtain ⟨y, _, hy⟩ := hu; exact h1 y u hy) (by unfold maxLen; omega) (size_bytes hsm hb) hbase
  unfold Oper.wp execOp
  simp only [ho, resolve, invoke, builtin, Sem.run_bind, Sem.run_pure, Result.andThen_ok, List.map_toArray, List.map_cons, List.map_nil, hs, hx, hr']
  exact hK _ _ (h v' w' h2 h3 h5 (below_grown (Below.refl _ _) h3 hown (Nat.le_refl _) hbase))
end
theorem qh {p : Prop} (h : p) : Hid p := Lib.hid h
theorem qA (a : Act) (d : Option Tmp) (v : Value) : a.put d v = (match d with | some t => { a with tmps := a.tmps.setIfInBounds t v } | none => a) := by cases d <;> rfl
theorem qB {α : Type} {l : List α} {i : Nat} {a : α} : l.toArray.setIfInBounds i a = (l.set i a).toArray := List.setIfInBounds_toArray ..
theorem qC {α : Type} {a b : α} {l : List α} : (a :: l).set 0 b = b :: l := rfl
theorem qD {α : Type} {a b : α} {l : List α} {n : Nat} : (a :: l).set (n + 1) b = a :: l.set n b := rfl
theorem qE {α : Type} {l : List α} {i : Nat} (h : i < l.toArray.size) : l.toArray[i] = l[i]'(by simpa using h) := rfl
theorem qF {α : Type} {a : α} {l : List α} (h : 0 < (a :: l).length) : (a :: l)[0] = a := rfl
theorem qG {α : Type} {a : α} {l : List α} {i : Nat} (h : i + 1 < (a :: l).length) : (a :: l)[i + 1] = l[i]'(Nat.lt_of_succ_lt_succ h) := rfl
end Go.Proofs.YtdbgeobolongmaaGreatDoor
namespace Go.Proofs.YtdbgeobolongmaaGreatDoor
open Go.ChangeShapes Go.WideShapes Go.ChangeAt Go.RowKit Go.Deep Go.Joins
theorem own : ownKnob Tryz.prog.godebug = none := by kernel_rfl
theorem laidOut : laidOutB Tryz.prog = true := by kernel_rfl
section
variable {H : Type} {enc : TypeId × Value → H}
theorem below_trodAll {P : Program} (hl : laidOutB P = true) {W W' : World} (hb : Below W.heap.size W W') :
  ∀ {ts : List TypeId} {vs : List Value} {ds : List (DataW H)} {ps : List MemPlace}, (ts.all fun t => P.readableRec t && decide (t < P.types.size)) = true →
   DataW.TrodAll enc P W 0 (fun _ => true) true ts vs ds ps → (∀ x ∈ ps, x.block < W.heap.size) → DataW.TrodAll enc P W' 0 (fun b => decide (b < W.heap.size)) true ts vs ds ps
 | [], [], [], _, _, h, _ => h
 | t :: ts, v :: vs, d :: ds, ps, hr, ⟨p, q, h1, h2, e⟩, hlt => by
  subst e
  simp only [List.all_cons, Bool.and_eq_true, decide_eq_true_eq] at hr
  exact ⟨p, q, Below.trod hl hr.1.1 hr.1.2 h1 hb (fun x hx => hlt x (List.mem_append_left _ hx)), below_trodAll hl hb hr.2 h2 (fun x hx => hlt x (List.mem_append_right _ hx)), rfl⟩
 | [], _ :: _, _, _, _, h, _ => h.elim
 | [], [], _ :: _, _, _, h, _ => h.elim
 | _ :: _, [], _, _, _, h, _ => h.elim
 | _ :: _, _ :: _, [], _, _, h, _ => h.elim
theorem post_true {f : Func} {s : ChangeSpec} {W W' : World} {args : Array Value} {ds gs : List (DataW H)} {before p q : List MemPlace}
  (hW : DataW.Whole enc Tryz.prog f.params.toList s.vars false W args.toList ds gs before)
  (hA : DataW.TrodAll enc Tryz.prog W 0 (fun _ => true) true f.params.toList args.toList ds p) (hbe : before = p ++ q)
  (hv : s.vars = []) (hr : f.resultTypes = #[4]) (hp : (f.params.toList.all fun t => Tryz.prog.readableRec t && decide (t < Tryz.prog.types.size)) = true)
  (hs : s.fn H (ds ++ gs) = { results := [.lit (.bool true)], args := ds })
  (hb : Below W.heap.size W W') : s.post enc Tryz.prog f false true false false W args (.bool true) W' := by
 refine ⟨ds, gs, before, [], p, [], hW, ?_, ?_, ?_, hb.frame _, fun h => by cases h⟩
 ·rw [hs, hr]
  exact ⟨[], [], ⟨1, by simp [DataW.trod, Value.cells, Tryz.underlying4]⟩, rfl, rfl⟩
 ·rw [hs]
  exact below_trodAll laidOut hb hp hA (fun x hx => by simpa using hW.lt x (by rw [hbe]; exact List.mem_append_left _ hx))
 ·rw [hs, hv]
  rfl
end
end Go.Proofs.YtdbgeobolongmaaGreatDoor
namespace Go.Proofs
open Go.Shelf
def Tryz.cut_ren : Go.Shelf.Ren := ⟨fun | 145 => 135 | 220 => 167 | 219 => 157 | 217 => 174 | 225 => 175 | 224 => 176 | 267 => 177 | 266 => 194 | 314 => 195 | n => n, fun | 9 => 9 | 4 => 4 | 59 => 180 | 3 => 3 | 5 => 5 | 46 => 178 | 146 => 233 | 51 => 232 | n => n, fun | 1 => 1 | n => n⟩
theorem Tryz.cut : Go.Proofs.LaysM.n145 Tryz.prog Tryz.cut_ren := {
 mixed := by kernel_rfl
 f145 := Tryz.func135.trans (congrArg some (by kernel_rfl))
 f217 := Tryz.func174.trans (congrArg some (by kernel_rfl))
 f219 := Tryz.func157.trans (congrArg some (by kernel_rfl))
 f220 := Tryz.func167.trans (congrArg some (by kernel_rfl))
 f224 := Tryz.func176.trans (congrArg some (by kernel_rfl))
 f225 := Tryz.func175.trans (congrArg some (by kernel_rfl))
 f266 := Tryz.func194.trans (congrArg some (by kernel_rfl))
 f267 := Tryz.func177.trans (congrArg some (by kernel_rfl))
 f314 := Tryz.func195.trans (congrArg some (by kernel_rfl))
 t3 := Tryz.underlying3
 a3 := Tryz.isAgg3
 z3 := Tryz.sizeOf3
 v3 := Tryz.zeroValue3
 t4 := Tryz.underlying4
 a4 := Tryz.isAgg4
 z4 := Tryz.sizeOf4
 v4 := Tryz.zeroValue4
 t5 := Tryz.underlying5
 a5 := Tryz.isAgg5
 z5 := Tryz.sizeOf5
 v5 := Tryz.zeroValue5
 t9 := Tryz.underlying9
 a9 := Tryz.isAgg9
 z9 := Tryz.sizeOf9
 v9 := Tryz.zeroValue9
 t46 := Tryz.underlying178
 a46 := Tryz.isAgg178
 z46 := Tryz.sizeOf178
 v46 := Tryz.zeroValue178
 t51 := Tryz.underlying232
 a51 := Tryz.isAgg232
 z51 := Tryz.sizeOf232
 v51 := Tryz.zeroValue232
 t59 := Tryz.underlying180
 a59 := Tryz.isAgg180
 z59 := Tryz.sizeOf180
 v59 := Tryz.zeroValue180
 t146 := Tryz.underlying233
 a146 := Tryz.isAgg233
 z146 := Tryz.sizeOf233
 v146 := Tryz.zeroValue233
 g1 := by kernel_rfl
 i3 := by kernel_rfl
 i4 := by kernel_rfl
 i5 := by kernel_rfl
 i9 := by kernel_rfl
 i46 := by kernel_rfl
 i51 := by kernel_rfl
 i59 := by kernel_rfl
 i146 := by kernel_rfl
 m1 := by kernel_rfl
 s1_3 := fun w h => Go.Proofs.cell_of_shapedOpen_int (zero := #[.int .i64 0]) (t := 3) h (of_decide_eq_true (by kernel_rfl)) (by kernel_rfl) rfl (by kernel_rfl) (by kernel_rfl) Tryz.underlying3 }
def Tryz.split_ren : Go.Shelf.Ren := ⟨fun | 146 => 37 | 221 => 79 | 268 => 124 | 138 => 125 | 143 => 126 | 195 => 154 | 197 => 155 | 218 => 156 | 219 => 157 | 260 => 173 | 217 => 174 | 225 => 175 | 224 => 176 | 267 => 177 | 266 => 194 | 314 => 195 | n => n, fun | 9 => 9 | 31 => 79 | 3 => 3 | 4 => 4 | 0 => 0 | 105 => 201 | 21 => 21 | 5 => 5 | 46 => 178 | 119 => 228 | 139 => 231 | 138 => 230 | 146 => 233 | 51 => 232 | n => n, fun | 1 => 1 | 3 => 2 | 4 => 3 | n => n⟩
theorem Tryz.split : Go.Proofs.LaysM.n146 Tryz.prog Tryz.split_ren := {
 mixed := by kernel_rfl
 f138 := Tryz.func125.trans (congrArg some (by kernel_rfl))
 f143 := Tryz.func126.trans (congrArg some (by kernel_rfl))
 f146 := Tryz.func37.trans (congrArg some (by kernel_rfl))
 f195 := Tryz.func154.trans (congrArg some (by kernel_rfl))
 f197 := Tryz.func155.trans (congrArg some (by kernel_rfl))
 f217 := Tryz.func174.trans (congrArg some (by kernel_rfl))
 f218 := Tryz.func156.trans (congrArg some (by kernel_rfl))
 f219 := Tryz.func157.trans (congrArg some (by kernel_rfl))
 f221 := Tryz.func79.trans (congrArg some (by kernel_rfl))
 f224 := Tryz.func176.trans (congrArg some (by kernel_rfl))
 f225 := Tryz.func175.trans (congrArg some (by kernel_rfl))
 f260 := Tryz.func173.trans (congrArg some (by kernel_rfl))
 f266 := Tryz.func194.trans (congrArg some (by kernel_rfl))
 f267 := Tryz.func177.trans (congrArg some (by kernel_rfl))
 f268 := Tryz.func124.trans (congrArg some (by kernel_rfl))
 f314 := Tryz.func195.trans (congrArg some (by kernel_rfl))
 t0 := Tryz.underlying0
 a0 := Tryz.isAgg0
 z0 := Tryz.sizeOf0
 v0 := Tryz.zeroValue0
 t3 := Tryz.underlying3
 a3 := Tryz.isAgg3
 z3 := Tryz.sizeOf3
 v3 := Tryz.zeroValue3
 t4 := Tryz.underlying4
 a4 := Tryz.isAgg4
 z4 := Tryz.sizeOf4
 v4 := Tryz.zeroValue4
 t5 := Tryz.underlying5
 a5 := Tryz.isAgg5
 z5 := Tryz.sizeOf5
 v5 := Tryz.zeroValue5
 t9 := Tryz.underlying9
 a9 := Tryz.isAgg9
 z9 := Tryz.sizeOf9
 v9 := Tryz.zeroValue9
 t21 := Tryz.underlying21
 a21 := Tryz.isAgg21
 z21 := Tryz.sizeOf21
 v21 := Tryz.zeroValue21
 t31 := Tryz.underlying79
 a31 := Tryz.isAgg79
 z31 := Tryz.sizeOf79
 v31 := Tryz.zeroValue79
 t46 := Tryz.underlying178
 a46 := Tryz.isAgg178
 z46 := Tryz.sizeOf178
 v46 := Tryz.zeroValue178
 t51 := Tryz.underlying232
 a51 := Tryz.isAgg232
 z51 := Tryz.sizeOf232
 v51 := Tryz.zeroValue232
 t105 := Tryz.underlying201
 a105 := Tryz.isAgg201
 z105 := Tryz.sizeOf201
 v105 := Tryz.zeroValue201
 t119 := Tryz.underlying228
 a119 := Tryz.isAgg228
 z119 := Tryz.sizeOf228
 t138 := Tryz.underlying230
 a138 := Tryz.isAgg230
 z138 := Tryz.sizeOf230
 v138 := Tryz.zeroValue230
 t139 := Tryz.underlying231
 a139 := Tryz.isAgg231
 z139 := Tryz.sizeOf231
 v139 := Tryz.zeroValue231
 t146 := Tryz.underlying233
 a146 := Tryz.isAgg233
 z146 := Tryz.sizeOf233
 v146 := Tryz.zeroValue233
 g1 := by kernel_rfl
 g3 := by kernel_rfl
 g4 := by kernel_rfl
 i0 := by kernel_rfl
 i3 := by kernel_rfl
 i4 := by kernel_rfl
 i5 := by kernel_rfl
 i9 := by kernel_rfl
 i21 := by kernel_rfl
 i31 := by kernel_rfl
 i46 := by kernel_rfl
 i51 := by kernel_rfl
 i105 := by kernel_rfl
 i138 := by kernel_rfl
 i139 := by kernel_rfl
 i146 := by kernel_rfl
 m1 := by kernel_rfl
 s1_3 := fun w h => Go.Proofs.cell_of_shapedOpen_int (zero := #[.int .i64 0]) (t := 3) h (of_decide_eq_true (by kernel_rfl)) (by kernel_rfl) rfl (by kernel_rfl) (by kernel_rfl) Tryz.underlying3
 m3 := by kernel_rfl
 m4 := by kernel_rfl }
def Tryz.join_ren : Go.Shelf.Ren := ⟨fun | 156 => 34 | 165 => 70 | 166 => 71 | 169 => 72 | 240 => 119 | 241 => 120 | 276 => 152 | 277 => 153 | n => n, fun | 31 => 79 | 9 => 9 | 3 => 3 | 4 => 4 | 0 => 0 | 20 => 20 | 72 => 134 | 76 => 138 | 70 => 132 | 37 => 33 | 75 => 137 | 127 => 170 | 164 => 198 | 5 => 5 | 80 => 140 | n => n, fun | n => n⟩
theorem Tryz.join : Go.Proofs.Lays.n156 Tryz.prog Tryz.join_ren := {
 mixed := by kernel_rfl
 f156 := Tryz.func34.trans (congrArg some (by kernel_rfl))
 f165 := Tryz.func70.trans (congrArg some (by kernel_rfl))
 f166 := Tryz.func71.trans (congrArg some (by kernel_rfl))
 f169 := Tryz.func72.trans (congrArg some (by kernel_rfl))
 f240 := Tryz.func119.trans (congrArg some (by kernel_rfl))
 f241 := Tryz.func120.trans (congrArg some (by kernel_rfl))
 f276 := Tryz.func152.trans (congrArg some (by kernel_rfl))
 f277 := Tryz.func153.trans (congrArg some (by kernel_rfl))
 t0 := Tryz.underlying0
 a0 := Tryz.isAgg0
 z0 := Tryz.sizeOf0
 v0 := Tryz.zeroValue0
 t3 := Tryz.underlying3
 a3 := Tryz.isAgg3
 z3 := Tryz.sizeOf3
 v3 := Tryz.zeroValue3
 t4 := Tryz.underlying4
 a4 := Tryz.isAgg4
 z4 := Tryz.sizeOf4
 v4 := Tryz.zeroValue4
 t9 := Tryz.underlying9
 a9 := Tryz.isAgg9
 z9 := Tryz.sizeOf9
 v9 := Tryz.zeroValue9
 t20 := Tryz.underlying20
 a20 := Tryz.isAgg20
 z20 := Tryz.sizeOf20
 v20 := Tryz.zeroValue20
 t31 := Tryz.underlying79
 a31 := Tryz.isAgg79
 z31 := Tryz.sizeOf79
 v31 := Tryz.zeroValue79
 t37 := Tryz.underlying33
 a37 := Tryz.isAgg33
 z37 := Tryz.sizeOf33
 v37 := Tryz.zeroValue33
 t70 := Tryz.underlying132
 a70 := Tryz.isAgg132
 z70 := Tryz.sizeOf132
 v70 := Tryz.zeroValue132
 t72 := Tryz.underlying134
 a72 := Tryz.isAgg134
 z72 := Tryz.sizeOf134
 v72 := Tryz.zeroValue134
 t75 := Tryz.underlying137
 a75 := Tryz.isAgg137
 z75 := Tryz.sizeOf137
 v75 := Tryz.zeroValue137
 t76 := Tryz.underlying138
 a76 := Tryz.isAgg138
 z76 := Tryz.sizeOf138
 v76 := Tryz.zeroValue138
 t127 := Tryz.underlying170
 a127 := Tryz.isAgg170
 z127 := Tryz.sizeOf170
 v127 := Tryz.zeroValue170
 t164 := Tryz.underlying198
 a164 := Tryz.isAgg198
 z164 := Tryz.sizeOf198
 v164 := Tryz.zeroValue198 }
def Tryz.equalI_ren : Go.Shelf.Ren := ⟨fun | 111 => 121 | n => n, fun | 28 => 27 | 3 => 3 | 4 => 4 | 0 => 0 | n => n, fun | n => n⟩
theorem Tryz.equalI : Go.Proofs.Lays.n111 Tryz.prog Tryz.equalI_ren := {
 mixed := by kernel_rfl
 f111 := Tryz.func121.trans (congrArg some (by kernel_rfl))
 t0 := Tryz.underlying0
 a0 := Tryz.isAgg0
 z0 := Tryz.sizeOf0
 v0 := Tryz.zeroValue0
 t3 := Tryz.underlying3
 a3 := Tryz.isAgg3
 z3 := Tryz.sizeOf3
 v3 := Tryz.zeroValue3
 t4 := Tryz.underlying4
 a4 := Tryz.isAgg4
 z4 := Tryz.sizeOf4
 v4 := Tryz.zeroValue4
 t28 := Tryz.underlying27
 a28 := Tryz.isAgg27
 z28 := Tryz.sizeOf27
 v28 := Tryz.zeroValue27 }
def Tryz.containsI_ren : Go.Shelf.Ren := ⟨fun | 8 => 188 | 6 => 204 | n => n, fun | 22 => 27 | 23 => 3 | 25 => 226 | 4 => 4 | 3 => 3 | 0 => 0 | n => n, fun | n => n⟩
theorem Tryz.containsI : Go.Proofs.SlLaysH.n8 Tryz.prog Tryz.containsI_ren := {
 mixed := by kernel_rfl
 f6 := ⟨Tryz.f204.name, by decide, Tryz.func204.trans (congrArg some (by kernel_rfl))⟩
 f8 := ⟨Tryz.f188.name, by decide, Tryz.func188.trans (congrArg some (by kernel_rfl))⟩
 t0 := Tryz.underlying0
 a0 := Tryz.isAgg0
 z0 := Tryz.sizeOf0
 v0 := Tryz.zeroValue0
 t3 := Tryz.underlying3
 a3 := Tryz.isAgg3
 z3 := Tryz.sizeOf3
 v3 := Tryz.zeroValue3
 t4 := Tryz.underlying4
 a4 := Tryz.isAgg4
 z4 := Tryz.sizeOf4
 v4 := Tryz.zeroValue4
 t22 := Tryz.underlying27
 a22 := Tryz.isAgg27
 z22 := Tryz.sizeOf27
 v22 := Tryz.zeroValue27
 a23 := Tryz.isAgg3
 z23 := Tryz.sizeOf3
 t25 := Tryz.underlying226
 a25 := Tryz.isAgg226
 z25 := Tryz.sizeOf226
 v25 := Tryz.zeroValue226 }
end Go.Proofs
namespace Go.Proofs.YtdbgeobolongmaaGreatDoor
open Go.RowKit
def encB (c : UInt8) : List Value := [.int .u8 (c.toNat : Int)]
theorem encB_len (c : UInt8) : (encB c).length = 1 := rfl
def str (l : List UInt8) : ByteArray := ⟨l.toArray⟩
theorem str_size (l : List UInt8) : (str l).size = l.length := by simp [str, ByteArray.size]
theorem str_list (s : ByteArray) : str s.data.toList = s := by simp [str]
theorem list_str (l : List UInt8) : (str l).data.toList = l := by simp [str]
theorem strOfNums_bytes (l : List UInt8) : strOfNums (l.map fun c => (c.toNat : Int)) = str l := by
 simp [strOfNums, str, Function.comp_def]
theorem SlR.str {w : World} {v : Value} {l : List UInt8} (h : SlR w 1 encB v l) {src e dst : TypeId} (hs : Tryz.prog.underlying src = some (.slice e)) (he : Tryz.prog.underlying e = some (.int .u8)) (hd : Tryz.prog.underlying dst = some .string) :
  (convert src dst v).run Tryz.prog w = .ok (.string (str l)) w := by
 obtain ⟨p, cap, rfl, h1, h2, hR⟩ := h
 rcases Nat.eq_zero_or_pos l.length with h0 | h0
 ·obtain rfl : l = [] := List.eq_nil_of_length_eq_zero h0
  exact run_convert_bytes_zero w src e hs he p cap dst hd
 ·obtain ⟨b, off, rfl, _, _⟩ := hR.at h0
  rw [run_convert_bytes_arg (P := Tryz.prog) w src e hs he b off l.length cap (l.map fun c => (c.toNat : Int)) (by simp) (fun i hi => by
   have := hR.in hi 0 (.int .u8 (l[i].toNat : Int)) rfl
   simp only [Nat.mul_one, Nat.add_zero] at this
   rw [this]
   simp [List.getD, List.getElem?_eq_getElem hi]) dst hd, strOfNums_bytes]
theorem str_app (a b : List UInt8) : str a ++ str b = str (a ++ b) := by
 apply ByteArray.ext
 rw [ByteArray.data_append]
 simp [str]
theorem str_cut (l : List UInt8) (a b : Nat) : (str l).extract a b = str ((l.drop a).take (b - a)) := by
 apply ByteArray.ext
 rw [ByteArray.data_extract]
 simp [str]
theorem str_get (l : List UInt8) (i : Nat) (h : i < (str l).size) : (str l)[i] = l[i]'(by rw [← str_size]; exact h) := by
 simp [str, ByteArray.getElem_eq_getElem_data]
theorem str_of (s : ByteArray) : ∃ l, s = str l ∧ l.length = s.size := ⟨s.data.toList, (str_list s).symm, Array.length_toList⟩
theorem decodeN_big (n b0 b1 b2 b3 : Nat) (h : 128 ≤ b0) (h' : b0 < 256) : 128 ≤ (Lib.decodeN n b0 b1 b2 b3).1 ∧ (Lib.decodeN n b0 b1 b2 b3).1 ≤ 1114111 := by
 unfold Lib.decodeN
 rw [if_neg (by omega)]
 repeat' split
 all_goals (simp only; omega)
theorem decode_big (s : ByteArray) (i : Nat) (h : 128 ≤ (s.get! i).toNat) : 128 ≤ (Utf8.decode s i).1 ∧ (Utf8.decode s i).1 ≤ 1114111 := by
 rw [Lib.decode_at]
 exact decodeN_big _ _ _ _ _ h (s.get! i).toNat_lt
end Go.Proofs.YtdbgeobolongmaaGreatDoor
