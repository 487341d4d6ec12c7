/- Part of the proof: ScriptLines, ScriptParses, ScriptShows. -/
import Derived.Test.YtdbgeobolongmaaGreatDoorProg
import Derived.WalkKit
import Derived.Deep.QuietTactic
import Derived.BigQuiet
import Derived.Lib.Hide
import Derived.Maps.AppendAt
import Derived.Deep.RegionHeld3
import Derived.StillTailTactics
import Derived.Test.YtdbgeobolongmaaGreatDoorRows
import Derived.ProofKit
import Derived.OpenShut
import Derived.Carry
import Derived.Deep.SlicePairs
import Derived.Lib.SmallJoins
import Derived.JoinedOf
import Derived.WideWitness
import Derived.Deep.Slices
import Derived.Shelf.Strings.Shaped
import Derived.Shelf.Strings.SplitShaped
import Derived.Shelf.Strings.OnBuilder
import Derived.Ground.NamesProg
import Derived.Shelf.Slices.Equal
import Derived.Shelf.Slices.Empties2
import Derived.Shelf.SlicesE.Clone
import Derived.Shelf.SlicesE.IndexFunc
import Derived.Ground.SlgnProg
import Derived.Ground.SlgfProg
import Derived.Shelf.SlGeneric
import Derived.Laws.BytesArg
import Derived.Shelf.Bytes.SlSmallAll
import Derived.Lib.OthersKept
import Derived.Lib.DecodeN
import Derived.Shelf.Strings.BuilderK
import Derived.Shelf.Strings.Runes
import Derived.Shelf.Strconv.Itoa3
import Derived.Shelf.Strconv.ErrVarAll
import Derived.Shelf.Small.Strs
import Derived.Shelf.Small.Utf8
import Derived.Laws.Bits64b
import Derived.WalkSpells
import Derived.RangeFuncNested
import Derived.RangeFuncBound
import Derived.RangeFuncCalls
import Derived.RangeFuncLeaves
import Derived.RangeFuncBox
import Derived.Shelf.Abstract
import Derived.Shelf.RegionOpen
import Derived.OwnWalkIn
import Derived.TacticsInMore
import Derived.LoopNIn
import Derived.LoopIn
import Derived.Maps.OwnIn
import Derived.Laws.Rows
import Derived.Laws.Tables
import Derived.Laws.CopyOwn
import Derived.Lib.FrozenHead2
import Derived.OrdersHeld
import Derived.Deep.RegionHeld
import Derived.ChangeKeysEq
import Derived.Laws.StructEq
import Derived.Deep.WholeRow
import Derived.BigFrame
import Derived.Shelf.Slices.Turned
import Derived.Shelf.GgClosure.StringsIndexFuncTop
import Derived.Shelf.SlicesQ.Equal
import Derived.Shelf.SlicesE.Equal
import Derived.Ground.GgwProg
import Derived.Ground.SlgqProg
import Derived.Laws.World
import Derived.Orders
import Derived.KernelRfl
import Derived.Lib.LaidTab
import Derived.Test.YtdbgeobolongmaaGreatDoorSA01
set_option linter.unusedVariables false
set_option linter.unusedSimpArgs false
set_option maxRecDepth 100000
set_option maxHeartbeats 2000000
namespace Go.Proofs.YtdbgeobolongmaaGreatDoor
open Go.RowKit
def RdP {α : Type} (w : World) (k : Nat) (enc : α -> List Value) (p : Option Addr) (xs : List α) : Prop :=
 (p = none -> xs.length = 0) /\ ∀ a, p = some a -> xs.length ≠ 0 -> a.spot = none /\ a.block < w.heap.size /\ ∀ i x, xs[i]? = some x -> ∀ j u, (enc x)[j]? = some u -> w.cell? ⟨a.block, a.off + i * k + j, none⟩ = some u
def SlR {α : Type} (w : World) (k : Nat) (enc : α -> List Value) (v : Value) (xs : List α) : Prop :=
 ∃ (p : Option Addr) (cap : Nat), v = .slice p xs.length cap /\ xs.length <= cap /\ cap <= 9223372036854775807 /\ RdP w k enc p xs
theorem RdP.below {α : Type} {w w' : World} {k : Nat} {enc : α -> List Value} {p : Option Addr} {xs : List α} (h : RdP w k enc p xs) {B : Nat} (hb : Below B w w') (hB : w.heap.size <= B) : RdP w' k enc p xs := by
 refine ⟨h.1, fun a ha hn => ?_⟩; obtain ⟨h6, h7, h8⟩ := h.2 a ha hn; exact ⟨h6, xC h7 hb.size, fun i x hx j u hu => by rw [← h8 i x hx j u hu]; exact hb.cell (p := ⟨a.block, _, none⟩) (xC h7 hB)⟩
theorem SlR.below {α : Type} {w w' : World} {k : Nat} {enc : α -> List Value} {v : Value} {xs : List α} (h : SlR w k enc v xs) {B : Nat} (hb : Below B w w') (hB : w.heap.size <= B) : SlR w' k enc v xs := by
 obtain ⟨p, cap, h1, h2, h3, h4⟩ := h; exact ⟨p, cap, h1, h2, h3, h4.below hb hB⟩
theorem RdP.grown {α : Type} {w w' : World} {k : Nat} {enc : α -> List Value} {p : Option Addr} {xs : List α} (h : RdP w k enc p xs) {row : Option Nat} (hg : w.grownBy w' row) (hr : ∀ a, p = some a -> xs.length ≠ 0 -> row ≠ some a.block) : RdP w' k enc p xs := by
 refine ⟨h.1, fun a ha hn => ?_⟩; obtain ⟨h6, h7, h8⟩ := h.2 a ha hn; refine ⟨h6, xC h7 hg.size, fun i x hx j u hu => hg.cell (h8 i x hx j u hu) (fun e => hr a ha hn e.symm)⟩
theorem RdP.grownS {α : Type} {w w' : World} {k : Nat} {enc : α -> List Value} {p : Option Addr} {xs : List α} (h : RdP w k enc p xs) {row : Option Nat} (hg : w.grownBy w' row) (hr : ∀ a, p = some a -> row ≠ some a.block) : RdP w' k enc p xs := h.grown hg fun a ha _ => hr a ha
theorem RdP.at {α : Type} {w : World} {k : Nat} {enc : α -> List Value} {p : Option Addr} {xs : List α} (h : RdP w k enc p xs) {i : Nat} (hi : i < xs.length) :
  ∃ b off, p = some ⟨b, off, none⟩ /\ b < w.heap.size /\ ∀ j u, (enc xs[i])[j]? = some u -> w.cell? ⟨b, off + i * k + j, none⟩ = some u := by
 cases p with
 | none => have := h.1 rfl; omega
 |some a =>
  obtain ⟨h6, h7, h8⟩ := h.2 a rfl om; exact ⟨a.block, a.off, by cases a; simp_all, h7, fun j u hu => h8 i _ (zA hi) j u hu⟩
theorem RdP.in {α : Type} {w : World} {k : Nat} {enc : α -> List Value} {b off : Nat} {xs : List α} (h : RdP w k enc (some ⟨b, off, none⟩) xs) {i : Nat} (hi : i < xs.length) :
  ∀ j u, (enc xs[i])[j]? = some u -> w.cell? ⟨b, off + i * k + j, none⟩ = some u := by
 obtain ⟨_, _, h8⟩ := h.2 _ rfl om; exact fun j u hu => h8 i _ (zA hi) j u hu
theorem RdP.lt {α : Type} {w : World} {k : Nat} {enc : α -> List Value} {a : Addr} {xs : List α} (h : RdP w k enc (some a) xs) (hn : xs.length ≠ 0) : a.block < w.heap.size := (h.2 _ rfl hn).2.1
def flat {α : Type} (enc : α -> List Value) (xs : List α) : List Value := xs.flatMap enc
theorem aI {α : Type} {enc : α -> List Value} {k : Nat} (hk : ∀ x, (enc x).length = k) (xs : List α) : (flat enc xs).length = xs.length * k := by
 induction xs with
 | nil => simp [flat]
 | cons x r ih => simp only [flat, vT, zG, hk, zI] at ih ⊢; rw [ih, Nat.add_mul]; omega
theorem vK {α : Type} (enc : α -> List Value) (xs ys : List α) : flat enc (xs ++ ys) = flat enc xs ++ flat enc ys := by simp [flat]
theorem oF {α : Type} {enc : α -> List Value} {k : Nat} (hk : ∀ x, (enc x).length = k) : ∀ {xs : List α} {i : Nat} {x : α}, xs[i]? = some x -> ∀ {j : Nat} {u : Value}, (enc x)[j]? = some u -> (flat enc xs)[i * k + j]? = some u
 | [], i, x, h, _, _, _ => by simp at h
 |y :: r, 0, x, h, j, u, hu => by
  simp at h; subst h; have hj : j < (enc y).length := (zL.1 hu).1; simp only [flat, vT, jP, zCe]; rw [vV hj]; exact hu
 |y :: r, i + 1, x, h, j, u, hu => by
  have h' : r[i]? = some x := by simpa using h
  have := oF hk h' hu; simp only [flat, vT] at this ⊢; rw [vD (by rw [hk, Nat.add_mul]; omega), hk, show (i + 1) * k + j - k = i * k + j by rw [Nat.add_mul]; omega]; exact this
theorem SlR.of_owns {α : Type} {w : World} {k : Nat} {enc : α -> List Value} {v : Value} {xs : List α} {base : Nat} {e : TypeId} (hk : ∀ x, (enc x).length = k) (h : w.ownsRow base e k v xs.length (flat enc xs)) : SlR w k enc v xs := by
 rcases h.2 with ⟨rfl, h0⟩ | ⟨g, cap, cur, rfl, hb, hg, hn, hc, hs, ht⟩
 ·exact ⟨none, 0, by rw [h0], om, om, fun _ => h0, fun a ha _ => by cases ha⟩
 ·refine ⟨some ⟨g, 0, none⟩, cap, rfl, hn, by unfold maxLen at hc; omega, (fun e => by cases e), fun a ha _ => ?_⟩
  cases ha; refine ⟨rfl, (xB.1 hg).1, fun i x hx j u hu => ?_⟩; have := h.cells (g := g) rfl (i * k + j) u (oF hk hx hu); rw [← this]
  congr 1
  unfold Addr.add
  split
  ·rename_i h0; simp [mX, h0]
  ·simp [mX]
theorem aX {W w1 : World} (hb : Below W.heap.size W w1) : (∀ b o, b < W.heap.size -> w1.cell? ⟨b, o, none⟩ = W.cell? ⟨b, o, none⟩) /\ (∀ b o, b < W.heap.size -> w1.frozen? ⟨b, o, none⟩ = W.frozen? ⟨b, o, none⟩) :=
 ⟨fun b o h => hb.cell (p := ⟨b, o, none⟩) h, fun b o h => hb.frozen (p := ⟨b, o, none⟩) h⟩
theorem below_drewN {B : Nat} {a w : World} (h : Below B a w) (n : Nat) : Below B a (w.drewN n) := ⟨h.os, h.tape, h.output, h.size, h.block⟩
theorem vL {w w' : World} {base : Nat} {e : TypeId} {size : Nat} {v : Value} {n : Nat} {xs : List Value} (h : w.ownsRow base e size v n xs) {B : Nat} (hb : Below B w w') (hB : w.heap.size <= B) : w'.ownsRow base e size v n xs :=
 h.kept (row := none) ⟨hb.os, hb.tape, hb.output, hb.size, fun k hk _ => hb.block k (xC hk hB)⟩ (by cases v.ownBlock <;> simp)
theorem zAq {w : World} {base base' : Nat} {e : TypeId} {size : Nat} {v : Value} {n : Nat} {xs : List Value} (h : w.ownsRow base e size v n xs) (hb : base' <= base) : w.ownsRow base' e size v n xs := by
 refine ⟨h.1, ?_⟩
 rcases h.2 with h0 | ⟨g, cap, cur, hv, hg, rest⟩
 ·exact .inl h0
 ·exact .inr ⟨g, cap, cur, hv, om, rest⟩
theorem nN (w : World) (l : List Value) (t : TypeId) : ∀ j u, l[j]? = some u -> (w.alloc (.cells l.toArray t)).cell? ((⟨w.heap.size, 0, none⟩ : Addr).add j) = some u := by
 intro j u hu; have hadd : (⟨w.heap.size, 0, none⟩ : Addr).add j = ⟨w.heap.size, j, none⟩ := by unfold Addr.add; split <;> simp_all
 rw [hadd, cell_of_row _ w.heap.size j l.toArray t (0, 0) (heap_alloc_new w _)]
 simpa using hu
theorem below_grown {B : Nat} {a w w' : World} {v : Value} {base : Nat} {e : TypeId} {size n : Nat} {xs : List Value} (h : Below B a w) (hg : w.grownBy w' v.ownBlock) (ho : w.ownsRow base e size v n xs) (hB : B <= base) (hs : B <= w.heap.size) : Below B a w' :=
 h.grown hg hs fun k hk => yK hB (ho.lt k hk).1
def lenOf : Value -> Nat | .slice _ n _ => n | _ => 0
def tY (P : Program) (t e : TypeId) (size bytes : Nat) : Prop :=
 P.underlying t = some (.slice e) /\ bytes <= 128 /\ 0 < size /\ ∃ i z, P.info? e = some i /\ i.zero = some z /\ i.size = size /\ i.bytes = bytes /\ z.cells.size = size
theorem tY.mk {P : Program} {t e : TypeId} {size bytes : Nat} {z : Value} (ht : P.underlying t = some (.slice e)) (h : (P.info? e).map (fun i => (i.zero, i.size, i.bytes)) = some (some z, size, bytes)) (hb : bytes <= 128) (hs : 0 < size) (hz : z.cells.size = size) : tY P t e size bytes := by
 obtain ⟨i, h1, h2, h3, h4⟩ := info_parts h; exact ⟨ht, hb, hs, i, z, h1, h2, h3, h4, hz⟩
theorem oJ {n bytes : Nat} (h : n <= 1099511627776) (hb : bytes <= 128) : n * bytes <= 140737488355328 := by
 have : n * bytes <= 1099511627776 * 128 := Nat.mul_le_mul h hb; omega
theorem wJ {P : Program} (w : World) {base : Nat} {t ty e : TypeId} {size bytes : Nat} (hE : tY P t e size bytes) {v : Value} {n : Nat} {xs : List Value} (hown : w.ownsRow base e size v n xs) (c : Nat) :
  (Builtin.append_ #[t, t] ty #[v, .slice none 0 c]).run P w = .ok v w := by
 obtain ⟨ht, _, _, i, z, hi, _⟩ := hE
 rcases hown.2 with ⟨rfl, rfl⟩ | ⟨g, cap, cur, rfl, _, _, hnc, _⟩
 ·simp [Builtin.append_, run_underlying ht, sizeOf, typeInfo, hi, Builtin.lenOf, Builtin.firstCells]
 ·simp [Builtin.append_, run_underlying ht, sizeOf, typeInfo, hi, Builtin.lenOf, Builtin.firstCells, hnc, storeCells]
section
variable {P : Program} {w : World} {ops : Array Oper} {rest : List Oper} {o : Oper} {a : Act} {Q : Exit -> Act -> World -> Prop}
theorem uR {t e : TypeId} {size bytes : Nat} (hE : tY P t e size bytes) (hgd : o.guard = none) (s x : Operand)
  (ho : o.op = .call { callee := .builtin .append, args := #[s, x], argTypes := #[t, t] })
  (base : Nat) (v : Value) (n : Nat) (xs : List Value) (hs : a.eval s = v) (hown : w.ownsRow base e size v n xs)
  (m c : Nat) (news : List Value) (hx : a.eval x = .slice (some ⟨w.heap.size, 0, none⟩) m c) (hl : news.length = m * size) (h1 : ∀ u ∈ news, u.oneCell' = true)
  (hsm : n + m <= 1099511627776) (hbase : base <= w.heap.size)
  (h : ∀ v' w', w'.ownsRow base e size v' (n + m) (xs ++ news) -> w.grownBy w' v.ownBlock -> (v'.ownBlock = v.ownBlock ∨ v'.ownBlock = some (w.heap.size + 1)) -> Below base w w' -> wpList P ops Q rest (a.put o.dst v') w') :
  wpList P ops Q (o :: rest) a (w.alloc (.cells news.toArray e)) := by
 obtain ⟨ht, hb, hsz, i, z, hi, hz, hsize, hby, hzs⟩ := hE; refine wpList_plain hgd fun K hK => ?_; obtain ⟨v', w', hr, h2, h3, h4, h5⟩ := run_append_own_at (P := P) (w.alloc (.cells news.toArray e)) base t o.type e i z size bytes ht hi hz hsize hby hzs hsz v n xs (hown.alloc _) ⟨w.heap.size, 0, none⟩ m c news hl (nN w news e) h1 (by unfold maxLen; omega) (oJ hsm hb) zo
 have hg : w.grownBy w' v.ownBlock := by
  refine ⟨h3.os, h3.tape, h3.output, yK zi h3.size, fun k hk hne => ?_⟩; rw [h3.block k zo hne]; exact Below.heap_alloc w _ k hk
 unfold Oper.wp execOp; simp only [ho, resolve, invoke, builtin, Sem.run_bind, Sem.run_pure, Result.andThen_ok, jF, yM, xH, hs, hx, hr]; exact hK _ _ (h v' w' h2 hg (by simpa using h5) (below_grown (Below.refl _ _) hg hown zn hbase))
theorem nP {α : Type} {t e : TypeId} {size bytes : Nat} (hE : tY P t e size bytes) (hgd : o.guard = none) (s x : Operand)
  (ho : o.op = .call { callee := .builtin .append, args := #[s, x], argTypes := #[t, t] })
  (base : Nat) (v : Value) (n : Nat) (xs : List Value) (hs : a.eval s = v) (hown : w.ownsRow base e size v n xs)
  (enc : α -> List Value) (hk : ∀ x, (enc x).length = size) (p : Option Addr) (c : Nat) (ys : List α) (hx : a.eval x = .slice p ys.length c) (hr : RdP w size enc p ys) (h1 : ∀ y, ∀ u ∈ enc y, u.oneCell' = true)
  (hsm : n + ys.length <= 1099511627776) (hbase : base <= w.heap.size)
  (h : ∀ v' w', w'.ownsRow base e size v' (n + ys.length) (xs ++ flat enc ys) -> w.grownBy w' v.ownBlock -> (v'.ownBlock = v.ownBlock ∨ v'.ownBlock = some w.heap.size) -> Below base w w' -> wpList P ops Q rest (a.put o.dst v') w') :
  wpList P ops Q (o :: rest) a w := by
 have hE' := hE; obtain ⟨ht, hb, hsz, i, z, hi, hz, hsize, hby, hzs⟩ := hE; refine wpList_plain hgd fun K hK => ?_
 cases p with
 |none =>
  have h0 := hr.1 rfl; have hys : ys = [] := zX h0; subst hys; have hrun := wJ (ty := o.type) w hE' hown c; unfold Oper.wp execOp; simp only [xI] at hx; simp only [ho, resolve, invoke, builtin, Sem.run_bind, Sem.run_pure, Result.andThen_ok, jF, yM, xH, hs, hx, hrun]; exact hK _ _ (h v w (by simpa [flat] using hown) ⟨rfl, rfl, rfl, yZ _, fun _ _ _ => rfl⟩ (.inl rfl) (Below.refl _ _))
 |some ad =>
  have hnews : ∀ j u, (flat enc ys)[j]? = some u -> w.cell? (ad.add j) = some u := by
   intro j u hu; have hjl : j < (flat enc ys).length := (zL.1 hu).1; rw [aI hk] at hjl; have hi' : j / size < ys.length := zBe (by rw [bM]; exact hjl); obtain ⟨hsp, _, hcell⟩ := hr.2 ad rfl (Nat.ne_of_gt (nJ (yQ _) hi')); have hm : j % size < (enc ys[j / size]).length := by rw [hk]; exact zDm _ hsz
   have hfl := oF hk (zA hi') (zA hm); have hj : j / size * size + j % size = j := by rw [bM]; exact Nat.div_add_mod j size
   rw [hj, hu] at hfl; have := hcell _ _ (zA hi') _ _ ((zA hm).trans hfl.symm); rw [← this]
   congr 1
   unfold Addr.add
   split
   ·rename_i h0; subst h0; cases ad; simp_all
   ·cases ad; simp only [Addr.mk.injEq, rX, pQ]; omega
  obtain ⟨v', w', hr', h2, h3, h4, h5⟩ := run_append_own_at (P := P) w base t o.type e i z size bytes ht hi hz hsize hby hzs hsz v n xs hown ad ys.length c (flat enc ys) (aI hk ys) hnews (by intro u hu; simp only [flat, List.mem_flatMap] at hu; obtain ⟨y, _, hy⟩ := hu; exact h1 y u hy) (by unfold maxLen; omega) (oJ hsm hb) hbase; unfold Oper.wp execOp; simp only [ho, resolve, invoke, builtin, Sem.run_bind, Sem.run_pure, Result.andThen_ok, jF, yM, xH, hs, hx, hr']; exact hK _ _ (h v' w' h2 h3 h5 (below_grown (Below.refl _ _) h3 hown zn hbase))
end
theorem qh {p : Prop} (h : p) : Hid p := Lib.hid h
theorem _root_.Go.RowKit.Hid.o {p : Prop} (h : Hid p) : p := h
theorem kf {p : Prop} (h : p := by kernel_rfl) : p := h
theorem zb {B : Nat} {w : World} : Below B w w := Below.refl B w
abbrev zCB (f : FuncId) (a : Array Value) (w : World) (v : Value) : Prop := Calls Tryz.prog f a w fun e w' => e = .returned v ∧ Below w.heap.size w w'
abbrev zCQ (f : FuncId) (a : Array Value) (w : World) (v : Value) : Prop := Calls Tryz.prog f a w fun e w' => e = .returned v ∧ w' = w
theorem zT {P : Program} {f : FuncId} {a : Array Value} {w : World} {v : Value} {Q : World → Prop} {R : Ending → World → Prop} (h : Calls P f a w fun e w' => e = .returned v ∧ Q w') (k : ∀ w', Q w' → R (.returned v) w') : Calls P f a w R := h.mono (by rintro e w' ⟨rfl, h⟩; exact k _ h)
theorem zU {P : Program} {f : FuncId} {a : Array Value} {w u : World} {v : Value} {R : Ending → World → Prop} (h : Calls P f a w fun e w' => e = .returned v ∧ w' = u) (k : R (.returned v) u) : Calls P f a w R := h.mono (by rintro e w' ⟨rfl, h⟩; rw [h]; exact k)
abbrev zW (a b : World) : Prop := Below a.heap.size a b
theorem qA (a : Act) (d : Option Tmp) (v : Value) : a.put d v = (match d with | some t => { a with tmps := a.tmps.setIfInBounds t v } | none => a) := by cases d <;> rfl
theorem qB {α : Type} {l : List α} {i : Nat} {a : α} : l.toArray.setIfInBounds i a = (l.set i a).toArray := zDp ..
theorem qC {α : Type} {a b : α} {l : List α} : (a :: l).set 0 b = b :: l := rfl
theorem qD {α : Type} {a b : α} {l : List α} {n : Nat} : (a :: l).set (n + 1) b = a :: l.set n b := rfl
theorem qE {α : Type} {l : List α} {i : Nat} (h : i < l.toArray.size) : l.toArray[i] = l[i]'(by simpa using h) := rfl
theorem qF {α : Type} {a : α} {l : List α} (h : 0 < (a :: l).length) : (a :: l)[0] = a := rfl
theorem qG {α : Type} {a : α} {l : List α} {i : Nat} (h : i + 1 < (a :: l).length) : (a :: l)[i + 1] = l[i]'(Nat.lt_of_succ_lt_succ h) := rfl
abbrev zC := @Go.bodyPost_ret
abbrev yB := @Go.wp_region_held_drew
abbrev yT := @Go.IntWalk.i64_in
abbrev xE := @Go.RowKit.Below.refl
abbrev xG := @Go.World.size_alloc
abbrev xL := @Go.World.ownsRow_nil
abbrev vF := @Go.wpList_load_mid
abbrev uZ := @Go.wpList_store_row
abbrev jA := @Go.Result.andThen_ok
abbrev jD := @Go.wp_region_lit
abbrev jW := @Go.heap_alloc_new
abbrev kS := @Go.Sem.run_bind
abbrev qN := @Go.Sem.run_pure
abbrev qY := @Go.yieldsIf_load_mid
abbrev sV := @Go.all_oneCell_toArray
abbrev sW := @Go.World.block_lt_of_cell?
abbrev tF := @Go.World.size_setCell
abbrev mD := @Go.rounds_succ
abbrev mE := @Go.BigFrame.wpList_want
abbrev mV := @Go.results_cell_row
abbrev nT := @Go.run_loadVar_row
abbrev lC := @Go.wp_store_row
abbrev zBd := @Go.RowKit.Below.heap_setCell
abbrev zDj := @Go.run_equalIn_agg
abbrev zEs := @Go.wpList_plain
abbrev zEt := @Go.Act.put_comm
open Go.ChangeShapes Go.WideShapes Go.ChangeAt Go.Deep Go.Joins
theorem own : ownKnob Tryz.prog.godebug = none := kf
theorem laidOut : laidOutB Tryz.prog = true := kf
section
variable {H : Type} {enc : TypeId × Value -> H}
theorem zBj {P : Program} (hl : laidOutB P = true) {W W' : World} (hb : zW W W') :
  ∀ {ts : List TypeId} {vs : List Value} {ds : List (DataW H)} {ps : List MemPlace}, (ts.all fun t => P.readableRec t && decide (t < P.types.size)) = true ->
   DataW.TrodAll enc P W 0 (fun _ => true) true ts vs ds ps -> (∀ x ∈ ps, x.block < W.heap.size) -> DataW.TrodAll enc P W' 0 (fun b => decide (b < W.heap.size)) true ts vs ds ps
 | [], [], [], _, _, h, _ => h
 |t :: ts, v :: vs, d :: ds, ps, hr, ⟨p, q, h1, h2, e⟩, hlt => by
  subst e; simp only [List.all_cons, xO, xP] at hr; exact ⟨p, q, Below.trod hl hr.1.1 hr.1.2 h1 hb (fun x hx => hlt x (wG _ hx)), zBj hl hb hr.2 h2 (fun x hx => hlt x (oW _ hx)), rfl⟩
 | [], _ :: _, _, _, _, h, _ => h.elim
 | [], [], _ :: _, _, _, h, _ => h.elim
 | _ :: _, [], _, _, _, h, _ => h.elim
 | _ :: _, _ :: _, [], _, _, h, _ => h.elim
theorem zEe {f : Func} {s : ChangeSpec} {W W' : World} {args : Array Value} {ds gs : List (DataW H)} {before p q : List MemPlace}
  (hW : DataW.Whole enc Tryz.prog f.params.toList s.vars false W args.toList ds gs before)
  (hA : DataW.TrodAll enc Tryz.prog W 0 (fun _ => true) true f.params.toList args.toList ds p) (hbe : before = p ++ q)
  (hv : s.vars = []) (hr : f.resultTypes = #[4]) (hp : (f.params.toList.all fun t => Tryz.prog.readableRec t && decide (t < Tryz.prog.types.size)) = true)
  (hs : s.fn H (ds ++ gs) = { results := [.lit (.bool true)], args := ds })
  (hb : zW W W') : s.post enc Tryz.prog f false true false false W args (.bool true) W' := by
 refine ⟨ds, gs, before, [], p, [], hW, ?_, ?_, ?_, hb.frame _, fun h => by cases h⟩
 ·rw [hs, hr]
  exact ⟨[], [], ⟨1, by simp [DataW.trod, Value.cells, Tryz.underlying4]⟩, rfl, rfl⟩
 ·rw [hs]
  exact zBj laidOut hb hp hA (fun x hx => by simpa using hW.lt x (by rw [hbe]; exact wG _ hx))
 ·rw [hs, hv]
  rfl
end
section
variable {H : Type} {enc : TypeId × Value -> H}
theorem zDg {α : Type} {Q : Nat -> α -> Prop} : ∀ (n : Nat), (∀ i, i < n -> ∃ x, Q i x) -> ∃ l : List α, l.length = n /\ ∀ i x, l[i]? = some x -> Q i x
 | 0, _ => ⟨[], rfl, fun i x h => by simp at h⟩
 |n + 1, h => by
  obtain ⟨l, hl, hc⟩ := zDg n fun i hi => h i om; obtain ⟨x, hx⟩ := h n om; refine ⟨l ++ [x], by simp [hl], fun i s hs => ?_⟩
  by_cases hi : i < l.length
  ·rw [vV hi] at hs
   exact hc i s hs
  ·have hin : i = n := by
    have := (zL.1 hs).1; simp at this; omega
   subst hin; rw [vD om] at hs; simp [hl] at hs; subst hs; exact hx
theorem zDt {α : Type} {ec : α -> List Value} {k : Nat} (hk : ∀ x, (ec x).length = k) {P : Program} {t e : TypeId} (ht : P.underlying t = some (.slice e)) (ce : P.cellsOf e = k)
  {W : World} {base : Nat} {v : Value} {d : DataW H} {ps : List MemPlace} (hv : Value.okWide P W .any base t v) (h : DataW.Trod enc P W 0 (fun _ => true) true t v d ps)
  (hel : ∀ (fuel : Nat) (cs : List Value) (x : DataW H × List MemPlace), cs.length = k -> DataW.trod enc P W 0 (fun _ => true) true fuel e cs = some x -> ∃ y : α, cs = ec y) : ∃ l : List α, SlR W k ec v l := by
 have hok : Cell.ok P W .any base t v := by
  have h1 := hv; simp only [Value.okWide, ht, Cell.okWide] at h1; exact h1
 obtain ⟨a0, len0, cap0, rfl⟩ := okWide_slice ht hv; obtain ⟨fuel, hf⟩ := h
 rcases open_slice ht hf with ⟨hcs, hx⟩ | ⟨a, len, cap, m, n, D, Pl, hcs, hb, hl, hm, hmm, hx, hcell⟩
 ·simp [Value.cells] at hcs
  obtain ⟨rfl, rfl, rfl⟩ := hcs; exact ⟨[], none, 0, rfl, yZ _, om, fun _ => rfl, fun a ha _ => by cases ha⟩
 ·simp [Value.cells] at hcs
  obtain ⟨rfl, rfl, rfl⟩ := hcs; simp only [Cell.ok, ht] at hok; obtain ⟨h1, h2, _, hsp, row, cells, hsh, _⟩ := hok; obtain ⟨b, off, spot⟩ := a; simp only at hsp; subst hsp
  have hlt : b < W.heap.size := by
   unfold World.shape? at hsh
   cases hh : W.heap[b]? with
   | none => simp [hh] at hsh
   | some o => exact (xB.1 hh).1
  have hadd : ∀ o i, (⟨b, o, none⟩ : Addr).add i = ⟨b, o + i, none⟩ := fun o i => by unfold Addr.add; split <;> simp_all
  obtain ⟨l, hll, hlc⟩ := zDg (Q := fun i (x : α) => ∀ j u, (ec x)[j]? = some u -> W.cell? ⟨b, off + i * k + j, none⟩ = some u) len0 (fun i hi => by
   have hlm : i < m := by rw [hmm]; simp only [aB]; omega
   obtain ⟨cs, hc, htr⟩ := hcell i hlm; rw [ce] at hc; obtain ⟨_, hcl, hat⟩ := World.cells?_some hc; obtain ⟨y, rfl⟩ := hel _ cs _ hcl htr; refine ⟨y, fun j u hu => ?_⟩; have hj : j < k := by have := (zL.1 hu).1; rw [hk] at this; exact this
   have := hat j hj; rw [hadd, hadd, hu] at this; rw [← this])
  refine ⟨l, some ⟨b, off, none⟩, cap0, by rw [hll], om, by unfold maxLen at hm; omega, (fun e => by cases e), fun a ha _ => ?_⟩
  cases ha; exact ⟨rfl, hlt, fun i s hs j u hu => hlc i s hs j u hu⟩
theorem oH {α : Type} {ec : α -> List Value} {k : Nat} (hk : ∀ x, (ec x).length = k) (hk0 : 0 < k) {P : Program} {t e : TypeId} (ht : P.underlying t = some (.slice e)) (ce : P.cellsOf e = k)
  {W : World} {v : Value} {fuel : Nat} {y : DataW H × List MemPlace} (h : DataW.trod enc P W 0 (fun _ => true) true fuel t [v] = some y)
  (hel : ∀ (fuel : Nat) (cs : List Value) (x : DataW H × List MemPlace), cs.length = k -> DataW.trod enc P W 0 (fun _ => true) true fuel e cs = some x -> ∃ y : α, cs = ec y) : ∃ l : List α, SlR W k ec v l := by
 rcases open_slice ht h with ⟨hcs, hx⟩ | ⟨a, len, cap, m, n, D, Pl, hcs, hb, hl, hm, hmm, hx, hcell⟩
 ·simp at hcs
  subst hcs; exact ⟨[], none, 0, rfl, yZ _, om, fun _ => rfl, fun a ha _ => by cases ha⟩
 ·simp at hcs
  subst hcs
  obtain ⟨l, hll, hlc⟩ := zDg (Q := fun i (x : α) => ∀ j u, (ec x)[j]? = some u -> W.cell? ((a.add (i * k)).add j) = some u) len (fun i hi => by
   have hlm : i < m := by rw [hmm]; simp only [aB]; omega
   obtain ⟨cs, hc, htr⟩ := hcell i hlm; rw [ce] at hc; obtain ⟨_, hcl, hat⟩ := World.cells?_some hc; obtain ⟨y, rfl⟩ := hel _ cs _ hcl htr; refine ⟨y, fun j u hu => ?_⟩; have hj : j < k := by have := (zL.1 hu).1; rw [hk] at this; exact this
   rw [hat j hj, hu])
  refine ⟨l, some a, cap, by rw [hll], om, by unfold maxLen at hm; omega, (fun e => by cases e), fun b hb hn => ?_⟩
  cases hb; have hl0 : 0 < l.length := Nat.pos_of_ne_zero hn; have hk1 : 0 < (ec l[0]).length := by rw [hk]; exact hk0
  have c0 := hlc 0 l[0] (zA hl0) 0 _ (zA hk1); have hadd0 : (a.add (0 * k)).add 0 = a := by unfold Addr.add; cases a with | mk b o s => cases s <;> simp
  rw [hadd0] at c0
  have hsp : a.spot = none := by
   cases hs : a.spot with
   | none => rfl
   |some q =>
    unfold World.cell? at c0
    split at c0
    ·rw [hs] at c0; simp at c0
    ·cases c0
  have hlt : a.block < W.heap.size := sW _ _ c0
  have hadd : ∀ i j, (a.add (i * k)).add j = ⟨a.block, a.off + i * k + j, none⟩ := fun i j => by
   cases a with | mk b o s => simp only at hsp; subst hsp; unfold Addr.add; split <;> split <;> simp_all [mX]
  refine ⟨hsp, hlt, fun i x hx j u hu => ?_⟩; rw [← hadd]; exact hlc i x hx j u hu
theorem el_int {P : Program} {q : TypeId} {ik : IntKind} (hq : P.underlying q = some (.int ik)) {W : World} (fuel : Nat) (cs : List Value) (x : DataW H × List MemPlace) (hl : cs.length = 1) (h : DataW.trod enc P W 0 (fun _ => true) true fuel q cs = some x) : ∃ y : Int, cs = [.int ik y] /\ (Lit.int ik y).wf = true := by
 match cs, hl with
 |[v], _ =>
  obtain ⟨y, e0, _, h2⟩ := DataW.trod_int hq h; simp at e0; subst e0; exact ⟨y, rfl, h2⟩
end
end Go.Proofs.YtdbgeobolongmaaGreatDoor
namespace Go.Proofs
open Go.Shelf
theorem kgC {p : Prop} (h : p := by kernel_rfl) : p := h
def Tryz.cut_ren : Go.Shelf.Ren := ⟨fun | 145 => 135 | 220 => 167 | 219 => 157 | 217 => 174 | 225 => 175 | 224 => 176 | 267 => 177 | 266 => 194 | 314 => 195 | n => n, fun | 9 => 9 | 4 => 4 | 59 => 180 | 3 => 3 | 5 => 5 | 46 => 178 | 146 => 233 | 51 => 232 | n => n, fun | 1 => 1 | n => n⟩
theorem Tryz.cut : Go.Proofs.LaysM.n145 prog Tryz.cut_ren := {
 mixed := kgC
 f145 := func135.trans (yG some kgC)
 f217 := func174.trans (yG some kgC)
 f219 := func157.trans (yG some kgC)
 f220 := func167.trans (yG some kgC)
 f224 := func176.trans (yG some kgC)
 f225 := func175.trans (yG some kgC)
 f266 := func194.trans (yG some kgC)
 f267 := func177.trans (yG some kgC)
 f314 := func195.trans (yG some kgC)
 t3 := underlying3
 a3 := isAgg3
 z3 := sizeOf3
 v3 := zeroValue3
 t4 := underlying4
 a4 := isAgg4
 z4 := sizeOf4
 v4 := zeroValue4
 t5 := underlying5
 a5 := isAgg5
 z5 := sizeOf5
 v5 := zeroValue5
 t9 := underlying9
 a9 := isAgg9
 z9 := sizeOf9
 v9 := zeroValue9
 t46 := underlying178
 a46 := isAgg178
 z46 := sizeOf178
 v46 := zeroValue178
 t51 := underlying232
 a51 := isAgg232
 z51 := sizeOf232
 v51 := zeroValue232
 t59 := underlying180
 a59 := isAgg180
 z59 := sizeOf180
 v59 := zeroValue180
 t146 := underlying233
 a146 := isAgg233
 z146 := sizeOf233
 v146 := zeroValue233
 g1 := kgC
 i3 := kgC
 i4 := kgC
 i5 := kgC
 i9 := kgC
 i46 := kgC
 i51 := kgC
 i59 := kgC
 i146 := kgC
 m1 := kgC
 s1_3 := fun w h => Go.Proofs.cell_of_shapedOpen_int (zero := #[.int .i64 0]) (t := 3) h (kV kgC) kgC rfl kgC kgC underlying3 }
def Tryz.split_ren : Go.Shelf.Ren := ⟨fun | 146 => 37 | 221 => 79 | 268 => 124 | 138 => 125 | 143 => 126 | 195 => 154 | 197 => 155 | 218 => 156 | 219 => 157 | 260 => 173 | 217 => 174 | 225 => 175 | 224 => 176 | 267 => 177 | 266 => 194 | 314 => 195 | n => n, fun | 9 => 9 | 31 => 79 | 3 => 3 | 4 => 4 | 0 => 0 | 105 => 201 | 21 => 21 | 5 => 5 | 46 => 178 | 119 => 228 | 139 => 231 | 138 => 230 | 146 => 233 | 51 => 232 | n => n, fun | 1 => 1 | 3 => 2 | 4 => 3 | n => n⟩
theorem Tryz.split : Go.Proofs.LaysM.n146 prog Tryz.split_ren := {
 mixed := kgC
 f138 := func125.trans (yG some kgC)
 f143 := func126.trans (yG some kgC)
 f146 := func37.trans (yG some kgC)
 f195 := func154.trans (yG some kgC)
 f197 := func155.trans (yG some kgC)
 f217 := func174.trans (yG some kgC)
 f218 := func156.trans (yG some kgC)
 f219 := func157.trans (yG some kgC)
 f221 := func79.trans (yG some kgC)
 f224 := func176.trans (yG some kgC)
 f225 := func175.trans (yG some kgC)
 f260 := func173.trans (yG some kgC)
 f266 := func194.trans (yG some kgC)
 f267 := func177.trans (yG some kgC)
 f268 := func124.trans (yG some kgC)
 f314 := func195.trans (yG some kgC)
 t0 := underlying0
 a0 := isAgg0
 z0 := sizeOf0
 v0 := zeroValue0
 t3 := underlying3
 a3 := isAgg3
 z3 := sizeOf3
 v3 := zeroValue3
 t4 := underlying4
 a4 := isAgg4
 z4 := sizeOf4
 v4 := zeroValue4
 t5 := underlying5
 a5 := isAgg5
 z5 := sizeOf5
 v5 := zeroValue5
 t9 := underlying9
 a9 := isAgg9
 z9 := sizeOf9
 v9 := zeroValue9
 t21 := underlying21
 a21 := isAgg21
 z21 := sizeOf21
 v21 := zeroValue21
 t31 := underlying79
 a31 := isAgg79
 z31 := sizeOf79
 v31 := zeroValue79
 t46 := underlying178
 a46 := isAgg178
 z46 := sizeOf178
 v46 := zeroValue178
 t51 := underlying232
 a51 := isAgg232
 z51 := sizeOf232
 v51 := zeroValue232
 t105 := underlying201
 a105 := isAgg201
 z105 := sizeOf201
 v105 := zeroValue201
 t119 := underlying228
 a119 := isAgg228
 z119 := sizeOf228
 t138 := underlying230
 a138 := isAgg230
 z138 := sizeOf230
 v138 := zeroValue230
 t139 := underlying231
 a139 := isAgg231
 z139 := sizeOf231
 v139 := zeroValue231
 t146 := underlying233
 a146 := isAgg233
 z146 := sizeOf233
 v146 := zeroValue233
 g1 := kgC
 g3 := kgC
 g4 := kgC
 i0 := kgC
 i3 := kgC
 i4 := kgC
 i5 := kgC
 i9 := kgC
 i21 := kgC
 i31 := kgC
 i46 := kgC
 i51 := kgC
 i105 := kgC
 i138 := kgC
 i139 := kgC
 i146 := kgC
 m1 := kgC
 s1_3 := fun w h => Go.Proofs.cell_of_shapedOpen_int (zero := #[.int .i64 0]) (t := 3) h (kV kgC) kgC rfl kgC kgC underlying3
 m3 := kgC
 m4 := by kernel_rfl }
def Tryz.join_ren : Go.Shelf.Ren := ⟨fun | 156 => 34 | 165 => 70 | 166 => 71 | 169 => 72 | 240 => 119 | 241 => 120 | 276 => 152 | 277 => 153 | n => n, fun | 31 => 79 | 9 => 9 | 3 => 3 | 4 => 4 | 0 => 0 | 20 => 20 | 72 => 134 | 76 => 138 | 70 => 132 | 37 => 33 | 75 => 137 | 127 => 170 | 164 => 198 | 5 => 5 | 80 => 140 | n => n, fun | n => n⟩
theorem Tryz.join : Go.Proofs.Lays.n156 prog Tryz.join_ren := {
 mixed := kgC
 f156 := func34.trans (yG some kgC)
 f165 := func70.trans (yG some kgC)
 f166 := func71.trans (yG some kgC)
 f169 := func72.trans (yG some kgC)
 f240 := func119.trans (yG some kgC)
 f241 := func120.trans (yG some kgC)
 f276 := func152.trans (yG some kgC)
 f277 := func153.trans (yG some kgC)
 t0 := underlying0
 a0 := isAgg0
 z0 := sizeOf0
 v0 := zeroValue0
 t3 := underlying3
 a3 := isAgg3
 z3 := sizeOf3
 v3 := zeroValue3
 t4 := underlying4
 a4 := isAgg4
 z4 := sizeOf4
 v4 := zeroValue4
 t9 := underlying9
 a9 := isAgg9
 z9 := sizeOf9
 v9 := zeroValue9
 t20 := underlying20
 a20 := isAgg20
 z20 := sizeOf20
 v20 := zeroValue20
 t31 := underlying79
 a31 := isAgg79
 z31 := sizeOf79
 v31 := zeroValue79
 t37 := underlying33
 a37 := isAgg33
 z37 := sizeOf33
 v37 := zeroValue33
 t70 := underlying132
 a70 := isAgg132
 z70 := sizeOf132
 v70 := zeroValue132
 t72 := underlying134
 a72 := isAgg134
 z72 := sizeOf134
 v72 := zeroValue134
 t75 := underlying137
 a75 := isAgg137
 z75 := sizeOf137
 v75 := zeroValue137
 t76 := underlying138
 a76 := isAgg138
 z76 := sizeOf138
 v76 := zeroValue138
 t127 := underlying170
 a127 := isAgg170
 z127 := sizeOf170
 v127 := zeroValue170
 t164 := underlying198
 a164 := isAgg198
 z164 := sizeOf198
 v164 := zeroValue198 }
def Tryz.equalI_ren : Go.Shelf.Ren := ⟨fun | 111 => 121 | n => n, fun | 28 => 27 | 3 => 3 | 4 => 4 | 0 => 0 | n => n, fun | n => n⟩
theorem Tryz.equalI : Go.Proofs.Lays.n111 prog Tryz.equalI_ren := {
 mixed := kgC
 f111 := func121.trans (yG some kgC)
 t0 := underlying0
 a0 := isAgg0
 z0 := sizeOf0
 v0 := zeroValue0
 t3 := underlying3
 a3 := isAgg3
 z3 := sizeOf3
 v3 := zeroValue3
 t4 := underlying4
 a4 := isAgg4
 z4 := sizeOf4
 v4 := zeroValue4
 t28 := underlying27
 a28 := isAgg27
 z28 := sizeOf27
 v28 := zeroValue27 }
def Tryz.containsI_ren : Go.Shelf.Ren := ⟨fun | 8 => 188 | 6 => 204 | n => n, fun | 22 => 27 | 23 => 3 | 25 => 226 | 4 => 4 | 3 => 3 | 0 => 0 | n => n, fun | n => n⟩
theorem Tryz.containsI : Go.Proofs.SlLaysH.n8 prog Tryz.containsI_ren := {
 mixed := kgC
 f6 := ⟨Tryz.f204.name, zd, func204.trans (yG some kgC)⟩
 f8 := ⟨Tryz.f188.name, zd, func188.trans (yG some kgC)⟩
 t0 := underlying0
 a0 := isAgg0
 z0 := sizeOf0
 v0 := zeroValue0
 t3 := underlying3
 a3 := isAgg3
 z3 := sizeOf3
 v3 := zeroValue3
 t4 := underlying4
 a4 := isAgg4
 z4 := sizeOf4
 v4 := zeroValue4
 t22 := underlying27
 a22 := isAgg27
 z22 := sizeOf27
 v22 := zeroValue27
 a23 := isAgg3
 z23 := sizeOf3
 t25 := underlying226
 a25 := isAgg226
 z25 := sizeOf226
 v25 := zeroValue226 }
end Go.Proofs
namespace Go.Proofs.YtdbgeobolongmaaGreatDoor
open Go.RowKit
def encB (c : UInt8) : List Value := [.int .u8 (c.toNat : Int)]
theorem encB_len (c : UInt8) : (encB c).length = 1 := rfl
def str (l : List UInt8) : ByteArray := ⟨l.toArray⟩
theorem zZ (l : List UInt8) : (str l).size = l.length := by simp [str, ByteArray.size]
theorem lG (s : ByteArray) : str s.data.toList = s := by simp [str]
theorem kM (l : List UInt8) : (str l).data.toList = l := by simp [str]
theorem strOfNums_bytes (l : List UInt8) : strOfNums (l.map fun c => (c.toNat : Int)) = str l := by
 simp [strOfNums, str, Function.comp_def]
theorem SlR.str {w : World} {v : Value} {l : List UInt8} (h : SlR w 1 encB v l) {src e dst : TypeId} (hs : Tryz.prog.underlying src = some (.slice e)) (he : Tryz.prog.underlying e = some (.int .u8)) (hd : Tryz.prog.underlying dst = some .string) :
  (convert src dst v).run Tryz.prog w = .ok (.string (str l)) w := by
 obtain ⟨p, cap, rfl, h1, h2, hR⟩ := h
 rcases rD l.length with h0 | h0
 ·obtain rfl : l = [] := zX h0
  exact run_convert_bytes_zero w src e hs he p cap dst hd
 ·obtain ⟨b, off, rfl, _, _⟩ := hR.at h0
  rw [run_convert_bytes_arg (P := Tryz.prog) w src e hs he b off l.length cap (l.map fun c => (c.toNat : Int)) zi (fun i hi => by
   have := hR.in hi 0 (.int .u8 (l[i].toNat : Int)) rfl; simp only [jN, xN] at this; rw [this]; simp [List.getD, zA hi]) dst hd, strOfNums_bytes]
theorem xJ (a b : List UInt8) : str a ++ str b = str (a ++ b) := by
 apply ByteArray.ext; rw [ByteArray.data_append]; simp [str]
theorem aP (l : List UInt8) (a b : Nat) : (str l).extract a b = str ((l.drop a).take (b - a)) := by
 apply ByteArray.ext; rw [ByteArray.data_extract]; simp [str]
theorem jS (l : List UInt8) (i : Nat) (h : i < (str l).size) : (str l)[i] = l[i]'(by rw [← zZ]; exact h) := by
 simp [str, ByteArray.getElem_eq_getElem_data]
theorem str_inj {a b : List UInt8} : str a = str b ↔ a = b := by
 constructor
 ·intro h
  have := yG (fun s : ByteArray => s.data.toList) h
  simpa [kM] using this
 ·intro h; rw [h]
theorem str_of (s : ByteArray) : ∃ l, s = str l /\ l.length = s.size := ⟨s.data.toList, (lG s).symm, bK⟩
theorem decodeN_big (n b0 b1 b2 b3 : Nat) (h : 128 <= b0) (h' : b0 < 256) : 128 <= (Lib.decodeN n b0 b1 b2 b3).1 /\ (Lib.decodeN n b0 b1 b2 b3).1 <= 1114111 := by
 unfold Lib.decodeN; rw [zH om]
 repeat' split
 all_goals (simp only; omega)
theorem zBl (s : ByteArray) (i : Nat) (h : 128 <= (s.get! i).toNat) : 128 <= (Utf8.decode s i).1 /\ (Utf8.decode s i).1 <= 1114111 := by
 rw [Lib.decode_at]; exact decodeN_big _ _ _ _ _ h (s.get! i).toNat_lt
end Go.Proofs.YtdbgeobolongmaaGreatDoor
namespace Go.Proofs
open Go.Shelf
theorem kgA {p : Prop} (h : p := by kernel_rfl) : p := h
def Tryz.itoa_ren : Go.Shelf.Ren := ⟨fun | 171 => 84 | 243 => 131 | 246 => 164 | 283 => 179 | 284 => 180 | 285 => 181 | 286 => 182 | 129 => 197 | 317 => 196 | 318 => 198 | 319 => 199 | 320 => 200 | 337 => 205 | 338 => 206 | n => n, fun | 3 => 3 | 9 => 9 | 2 => 2 | 4 => 4 | 171 => 214 | 0 => 0 | 53 => 205 | 37 => 33 | 5 => 5 | 173 => 217 | 212 => 235 | 51 => 232 | 20 => 20 | 213 => 236 | 46 => 178 | 232 => 249 | 233 => 250 | n => n, fun | 17 => 4 | 18 => 7 | 19 => 8 | n => n⟩
theorem Tryz.itoa : Go.Proofs.LaysM.n171 prog Tryz.itoa_ren := {
 mixed := kgA
 f129 := func197.trans (yG some kgA)
 f171 := func84.trans (yG some kgA)
 f243 := func131.trans (yG some kgA)
 f246 := func164.trans (yG some kgA)
 f283 := func179.trans (yG some kgA)
 f284 := func180.trans (yG some kgA)
 f285 := func181.trans (yG some kgA)
 f286 := func182.trans (yG some kgA)
 f317 := func196.trans (yG some kgA)
 f318 := func198.trans (yG some kgA)
 f319 := func199.trans (yG some kgA)
 f320 := func200.trans (yG some kgA)
 f337 := func205.trans (yG some kgA)
 f338 := func206.trans (yG some kgA)
 t0 := underlying0
 a0 := isAgg0
 z0 := sizeOf0
 v0 := zeroValue0
 t2 := underlying2
 a2 := isAgg2
 z2 := sizeOf2
 v2 := zeroValue2
 t3 := underlying3
 a3 := isAgg3
 z3 := sizeOf3
 v3 := zeroValue3
 t4 := underlying4
 a4 := isAgg4
 z4 := sizeOf4
 v4 := zeroValue4
 t5 := underlying5
 a5 := isAgg5
 z5 := sizeOf5
 v5 := zeroValue5
 t9 := underlying9
 a9 := isAgg9
 z9 := sizeOf9
 v9 := zeroValue9
 t20 := underlying20
 a20 := isAgg20
 z20 := sizeOf20
 v20 := zeroValue20
 t37 := underlying33
 a37 := isAgg33
 z37 := sizeOf33
 v37 := zeroValue33
 t46 := underlying178
 a46 := isAgg178
 z46 := sizeOf178
 v46 := zeroValue178
 t51 := underlying232
 a51 := isAgg232
 z51 := sizeOf232
 v51 := zeroValue232
 t53 := underlying205
 a53 := isAgg205
 z53 := sizeOf205
 v53 := zeroValue205
 t171 := underlying214
 a171 := isAgg214
 z171 := sizeOf214
 v171 := zeroValue214
 t173 := underlying217
 a173 := isAgg217
 z173 := sizeOf217
 v173 := zeroValue217
 t212 := underlying235
 a212 := isAgg235
 z212 := sizeOf235
 v212 := zeroValue235
 t213 := underlying236
 a213 := isAgg236
 z213 := sizeOf236
 t232 := underlying249
 a232 := isAgg249
 z232 := sizeOf249
 v232 := zeroValue249
 t233 := underlying250
 a233 := isAgg250
 z233 := sizeOf250
 v233 := zeroValue250
 g17 := kgA
 g18 := kgA
 g19 := kgA
 i0 := kgA
 i2 := kgA
 i3 := kgA
 i4 := kgA
 i5 := kgA
 i9 := kgA
 i20 := kgA
 i37 := kgA
 i46 := kgA
 i51 := kgA
 i53 := kgA
 i171 := kgA
 i173 := kgA
 i212 := kgA
 i232 := kgA
 i233 := kgA
 m17 := kgA
 m18 := kgA
 m19 := by kernel_rfl }
def Tryz.atoi_ren : Go.Shelf.Ren := ⟨fun | 172 => 134 | 244 => 165 | 245 => 166 | 247 => 183 | 279 => 184 | 280 => 185 | 281 => 186 | 282 => 187 | 287 => 201 | 316 => 202 | 171 => 84 | 205 => 203 | 321 => 207 | 322 => 208 | 243 => 131 | 246 => 164 | 283 => 179 | 284 => 180 | 285 => 181 | 286 => 182 | 129 => 197 | 317 => 196 | 318 => 198 | 319 => 199 | 320 => 200 | 337 => 205 | 338 => 206 | n => n, fun | 9 => 9 | 3 => 3 | 75 => 137 | 76 => 138 | 4 => 4 | 5 => 5 | 167 => 219 | 37 => 33 | 0 => 0 | 85 => 220 | 2 => 2 | 168 => 222 | 53 => 205 | 175 => 238 | 46 => 178 | 210 => 241 | 127 => 170 | 145 => 248 | 143 => 246 | 21 => 21 | 171 => 214 | 173 => 217 | 212 => 235 | 51 => 232 | 20 => 20 | 213 => 236 | 232 => 249 | 233 => 250 | 80 => 140 | n => n, fun | 15 => 5 | 16 => 6 | 17 => 4 | 18 => 7 | 19 => 8 | n => n⟩
theorem Tryz.atoi : Go.Proofs.LaysC.n172 prog Tryz.atoi_ren := {
 mixed := kgA
 f129 := func197.trans (yG some kgA)
 f171 := func84.trans (yG some kgA)
 f172 := func134.trans (yG some kgA)
 f205 := func203.trans (yG some kgA)
 f243 := func131.trans (yG some kgA)
 f244 := func165.trans (yG some kgA)
 f245 := func166.trans (yG some kgA)
 f246 := func164.trans (yG some kgA)
 f247 := func183.trans (yG some kgA)
 f279 := func184.trans (yG some kgA)
 f280 := func185.trans (yG some kgA)
 f281 := func186.trans (yG some kgA)
 f282 := func187.trans (yG some kgA)
 f283 := func179.trans (yG some kgA)
 f284 := func180.trans (yG some kgA)
 f285 := func181.trans (yG some kgA)
 f286 := func182.trans (yG some kgA)
 f287 := func201.trans (yG some kgA)
 f316 := func202.trans (yG some kgA)
 f317 := func196.trans (yG some kgA)
 f318 := func198.trans (yG some kgA)
 f319 := func199.trans (yG some kgA)
 f320 := func200.trans (yG some kgA)
 f321 := func207.trans (yG some kgA)
 f322 := func208.trans (yG some kgA)
 f337 := func205.trans (yG some kgA)
 f338 := func206.trans (yG some kgA)
 t0 := underlying0
 a0 := isAgg0
 z0 := sizeOf0
 v0 := zeroValue0
 t2 := underlying2
 a2 := isAgg2
 z2 := sizeOf2
 v2 := zeroValue2
 t3 := underlying3
 a3 := isAgg3
 z3 := sizeOf3
 v3 := zeroValue3
 t4 := underlying4
 a4 := isAgg4
 z4 := sizeOf4
 v4 := zeroValue4
 t5 := underlying5
 a5 := isAgg5
 z5 := sizeOf5
 v5 := zeroValue5
 t9 := underlying9
 a9 := isAgg9
 z9 := sizeOf9
 v9 := zeroValue9
 t20 := underlying20
 a20 := isAgg20
 z20 := sizeOf20
 v20 := zeroValue20
 t21 := underlying21
 a21 := isAgg21
 z21 := sizeOf21
 v21 := zeroValue21
 t37 := underlying33
 a37 := isAgg33
 z37 := sizeOf33
 v37 := zeroValue33
 t46 := underlying178
 a46 := isAgg178
 z46 := sizeOf178
 v46 := zeroValue178
 t51 := underlying232
 a51 := isAgg232
 z51 := sizeOf232
 v51 := zeroValue232
 t53 := underlying205
 a53 := isAgg205
 z53 := sizeOf205
 v53 := zeroValue205
 t75 := underlying137
 a75 := isAgg137
 z75 := sizeOf137
 v75 := zeroValue137
 t76 := underlying138
 a76 := isAgg138
 z76 := sizeOf138
 v76 := zeroValue138
 t85 := underlying220
 a85 := isAgg220
 z85 := sizeOf220
 v85 := zeroValue220
 t127 := underlying170
 a127 := isAgg170
 z127 := sizeOf170
 v127 := zeroValue170
 t143 := underlying246
 a143 := isAgg246
 z143 := sizeOf246
 v143 := zeroValue246
 t145 := underlying248
 a145 := isAgg248
 z145 := sizeOf248
 v145 := zeroValue248
 t167 := underlying219
 a167 := isAgg219
 z167 := sizeOf219
 v167 := zeroValue219
 t168 := underlying222
 a168 := isAgg222
 z168 := sizeOf222
 v168 := zeroValue222
 t171 := underlying214
 a171 := isAgg214
 z171 := sizeOf214
 v171 := zeroValue214
 t173 := underlying217
 a173 := isAgg217
 z173 := sizeOf217
 v173 := zeroValue217
 t175 := underlying238
 a175 := isAgg238
 z175 := sizeOf238
 v175 := zeroValue238
 t210 := underlying241
 a210 := isAgg241
 z210 := sizeOf241
 v210 := zeroValue241
 t212 := underlying235
 a212 := isAgg235
 z212 := sizeOf235
 v212 := zeroValue235
 t213 := underlying236
 a213 := isAgg236
 z213 := sizeOf236
 t232 := underlying249
 a232 := isAgg249
 z232 := sizeOf249
 v232 := zeroValue249
 t233 := underlying250
 a233 := isAgg250
 z233 := sizeOf250
 v233 := zeroValue250
 g15 := kgA
 g16 := kgA
 g17 := kgA
 g18 := kgA
 g19 := kgA
 t80 := underlying140
 a80 := isAgg140
 z80 := sizeOf140
 v80 := zeroValue140
 i0 := kgA
 i2 := kgA
 i3 := kgA
 i4 := kgA
 i5 := kgA
 i9 := kgA
 i20 := kgA
 i21 := kgA
 i37 := kgA
 i46 := kgA
 i51 := kgA
 i53 := kgA
 i75 := kgA
 i76 := kgA
 i80 := kgA
 i85 := kgA
 i127 := kgA
 i143 := kgA
 i145 := kgA
 i167 := kgA
 i168 := kgA
 i171 := kgA
 i173 := kgA
 i175 := kgA
 i210 := kgA
 i212 := kgA
 i232 := kgA
 i233 := kgA
 m15 := kgA
 m16 := kgA
 m17 := kgA
 m18 := kgA
 m19 := kgA
 c0 := kgA
 c2 := kgA
 c3 := kgA
 c4 := kgA
 c5 := kgA
 c9 := kgA
 c20 := kgA
 c21 := kgA
 c37 := kgA
 c46 := kgA
 c51 := kgA
 c53 := kgA
 c75 := kgA
 c76 := kgA
 c80 := kgA
 c85 := kgA
 c127 := kgA
 c143 := kgA
 c145 := kgA
 c167 := kgA
 c168 := kgA
 c171 := kgA
 c173 := kgA
 c175 := kgA
 c210 := kgA
 c212 := kgA
 c213 := kgA
 c232 := kgA
 c233 := by kernel_rfl }
def Tryz.builderString_ren : Go.Shelf.Ren := ⟨fun | 169 => 72 | n => n, fun | 70 => 132 | 9 => 9 | 0 => 0 | 72 => 134 | 37 => 33 | 127 => 170 | 3 => 3 | 5 => 5 | n => n, fun | n => n⟩
theorem Tryz.builderString : Go.Proofs.Lays.n169 prog Tryz.builderString_ren := {
 mixed := kgA
 f169 := func72.trans (yG some kgA)
 t0 := underlying0
 a0 := isAgg0
 z0 := sizeOf0
 v0 := zeroValue0
 t3 := underlying3
 a3 := isAgg3
 z3 := sizeOf3
 v3 := zeroValue3
 t9 := underlying9
 a9 := isAgg9
 z9 := sizeOf9
 v9 := zeroValue9
 t37 := underlying33
 a37 := isAgg33
 z37 := sizeOf33
 v37 := zeroValue33
 t70 := underlying132
 a70 := isAgg132
 z70 := sizeOf132
 v70 := zeroValue132
 t72 := underlying134
 a72 := isAgg134
 z72 := sizeOf134
 v72 := zeroValue134
 t127 := underlying170
 a127 := isAgg170
 z127 := sizeOf170
 v127 := zeroValue170 }
def Tryz.indexByte_ren : Go.Shelf.Ren := ⟨fun | 137 => 192 | 217 => 174 | 266 => 194 | n => n, fun | 9 => 9 | 5 => 5 | 3 => 3 | n => n, fun | n => n⟩
theorem Tryz.indexByte : Go.Proofs.Lays.n137 prog Tryz.indexByte_ren := {
 mixed := kgA
 f137 := func192.trans (yG some kgA)
 f217 := func174.trans (yG some kgA)
 f266 := func194.trans (yG some kgA)
 t3 := underlying3
 a3 := isAgg3
 z3 := sizeOf3
 v3 := zeroValue3
 t5 := underlying5
 a5 := isAgg5
 z5 := sizeOf5
 v5 := zeroValue5
 t9 := underlying9
 a9 := isAgg9
 z9 := sizeOf9
 v9 := zeroValue9 }
def Tryz.validRune_ren : Go.Shelf.Ren := ⟨fun | 119 => 193 | n => n, fun | 21 => 21 | 4 => 4 | n => n, fun | n => n⟩
theorem Tryz.validRune : Go.Proofs.Lays.n119 prog Tryz.validRune_ren := {
 mixed := kgA
 f119 := func193.trans (yG some kgA)
 t4 := underlying4
 a4 := isAgg4
 z4 := sizeOf4
 v4 := zeroValue4
 t21 := underlying21
 a21 := isAgg21
 z21 := sizeOf21
 v21 := zeroValue21 }
def Tryz.indexRune_ren : Go.Shelf.Ren := ⟨fun | 152 => 172 | 137 => 192 | 119 => 193 | 224 => 176 | 225 => 175 | 217 => 174 | 266 => 194 | n => n, fun | 9 => 9 | 21 => 21 | 3 => 3 | 4 => 4 | 5 => 5 | 0 => 0 | 46 => 178 | n => n, fun | n => n⟩
theorem Tryz.indexRune : Go.Proofs.Lays.n152 prog Tryz.indexRune_ren := {
 mixed := kgA
 f119 := func193.trans (yG some kgA)
 f137 := func192.trans (yG some kgA)
 f152 := func172.trans (yG some kgA)
 f217 := func174.trans (yG some kgA)
 f224 := func176.trans (yG some kgA)
 f225 := func175.trans (yG some kgA)
 f266 := func194.trans (yG some kgA)
 t0 := underlying0
 a0 := isAgg0
 z0 := sizeOf0
 v0 := zeroValue0
 t3 := underlying3
 a3 := isAgg3
 z3 := sizeOf3
 v3 := zeroValue3
 t4 := underlying4
 a4 := isAgg4
 z4 := sizeOf4
 v4 := zeroValue4
 t5 := underlying5
 a5 := isAgg5
 z5 := sizeOf5
 v5 := zeroValue5
 t9 := underlying9
 a9 := isAgg9
 z9 := sizeOf9
 v9 := zeroValue9
 t21 := underlying21
 a21 := isAgg21
 z21 := sizeOf21
 v21 := zeroValue21
 t46 := underlying178
 a46 := isAgg178
 z46 := sizeOf178
 v46 := zeroValue178 }
end Go.Proofs
namespace Go.Proofs.YtdbgeobolongmaaGreatDoor
open Go.RowKit Go.Shelf Go.Proofs Go.OctetPlain Go.Proofs.Tryz
theorem elemB : tY prog 33 5 1 1 := .mk underlying33 (z := .int .u8 0) kf om om rfl
theorem RdP.cells {α : Type} {w : World} {k : Nat} {enc : α -> List Value} (hk : ∀ x, (enc x).length = k) (h0 : 0 < k) {a : Addr} {xs : List α} (h : RdP w k enc (some a) xs) : ∀ j u, (flat enc xs)[j]? = some u -> w.cell? ⟨a.block, a.off + j, none⟩ = some u := by
 intro j u hu; have hjl : j < (flat enc xs).length := (zL.1 hu).1; rw [aI hk] at hjl; have hi' : j / k < xs.length := zBe (by rw [bM]; exact hjl); obtain ⟨_, _, hcell⟩ := h.2 _ rfl (Nat.ne_of_gt (nJ (yQ _) hi')); have hm : j % k < (enc xs[j / k]).length := by rw [hk]; exact zDm _ h0
 have hfl := oF hk (zA hi') (zA hm); have hj : j / k * k + j % k = j := by rw [bM]; exact Nat.div_add_mod j k
 rw [hj, hu] at hfl; have := hcell _ _ (zA hi') _ _ ((zA hm).trans hfl.symm); rw [← this]
 congr 1
 simp only [Addr.mk.injEq, rX, pQ]; omega
theorem RdP.window {α : Type} {w : World} {k : Nat} {enc : α -> List Value} {a : Addr} {xs : List α} (h : RdP w k enc (some a) xs) (i n : Nat) : RdP w k enc (some ⟨a.block, a.off + i * k, none⟩) ((xs.drop i).take n) := by
 refine ⟨(fun e => by cases e), fun b hb hn => ?_⟩; obtain ⟨h6, h7, h8⟩ := h.2 a rfl (fun h0 => hn (by simp [zX h0]))
 cases hb; refine ⟨rfl, h7, fun j x hx m u hu => ?_⟩
 have hx' : xs[i + j]? = some x := by
  rw [nK] at hx
  split at hx
  ·rw [fD] at hx; exact hx
  ·cases hx
 have := h8 (i + j) x hx' m u hu; rw [← this]
 congr 2
 simp only [Nat.add_mul]; omega
theorem SlR.cut {w : World} {p : Option Addr} {l : List UInt8} (h : RdP w 1 encB p l) {k size : Int} (ht : there l.length k size) (hl : l.length <= 1073741824) :
  SlR w 1 encB (sliced p k.toNat (k + size).toNat (k + size).toNat 1) (cutL l k size) := by
 have hlen := cutL_length ht; have ht' := ht; unfold there at ht'; unfold sliced
 by_cases h0 : (k + size).toNat = k.toNat
 ·rw [zN h0, h0]
  have e : cutL l k size = [] := zX (by rw [hlen]; omega); rw [e]; exact ⟨p, 0, zi, yZ _, om, fun _ => rfl, fun a ha hn => absurd rfl hn⟩
 ·rw [zH h0]
  refine ⟨p.map (·.add (k.toNat * 1)), size.toNat, by rw [hlen]; congr 1 <;> omega, by rw [hlen]; exact yZ _, om, ?_⟩
  cases p with
  |none =>
   have := h.1 rfl; omega
  |some a =>
   have hw := h.window k.toNat size.toNat; rw [cutL_of ht]; have ha := (h.2 a rfl om).1; simp only [mZ]; rw [show a.add (k.toNat * 1) = ⟨a.block, a.off + k.toNat * 1, none⟩ by cases a; simp only at ha; subst ha; unfold Addr.add; split <;> simp_all]; exact hw
end Go.Proofs.YtdbgeobolongmaaGreatDoor
namespace Go.Proofs.YtdbgeobolongmaaGreatDoor
open Go.RowKit Go.Shelf Go.Proofs
def Blk (w : World) (g : Nat) (t : TypeId) (cs : Array Value) : Prop := w.heap[g]? = some (.cells cs t (0, 0))
theorem Blk.lt {w : World} {g : Nat} {t : TypeId} {cs : Array Value} (h : Blk w g t cs) : g < w.heap.size := (xB.1 h).1
theorem Blk.cell {w : World} {g : Nat} {t : TypeId} {cs : Array Value} (h : Blk w g t cs) (i : Nat) : w.cell? ⟨g, i, none⟩ = cs[i]? := cell_of_row w g i cs t (0, 0) h
theorem Blk.kept {W W' : World} {row : Option Nat} {B : Nat} {t : TypeId} {cs : Array Value} (h : Blk W B t cs) (hg : W.grownBy W' row) (hne : some B ≠ row) : Blk W' B t cs := (hg.block B h.lt hne).trans h
theorem Blk.new (w : World) (t : TypeId) (cs : Array Value) : Blk (w.alloc (.cells cs t)) w.heap.size t cs := World.alloc_heap_new w _
theorem Blk.own {W W' : World} {row : Option Nat} {B : Nat} {t : TypeId} {cs : Array Value} (h : Blk W B t cs) (hg : W.grownBy W' row) (hr : ∀ r, row = some r -> ∃ o : Obj, W.heap[r]? = some o /\ o.isCells = false) : Blk W' B t cs :=
 h.kept hg fun e => by obtain ⟨o, ho, hc⟩ := hr B e.symm; rw [show W.heap[B]? = _ from h] at ho; cases ho; cases hc
section
variable {P : Program} {ops : Array Oper} {Q : Exit -> Act -> World -> Prop} {md : Region.Mode} {l n : Nat}
end
structure Keeps (Kp : World -> World -> Prop) (Safe : World -> Nat -> Prop) : Prop where
 size : ∀ {A B : World}, Kp A B -> A.heap.size <= B.heap.size
 safe : ∀ {A B : World} {g : Nat}, Kp A B -> Safe A g -> Safe B g
 same : ∀ {A B : World} {g : Nat} {c : Array Value} {t : TypeId} {f : Nat × Nat}, Kp A B -> Safe A g -> A.heap[g]? = some (.cells c t f) -> B.heap[g]? = some (.cells c t f)
 grow : ∀ {A B : World} {g : Nat}, zW A B -> Safe A g -> Safe B g
theorem Keeps.below (n₀ : Nat) : Keeps (Below n₀) (fun _ g => g < n₀) :=
 ⟨fun h => h.size, fun _ h => h, fun h hg hc => (h.block _ hg).trans hc, fun _ h => h⟩
theorem RdP.keeps {α : Type} {A B : World} {k : Nat} {enc : α -> List Value} {p : Option Addr} {xs : List α} {Kp : World -> World -> Prop} {Safe : World -> Nat -> Prop} (K : Keeps Kp Safe) (h : RdP A k enc p xs) (hs : ∀ a, p = some a -> Safe A a.block) (hk : Kp A B) : RdP B k enc p xs := by
 refine ⟨h.1, fun a ha hn => ?_⟩; obtain ⟨h6, h7, h8⟩ := h.2 a ha hn; refine ⟨h6, xC h7 (K.size hk), fun i x hx j u hu => ?_⟩; have hc := h8 i x hx j u hu; rw [← hc]; unfold World.cell? at hc ⊢
 cases hh : A.heap[a.block]? with
 | none => rw [hh] at hc; cases hc
 |some o =>
  cases o with
  | cells c t f => rw [K.same hk (hs a ha) hh]
  | _ => rw [hh] at hc; cases hc
def nOf (B0 : Nat) (W : World) : Nat := match W.cell? ⟨B0, 0, none⟩ with | some (.slice (some a) _ _) => a.block | _ => W.heap.size
def zDh (B0 : Nat) (A B : World) : Prop :=
 A.heap.size <= B.heap.size /\ nOf B0 A <= nOf B0 B /\ ∀ g c t f, g < nOf B0 A -> g ≠ B0 -> A.heap[g]? = some (.cells c t f) -> B.heap[g]? = some (.cells c t f)
def SafeOut (B0 : Nat) (W : World) (g : Nat) : Prop := B0 < W.heap.size /\ g < nOf B0 W /\ g ≠ B0
theorem nOf_same {B0 : Nat} {A B : World} (h : B.cell? ⟨B0, 0, none⟩ = A.cell? ⟨B0, 0, none⟩) (hs : A.heap.size <= B.heap.size) : nOf B0 A <= nOf B0 B := by
 unfold nOf; rw [h]
 split
 ·exact yZ _
 ·exact hs
theorem Keeps.o (B0 : Nat) : Keeps (zDh B0) (SafeOut B0) := by
 refine ⟨fun h => h.1, fun h hs => ⟨xC hs.1 h.1, xC hs.2.1 h.2.1, hs.2.2⟩, fun h hs hc => h.2.2 _ _ _ _ hs.2.1 hs.2.2 hc, fun h hs => ⟨xC hs.1 h.size, xC hs.2.1 (nOf_same (h.cell (p := ⟨B0, 0, none⟩) hs.1) h.size), hs.2.2⟩⟩
theorem zDh.trans {B0 : Nat} {A B C : World} (h : zDh B0 A B) (k : zDh B0 B C) : zDh B0 A C :=
 ⟨yK h.1 k.1, yK h.2.1 k.2.1, fun g c t f hg hne hc => k.2.2 g c t f (xC hg h.2.1) hne (h.2.2 g c t f hg hne hc)⟩
theorem nOf_some {B0 : Nat} {W : World} {t : TypeId} {a : Addr} {n c : Nat} (h : Boxed W B0 t (.slice (some a) n c)) : nOf B0 W = a.block := by
 unfold nOf; rw [h.cell]
theorem zDh.setRow {B0 : Nat} {W : World} {t : TypeId} {g n c : Nat} (hv : Boxed W B0 t (.slice (some ⟨g, 0, none⟩) n c)) (hne : B0 ≠ g) (i : Nat) (u : Value) : zDh B0 W (W.setCell ⟨g, i, none⟩ u) := by
 have hcell : (W.setCell ⟨g, i, none⟩ u).cell? ⟨B0, 0, none⟩ = W.cell? ⟨B0, 0, none⟩ := World.cell?_setCell_other _ _ _ _ (by simp only [qR, Addr.mk.injEq]; omega); refine ⟨by simp [World.setCell], nOf_same hcell (by simp [World.setCell]), fun j c' ty f hj hjB hc => ?_⟩; rw [nOf_some hv] at hj; simp at hj; rw [zBd _ _ _ _ zo]; exact hc
theorem zDh.of_below {B0 : Nat} {W W' : World} (h : B0 < W.heap.size) (hb : zW W W') : zDh B0 W W' :=
 ⟨hb.size, nOf_same (hb.cell (p := ⟨B0, 0, none⟩) h) hb.size, fun j _ _ _ _ _ hc => (hb.block j (xB.1 hc).1).trans hc⟩
open Go.Proofs.Tryz
theorem rF {α : Type} {enc : α -> List Value} {k : Nat} (hk : ∀ x, (enc x).length = k) (w : World) (e : TypeId) (xs : List α) (hl : xs.length <= 1048576) (cs : Array Value) (hcs : cs = (flat enc xs).toArray) :
  SlR (w.alloc (.cells cs e)) k enc (.slice (some ⟨w.heap.size, 0, none⟩) xs.length xs.length) xs := by
 subst hcs; refine ⟨_, _, rfl, yZ _, om, (fun h => by cases h), fun a ha _ => ?_⟩
 cases ha; refine ⟨rfl, zi, fun i x hx j u hu => ?_⟩; have h := nN w (flat enc xs) e (i * k + j) u (oF hk hx hu); have hadd : (⟨w.heap.size, 0, none⟩ : Addr).add (i * k + j) = ⟨w.heap.size, 0 + i * k + j, none⟩ := by unfold Addr.add; split <;> simp_all [mX]
 rw [hadd] at h; exact h
theorem yD (W : World) (o : Obj) : zW W (W.alloc o) := (xE W.heap.size _).alloc zn _
theorem kD {W W' : World} {o : Obj} (h : Below (W.alloc o).heap.size (W.alloc o) W') : zW W W' := (yD W o).trans (h.mono zi)
theorem Blk.alloc {w : World} {g : Nat} {t : TypeId} {cs : Array Value} (h : Blk w g t cs) (o : Obj) : Blk (w.alloc o) g t cs := (Below.heap_alloc w o g h.lt).trans h
theorem Blk.other {w : World} {g : Nat} {t : TypeId} {cs : Array Value} (h : Blk w g t cs) (a : Addr) (v : Value) (hne : g ≠ a.block) : Blk (w.setCell a v) g t cs := (zBd w a v g hne).trans h
theorem Blk.set {w : World} {g : Nat} {t : TypeId} {cs : Array Value} (h : Blk w g t cs) (i : Nat) (v : Value) : Blk (w.setCell ⟨g, i, none⟩ v) g t (cs.setIfInBounds i v) := by
 obtain ⟨hlt, hk⟩ := xB.1 h
 show (w.heap.modify g _)[g]? = _
 rw [kR (by rw [Array.size_modify]; exact hlt), Array.getElem_modify_self, hk]
 rfl
theorem Blk.drewN {w : World} {g : Nat} {t : TypeId} {cs : Array Value} (h : Blk w g t cs) (n : Nat) : Blk (w.drewN n) g t cs := h
theorem Blk.drew {w : World} {g : Nat} {t : TypeId} {cs : Array Value} (h : Blk w g t cs) : Blk w.drew g t cs := h
theorem Blk.frozen' {w : World} {g : Nat} {t : TypeId} {cs : Array Value} (h : Blk w g t cs) (i : Nat) : w.frozen? ⟨g, i, none⟩ = false := by
 simp [World.frozen?, show w.heap[g]? = _ from h]
theorem Blk.below {w w' : World} {g : Nat} {t : TypeId} {cs : Array Value} (h : Blk w g t cs) {B : Nat} (hb : Below B w w') (hg : g < B) : Blk w' g t cs := (hb.block g hg).trans h
theorem Blk.setRow {w : World} {g : Nat} {t : TypeId} {cs : Array Value} (h : Blk w g t cs) (cs' : Array Value) : Blk (w.setRow g cs') g t cs' := setRow_heap w g cs cs' t (0, 0) h
theorem Blk.otherRow {w : World} {g : Nat} {t : TypeId} {cs : Array Value} (h : Blk w g t cs) (k : Nat) (cs' : Array Value) (hne : g ≠ k) : Blk (w.setRow k cs') g t cs := (setRow_other w k g cs' hne).trans h
theorem Blk.loadAt {w : World} {g : Nat} {t : TypeId} {cs : Array Value} (h : Blk w g t cs) {ty e : TypeId} {n : Nat} (hu : prog.underlying ty = some (.array n e)) (hi : (prog.info? ty).map (·.size) = some cs.size) :
  (Instr.loadAt ty (.pointer (some ⟨g, 0, none⟩))).run prog w = .ok (.agg cs) w := by
 simp only [Instr.loadAt, Instr.sureAddr, kS, qN, Result.andThen]; exact nT w g t ty cs (0, 0) _ h hu rfl hi
def arrB (l : List UInt8) : Array Value := (l.map fun c => Value.int .u8 (c.toNat : Int)).toArray
def arrI (l : List Int) : Array Value := (l.map fun n => Value.int .i64 n).toArray
theorem arrB_size (l : List UInt8) : (arrB l).size = l.length := by simp [arrB]
theorem zEf (l : List Int) : (arrI l).size = l.length := by simp [arrI]
theorem kQ {l : List UInt8} {i : Nat} {c : UInt8} (h : l[i]? = some c) : (arrB l)[i]? = some (.int .u8 (c.toNat : Int)) := by simp [arrB, h]
theorem sF {l : List Int} {i : Nat} {n : Int} (h : l[i]? = some n) : (arrI l)[i]? = some (.int .i64 n) := by simp [arrI, h]
theorem wF (l : List UInt8) (i : Nat) (c : UInt8) : (arrB l).setIfInBounds i (.int .u8 (c.toNat : Int)) = arrB (l.set i c) := by
 unfold arrB; rw [zDp, List.map_set]
theorem arrI_set (l : List Int) (i : Nat) (n : Int) : (arrI l).setIfInBounds i (.int .i64 n) = arrI (l.set i n) := by
 unfold arrI; rw [zDp, List.map_set]
theorem zCu (l : List UInt8) : (arrB l).all (·.oneCell') = true := by
 simp [arrB, Array.all_eq_true, Value.oneCell']
theorem list8 {α : Type} : ∀ {l : List α}, l.length = 8 -> ∃ x0 x1 x2 x3 x4 x5 x6 x7, l = [x0, x1, x2, x3, x4, x5, x6, x7]
 | [x0, x1, x2, x3, x4, x5, x6, x7], _ => ⟨x0, x1, x2, x3, x4, x5, x6, x7, rfl⟩
theorem aJ {α : Type} : ∀ {l : List α}, l.length = 16 -> ∃ x0 x1 x2 x3 x4 x5 x6 x7 x8 x9 x10 x11 x12 x13 x14 x15, l = [x0, x1, x2, x3, x4, x5, x6, x7, x8, x9, x10, x11, x12, x13, x14, x15]
 | [x0, x1, x2, x3, x4, x5, x6, x7, x8, x9, x10, x11, x12, x13, x14, x15], _ => ⟨x0, x1, x2, x3, x4, x5, x6, x7, x8, x9, x10, x11, x12, x13, x14, x15, rfl⟩
theorem Blk.cells8 {w : World} {g : Nat} {t : TypeId} {x0 x1 x2 x3 x4 x5 x6 x7 : Int} (h : Blk w g t (arrI [x0, x1, x2, x3, x4, x5, x6, x7])) : w.cell? ⟨g, 0, none⟩ = some (.int .i64 x0) /\ w.cell? ⟨g, 1, none⟩ = some (.int .i64 x1) /\ w.cell? ⟨g, 2, none⟩ = some (.int .i64 x2) /\ w.cell? ⟨g, 3, none⟩ = some (.int .i64 x3) /\ w.cell? ⟨g, 4, none⟩ = some (.int .i64 x4) /\ w.cell? ⟨g, 5, none⟩ = some (.int .i64 x5) /\ w.cell? ⟨g, 6, none⟩ = some (.int .i64 x6) /\ w.cell? ⟨g, 7, none⟩ = some (.int .i64 x7) := ⟨h.cell 0, h.cell 1, h.cell 2, h.cell 3, h.cell 4, h.cell 5, h.cell 6, h.cell 7⟩
theorem Blk.cells16 {w : World} {g : Nat} {t : TypeId} {x0 x1 x2 x3 x4 x5 x6 x7 x8 x9 x10 x11 x12 x13 x14 x15 : UInt8} (h : Blk w g t (arrB [x0, x1, x2, x3, x4, x5, x6, x7, x8, x9, x10, x11, x12, x13, x14, x15])) : w.cell? ⟨g, 0, none⟩ = some (.int .u8 (x0.toNat : Int)) /\ w.cell? ⟨g, 1, none⟩ = some (.int .u8 (x1.toNat : Int)) /\ w.cell? ⟨g, 2, none⟩ = some (.int .u8 (x2.toNat : Int)) /\ w.cell? ⟨g, 3, none⟩ = some (.int .u8 (x3.toNat : Int)) /\ w.cell? ⟨g, 4, none⟩ = some (.int .u8 (x4.toNat : Int)) /\ w.cell? ⟨g, 5, none⟩ = some (.int .u8 (x5.toNat : Int)) /\ w.cell? ⟨g, 6, none⟩ = some (.int .u8 (x6.toNat : Int)) /\ w.cell? ⟨g, 7, none⟩ = some (.int .u8 (x7.toNat : Int)) /\ w.cell? ⟨g, 8, none⟩ = some (.int .u8 (x8.toNat : Int)) /\ w.cell? ⟨g, 9, none⟩ = some (.int .u8 (x9.toNat : Int)) /\ w.cell? ⟨g, 10, none⟩ = some (.int .u8 (x10.toNat : Int)) /\ w.cell? ⟨g, 11, none⟩ = some (.int .u8 (x11.toNat : Int)) /\ w.cell? ⟨g, 12, none⟩ = some (.int .u8 (x12.toNat : Int)) /\ w.cell? ⟨g, 13, none⟩ = some (.int .u8 (x13.toNat : Int)) /\ w.cell? ⟨g, 14, none⟩ = some (.int .u8 (x14.toNat : Int)) /\ w.cell? ⟨g, 15, none⟩ = some (.int .u8 (x15.toNat : Int)) := ⟨h.cell 0, h.cell 1, h.cell 2, h.cell 3, h.cell 4, h.cell 5, h.cell 6, h.cell 7, h.cell 8, h.cell 9, h.cell 10, h.cell 11, h.cell 12, h.cell 13, h.cell 14, h.cell 15⟩
theorem Blk.set8 {w : World} {g : Nat} {t : TypeId} {y0 y1 y2 y3 y4 y5 y6 y7 x0 x1 x2 x3 x4 x5 x6 x7 : Int} (h : Blk w g t (arrI [y0, y1, y2, y3, y4, y5, y6, y7])) : Blk ((((((((w.setCell ⟨g, 0, none⟩ (.int .i64 x0)).setCell ⟨g, 1, none⟩ (.int .i64 x1)).setCell ⟨g, 2, none⟩ (.int .i64 x2)).setCell ⟨g, 3, none⟩ (.int .i64 x3)).setCell ⟨g, 4, none⟩ (.int .i64 x4)).setCell ⟨g, 5, none⟩ (.int .i64 x5)).setCell ⟨g, 6, none⟩ (.int .i64 x6)).setCell ⟨g, 7, none⟩ (.int .i64 x7)) g t (arrI [x0, x1, x2, x3, x4, x5, x6, x7]) := by
 simpa [arrI] using ((((((((h.set 0 _).set 1 _).set 2 _).set 3 _).set 4 _).set 5 _).set 6 _).set 7 _)
theorem below_set8 {B g : Nat} {w0 w : World} {x0 x1 x2 x3 x4 x5 x6 x7 : Int} (h : Below B w0 w) (hg : B <= g) : Below B w0 ((((((((w.setCell ⟨g, 0, none⟩ (.int .i64 x0)).setCell ⟨g, 1, none⟩ (.int .i64 x1)).setCell ⟨g, 2, none⟩ (.int .i64 x2)).setCell ⟨g, 3, none⟩ (.int .i64 x3)).setCell ⟨g, 4, none⟩ (.int .i64 x4)).setCell ⟨g, 5, none⟩ (.int .i64 x5)).setCell ⟨g, 6, none⟩ (.int .i64 x6)).setCell ⟨g, 7, none⟩ (.int .i64 x7)) := ((((((((h.setCell hg _).setCell hg _).setCell hg _).setCell hg _).setCell hg _).setCell hg _).setCell hg _).setCell hg _)
theorem zAh {w : World} (cs : Array Value) (i : Nat) (n : Int) (hi : i < 8) (hc : cs[i]? = some (.int .i64 n)) :
  (Instr.index 155 (.agg cs) (.int .i64 (i : Int))).run prog w = .ok (.int .i64 n) w := by
 have h1 : (i : Int) < 8 := om; simp [Instr.index, run_underlying underlying155, asIntOf, h1, hc, go_sem, sizeOf3, isAgg3, part]; intro h; omega
section
variable {y0 y1 y2 y3 y4 y5 y6 y7 y8 y9 y10 y11 y12 y13 y14 y15 x0 x1 x2 x3 x4 x5 x6 x7 x8 x9 x10 x11 x12 x13 x14 x15 : Value}
theorem Blk.setV16 {w : World} {g : Nat} {t : TypeId} (h : Blk w g t #[y0, y1, y2, y3, y4, y5, y6, y7, y8, y9, y10, y11, y12, y13, y14, y15]) : Blk ((((((((((((((((w.setCell ⟨g, 0, none⟩ x0).setCell ⟨g, 1, none⟩ x1).setCell ⟨g, 2, none⟩ x2).setCell ⟨g, 3, none⟩ x3).setCell ⟨g, 4, none⟩ x4).setCell ⟨g, 5, none⟩ x5).setCell ⟨g, 6, none⟩ x6).setCell ⟨g, 7, none⟩ x7).setCell ⟨g, 8, none⟩ x8).setCell ⟨g, 9, none⟩ x9).setCell ⟨g, 10, none⟩ x10).setCell ⟨g, 11, none⟩ x11).setCell ⟨g, 12, none⟩ x12).setCell ⟨g, 13, none⟩ x13).setCell ⟨g, 14, none⟩ x14).setCell ⟨g, 15, none⟩ x15) g t #[x0, x1, x2, x3, x4, x5, x6, x7, x8, x9, x10, x11, x12, x13, x14, x15] := by
 simpa using ((((((((((((((((h.set 0 _).set 1 _).set 2 _).set 3 _).set 4 _).set 5 _).set 6 _).set 7 _).set 8 _).set 9 _).set 10 _).set 11 _).set 12 _).set 13 _).set 14 _).set 15 _)
theorem kN {B g : Nat} {w0 w : World} (h : Below B w0 w) (hg : B <= g) : Below B w0 ((((((((((((((((w.setCell ⟨g, 0, none⟩ x0).setCell ⟨g, 1, none⟩ x1).setCell ⟨g, 2, none⟩ x2).setCell ⟨g, 3, none⟩ x3).setCell ⟨g, 4, none⟩ x4).setCell ⟨g, 5, none⟩ x5).setCell ⟨g, 6, none⟩ x6).setCell ⟨g, 7, none⟩ x7).setCell ⟨g, 8, none⟩ x8).setCell ⟨g, 9, none⟩ x9).setCell ⟨g, 10, none⟩ x10).setCell ⟨g, 11, none⟩ x11).setCell ⟨g, 12, none⟩ x12).setCell ⟨g, 13, none⟩ x13).setCell ⟨g, 14, none⟩ x14).setCell ⟨g, 15, none⟩ x15) := ((((((((((((((((h.setCell hg _).setCell hg _).setCell hg _).setCell hg _).setCell hg _).setCell hg _).setCell hg _).setCell hg _).setCell hg _).setCell hg _).setCell hg _).setCell hg _).setCell hg _).setCell hg _).setCell hg _).setCell hg _)
theorem results_cell_tmp {P : Program} {fn : Func} {p q : Tmp} {ty : TypeId} (h : fn.results = #[.cell p ty, .tmp q]) (tmps : Array Value) (w : World) (g : Nat) (t : TypeId) (cs : Array Value) (fr : Nat × Nat) (d : TypeDesc)
  (hp : tmps.getD p undef = .pointer (some ⟨g, 0, none⟩)) (hg : w.heap[g]? = some (.cells cs t fr))
  (hu : P.underlying ty = some d) (hd : (match d with | .struct _ | .array _ _ => true | _ => false) = true) (hi : (P.info? ty).map (·.size) = some cs.size) :
  (results fn tmps).run P w = .ok (.tuple #[.agg cs, tmps.getD q undef]) w := by
 have hp' : tmps[p]?.getD undef = .pointer (some ⟨g, 0, none⟩) := by simpa using hp
 simp [results, h, hp', asAddr, nT w g t ty cs fr d hg hu hd hi]
theorem Blk.z4 {w : World} {g : Nat} {t : TypeId} (h : Blk w g t (arrB [0, 0, 0, 0])) : Blk w g t #[.int .u8 0, .int .u8 0, .int .u8 0, .int .u8 0] := h
theorem Blk.z16 {w : World} {g : Nat} {t : TypeId} (h : Blk w g t (arrB [0, 0, 0, 0, 0, 0, 0, 0, 0, 0, 0, 0, 0, 0, 0, 0])) : Blk w g t #[.int .u8 0, .int .u8 0, .int .u8 0, .int .u8 0, .int .u8 0, .int .u8 0, .int .u8 0, .int .u8 0, .int .u8 0, .int .u8 0, .int .u8 0, .int .u8 0, .int .u8 0, .int .u8 0, .int .u8 0, .int .u8 0] := h
theorem Blk.setV4 {w : World} {g : Nat} {t : TypeId} (h : Blk w g t #[y0, y1, y2, y3]) : Blk ((((w.setCell ⟨g, 0, none⟩ x0).setCell ⟨g, 1, none⟩ x1).setCell ⟨g, 2, none⟩ x2).setCell ⟨g, 3, none⟩ x3) g t #[x0, x1, x2, x3] := by
 simpa using ((((h.set 0 _).set 1 _).set 2 _).set 3 _)
theorem jU {B g : Nat} {w0 w : World} {x0 x1 x2 x3 : Value} (h : Below B w0 w) (hg : B <= g) : Below B w0 ((((w.setCell ⟨g, 0, none⟩ x0).setCell ⟨g, 1, none⟩ x1).setCell ⟨g, 2, none⟩ x2).setCell ⟨g, 3, none⟩ x3) := ((((h.setCell hg _).setCell hg _).setCell hg _).setCell hg _)
theorem Blk.cells4 {w : World} {g : Nat} {t : TypeId} {x0 x1 x2 x3 : UInt8} (h : Blk w g t (arrB [x0, x1, x2, x3])) : w.cell? ⟨g, 0, none⟩ = some (.int .u8 (x0.toNat : Int)) /\ w.cell? ⟨g, 1, none⟩ = some (.int .u8 (x1.toNat : Int)) /\ w.cell? ⟨g, 2, none⟩ = some (.int .u8 (x2.toNat : Int)) /\ w.cell? ⟨g, 3, none⟩ = some (.int .u8 (x3.toNat : Int)) := ⟨h.cell 0, h.cell 1, h.cell 2, h.cell 3⟩
theorem zBg {α : Type} : ∀ {l : List α}, l.length = 4 -> ∃ x0 x1 x2 x3, l = [x0, x1, x2, x3]
 | [x0, x1, x2, x3], _ => ⟨x0, x1, x2, x3, rfl⟩
theorem Blk.iterAt {w : World} {g : Nat} {t : TypeId} {cs : Array Value} (h : Blk w g t cs) {k : Nat} {s : ByteArray} {pos : Nat} (hk : w.heap[k]? = some (.stringIter s pos)) (pos' : Nat) : Blk (w.iterAt k s pos') g t cs :=
 (Lib.iterAt_other w k g s pos' (fun e => by subst e; rw [show w.heap[g]? = _ from h] at hk; cases hk)).trans h
theorem oO (a b : Nat) (ha : a < 4611686018427387904) (hb : b < 4611686018427387904) :
  bits .or .i64 (a : Int) (b : Int) = ((a ||| b : Nat) : Int) := by
 have hx : a ||| b < 2 ^ 62 := Nat.or_lt_two_pow om om
 have h1 : (BitVec.ofInt 64 (a : Int)).toNat = a := by
  rw [BitVec.ofInt_natCast, BitVec.toNat_ofNat]; exact sK om
 have h2 : (BitVec.ofInt 64 (b : Int)).toNat = b := by
  rw [BitVec.ofInt_natCast, BitVec.toNat_ofNat]; exact sK om
 show IntKind.i64.wrap ((BitVec.ofInt 64 (a : Int) ||| BitVec.ofInt 64 (b : Int)).toNat : Int) = _
 rw [BitVec.toNat_or, h1, h2]; exact yT _ om
theorem or_256 (a b : Nat) (ha : a < 72057594037927936 / 256) (hb : b < 256) : bits .or .i64 ((a : Int) * 256) (b : Int) = ((256 * a + b : Nat) : Int) := by
 have h := oO (a * 256) b om om
 have e : a * 256 ||| b = a * 256 + b := by
  have := Nat.shiftLeft_add_eq_or_of_lt (show b < 2 ^ 8 from om) a; rw [Nat.shiftLeft_eq] at this; exact this.symm
 rw [e] at h; rw [← bM a 256, ← h]
 congr 1
theorem or_16 (a b : Nat) (ha : a < 72057594037927936 / 256) (hb : b < 16) : bits .or .i64 ((a : Int) * 16) (b : Int) = ((a * 16 + b : Nat) : Int) := by
 have h := oO (a * 16) b om om
 have e : a * 16 ||| b = a * 16 + b := by
  have := Nat.shiftLeft_add_eq_or_of_lt (show b < 2 ^ 4 from om) a; rw [Nat.shiftLeft_eq] at this; exact this.symm
 rw [e] at h; rw [← h]
 congr 1
end
end Go.Proofs.YtdbgeobolongmaaGreatDoor
namespace Go.Proofs.YtdbgeobolongmaaGreatDoor
open Go.RowKit Go.Shelf Go.Proofs Go.OctetPlain
theorem SlR.atB {w : World} {p : Option Addr} {l : List UInt8} (h : RdP w 1 encB p l) {i : Nat} (hi : i < l.length) :
  ∃ b off, p = some ⟨b, off, none⟩ /\ b < w.heap.size /\ w.cell? ⟨b, off + i, none⟩ = some (.int .u8 (l[i].toNat : Int)) := by
 obtain ⟨b, off, h1, h2, h3⟩ := h.at hi; have := h3 0 _ rfl; simp only [jN, xN] at this; exact ⟨b, off, h1, h2, this⟩
theorem owns_b {w : World} {v : Value} {l : List UInt8} {B : Nat} {e : TypeId} (h : w.ownsRow B e 1 v l.length (flat encB l)) : ∃ p cap, v = .slice p l.length cap /\ l.length <= cap /\ cap <= 9223372036854775807 /\ RdP w 1 encB p l := SlR.of_owns encB_len h
open Go.Proofs.Tryz
theorem one_str (W : World) (c : Int) (h0 : 0 <= c) (h1 : c < 256) :
  (convert 33 9 (.slice (some ⟨W.heap.size, 0, none⟩) 1 1)).run prog (W.alloc (.cells #[.int .u8 c] 5)) = .ok (.string (str [UInt8.ofNat c.toNat])) (W.alloc (.cells #[.int .u8 c] 5)) := by
 have hs : SlR (W.alloc (.cells #[.int .u8 c] 5)) 1 encB (.slice (some ⟨W.heap.size, 0, none⟩) 1 1) [UInt8.ofNat c.toNat] := by
  refine ⟨_, 1, rfl, yZ _, om, (fun e => by cases e), fun a ha _ => ?_⟩
  cases ha; refine ⟨rfl, zi, fun i x hx j u hu => ?_⟩; have hi : i = 0 := by have := (zL.1 hx).1; simpa using this
  subst hi; simp at hx; subst hx; have hj : j = 0 := by have := (zL.1 hu).1; simpa [encB] using this
  subst hj; simp [encB] at hu; subst hu; have e : ((UInt8.ofNat c.toNat).toNat : Int) = c := by rw [xM]; omega
  rw [cell_of_row _ W.heap.size _ #[.int .u8 c] 5 (0, 0) (jW W _)]; simp; omega
 exact hs.str underlying33 underlying5 underlying9
theorem ref_Bytes (x : Nat) (hx : x < 18446744073709551616) (size : Int) (hs : size <= 1073741824) (w : World) :
  zCB 162 #[.int .u64 x, .int .i64 size] w (.string (str (OctetPlain.bytes x size.toNat))) := by
 have hz : ByteArray.size ⟨#[]⟩ = 0 := rfl
 go_enter func162, ntmps162
 go_wp2_with fail
 go_loopw [0, 5, 6] (fun n s i wr => ∃ j : Nat, j <= size.toNat /\ i = .int .i64 j /\ n = .int .u64 (x / 256 ^ j : Nat) /\ s = .string (str (OctetPlain.bytes x j)) /\ zW w wr) (fun _ _ i _ => size.toNat - (intOf i).toNat)
 case atStart => exact ⟨0, om, rfl, zi, by simp [OctetPlain.bytes, str], xE _ _⟩
 case round =>
  obtain ⟨j, hj, rfl, rfl, rfl, hbl⟩ := hrel
  by_cases hlt : j < size.toNat
  ·have h1 : (str (OctetPlain.bytes x j)).size = j := by rw [zZ, wW]
   have h2 : ∀ c, (str [c]).size = 1 := fun c => zZ _; have hN := qh (bytes_cons j x); have ht : x / 256 ^ j < 18446744073709551616 := nJ (Nat.div_le_self _ _) hx; have hD : Hid (x / 256 ^ (j + 1) = x / 256 ^ j / 256) := by rw [zCf, bS]; exact qh rfl
   generalize x / 256 ^ j = t at ht hN hD ⊢; have hone := fun W => one_str W ((t : Int) % 256) om om
   go_wp2
   refine ⟨⟨j + 1, om, by go_num, by rw [hD.o]; simp, by rw [hN.o, xJ]; congr 3, hbl.alloc hbl.size _⟩, by simp [intOf]; omega⟩
  ·go_wp2
   go_ret
   obtain rfl : j = size.toNat := om; exact ⟨rfl, hbl⟩
theorem zAr {w w' : World} {n : String} {cs : Array Value} (h : w.var? prog n = some cs) (hb : zW w w') : w'.var? prog n = some cs := by
 unfold World.var? at h ⊢
 cases hg : prog.globalNamed n with
 | none => rw [hg] at h; simp at h
 |some g =>
  rw [hg] at h; simp only [Option.bind_some] at h ⊢
  cases hh : w.heap[g]? with
  | none => rw [hh] at h; simp at h
  |some o =>
   rw [hb.block g (xB.1 hh).1, hh]; rw [hh] at h; exact h
structure Tabs (w : World) : Prop where
 pow : Lib.TabIs prog w "internal/strconv.uint64pow10" .u64 Lib.pow10Tab
 syn : ∃ tp p, w.var? prog "strconv.ErrSyntax" = some #[.iface tp p]
 rng : ∃ tp p, w.var? prog "strconv.ErrRange" = some #[.iface tp p]
theorem Tabs.below {w w' : World} (h : Tabs w) (hb : zW w w') : Tabs w' :=
 ⟨zAr h.pow hb, h.syn.elim fun tp ⟨p, e⟩ => ⟨tp, p, zAr e hb⟩, h.rng.elim fun tp ⟨p, e⟩ => ⟨tp, p, zAr e hb⟩⟩
theorem Tabs.next {w w' : World} (h : Tabs w) {B : Nat} (hb : Below B w w') (hB : w.heap.size <= B) : Tabs w' := h.below (hb.mono hB)
theorem below_grow (w : World) (q : Nat) (os : Array Obj) : zW w (Go.Sort.grow (w.drewN q) os) :=
 ⟨rfl, rfl, rfl, by simp [Go.Sort.grow, World.drewN], fun k hk => by
  show (w.heap ++ os)[k]? = w.heap[k]?
  rw [Array.getElem?_append_left hk]⟩
theorem jJ (n : Int) (hn : -9223372036854775808 <= n /\ n <= 9223372036854775807) (w : World) (ht : Tabs w) :
  zCB 41 #[.int .i64 n] w (.string (str (Lib.itoa n))) := by
 have hcon := Any.strconv_Itoa Tryz.itoa n hn.1 hn.2 w ht.pow; change Calls prog 84 _ _ _ at hcon; have HC := qh hcon; clear hcon
 go_enter func41, ntmps41
 go_wp2_with fail
 refine HC.o.mono ?_; rintro e w1 ⟨rfl, k, os, rfl⟩
 go_wp2
 go_ret
 exact ⟨rfl, below_grow _ _ _⟩
theorem tdig : ∀ m : Nat, m < 10 -> (⟨#[48, 49, 50, 51, 52, 53, 54, 55, 56, 57]⟩ : ByteArray).extract m (m + 1) = str [UInt8.ofNat (48 + m)] := by
 intro m hm
 show (str [48, 49, 50, 51, 52, 53, 54, 55, 56, 57]).extract m (m + 1) = _
 rw [aP]
 match m, hm with
 | 0, _ => rfl
 | 1, _ => rfl
 | 2, _ => rfl
 | 3, _ => rfl
 | 4, _ => rfl
 | 5, _ => rfl
 | 6, _ => rfl
 | 7, _ => rfl
 | 8, _ => rfl
 | 9, _ => rfl
theorem dec_lt {m : Nat} (h : m < 10) : Lib.decDigits m = [UInt8.ofNat (48 + m)] := by rw [Lib.decDigits, dif_pos h]
theorem dec_ge {m : Nat} (h : ¬ m < 10) : Lib.decDigits m = Lib.decDigits (m / 10) ++ [UInt8.ofNat (48 + m % 10)] := by rw [Lib.decDigits, dif_neg h]
theorem ref_Digits_pos (N : Nat) (hn : N <= 9223372036854775807) (w : World) :
  zCQ 88 #[.int .i64 N] w (.string (str (Lib.decDigits N))) := by
 have hN : (Lib.decDigits N).length <= 1000 := by
  rw [Lib.decDigits_length]; have := rG N om; omega
 go_enter func88, ntmps88
 go_wp2_with fail
 go_loop [0, 5] (fun n s => ∃ (m : Nat) (sfx : List UInt8), n = .int .i64 m /\ s = .string (str sfx) /\ m <= 9223372036854775807 /\ Hid (Lib.decDigits m ++ sfx = Lib.decDigits N)) (fun n _ => (intOf n).toNat + 1)
 case atStart => exact ⟨N, [], rfl, rfl, hn, qh zi⟩
 case round =>
  obtain ⟨m, sfx, rfl, rfl, hm, HI⟩ := hrel; have hl : sfx.length <= 1000 := by have := yG List.length HI.o; rw [zG] at this; omega
  have h1 : (str sfx).size = sfx.length := zZ _; have HD := qh (tdig (m % 10) om); have h2 : ∀ c, (str [c]).size = 1 := fun c => zZ _
  by_cases h10 : m < 10
  ·have e0 : m % 10 = m := sK h10
   go_wp2
   refine zC (v := .string (str (Lib.decDigits N))) ?_ rfl ⟨rfl, rfl⟩; rw [← HI.o, dec_lt h10, ← xJ, ← tdig m h10]; simp [results, results88, go_sem, e0]
  ·go_wp2
   refine ⟨⟨m / 10, [UInt8.ofNat (48 + m % 10)] ++ sfx, zi, by rw [← xJ, HD.o], om, qh (by rw [← HI.o, dec_ge h10, xQ])⟩, by simp [intOf]; omega⟩
theorem ref_Digits_neg (N : Nat) (h0 : 0 < N) (hn : N <= 9223372036854775808) (w : World) :
  zCQ 88 #[.int .i64 (-(N : Int))] w (.string (str (45 :: Lib.decDigits N))) := by
 have hN : (Lib.decDigits N).length <= 1000 := by
  rw [Lib.decDigits_length]; have h1 := rG (N / 10) om
  by_cases h : N < 10
  ·rw [Lib.nDigits_small h]; omega
  ·rw [Lib.nDigits_big h]; omega
 go_enter func88, ntmps88
 go_wp2_with fail
 go_loop [0, 3, 4] (fun n s u => ∃ (m : Nat) (sfx : List UInt8), n = .int .i64 (-(m : Int)) /\ s = .string (str sfx) /\ m <= N /\ Hid ((m = 0 -> sfx = Lib.decDigits N) /\ (0 < m -> Lib.decDigits m ++ sfx = Lib.decDigits N))) (fun n _ _ => (-(intOf n)).toNat)
 case atStart => exact ⟨N, [], rfl, rfl, yZ _, qh ⟨fun h => om, fun _ => zi⟩⟩
 case round =>
  obtain ⟨m, sfx, rfl, rfl, hm, HI⟩ := hrel
  have hl : sfx.length <= 1000 := by
   rcases rD m with h | h
   ·rw [HI.o.1 h]; exact hN
   ·have := yG List.length (HI.o.2 h); rw [zG] at this; omega
  have h1 : (str sfx).size = sfx.length := zZ _; have HD := qh (tdig (m % 10) om); have h2 : ∀ c, (str [c]).size = 1 := fun c => zZ _
  by_cases hm0 : m = 0
  ·go_wp2
   refine zC (v := .string (str (45 :: Lib.decDigits N))) ?_ rfl ⟨rfl, rfl⟩; rw [← HI.o.1 hm0, show (45 :: sfx) = [45] ++ sfx from rfl, ← xJ]; simp [results, results88, go_sem, str]
  ·have e1 : Int.tmod (-(m : Int)) 10 = -((m % 10 : Nat) : Int) := by rw [Int.neg_tmod, Int.tmod_eq_emod_of_nonneg om]; simp
   have e2 : Int.tdiv (-(m : Int)) 10 = -((m / 10 : Nat) : Int) := by rw [Int.neg_tdiv, Int.tdiv_eq_ediv_of_nonneg om]; simp
   have HX : Hid (Lib.decDigits m ++ sfx = Lib.decDigits N) := HI.o.2 om; have h45 : ByteArray.size ⟨#[45]⟩ = 1 := rfl
   go_wp2
   refine ⟨⟨m / 10, [UInt8.ofNat (48 + m % 10)] ++ sfx, zi, by rw [← xJ, Nat.add_comm 1, HD.o], om, qh ⟨fun h => ?_, fun h => ?_⟩⟩, by simp [intOf]; omega⟩
   ·rw [← HX.o, dec_lt (m := m) om, show m % 10 = m from om]
   ·rw [← HX.o, dec_ge (m := m) om, xQ]
theorem sP (n : Int) (hn : -9223372036854775808 <= n /\ n <= 9223372036854775807) (w : World) :
  zCQ 88 #[.int .i64 n] w (.string (str (Lib.itoa n))) := by
 unfold Lib.itoa
 by_cases h : n < 0
 ·rw [zN h]
  have := ref_Digits_neg n.natAbs om om w
  rwa [show -((n.natAbs : Nat) : Int) = n from om] at this
 ·rw [zH h]
  have := ref_Digits_pos n.toNat om w
  rwa [show ((n.toNat : Nat) : Int) = n from om] at this
def bruijn : List Int := [0, 1, 56, 2, 57, 49, 28, 3, 61, 58, 42, 50, 38, 29, 17, 4, 62, 47, 59, 36, 45, 43, 51, 22, 53, 39, 33, 30, 24, 18, 12, 5, 63, 55, 48, 27, 60, 41, 37, 16, 46, 35, 44, 21, 52, 32, 23, 11, 54, 26, 40, 15, 34, 20, 31, 10, 25, 14, 19, 9, 13, 8, 7, 6]
structure CT (w : World) : Prop where
 tz : Lib.TabIs prog w "math/bits.deBruijn64tab" .u8 bruijn
 ml : ∃ m, w.cell? ⟨1, 0, none⟩ = some (.int .i64 m)
theorem CT.below {w w' : World} (h : CT w) (hb : zW w w') : CT w' := by
 refine ⟨zAr h.tz hb, ?_⟩; obtain ⟨m, hm⟩ := h.ml
 have hlt : 1 < w.heap.size := by
  unfold World.cell? at hm
  cases hh : w.heap[1]? with
  | none => simp [hh] at hm
  | some o => exact (xB.1 hh).1
 exact ⟨m, (hb.cell (p := ⟨1, 0, none⟩) hlt).trans hm⟩
theorem CT.next {w w' : World} (h : CT w) {B : Nat} (hb : Below B w w') (hB : w.heap.size <= B) : CT w' := h.below (hb.mono hB)
theorem sizeBuilder : (prog.info? 134).map (·.size) = some 2 := kf
theorem liesBuilder : liesAt prog prog.depth 134 (2 / prog.cellsOf 134) 0 134 1 = true := kf
theorem infoByte : (prog.info? 5).map (fun i => (i.zero, i.size, i.bytes)) = some (some (.int .u8 0), 1, 1) := kf
abbrev IsB (B b : Nat) (bs : List Value) (w : World) : Prop := Lib.IsBuilderF 134 5 B b bs w
abbrev BAt (B b : Nat) (bs : List Value) (w : World) : Prop := Lib.BuilderAtF 134 5 B b (.pointer (some ⟨b, 0, none⟩)) bs w
theorem copyCheck_used (b : Nat) (w : World) (h0 : w.cell? ⟨b, 0, none⟩ = some (.pointer (some ⟨b, 0, none⟩))) :
  zCQ 119 #[.pointer (some ⟨b, 0, none⟩)] w (.tuple #[]) := by
 obtain ⟨j, hj, _⟩ := bR.1 sizeBuilder
 go_enter func119, ntmps119
 go_wp2
 rw [Lib.run_neq_ptr_same w _ underlying132 hj]
 go_wp2
 go_end0
 exact ⟨rfl, rfl⟩
theorem zGf (b : Nat) (w : World) (h0 : w.cell? ⟨b, 0, none⟩ = some (.pointer none)) (hsh : w.shape? b = some (134, 2)) (hfz : w.frozen? ⟨b, 0, none⟩ = false) :
  Calls prog 119 #[.pointer (some ⟨b, 0, none⟩)] w fun e w' => e = .returned (.tuple #[]) /\ w' = w.setCell ⟨b, 0, none⟩ (.pointer (some ⟨b, 0, none⟩)) := by
 obtain ⟨j, hj, hjs⟩ := bR.1 sizeBuilder
 go_enter func119, ntmps119
 go_wp2
 rw [Lib.run_to_unsafe w ⟨b, 0, none⟩ underlying132 underlying198 hj (by rw [hjs]; decide) hsh (Nat.zero_lt_succ 1)]; simp only [Result.andThen]; rw [Oper.upon_value]
 go_wp2
 rw [run_callFunc_extern func152 kf kf kf (e := Extern.AbiNoEscape.same) kf]; rw [Lib.run_noEscape]; simp only [Result.andThen]; rw [Oper.upon_value]
 go_wp2
 rw [Lib.run_from_unsafe w ⟨b, 0, none⟩ underlying198 underlying132 hj hsh liesBuilder]; simp only [Result.andThen]; rw [Oper.upon_value]
 go_wp2
 go_end0
 exact ⟨rfl, rfl⟩
theorem copyCheck (B b : Nat) (bs : List Value) (w : World) (h : IsB B b bs w) :
  Calls prog 119 #[.pointer (some ⟨b, 0, none⟩)] w fun e w' => e = .returned (.tuple #[]) /\ (BAt B b bs w' /\ Below B w w' /\ Lib.OthersKept 5 (some b) w w') := by
 rcases h with h | h
 ·refine (zGf b w h.cell0 h.shape h.frozen0).mono ?_
  rintro e w' ⟨rfl, rfl⟩; exact ⟨rfl, h.used _, (xE B w).setCell (p := ⟨b, 0, none⟩) h.1 _, (Lib.OthersKept.refl _ _ w).setCell ⟨b, 0, none⟩ rfl _⟩
 ·refine (copyCheck_used b w h.cell0).mono ?_
  rintro e w' ⟨rfl, rfl⟩; exact ⟨rfl, h, xE B _, Lib.OthersKept.refl _ _ _⟩
theorem writeByte (B b : Nat) (bs : List Value) (c : Int) (w : World) (h : IsB B b bs w) (hlen : bs.length + 1 <= 140737488355328) (hBw : B <= w.heap.size) :
  Calls prog 148 #[.pointer (some ⟨b, 0, none⟩), .int .u8 c] w fun e w' => e = .returned .nilIface /\ (BAt B b (bs ++ [.int .u8 c]) w' /\ Below B w w' /\ Lib.OthersKept 5 (some b) w w') := by
 obtain ⟨i0, hi, hz0, hz1, hz2⟩ := info_parts infoByte
 go_enter func148, ntmps148
 go_wp2_with (go_at_call 119; refine (copyCheck B b bs _ h).mono ?_)
 rintro e w1 ⟨rfl, h1, hb1, hk1⟩; obtain ⟨hB, v, hbk, hown, hne⟩ := h1; have c0 : w1.cell? ⟨b, 0, none⟩ = some (.pointer (some ⟨b, 0, none⟩)) := by rw [Lib.cell_of_heap hbk]; rfl
 have c1 : w1.cell? ⟨b, 1, none⟩ = some v := by rw [Lib.cell_of_heap hbk]; rfl
 go_wp2_with (at_builtin; refine wpList_append_ownF _ rfl _ _ 33 rfl B 5 i0 (.int .u8 0) 1 1 underlying33 hi hz0 hz1 hz2 rfl zd _ _ _ rfl (hown.alloc _) ⟨w1.heap.size, 0, none⟩ 1 1 [.int .u8 c] rfl rfl ?c1 ?c2 ?c3 ?c4 ?c5 ?_)
 case c1 =>
  intro j u hj
  match j, hj with
  | 0, hj => simp at hj; subst hj; simp [Addr.add]
 case c2 => intro u hu; simp at hu; subst hu; rfl
 case c3 => unfold maxLen; omega
 case c4 => omega
 case c5 => have := hb1.size; simp; omega
 intro v' w2 hown' hgrow _
 have hlt : b < w1.heap.size := by
  rcases jQ b w1.heap.size with h' | h'
  ·exact h'
  ·simp [pR h'] at hbk
 have hb2 : w2.heap[b]? = some (.cells #[.pointer (some ⟨b, 0, none⟩), v] 134 (0, 0)) := by
  rw [hgrow.block b zo (fun e => hne e.symm), Lib.alloc_old w1 _ b hlt]; exact hbk
 have d0 : w2.cell? ⟨b, 0, none⟩ = some (.pointer (some ⟨b, 0, none⟩)) := by rw [Lib.cell_of_heap hb2]; rfl
 have d1 : w2.cell? ⟨b, 1, none⟩ = some v := by rw [Lib.cell_of_heap hb2]; rfl
 have f1 : w2.frozen? ⟨b, 1, none⟩ = false := Lib.frozen_of_heap hb2 1
 obtain ⟨g, cap, rfl⟩ : ∃ g cap, v' = .slice (some ⟨g, 0, none⟩) (bs.length + 1) cap := by
  rcases hown'.2 with ⟨_, h0⟩ | ⟨g, cap, cur, fz, hv, _⟩
  ·omega
  ·exact ⟨g, cap, hv⟩
 go_wp2
 go_ret
 refine ⟨rfl, ?_, ?_, ((hk1.alloc _).grown hgrow (Lib.ownsRowF_kind (hown.alloc _))).setCell ⟨b, 1, none⟩ rfl _⟩
 ·exact Lib.BuilderAtF.put (T := 134) (e := 5) hB hb2 (bs' := bs ++ [.int .u8 c]) (by simpa using hown') zd
 ·exact ((hb1.alloc (by have := hb1.size; omega) _).grown hgrow (by have := hb1.size; simp; omega) (fun k hk => (hown.lt k hk).1)).setCell (p := ⟨b, 1, none⟩) hB _
theorem builderExtra : Builder.Extra prog Tryz.builderString_ren := {
 sizeBuilder := sizeBuilder
 liesBuilder := liesBuilder
 t5 := underlying5
 a5 := fun w => run_isAgg_plain underlying5 rfl w
 z5 := sizeOf5
 v5 := zeroValue5
 infoByte := infoByte
 cellsByte := kf
 sizeByte := kf
 neB5 := by decide }
end Go.Proofs.YtdbgeobolongmaaGreatDoor
namespace Go.Proofs.YtdbgeobolongmaaGreatDoor
open Go Go.RowKit
section
variable {P : Program} {ops : Array Oper} {Q : Exit -> Act -> World -> Prop} {md : Region.Mode} {S : World -> Prop}
theorem zDi {op : Oper} {a : Act} (hw : Region.wanted op (yielded ops a.tmps) = true) (ty : TypeId) (x : Operand) (ho : op.op = .load ty x)
  (g : Nat) (hx : a.eval x = .pointer (some ⟨g, 0, none⟩)) (t : TypeId) (cs : Array Value) (d : TypeDesc) (hS : ∀ w, S w -> Blk w g t cs)
  (hu : P.underlying ty = some d) (hd : (match d with | .struct _ | .array _ _ => true | _ => false) = true) (hi : (P.info? ty).map (·.size) = some cs.size) : YieldsIf P ops S op (.agg cs) a :=
 .inl ⟨hw, fun w h => by
  unfold execOp; simp only [ho, hx, Instr.loadAt, Instr.sureAddr, kS, qN, jA, nT w g t ty cs (0, 0) d (hS w h) hu hd hi]⟩
theorem yieldsIf_off {op : Oper} {a : Act} (hw : Region.wanted op (yielded ops a.tmps) = false) : YieldsIf P ops S op undef a := .inr ⟨hw, rfl⟩
theorem held_step {i : Nat} {o : Oper} {fuel : Nat} {listed : Array Bool} {a : Act} {w : World} (ho : ops[i]? = some o) (hr : Region.ready md ops listed = [i]) (hw : Region.wanted o (yielded ops a.tmps) = true)
  (h : ∀ K' : Act -> World -> Prop, Shut (∀ a w, S w -> (S w -> wpAnyH P md ops Q S fuel (listed.setIfInBounds i true) a w) -> K' a w) -> Oper.wp P o a w K' Q) : wpAnyH P md ops Q S (fuel + 1) listed a w :=
 wpAnyH_ready hr zi (AllReadyH.cons ho (fun K hK => by rw [zN hw]; exact h K hK) AllReadyH.nil)
end
section
variable {P : Program} {ops : Array Oper} {Q : Exit → Act → World → Prop} {md : Region.Mode} {S : World → Prop}
theorem kY (i : Nat) {oi : Oper} {v : Value} {fuel : Nat} {listed l' : Array Bool} {a a' : Act} {w : World}
    (hi : ops[i]? = some oi) (hy : YieldsIf P ops S oi v a)
    (h : wpAnyH P md ops Q S fuel l' a' w)
    (hs : Region.noSelect ops = true := by kernel_rfl) (hf : Region.free md ops listed i = true := by kernel_rfl) (hr : (Region.ready md ops listed).contains i = true := by kernel_rfl)
    (ha : a.put oi.dst v = a' := by (simp only [qA, qB, qC, qD, qE, qF, qG]; with_reducible rfl))
    (hl : listed.setIfInBounds i true = l' := by first | (simp only [qB, qC, qD]; with_reducible rfl) | with_reducible rfl)
    (hQ : ∀ c a w, Q (.panic c) (a.put oi.dst v) w → Q (.panic c) a w := by exact fun _ _ _ h => h)
    (hS : S w := by assumption) : wpAnyH P md ops Q S (fuel + 1) listed a w := by
  subst ha hl; exact wpAnyH_take hi hs hf hr hQ hy hS h
theorem kq (i : Nat) {oi : Oper} {v : Value} {fuel : Nat} {listed l' : Array Bool} {a a' : Act} {w : World}
    (h : wpAnyH P md ops Q S fuel l' a' w)
    (hi : ops[i]? = some oi := by rfl) (hs : Region.noSelect ops = true := by kernel_rfl) (hf : Region.free md ops listed i = true := by kernel_rfl) (hr : (Region.ready md ops listed).contains i = true := by kernel_rfl)
    (hw : Region.wanted oi (yielded ops a.tmps) = true := by rfl)
    (hy : ∀ w, S w → (execOp a.eval oi).run P w = .ok (.value v) w := by intro w hSw; go_simp; try with_reducible rfl)
    (ha : a.put oi.dst v = a' := by (simp only [qA, qB, qC, qD, qE, qF, qG]; with_reducible rfl))
    (hl : listed.setIfInBounds i true = l' := by first | (simp only [qB, qC, qD]; with_reducible rfl) | with_reducible rfl)
    (hQ : ∀ c a w, Q (.panic c) (a.put oi.dst v) w → Q (.panic c) a w := by exact fun _ _ _ h => h)
    (hS : S w := by assumption) : wpAnyH P md ops Q S (fuel + 1) listed a w :=
  kY i hi (Or.inl ⟨hw, hy⟩) h hs hf hr ha hl hQ hS
theorem tn (i : Nat) {oi : Oper} {fuel : Nat} {listed l' : Array Bool} {a a' : Act} {w : World}
    (h : wpAnyH P md ops Q S fuel l' a' w)
    (hi : ops[i]? = some oi := by rfl) (hs : Region.noSelect ops = true := by kernel_rfl) (hf : Region.free md ops listed i = true := by kernel_rfl) (hr : (Region.ready md ops listed).contains i = true := by kernel_rfl)
    (hw : Region.wanted oi (yielded ops a.tmps) = false := by rfl)
    (ha : a.put oi.dst undef = a' := by (simp only [qA, qB, qC, qD, qE, qF, qG]; with_reducible rfl))
    (hl : listed.setIfInBounds i true = l' := by first | (simp only [qB, qC, qD]; with_reducible rfl) | with_reducible rfl)
    (hQ : ∀ c a w, Q (.panic c) (a.put oi.dst undef) w → Q (.panic c) a w := by exact fun _ _ _ h => h)
    (hS : S w := by assumption) : wpAnyH P md ops Q S (fuel + 1) listed a w :=
  kY i hi (yieldsIf_off hw) h hs hf hr ha hl hQ hS
theorem zR {op : Oper} {a : Act} {ty : TypeId} {x : Operand} (ho : op.op = .load ty x) (g : Nat) (hx : a.eval x = .pointer (some ⟨g, 0, none⟩)) (t : TypeId) (cs : Array Value) (d : TypeDesc) (hS : ∀ w, S w → Blk w g t cs)
    (hu : P.underlying ty = some d) (hd : (match d with | .struct _ | .array _ _ => true | _ => false) = true) (hi : (P.info? ty).map (·.size) = some cs.size) (hw : Region.wanted op (yielded ops a.tmps) = true := by rfl) : YieldsIf P ops S op (.agg cs) a :=
  zDi hw ty x ho g hx t cs d hS hu hd hi
theorem zS (i : Nat) {o : Oper} {fuel : Nat} {listed : Array Bool} {a : Act} {w : World}
    (h : ∀ K' : Act → World → Prop, Shut (∀ a w, S w → (S w → wpAnyH P md ops Q S fuel (listed.setIfInBounds i true) a w) → K' a w) → Oper.wp P o a w K' Q)
    (ho : ops[i]? = some o := by rfl) (hr : Region.ready md ops listed = [i] := by kernel_rfl) (hw : Region.wanted o (yielded ops a.tmps) = true := by rfl) : wpAnyH P md ops Q S (fuel + 1) listed a w :=
  held_step ho hr hw h
theorem zD {listed : Array Bool} {a : Act} {w : World} {fuel : Nat} (h : Q .normal a w) (hr : Region.ready md ops listed = [] := by kernel_rfl) : wpAnyH P md ops Q S fuel listed a w :=
  wpAnyH_done hr h fuel
theorem zK {K' : Act → World → Prop} {fuel : Nat} {L L' : Array Bool} {a a' : Act} {w : World}
    (hK : Shut (∀ a w, S w → (S w → wpAnyH P md ops Q S fuel L a w) → K' a w)) (hS : S w) (h : S w → wpAnyH P md ops Q S fuel L' a' w)
    (ha : a = a' := by first | (simp only [qA, qB, qC, qD, qE, qF, qG]; with_reducible rfl) | with_reducible rfl)
    (hl : L = L' := by first | (simp only [qB, qC, qD]; with_reducible rfl) | with_reducible rfl) : K' a w := by
  subst ha hl; exact hK.out _ _ hS h
theorem kh (i : Nat) {oi : Oper} {v : Value} {fuel : Nat} {listed l' : Array Bool} {a a' : Act} {w : World} {F : World → Prop} (f : ∀ w, S w → F w)
    (h : wpAnyH P md ops Q S fuel l' a' w)
    (hi : ops[i]? = some oi := by rfl) (hs : Region.noSelect ops = true := by kernel_rfl) (hf : Region.free md ops listed i = true := by kernel_rfl) (hr : (Region.ready md ops listed).contains i = true := by kernel_rfl)
    (hw : Region.wanted oi (yielded ops a.tmps) = true := by rfl)
    (hy : ∀ w, F w → S w → (execOp a.eval oi).run P w = .ok (.value v) w := by intro w z h; go_simp; try with_reducible rfl)
    (ha : a.put oi.dst v = a' := by (simp only [qA, qB, qC, qD, qE, qF, qG]; with_reducible rfl))
    (hl : listed.setIfInBounds i true = l' := by first | (simp only [qB, qC, qD]; with_reducible rfl) | with_reducible rfl)
    (hQ : ∀ c a w, Q (.panic c) (a.put oi.dst v) w → Q (.panic c) a w := by exact fun _ _ _ h => h)
    (hS : S w := by assumption) : wpAnyH P md ops Q S (fuel + 1) listed a w :=
  kY i hi (Or.inl ⟨hw, fun w hS => hy w (f w hS) hS⟩) h hs hf hr ha hl hQ hS
end
section
variable {P : Program} {ops : Array Oper} {Q : Exit -> Act -> World -> Prop} {md : Region.Mode} {S : World -> Prop}
theorem mQ {i j : Nat} {o p : Oper} {fuel : Nat} {listed : Array Bool} {a : Act} {w : World} (ho : ops[i]? = some o) (hp : ops[j]? = some p) (hr : Region.ready md ops listed = [i, j]) (hw : Region.wanted o (yielded ops a.tmps) = true) (hw2 : Region.wanted p (yielded ops a.tmps) = true)
  (h : ∀ K' : Act -> World -> Prop, Shut (∀ a w, S w -> (S w -> wpAnyH P md ops Q S fuel (listed.setIfInBounds i true) a w) -> K' a w) -> Oper.wp P o a w K' Q)
  (h2 : ∀ K' : Act -> World -> Prop, Shut (∀ a w, S w -> (S w -> wpAnyH P md ops Q S fuel (listed.setIfInBounds j true) a w) -> K' a w) -> Oper.wp P p a w K' Q) : wpAnyH P md ops Q S (fuel + 1) listed a w :=
 wpAnyH_ready hr zi (AllReadyH.cons ho (fun K hK => by rw [zN hw]; exact h K hK) (AllReadyH.cons hp (fun K hK => by rw [zN hw2]; exact h2 K hK) AllReadyH.nil))
end
end Go.Proofs.YtdbgeobolongmaaGreatDoor
namespace Go.Proofs.YtdbgeobolongmaaGreatDoor
open Go.RowKit Go.Shelf Go.Proofs
theorem vS {P : Program} {ops : Array Oper} {rest : List Oper} {o : Oper} {a : Act} {w : World} {Q : Exit -> Act -> World -> Prop} (hgd : o.guard = none) (ty : TypeId) (x y : Operand) (ho : o.op = .store ty x y)
  (cells : Array Value) (hx : a.eval x = .pointer (some ⟨w.heap.size, 0, none⟩)) (hy : a.eval y = .agg cells) (t : TypeId) (old : Array Value) (hi : (P.info? ty).map (·.size) = some cells.size) (hold : old.size = cells.size) (h1 : cells.all (·.oneCell') = true)
  (h : wpList P ops Q rest (a.put o.dst undef) (w.alloc (.cells cells t))) : wpList P ops Q (o :: rest) a (w.alloc (.cells old t)) := by
 refine uZ hgd ty x y ho w.heap.size cells hx hy t old (heap_alloc_last w _) hi hold h1 ?_; rw [World.setRow_alloc_new]; exact h
theorem yI {P : Program} {ops : Array Oper} {rest : List Oper} {o : Oper} {a : Act} {w : World} {Q : Exit -> Act -> World -> Prop} (hw : Region.wanted o (yielded ops a.tmps) = true) (ty : TypeId) (x : Operand) (ho : o.op = .load ty x)
  (g : Nat) (hx : a.eval x = .pointer (some ⟨g, 0, none⟩)) (t : TypeId) (cs : Array Value) (fr : Nat × Nat) (d : TypeDesc) (hg : w.heap[g]? = some (.cells cs t fr))
  (hu : P.underlying ty = some d) (hd : (match d with | .struct _ | .array _ _ => true | _ => false) = true) (hi : (P.info? ty).map (·.size) = some cs.size)
  (h : wpList P ops Q rest (a.put o.dst (.agg cs)) w) : wpList P ops Q (o :: rest) a w :=
 mE hw fun _ hK => wp_load_row ty x ho g hx t cs fr d hg hu hd hi (hK _ _ h)
theorem lY {α : Type} [DecidableEq α] {P : Program} {e : TypeId} {d : Nat} (f : α -> Value) (hp : ∀ (cs : Array Value) (off : Nat) (v : Value) (w : World), cs[off]? = some v -> (part e cs off).run P w = .ok v w)
  (hf : ∀ (x y : α) (w : World), (Op.equalIn d e (f x) (f y)).run P w = .ok (decide (x = y)) w) (a b : List α) : ∀ (is : List Nat) (w : World), (∀ j ∈ is, j < a.length /\ j < b.length) ->
   (Op.eqItems d e 1 (a.map f).toArray (b.map f).toArray is).run P w = .ok (decide (∀ j ∈ is, a[j]? = b[j]?)) w
 | [], w, _ => by simp [Op.eqItems]
 |j :: is, w, h => by
  obtain ⟨h1, h2⟩ := h j zi; have ih := lY f hp hf a b is w fun k hk => h k (by simp [hk]); have p1 := hp (a.map f).toArray (j * 1) (f a[j]) w (by simp [h1]); have p2 := hp (b.map f).toArray (j * 1) (f b[j]) w (by simp [h2]); simp only [Op.eqItems, kS, p1, p2, jA, hf]
  by_cases hab : a[j] = b[j]
  ·rw [zV hab]
   simp only [Bool.not_true, sZ, zDk]; rw [ih]
   congr 1
   simp [h1, h2, hab]
  ·rw [zM hab]
   simp [h1, h2, hab]
theorem range_eq {α : Type} {a b : List α} {n : Nat} (ha : a.length = n) (hb : b.length = n) : (∀ j ∈ List.range n, a[j]? = b[j]?) ↔ a = b := by
 constructor
 ·intro h
  apply wC; intro j
  by_cases hj : j < n
  ·exact h j (by simpa using hj)
  ·rw [jY om, jY om]
 ·rintro rfl _ _; rfl
end Go.Proofs.YtdbgeobolongmaaGreatDoor
namespace Go.Proofs
open Go.Shelf
theorem kgS {p : Prop} (h : p := by kernel_rfl) : p := h
def Tryz.containsFunc_ren : Go.Shelf.Ren := ⟨fun | 17 => 111 | 15 => 147 | 20 => 171 | n => n, fun | 9 => 9 | 23 => 163 | 4 => 4 | 3 => 3 | 0 => 0 | 21 => 21 | n => n, fun | n => n⟩
theorem Tryz.containsFunc : Go.Proofs.LaysGw.n17 prog Tryz.containsFunc_ren := {
 mixed := kgS
 f15 := func147.trans (yG some kgS)
 f17 := func111.trans (yG some kgS)
 f20 := func171.trans (yG some kgS)
 t0 := underlying0
 a0 := isAgg0
 z0 := sizeOf0
 v0 := zeroValue0
 i0 := kgS
 t3 := underlying3
 a3 := isAgg3
 z3 := sizeOf3
 v3 := zeroValue3
 i3 := kgS
 t4 := underlying4
 a4 := isAgg4
 z4 := sizeOf4
 v4 := zeroValue4
 i4 := kgS
 t9 := underlying9
 a9 := isAgg9
 z9 := sizeOf9
 v9 := zeroValue9
 i9 := kgS
 t21 := underlying21
 a21 := isAgg21
 z21 := sizeOf21
 v21 := zeroValue21
 i21 := kgS
 t23 := underlying163
 a23 := isAgg163
 z23 := sizeOf163
 v23 := zeroValue163
 i23 := by kernel_rfl }
def Tryz.equalB_ren : Go.Shelf.Ren := ⟨fun | 33 => 75 | n => n, fun | 22 => 33 | 23 => 5 | 4 => 4 | 3 => 3 | 0 => 0 | n => n, fun | n => n⟩
theorem Tryz.equalB : Go.Proofs.SlLaysE.n33 prog Tryz.equalB_ren := {
 mixed := kgS
 f33 := ⟨Tryz.f75.name, zd, func75.trans (yG some kgS)⟩
 t0 := underlying0
 a0 := isAgg0
 z0 := sizeOf0
 v0 := zeroValue0
 t3 := underlying3
 a3 := isAgg3
 z3 := sizeOf3
 v3 := zeroValue3
 t4 := underlying4
 a4 := isAgg4
 z4 := sizeOf4
 v4 := zeroValue4
 t22 := underlying33
 a22 := isAgg33
 z22 := sizeOf33
 v22 := zeroValue33
 a23 := isAgg5
 z23 := sizeOf5 }
def Tryz.equalW_ren : Go.Shelf.Ren := ⟨fun | 8 => 74 | n => n, fun | 22 => 30 | 24 => 131 | 4 => 4 | 3 => 3 | 0 => 0 | n => n, fun | n => n⟩
theorem Tryz.equalW : Go.Proofs.SlLaysQ.n8 prog Tryz.equalW_ren := {
 mixed := kgS
 f8 := ⟨Tryz.f74.name, zd, func74.trans (yG some kgS)⟩
 t0 := underlying0
 a0 := isAgg0
 z0 := sizeOf0
 v0 := zeroValue0
 t3 := underlying3
 a3 := isAgg3
 z3 := sizeOf3
 v3 := zeroValue3
 t4 := underlying4
 a4 := isAgg4
 z4 := sizeOf4
 v4 := zeroValue4
 t22 := underlying30
 a22 := isAgg30
 z22 := sizeOf30
 v22 := zeroValue30 }
end Go.Proofs
namespace Go.Proofs.YtdbgeobolongmaaGreatDoor
def unl (L : Array Bool) : Nat := L.toList.count false
theorem zGo {L : Array Bool} {i : Nat} (h : L.getD i true = false) : unl (L.setIfInBounds i true) + 1 = unl L := by
 have hi : i < L.size := by
  rcases jQ i L.size with h' | h'
  ·exact h'
  ·simp [Array.getD, Nat.not_lt.2 h'] at h
 have hv : L.toList[i]'(by simpa using hi) = false := by
  simp [Array.getD, hi] at h
  simpa using h
 have hm : false ∈ L.toList := hv ▸ yU (by simpa using hi); have hp := List.count_pos_iff.2 hm; unfold unl; rw [Array.toList_setIfInBounds, List.count_set (by simpa using hi)]; rw [hv]; have e1 : ((false : Bool) == false) = true := rfl; have e2 : ((true : Bool) == false) = false := rfl; rw [e1, e2, zN rfl, zH zd]; omega
theorem all_listed {md : Region.Mode} {ops : Array Oper} {L : Array Bool} (hs : L.size = ops.size) (hdag : ∀ (i : Nat) (o : Oper), ops[i]? = some o -> ∀ e ∈ o.after, e.on < i) (hr : Region.ready md ops L = []) : ∀ i, i < ops.size -> L.getD i false = true := by
 intro i
 induction i using Nat.strongRecOn with
 |ind i ih =>
  intro hi
  cases hl : L.getD i false with
  | true => rfl
  |false =>
   exfalso
   have hmem : i ∈ Region.ready md ops L := mem_ready.2 ⟨by
    have : i < L.size := om; simp [Array.getD, this] at hl ⊢; exact hl, ops[i], kR hi, fun e he hb => ih e.on (hdag i _ (kR hi) e he) (by have := hdag i _ (kR hi) e he; omega)⟩
   rw [hr] at hmem
   cases hmem
theorem wpAny_inv {P : Program} {ops : Array Oper} {Q : Exit -> Act -> World -> Prop} {md : Region.Mode} (Inv : Array Bool -> Act -> World -> Prop)
  (hdag : ∀ (i : Nat) (o : Oper), ops[i]? = some o -> ∀ e ∈ o.after, e.on < i) (hsz : ∀ L a w, Inv L a w -> L.size = ops.size)
  (step : ∀ (L : Array Bool) (a : Act) (w : World) (i : Nat) (o : Oper), Inv L a w -> ops[i]? = some o -> L.getD i true = false -> (∀ e ∈ o.after, Region.binds md e = true -> L.getD e.on false = true) -> wpOp P ops Q i (fun a' w' => Inv (L.setIfInBounds i true) a' w') a w)
  (done : ∀ L a w, Inv L a w -> (∀ i, i < ops.size -> L.getD i false = true) -> Q .normal a w) :
  ∀ (fuel : Nat) (L : Array Bool) (a : Act) (w : World), Inv L a w -> unl L <= fuel -> wpAny P md ops Q fuel L a w
 |0, L, a, w, h, hf => by
  have hall : ∀ i, i < ops.size -> L.getD i false = true := fun i hi => by
   have hi2 : i < L.size := by rw [hsz L a w h]; exact hi
   have h0 : L.toList.count false = 0 := by unfold unl at hf; omega
   have hn := List.count_eq_zero.1 h0
   cases hl : L.getD i false with
   | true => rfl
   |false =>
    exfalso
    simp [Array.getD, hi2] at hl; exact hn (by rw [← hl]; simp)
  refine ⟨?_, done L a w h hall⟩
  cases hr : Region.ready md ops L with
  | nil => rfl
  |cons i r =>
   have hm : i ∈ Region.ready md ops L := by rw [hr]; exact yH
   obtain ⟨h1, o, h2, -⟩ := mem_ready.1 hm; have hi : i < ops.size := (xB.1 h2).1; have := hall i hi; have hi2 : i < L.size := by rw [hsz L a w h]; exact hi
   simp [Array.getD, hi2] at this h1; rw [this] at h1; cases h1
 |fuel + 1, L, a, w, h, hf => by
  refine ⟨fun hr => done L a w h (all_listed (hsz L a w h) hdag hr), fun i hi => ?_⟩; obtain ⟨h1, o, h2, h3⟩ := mem_ready.1 hi; exact wpOp_mono (fun a' w' h' => wpAny_inv Inv hdag hsz step done fuel _ a' w' h' (by have := zGo h1; omega)) (step L a w i o h h2 h1 h3)
theorem wpOp_plain {P : Program} {ops : Array Oper} {Q : Exit -> Act -> World -> Prop} {i : Nat} {o : Oper} {a : Act} {w : World} {K : Act -> World -> Prop} (hi : ops[i]? = some o) (hg : o.guard = none) (h : o.wp P a w K Q) : wpOp P ops Q i K a w := by
 unfold wpOp; simp only [hi]; rw [zN (by unfold Region.wanted; rw [hg])]; exact Or.inl h
theorem wp_region_inv {P : Program} {ops : Array Oper} {Q : Exit -> Act -> World -> Prop} {id : Nat} {a : Act} {w : World} (hm : P.follows .mixedOrders = true) (Inv : Array Bool -> Act -> World -> Prop)
  (hdag : ∀ (i : Nat) (o : Oper), ops[i]? = some o -> ∀ e ∈ o.after, e.on < i) (hsz : ∀ L a w, Inv L a w -> L.size = ops.size)
  (step : ∀ (L : Array Bool) (a : Act) (w : World) (i : Nat) (o : Oper), Inv L a w -> ops[i]? = some o -> L.getD i true = false -> (∀ e ∈ o.after, Region.binds .any e = true -> L.getD e.on false = true) -> wpOp P ops Q i (fun a' w' => Inv (L.setIfInBounds i true) a' w') a w)
  (done : ∀ L a w, Inv L a w -> (∀ i, i < ops.size -> L.getD i false = true) -> Q .normal a w) (h : Inv (Array.replicate ops.size false) a w.drew) : (Code.region id ops true).wp P Q a w :=
 wp_region_any hm (wpAny_inv Inv hdag hsz step done _ _ _ _ h (by unfold unl; simp))
theorem vJ {L : Array Bool} {i j : Nat} (hi : i < L.size) : (L.setIfInBounds i true).getD j false = true ↔ j = i ∨ L.getD j false = true := by
 by_cases h : j = i
 ·subst h; simp [Array.getD, hi]
 ·rw [getD_set_ne false (fun e => h e.symm)]; simp [h]
open Go Go.RowKit
section
variable {P : Program} {ops : Array Oper} {Q : Exit -> Act -> World -> Prop} {md : Region.Mode} {S : World -> Prop}
def aR (P : Program) (ops : Array Oper) (S : World -> Prop) (o : Oper) (v : Value) (a : Act) : Prop :=
 Region.wanted o (yielded ops a.tmps) = true /\ ∀ w, S w -> ∃ f args, (execOp a.eval o).run P w = .ok (.enter f args) w /\ Calls P f args w fun e w' => e = .returned v /\ w' = w
theorem aR.wpOp {i : Nat} {o : Oper} {v : Value} {a : Act} (hi : ops[i]? = some o) (hy : aR P ops S o v a)
  {K : Act -> World -> Prop} {w : World} (hS : S w) (h : K (a.put o.dst v) w) : wpOp P ops Q i K a w := by
 unfold Go.wpOp; simp only [hi]; obtain ⟨hw, hv⟩ := hy; rw [zN hw]
 left
 obtain ⟨f, args, hr, hc⟩ := hv w hS; unfold Oper.wp; rw [hr, Oper.upon_enter]; refine hc.mono ?_; rintro e w' ⟨rfl, rfl⟩; exact h
theorem aR.of_same {o : Oper} {v : Value} {a a' : Act} (hy : aR P ops S o v a) (he : execOp a'.eval o = execOp a.eval o)
  (hw : Region.wanted o (yielded ops a'.tmps) = Region.wanted o (yielded ops a.tmps)) : aR P ops S o v a' := by
 unfold aR at *; rw [he, hw]; exact hy
theorem wpOp_putC {j : Nat} {oi oj : Oper} {v : Value} (hj : ops[j]? = some oj) (hap : oi.apart ops oj = true)
  (hsi : ∀ cs b, oi.op ≠ .select cs b) (hsj : ∀ cs b, oj.op ≠ .select cs b)
  (hQ : ∀ c a w, Q (.panic c) (a.put oi.dst v) w -> Q (.panic c) a w) {K : Act -> World -> Prop} {a : Act} {w : World}
  (hy : aR P ops S oi v a) (h : wpOp P ops Q j K (a.put oi.dst v) w) :
  wpOp P ops Q j (fun a' w' => aR P ops S oi v a' /\ K (a'.put oi.dst v) w') a w := by
 obtain ⟨h1, h2, h3⟩ := Oper.apart_spec hap
 have keep : ∀ (a : Act), aR P ops S oi v a -> ∀ u, aR P ops S oi v (a.put oj.dst u) := fun a hy u =>
  hy.of_same (execOp_put oi hsi a oj.dst u h3) (wanted_put oi a oj.dst u h3)
 have keepD : ∀ d, aR P ops S oi v { a with defers := d :: a.defers } := fun d => hy.of_same rfl rfl; unfold wpOp at *; simp only [hj] at *; rw [wanted_put oj a oi.dst v h1] at h
 split
 ·rename_i hw
  simp only [hw, aB] at h
  rcases h with h | ⟨hasks, hlets⟩
  case inr => exact .inr ⟨by unfold Oper.asks at *; rw [execOp_put oj hsj a oi.dst v h1] at hasks; exact hasks, hlets⟩
  refine .inl ?_; unfold Oper.wp at *; rw [execOp_put oj hsj a oi.dst v h1] at h; generalize (execOp a.eval oj).run P w = r at *
  cases r with
  |ok n w' =>
   cases n <;> simp only [Oper.upon] at h ⊢
   case value u => exact ⟨keep a hy u, by rw [← zEt a v u h2]; exact h⟩
   case skip => exact ⟨keep a hy _, by rw [← zEt a v undef h2]; exact h⟩
   case defer d =>
    refine ⟨keep _ (keepD d) _, ?_⟩; rw [← zEt _ v undef h2, ← Act.put_defers]; exact h
   case enter f args =>
    refine Calls.mono h fun e w'' he => ?_
    cases e with
    | returned u => exact ⟨keep a hy u, by rw [← zEt a v u h2]; exact he⟩
    | panicked c => exact hQ _ _ _ he
    | outgrown => exact he
   case row row args => exact Rows.mono h fun u w'' he => ⟨keep a hy u, by rw [← zEt a v u h2]; exact he⟩
  |halt x w' =>
   cases x <;> simp only [Oper.upon] at h ⊢
   case panic u => exact hQ _ _ _ h
 ·rename_i hw
  simp only [hw] at h; exact ⟨keep a hy _, by rw [← zEt a v undef h2]; exact h⟩
theorem wpAnyH_firstC {i : Nat} {oi : Oper} {v : Value} (hi : ops[i]? = some oi) (hsel : ∀ (j : Nat) (o : Oper) cs b, ops[j]? = some o -> o.op ≠ .select cs b)
  (hQ : ∀ c a w, Q (.panic c) (a.put oi.dst v) w -> Q (.panic c) a w) :
  ∀ (fuel : Nat) (listed : Array Bool) (a : Act) (w : World),
   (∀ j oj, ops[j]? = some oj -> j ≠ i -> listed.getD j true = false -> (∀ e ∈ oj.after, Region.binds md e = true -> e.on ≠ i) -> oi.apart ops oj = true) ->
   i ∈ Region.ready md ops listed -> aR P ops S oi v a -> S w ->
   wpAnyH P md ops Q S fuel (listed.setIfInBounds i true) (a.put oi.dst v) w -> wpAnyH P md ops Q S (fuel + 1) listed a w := by
 intro fuel
 induction fuel with
 |zero =>
  intro listed a w _ hr hy hS H; refine ⟨fun h => (by rw [h] at hr; cases hr), fun j hj => ?_⟩
  by_cases hji : j = i
  ·subst hji; exact hy.wpOp hi hS ⟨hS, H⟩
  ·have := ready_mono hj hji
   rw [H.1] at this
   cases this
 |succ fuel ih =>
  intro listed a w hfree hr hy hS H; refine ⟨fun h => (by rw [h] at hr; cases hr), fun j hj => ?_⟩
  by_cases hji : j = i
  ·subst hji; exact hy.wpOp hi hS ⟨hS, H⟩
  ·have h1 := H.2 j (ready_mono hj hji)
   obtain ⟨hjun, oj, hoj, hall⟩ := mem_ready.1 hj
   have hnot : ∀ e ∈ oj.after, Region.binds md e = true -> e.on ≠ i := fun e he hb heq => by
    have h1 := hall e he hb; have h0 := (mem_ready.1 hr).1; rw [heq] at h1
    rcases jQ i listed.size with h' | h'
    ·simp [h'] at h0 h1; rw [h0] at h1; cases h1
    ·simp [pR h'] at h1
   have h2 := wpOp_putC hoj (hfree j oj hoj hji hjun hnot) (fun cs b => hsel i oi cs b hi) (fun cs b => hsel j oj cs b hoj) hQ hy h1
   have hfree' : ∀ k ok, ops[k]? = some ok -> k ≠ i -> (listed.setIfInBounds j true).getD k true = false ->
     (∀ e ∈ ok.after, Region.binds md e = true -> e.on ≠ i) -> oi.apart ops ok = true := fun k ok hk hki hun hno => by
    refine hfree k ok hk hki ?_ hno
    by_cases hjk : j = k
    ·subst hjk; exact hjun
    ·rw [getD_set_ne true hjk] at hun; exact hun
   refine wpOp_mono (fun a' w' h3 => ⟨h3.2.1, ih (listed.setIfInBounds j true) a' w' hfree' (ready_mono hr (bD hji)) h3.1 h3.2.1 ?_⟩) h2; rw [Array.setIfInBounds_comm _ _ hji]; exact h3.2.2
theorem zAj {S' : World -> Prop} (hss : ∀ w, S' w -> S w) : ∀ (fuel : Nat) (listed : Array Bool) (a : Act) (w : World), wpAnyH P md ops Q S' fuel listed a w -> wpAnyH P md ops Q S fuel listed a w
 | 0, _, _, _, h => h
 | fuel + 1, _, _, _, h => ⟨h.1, fun i hi => wpOp_mono (fun a' w' h' => ⟨hss _ h'.1, zAj hss fuel _ a' w' h'.2⟩) (h.2 i hi)⟩
theorem qK {i : Nat} {oi : Oper} {v : Value} {fuel : Nat} {listed : Array Bool} {a : Act} {w : World} (hi : ops[i]? = some oi)
  (hs : Region.noSelect ops = true) (hf : Region.free md ops listed i = true) (hr : (Region.ready md ops listed).contains i = true)
  (hQ : ∀ c a w, Q (.panic c) (a.put oi.dst v) w -> Q (.panic c) a w) (hy : aR P ops S oi v a) (hS : S w)
  (h : wpAnyH P md ops Q S fuel (listed.setIfInBounds i true) (a.put oi.dst v) w) : wpAnyH P md ops Q S (fuel + 1) listed a w :=
 wpAnyH_firstC hi (Region.noSelect_spec hs) hQ fuel listed a w (Region.free_spec hi hf) (by simpa using hr) hy hS h
end
end Go.Proofs.YtdbgeobolongmaaGreatDoor
namespace Go.Proofs.YtdbgeobolongmaaGreatDoor
open Go Go.OctetPlain Go.ColonPlain Go.PrefixPlain
def exA : List UInt8 := [98, 105, 110, 100, 32, 49, 48, 48, 32, 48, 42, 49, 32, 50, 42, 51]
def exB : List UInt8 := [109, 112, 108, 115, 32, 49, 32, 48, 48, 48, 54, 52, 48, 48, 53]
def exC : List UInt8 := [98, 105, 110, 100, 32, 49, 48, 48]
def exX : List UInt8 := [35, 32, 120, 10, 114, 111, 111, 109, 115, 32, 52, 32, 53, 32, 54, 10, 115, 101, 108, 102, 32, 49, 48, 46, 48, 46, 48, 46, 49, 32, 58, 58, 49, 10, 104, 111, 112, 32, 112, 111, 112, 32, 112, 111, 114, 116, 32, 50, 10, 105, 112, 32, 48, 32, 45]
def exY : List UInt8 := [112, 111, 114, 116, 32, 49, 32, 50, 10, 112, 111, 114, 116, 32, 49]
def exZ : List UInt8 := [114, 111, 111, 109, 115, 32, 52, 32, 53, 32, 54, 10, 115, 101, 108, 102, 32, 49, 48, 46, 48, 46, 48, 46, 49, 32, 58, 58, 49, 10, 104, 111, 112, 32, 112, 111, 112, 32, 112, 111, 114, 116, 32, 50, 10, 105, 112, 32, 48, 32, 45, 10]
def stA : Sc.Stp := { Sc.z with kind := 10, a := 100, ways := [(0, 1), (2, 3)] }
def stB : Sc.Stp := { Sc.z with is := true, mpls := true, port := 1, bytes := [0, 6, 64, 5] }
def stH : Sc.Stp := { Sc.z with kind := 8, hop := ⟨2, [], 2, -1, [], false⟩ }
def stP : Sc.Stp := { Sc.z with is := true }
def scX : Sc.Scr := ⟨4, 5, 6, [10, 0, 0, 1], [0, 0, 0, 0, 0, 0, 0, 0, 0, 0, 0, 0, 0, 0, 0, 1], [stH, stP]⟩
set_option maxRecDepth 100000
theorem ex_A : Sc.oneR exA = some stA := by kernel_rfl
theorem ex_B : Sc.oneR exB = some stB := by kernel_rfl
theorem ex_C : Sc.oneR exC = none := by kernel_rfl
theorem ex_X : Sc.parseX exX = .ok scX := by kernel_rfl
theorem ex_Y : Sc.parseX exY = .error (20, 2) := by kernel_rfl
theorem ex_Z : Sc.body (Sc.linesOf scX) = exZ := by kernel_rfl
end Go.Proofs.YtdbgeobolongmaaGreatDoor
namespace Go.Proofs.YtdbgeobolongmaaGreatDoor
open Go.ChangeShapes Go.WideShapes Go.ChangeAt Go.RowKit Go.Deep Go.Joins
section
variable {H : Type} {enc : TypeId × Value -> H}
theorem cells_ints {P : Program} {w : World} {base : Nat} {sp : Nat -> Bool} {held : Bool} {fuel : Nat} {t e : TypeId} {n : Nat} {k : IntKind} {cs : List Value} {x : DataW H × List MemPlace}
  (ht : P.underlying t = some (.array n e)) (he : P.underlying e = some (.int k)) (hce : P.cellsOf e = 1) (hct : P.cellsOf t = n)
  (h : DataW.trod enc P w base sp held fuel t cs = some x) : ∀ i, i < n -> ∃ z : Int, cs[i]? = some (.int k z) /\ (Lit.int k z).wf = true := by
 cases fuel with
 | zero => simp [DataW.trod] at h
 |succ fuel =>
  simp only [DataW.trod, ht, hce, hct, jN] at h
  split at h
  ·rename_i hl
   obtain ⟨xs, hm, hx⟩ := bR.1 h; intro i hi; obtain ⟨b, hb, hf⟩ := Lib.mapM_at hm i i (by simp [hi]); obtain ⟨z, hc, _, hw⟩ := DataW.trod_int he hf
   have h1 : cs[i]? = some (.int k z) := by
    have := yG (·[0]?) hc
    simpa [nK, fD] using this
   exact ⟨z, h1, hw⟩
  ·cases h
end
end Go.Proofs.YtdbgeobolongmaaGreatDoor
