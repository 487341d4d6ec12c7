/- Part of the proof: contracts of the functions that the statements of layer 32 reach. -/
import Derived.Great.BuildSlice
import Derived.Test.YtdbgeobolongmaaGreatDoorV12
import Derived.Test.YtdbgeobolongmaaGreatDoorV18
import Derived.Test.YtdbgeobolongmaaGreatDoorV28
import Derived.Test.YtdbgeobolongmaaGreatDoorV29
set_option linter.unusedVariables false
set_option linter.unusedSimpArgs false
set_option maxRecDepth 100000
namespace Go.Proofs.YtdbgeobolongmaaGreatDoor
open Go.RowKit Go.Shelf Go.Proofs Go.OctetPlain Go.PrefixPlain
def ElemBig (P : Program) (t e : TypeId) (size bytes : Nat) : Prop :=
 P.underlying t = some (.slice e) ∧ bytes ≤ 1024 ∧ 0 < size ∧ ∃ i z, P.info? e = some i ∧ i.zero = some z ∧ i.size = size ∧ i.bytes = bytes ∧ z.cells.size = size
theorem ElemBig.mk {P : Program} {t e : TypeId} {size bytes : Nat} {z : Value} (ht : P.underlying t = some (.slice e)) (h : (P.info? e).map (fun i => (i.zero, i.size, i.bytes)) = some (some z, size, bytes)) (hb : bytes ≤ 1024) (hs : 0 < size) (hz : z.cells.size = size) : ElemBig P t e size bytes := by
 obtain ⟨i, h1, h2, h3, h4⟩ := info_parts h
 exact ⟨ht, hb, hs, i, z, h1, h2, h3, h4, hz⟩
theorem big_bytes {n bytes : Nat} (h : n ≤ 1073741824) (hb : bytes ≤ 1024) : n * bytes ≤ 140737488355328 := by
 have : n * bytes ≤ 1073741824 * 1024 := Nat.mul_le_mul h hb
 omega
section
variable {P : Program} {w : World} {o : Oper} {a : Act} {Q : Exit → Act → World → Prop} {t e : TypeId} {size bytes : Nat}
theorem run_append_noneB (w : World) {base : Nat} {t ty e : TypeId} {size bytes : Nat} (hE : ElemBig P t e size bytes) {v : Value} {n : Nat} {xs : List Value} (hown : w.ownsRow base e size v n xs) (c : Nat) :
  (Builtin.append_ #[t, t] ty #[v, .slice none 0 c]).run P w = .ok v w := by
 obtain ⟨ht, _, _, i, z, hi, _⟩ := hE
 rcases hown.2 with ⟨rfl, rfl⟩ | ⟨g, cap, cur, rfl, _, _, hnc, _⟩
 ·simp [Builtin.append_, run_underlying ht, sizeOf, typeInfo, hi, Builtin.lenOf, Builtin.firstCells]
 ·simp [Builtin.append_, run_underlying ht, sizeOf, typeInfo, hi, Builtin.lenOf, Builtin.firstCells, hnc, storeCells]
theorem wp_app_big {K : Act → World → Prop} (hE : ElemBig P t e size bytes) (s x : Operand)
  (ho : o.op = .call { callee := .builtin .append, args := #[s, x], argTypes := #[t, t] })
  (base : Nat) (v : Value) (n : Nat) (xs : List Value) (hs : a.eval s = v) (hown : w.ownsRow base e size v n xs)
  (ad : Addr) (m c : Nat) (news : List Value) (hx : a.eval x = .slice (some ad) m c) (hl : news.length = m * size) (hnews : ∀ j u, news[j]? = some u → w.cell? (ad.add j) = some u) (h1 : ∀ u ∈ news, u.oneCell' = true)
  (hsm : n + m ≤ 1073741824) (hbase : base ≤ w.heap.size)
  (h : ∀ v' w', w'.ownsRow base e size v' (n + m) (xs ++ news) → w.grownBy w' v.ownBlock → (v'.ownBlock = v.ownBlock ∨ v'.ownBlock = some w.heap.size) → K (a.put o.dst v') w') : o.wp P a w K Q := by
 obtain ⟨ht, hb, hsz, i, z, hi, hz, hsize, hby, hzs⟩ := hE
 obtain ⟨v', w', hr', h2, h3, h4, h5⟩ := run_append_own_at (P := P) w base t o.type e i z size bytes ht hi hz hsize hby hzs hsz v n xs hown ad m c news hl hnews h1 (by unfold maxLen; omega) (big_bytes hsm hb) hbase
 unfold Oper.wp execOp
 simp only [ho, resolve, invoke, builtin, Sem.run_bind, Sem.run_pure, Result.andThen_ok, List.map_toArray, List.map_cons, List.map_nil, hs, hx, hr']
 exact h v' w' h2 h3 h5
theorem wp_app_bigsl {α : Type} {K : Act → World → Prop} (hE : ElemBig P t e size bytes) (s x : Operand)
  (ho : o.op = .call { callee := .builtin .append, args := #[s, x], argTypes := #[t, t] })
  (base : Nat) (v : Value) (n : Nat) (xs : List Value) (hs : a.eval s = v) (hown : w.ownsRow base e size v n xs)
  (enc : α → List Value) (hk : ∀ x, (enc x).length = size) (p : Option Addr) (c : Nat) (ys : List α) (hx : a.eval x = .slice p ys.length c) (hr : RdP w size enc p ys) (h1 : ∀ y ∈ ys, ∀ u ∈ enc y, u.oneCell' = true)
  (hsm : n + ys.length ≤ 1073741824) (hbase : base ≤ w.heap.size)
  (h : ∀ v' w', w'.ownsRow base e size v' (n + ys.length) (xs ++ flat enc ys) → w.grownBy w' v.ownBlock → (v'.ownBlock = v.ownBlock ∨ v'.ownBlock = some w.heap.size) → K (a.put o.dst v') w') : o.wp P a w K Q := by
 cases p with
 | none =>
  have h0 := hr.1 rfl
  have hys : ys = [] := List.eq_nil_of_length_eq_zero h0
  subst hys
  have hrun := run_append_noneB (ty := o.type) w hE hown c
  unfold Oper.wp execOp
  simp only [List.length_nil] at hx
  simp only [ho, resolve, invoke, builtin, Sem.run_bind, Sem.run_pure, Result.andThen_ok, List.map_toArray, List.map_cons, List.map_nil, hs, hx, hrun]
  exact h v w (by simpa [flat] using hown) (grown_refl _ _) (.inl rfl)
 | some ad =>
  have hsz := hE.2.2.1
  have hnews : ∀ j u, (flat enc ys)[j]? = some u → w.cell? (ad.add j) = some u := by
   intro j u hu
   have hjl : j < (flat enc ys).length := (List.getElem?_eq_some_iff.1 hu).1
   rw [flat_length hk] at hjl
   have hi' : j / size < ys.length := Nat.div_lt_of_lt_mul (by rw [Nat.mul_comm]; exact hjl)
   obtain ⟨hsp, _, hcell⟩ := hr.2 ad rfl (Nat.ne_of_gt (Nat.lt_of_le_of_lt (Nat.zero_le _) hi'))
   have hm : j % size < (enc ys[j / size]).length := by rw [hk]; exact Nat.mod_lt _ hsz
   have hfl := flat_at hk (List.getElem?_eq_getElem hi') (List.getElem?_eq_getElem hm)
   have hj : j / size * size + j % size = j := by rw [Nat.mul_comm]; exact Nat.div_add_mod j size
   rw [hj, hu] at hfl
   have := hcell _ _ (List.getElem?_eq_getElem hi') _ _ ((List.getElem?_eq_getElem hm).trans hfl.symm)
   rw [← this]
   congr 1
   unfold Addr.add
   split
   ·rename_i h0; subst h0; cases ad; simp_all
   ·cases ad; simp only [Addr.mk.injEq, true_and, and_true]; omega
  exact wp_app_big hE s x ho base v n xs hs hown ad ys.length c (flat enc ys) hx (flat_length hk ys) hnews (by intro u hu; simp only [flat, List.mem_flatMap] at hu; obtain ⟨y, hy, hu⟩ := hu; exact h1 y hy u hu) hsm hbase h
end
theorem news_new (w : World) (news : List Value) (e : TypeId) (g : Nat) (hg : g = w.heap.size) : ∀ j u, news[j]? = some u → (w.alloc (.cells news.toArray e)).cell? ((⟨g, 0, none⟩ : Addr).add j) = some u := by
 subst hg; exact cell_new_list w news e
theorem wp_build1 {P : Program} {o : Oper} {a : Act} {w : World} {K : Act → World → Prop} {Q : Exit → Act → World → Prop} (t e : TypeId) (x : Operand) (ho : o.op = .buildSlice t 1 #[(0, x)]) (cells : Array Value) (hx : a.eval x = .agg cells) (n : Nat) (hn : cells.size = n) (h0 : 0 < n) (h24 : n ≤ 1000)
  (hu : P.underlying t = some (.slice e)) (hsz : (P.info? e).map (·.size) = some n) (hz : ((P.info? e).bind (·.zero)).map (·.cells.size) = some n)
  (h : K (a.put o.dst (.slice (some ⟨w.heap.size, 0, none⟩) 1 1)) (w.alloc (.cells cells e))) : o.wp P a w K Q := by
 cases hie : P.info? e with
 | none => simp [hie] at hsz
 | some ie =>
  simp only [hie, Option.map_some, Option.some.injEq, Option.bind_some] at hsz hz
  cases hzz : ie.zero with
  | none => simp [hzz] at hz
  | some z =>
   refine wp_buildSlice t e 1 #[(0, x)] ho cells ie z hu hie hzz (by rw [hsz]; omega) (by rw [hsz]; omega) ?_ h
   have hf := Great.fill_whole (s := n) h0 [.agg cells] ((Array.range (1 * n)).map (z.cells[· % z.cells.size]!)) (fun v hv => by
    obtain rfl : v = .agg cells := by simpa using hv
    exact hn) (by simp)
   rw [hsz]
   simp only [List.map_toArray, List.map_cons, List.map_nil, hx]
   simpa [Value.cells] using hf
def scL (x : Sc.Scr) (v : Value) : List Value := (rmA (x.r1, x.r2, x.r3)).toList ++ ((slA x.four x.six).toList ++ ([v] ++ []))
def scA (x : Sc.Scr) (v : Value) : Array Value := (scL x v).toArray
theorem slA_len {x : Sc.Scr} (z : Sc.Sized x) : (slA x.four x.six).toList.length = 20 := by rw [Array.length_toList]; exact slA_size z.four z.six
theorem scA_size {x : Sc.Scr} (z : Sc.Sized x) (v : Value) : (scA x v).size = 24 := by
 unfold scA scL
 rw [List.size_toArray, List.length_append, List.length_append, slA_len z]
 rfl
structure ScAt (t : TypeId) (w : World) (X : Nat) (x : Sc.Scr) (v : Value) : Prop where
 b : Blk w X t (scA x v)
 z : Sc.Sized x
namespace ScAt
variable {t : TypeId} {w : World} {X : Nat} {x : Sc.Scr} {v : Value}
theorem lt (h : ScAt t w X x v) : X < w.heap.size := h.b.lt
theorem rm (h : ScAt t w X x v) : w.rangeAt X 0 (rmA (x.r1, x.r2, x.r3)).toList := by
 have hb := h.b
 unfold scA scL at hb
 exact Blk.rng (A := []) hb rfl
theorem sl (h : ScAt t w X x v) : w.rangeAt X 3 (slA x.four x.six).toList := by
 have hb := h.b
 unfold scA scL at hb
 exact hb.rng rfl
theorem vs (h : ScAt t w X x v) : w.rangeAt X 23 [v] := by
 have hb := h.b
 unfold scA scL at hb
 rw [← List.append_assoc] at hb
 exact hb.rng (by rw [List.length_append, slA_len h.z]; rfl)
theorem c0 (h : ScAt t w X x v) : w.cell? ⟨X, 0, none⟩ = some (.int .i64 x.r1) := h.rm 0 _ rfl
theorem c1 (h : ScAt t w X x v) : w.cell? ⟨X, 1, none⟩ = some (.int .i64 x.r2) := h.rm 1 _ rfl
theorem c2 (h : ScAt t w X x v) : w.cell? ⟨X, 2, none⟩ = some (.int .i64 x.r3) := h.rm 2 _ rfl
theorem c23 (h : ScAt t w X x v) : w.cell? ⟨X, 23, none⟩ = some v := h.vs 0 _ rfl
theorem fz (h : ScAt t w X x v) (i : Nat) : w.frozen? ⟨X, i, none⟩ = false := h.b.frozen' i
theorem th (h : ScAt t w X x v) {o n : Nat} (hn : o + n ≤ 24) : w.there X o n := h.b.th (by rw [scA_size h.z]; exact hn)
theorem below (h : ScAt t w X x v) {w' : World} {B : Nat} (hb : Below B w w') (hX : X < B) : ScAt t w' X x v := ⟨h.b.below hb hX, h.z⟩
theorem next (h : ScAt t w X x v) {w' : World} (hb : Below w.heap.size w w') : ScAt t w' X x v := h.below hb h.lt
theorem grown (h : ScAt t w X x v) {w' : World} {g : Option Nat} (hg : w.grownBy w' g) (hne : g ≠ some X) : ScAt t w' X x v := ⟨h.b.grownO hg hne, h.z⟩
theorem setRm (h : ScAt t w X x v) (r : Int × Int × Int) : ScAt t (w.setCells X 0 (rmA r).toList) X { x with r1 := r.1, r2 := r.2.1, r3 := r.2.2 } v := by
 have hb := h.b
 unfold scA scL at hb
 exact ⟨Blk.mid (A := []) (M := (rmA (x.r1, x.r2, x.r3)).toList) (vs := (rmA r).toList) hb (by rfl) rfl, h.z.four, h.z.six⟩
theorem setSl (h : ScAt t w X x v) {a b : List UInt8} (ha : a.length = 4) (hb' : b.length = 16) : ScAt t (w.setCells X 3 (slA a b).toList) X { x with four := a, six := b } v := by
 have hb := h.b
 unfold scA scL at hb
 refine ⟨?_, ha, hb'⟩
 unfold scA scL
 exact Blk.mid hb (by rw [slA_len h.z, Array.length_toList, slA_size ha hb']) rfl
theorem setV (h : ScAt t w X x v) (v' : Value) : ScAt t (w.setCell ⟨X, 23, none⟩ v') X x v' := by
 have hb := h.b
 unfold scA scL at hb
 refine ⟨?_, h.z⟩
 unfold scA scL
 rw [← List.append_assoc] at hb ⊢
 exact Blk.mid1 hb (by rw [List.length_append, slA_len h.z]; rfl)
end ScAt
structure InnerD (q : Nat → Prop) (w : World) (s : StV) : Prop where
 l : SlP q w 1 encI s.vl s.t.hop.labels
 r : SlP q w 1 encI s.vr s.t.hop.repair
 ws : SlP q w 2 encWy s.vw s.t.ways
 b : s.vb = .string (str s.t.bytes)
namespace InnerD
variable {q : Nat → Prop} {w w' : World} {s : StV}
theorem grown (h : InnerD q w s) {row : Option Nat} (hg : w.grownBy w' row) (hr : ∀ b, q b → row ≠ some b) : InnerD q w' s := ⟨h.l.grown hg hr, h.r.grown hg hr, h.ws.grown hg hr, h.b⟩
theorem imp (h : InnerD q w s) {r : Nat → Prop} (hi : ∀ b, q b → r b) : InnerD r w s := ⟨h.l.imp hi, h.r.imp hi, h.ws.imp hi, h.b⟩
theorem bd (h : InnerD q w s) : InnerD (fun b => q b ∧ b < w.heap.size) w s := ⟨h.l.bd, h.r.bd, h.ws.bd, h.b⟩
theorem one (h : InnerD q w s) : (stepA s).all (·.oneCell') = true := stepA_one h.l.one h.r.one h.ws.one (by rw [h.b]; rfl)
end InnerD
theorem Inner.bd2 {q : Nat → Prop} {w : World} {s : StV} (h : Inner q w s) : Inner (fun b => q b ∧ b < w.heap.size) w s := ⟨h.l.bd, h.r.bd, h.ws.bd, h.b.bd⟩
structure Good (IN : (Nat → Prop) → World → StV → Prop) : Prop where
 grown : ∀ {q : Nat → Prop} {w w' : World} {s : StV} {row : Option Nat}, IN q w s → w.grownBy w' row → (∀ b, q b → row ≠ some b) → IN q w' s
 imp : ∀ {q r : Nat → Prop} {w : World} {s : StV}, IN q w s → (∀ b, q b → r b) → IN r w s
 bd : ∀ {q : Nat → Prop} {w : World} {s : StV}, IN q w s → IN (fun b => q b ∧ b < w.heap.size) w s
 one : ∀ {q : Nat → Prop} {w : World} {s : StV}, IN q w s → (stepA s).all (·.oneCell') = true
theorem goodI : Good Inner := ⟨fun h hg hr => h.grown hg hr, fun h hi => h.imp hi, fun h => h.bd2, fun h => h.one⟩
theorem goodD : Good InnerD := ⟨fun h hg hr => h.grown hg hr, fun h hi => h.imp hi, fun h => h.bd, fun h => h.one⟩
theorem Good.below {IN : (Nat → Prop) → World → StV → Prop} (G : Good IN) {q : Nat → Prop} {w w' : World} {s : StV} (h : IN q w s) (hb : Below w.heap.size w w') : IN q w' s := G.grown (row := none) h (grown_below hb _) (fun b _ e => by cases e)
structure ScS (T E : TypeId) (IN : (Nat → Prop) → World → StV → Prop) (Y : Nat → Prop) (W : World) (X : Nat) (x : Sc.Scr) (sts : List StV) (v : Value) (wr : World) : Prop where
 at_ : ScAt T wr X x v
 own : wr.ownsRow W.heap.size E 36 v sts.length (flat stepL sts)
 st : sts.map (·.t) = x.steps
 inn : ∀ s ∈ sts, IN (fun b => Y b ∧ v.ownBlock ≠ some b) wr s
 p16 : ∀ s ∈ sts, s.t.pf.addr.length = 16
 gr : W.grownBy wr (some X)
 XW : X < W.heap.size
 YX : ¬ Y X
theorem ownB_ge {w : World} {base : Nat} {e : TypeId} {size : Nat} {v : Value} {n : Nat} {xs : List Value} (h : w.ownsRow base e size v n xs) {g : Nat} (hg : v.ownBlock = some g) : base ≤ g ∧ g < w.heap.size := by
 rcases h.2 with h0 | ⟨k, cap, cur, hv, hb, hk, r⟩
 ·rw [h0.1] at hg; simp [Value.ownBlock] at hg
 ·rw [hv] at hg
  simp only [Value.ownBlock, Option.some.injEq] at hg
  subst hg
  exact ⟨hb, (Array.getElem?_eq_some_iff.1 hk).1⟩
theorem ownB_ne {w : World} {base : Nat} {e : TypeId} {size : Nat} {v : Value} {n : Nat} {xs : List Value} (h : w.ownsRow base e size v n xs) {X : Nat} (hX : X < base) : v.ownBlock ≠ some X := fun e => by
 have := ownB_ge h e; omega
theorem owns_grown {w w' : World} {base : Nat} {e : TypeId} {size : Nat} {v : Value} {n : Nat} {xs : List Value} (h : w.ownsRow base e size v n xs) {ob : Option Nat} (hg : w.grownBy w' ob) (hX : ∀ X, ob = some X → X < base) : w'.ownsRow base e size v n xs := by
 refine ⟨h.1, ?_⟩
 rcases h.2 with h0 | ⟨k, cap, cur, hv, hb, hk, r⟩
 ·exact .inl h0
 ·exact .inr ⟨k, cap, cur, hv, hb, by rw [hg.block k (Array.getElem?_eq_some_iff.1 hk).1 (fun e => by have := hX k e.symm; omega)]; exact hk, r⟩
theorem grown_cells : ∀ (vs : List Value) (w : World) (g o : Nat), w.grownBy (w.setCells g o vs) (some g)
 | [], w, g, o => grown_refl _ _
 | v :: r, w, g, o => grown_trans (grown_set w g o v) (grown_cells r _ g (o + 1))
section
variable {T E : TypeId} {IN : (Nat → Prop) → World → StV → Prop} {Y : Nat → Prop} {W wr w' : World} {X : Nat} {x : Sc.Scr} {sts : List StV} {v : Value}
theorem ScS.next (G : Good IN) (h : ScS T E IN Y W X x sts v wr) (hb : Below wr.heap.size wr w') : ScS T E IN Y W X x sts v w' :=
 ⟨h.at_.next hb, owns_below h.own hb (Nat.le_refl _), h.st, fun s hs => G.below (h.inn s hs) hb, h.p16, grown_then h.gr (hb.mono h.gr.size), h.XW, h.YX⟩
theorem ScS.set (G : Good IN) (h : ScS T E IN Y W X x sts v wr) {y : Sc.Scr} (hg : wr.grownBy w' (some X)) (ha : ScAt T w' X y v) (hy : y.steps = x.steps) : ScS T E IN Y W X y sts v w' :=
 ⟨ha, owns_grown h.own hg (fun k e => by cases e; exact h.XW), by rw [hy]; exact h.st, fun s hs => G.grown (h.inn s hs) hg (fun b hb e => by cases e; exact h.YX hb.1), h.p16, grown_trans h.gr hg, h.XW, h.YX⟩
end
structure ScIn (IN : (Nat → Prop) → World → StV → Prop) (w : World) (x : Sc.Scr) (sts : List StV) (v : Value) : Prop where
 z : Sc.Sized x
 st : sts.map (·.t) = x.steps
 sl : SlR w 36 stepL v sts
 inn : ∀ s ∈ sts, IN (fun _ => True) w s
 p16 : ∀ s ∈ sts, s.t.pf.addr.length = 16
def scrZ : Sc.Scr := ⟨0, 0, 0, List.replicate 4 0, List.replicate 16 0, []⟩
theorem ScIn.below {IN : (Nat → Prop) → World → StV → Prop} (G : Good IN) {w w' : World} {x : Sc.Scr} {sts : List StV} {v : Value} (h : ScIn IN w x sts v) (hb : Below w.heap.size w w') : ScIn IN w' x sts v := ⟨h.z, h.st, h.sl.below hb (Nat.le_refl _), fun s hs => G.below (h.inn s hs) hb, h.p16⟩
theorem ScIn.nil {IN : (Nat → Prop) → World → StV → Prop} {w : World} {x : Sc.Scr} (z : Sc.Sized x) (h : x.steps = []) : ScIn IN w x [] (.slice none 0 0) := ⟨z, by rw [h]; rfl, (SlP.nil (Pr := fun _ => True) w 36 stepL).sl, (fun s hs => by cases hs), (fun s hs => by cases hs)⟩
theorem scrZ_z : Sc.Sized scrZ := ⟨rfl, rfl⟩
theorem scr0_z : Sc.Sized Sc.scr0 := ⟨rfl, rfl⟩
def RetScr (IN : (Nat → Prop) → World → StV → Prop) (o : Except (Int × Nat) Sc.Scr) (W : World) (e : Ending) (W' : World) : Prop :=
 ∃ (x : Sc.Scr) (sts : List StV) (v : Value) (c : Int) (n : Nat), e = .returned (.tuple #[.agg (scA x v), .int .i64 c, .int .i64 n]) ∧ ScIn IN W' x sts v ∧ Below W.heap.size W W' ∧ (∀ y, o = .ok y → x = y ∧ c = 0 ∧ n = 0) ∧ (∀ k, o = .error k → x = scrZ ∧ c = k.1 ∧ n = k.2)
end Go.Proofs.YtdbgeobolongmaaGreatDoor
namespace Go.Proofs.YtdbgeobolongmaaGreatDoor
open Go.RowKit Go.Shelf Go.Proofs Go.OctetPlain Go.PrefixPlain
theorem infoM3 : (Tryz.prog.info? 65).map (·.size) = some 3 := by kernel_rfl
theorem eq_b4_at (d : Nat) {a b : List UInt8} (ha : a.length = 4) (hb : b.length = 4) (w : World) : (Op.equalIn (d + 2) 56 (.agg (arrB a)) (.agg (arrB b))).run Tryz.prog w = .ok (decide (a = b)) w := by
 have hi : ∃ i, Tryz.prog.info? 5 = some i := by
  have h : (Tryz.prog.info? 5).isSome = true := by kernel_rfl
  exact Option.isSome_iff_exists.1 h
 obtain ⟨i, hi⟩ := hi
 have h := run_equalIn_array (P := Tryz.prog) (w := w) (d + 1) (arrB a) (arrB b) Tryz.underlying56 hi
 rw [show Tryz.prog.cellsOf 5 = 1 by kernel_rfl] at h
 rw [h]
 have h2 := eqItems_any (P := Tryz.prog) (e := 5) (d := d + 1) (fun c : UInt8 => Value.int .u8 (c.toNat : Int)) (fun cs off v w hv => by simp [part, Tryz.isAgg5, hv])
  (fun x y w => by
   rw [run_equalIn_int w d 5 .u8 .u8 _ _ Tryz.underlying5]
   congr 1
   rw [Bool.eq_iff_iff]
   simp only [beq_iff_eq, decide_eq_true_eq]
   constructor
   ·intro h; exact UInt8.toNat_inj.1 (Int.ofNat.inj h)
   ·rintro rfl; rfl) a b (List.range 4) w (by intro j hj; simp at hj; omega)
 unfold arrB
 rw [h2]
 congr 1
 exact decide_eq_decide.2 (range_eq ha hb)
theorem slA_four {a b : List UInt8} (ha : a.length = 4) : (slA a b).extract 0 (0 + 4) = arrB a := by
 unfold slA arrB
 rw [List.map_append, List.extract_toArray, List.extract_eq_take_drop, List.drop_zero]
 have : (0 + 4 - 0 : Nat) = (a.map fun c => Value.int .u8 (c.toNat : Int)).length := by rw [List.length_map, ha]
 rw [this, List.take_left]
theorem slA_six {a b : List UInt8} (ha : a.length = 4) (hb : b.length = 16) : (slA a b).extract 4 (4 + 16) = arrB b := by
 unfold slA arrB
 rw [List.map_append, List.extract_toArray, List.extract_eq_take_drop]
 have : (4 : Nat) = (a.map fun c => Value.int .u8 (c.toNat : Int)).length := by rw [List.length_map, ha]
 conv => lhs; arg 1; arg 2; rw [this, List.drop_left]
 rw [List.take_of_length_le (by rw [List.length_map, hb]; decide)]
theorem eq_slM {a b c d : List UInt8} (ha : a.length = 4) (hb : b.length = 16) (hc : c.length = 4) (hd : d.length = 16) (w : World) : (Op.equalIn 10000 66 (.agg (slA a b)) (.agg (slA c d))).run Tryz.prog w = .ok (decide ((a, b) = (c, d))) w := by
 rw [run_equalIn_struct w 9999 66 _ _ (by kernel_rfl) (by kernel_rfl)]
 have hf : ((Tryz.prog.fieldsOf 66).toList.map fun f => (decide (f.name ≠ "_"), f.type, f.offset)) = [(true, 56, 0), (true, 24, 4)] := by kernel_rfl
 generalize (Tryz.prog.fieldsOf 66).toList = fs at hf ⊢
 have s1 := fun w => part_agg Tryz.isAgg56 info4B _ _ _ (slA_four (b := b) ha) w
 have s2 := fun w => part_agg Tryz.isAgg24 info16B _ _ _ (slA_six ha hb) w
 have s3 := fun w => part_agg Tryz.isAgg56 info4B _ _ _ (slA_four (b := d) hc) w
 have s4 := fun w => part_agg Tryz.isAgg24 info16B _ _ _ (slA_six hc hd) w
 have hlen : fs.length = 2 := by have := congrArg List.length hf; simpa using this
 obtain ⟨f1, f2, rfl⟩ : ∃ a b, fs = [a, b] := by
  clear hf
  match fs, hlen with
  | [a, b], _ => exact ⟨a, b, rfl⟩
 clear hlen
 simp only [List.map_cons, List.map_nil, List.cons.injEq, Prod.mk.injEq, decide_eq_true_eq, and_true] at hf
 obtain ⟨⟨n1, t1, o1⟩, n2, t2, o2⟩ := hf
 have e1 := fun w => eq_b4_at 9997 ha hc w
 have e2 := fun w => eq_bytes_at 9997 hb hd w
 simp only [Op.eqFields, if_pos n1, if_pos n2, t1, t2, o1, o2, Sem.run_bind, s1, s2, s3, s4, Result.andThen_ok, e1, e2, Sem.run_ite, Sem.run_pure]
 by_cases h1 : a = c
 ·by_cases h2 : b = d
  ·simp [h1, h2]
  ·simp [h1, h2]
 ·simp [h1]
theorem run_rmM (r q : Int × Int × Int) (w : World) : (Op.equalIn 10000 65 (.agg (rmA r)) (.agg (rmA q))).run Tryz.prog w = .ok (decide (r = q)) w := by
 have u3 := Tryz.underlying3
 have a3 := Tryz.isAgg3
 have z3 := Tryz.sizeOf3
 have hS : Tryz.prog.underlying 65 = some (.struct (Tryz.prog.fieldsOf 65)) := by kernel_rfl
 have hp : Tryz.prog.stoodInHeld 65 = false := by kernel_rfl
 obtain ⟨a, b, c⟩ := r
 obtain ⟨d, e, f⟩ := q
 unfold rmA
 rw [show (10000 : Nat) = 9999 + 1 from rfl, run_equalIn_agg w 9999 65 _ _ hS hp]
 simp only [Program.fieldsOf, Tryz.underlying65]
 go_simp
 by_cases h1 : a = d <;> by_cases h2 : b = e <;> by_cases h3 : c = f <;> simp [h1, h2, h3]
end Go.Proofs.YtdbgeobolongmaaGreatDoor
namespace Go.Proofs.YtdbgeobolongmaaGreatDoor
open Go.RowKit Go.Shelf Go.Proofs Go.OctetPlain Go.PrefixPlain
structure TAt (w : World) (X : Nat) (s : StV) : Prop where
 b : Blk w X 46 (stepA s)
 p16 : s.t.pf.addr.length = 16
namespace TAt
variable {w : World} {X : Nat} {s : StV}
theorem lt (h : TAt w X s) : X < w.heap.size := h.b.lt
theorem pf (h : TAt w X s) : w.rangeAt X 7 (pfL s.t.pf) := by
 have hb := h.b
 unfold stepA at hb
 rw [sp_pf] at hb
 exact hb.rng rfl
theorem hop (h : TAt w X s) : w.rangeAt X 25 (hopL s.t.hop s.vl s.vr) := by
 have hb := h.b
 unfold stepA at hb
 rw [sp_hop] at hb
 exact hb.rng (by simp [preL, pfL_len])
theorem post (h : TAt w X s) : w.rangeAt X 31 (postL s.t s.vw s.vb) := by
 have hb := h.b
 unfold stepA at hb
 rw [sp_post] at hb
 exact hb.rng (pre_len s).symm
theorem pre (h : TAt w X s) : w.rangeAt X 0 (preL s.t) := by
 have hb := h.b
 unfold stepA at hb
 exact Blk.rng (A := []) hb rfl
theorem c0 (h : TAt w X s) : w.cell? ⟨X, 0, none⟩ = some (.bool s.t.is) := h.pre 0 _ rfl
theorem c1 (h : TAt w X s) : w.cell? ⟨X, 1, none⟩ = some (.int .i64 s.t.kind) := h.pre 1 _ rfl
theorem c2 (h : TAt w X s) : w.cell? ⟨X, 2, none⟩ = some (.int .i64 s.t.a) := h.pre 2 _ rfl
theorem c3 (h : TAt w X s) : w.cell? ⟨X, 3, none⟩ = some (.int .i64 s.t.n) := h.pre 3 _ rfl
theorem c4 (h : TAt w X s) : w.cell? ⟨X, 4, none⟩ = some (.int .i64 s.t.owner) := h.pre 4 _ rfl
theorem c5 (h : TAt w X s) : w.cell? ⟨X, 5, none⟩ = some (.int .i64 s.t.s1) := h.pre 5 _ rfl
theorem c6 (h : TAt w X s) : w.cell? ⟨X, 6, none⟩ = some (.int .i64 s.t.s2) := h.pre 6 _ rfl
theorem c31 (h : TAt w X s) : w.cell? ⟨X, 31, none⟩ = some s.vw := h.post 0 _ rfl
theorem c32 (h : TAt w X s) : w.cell? ⟨X, 32, none⟩ = some (.string (str s.t.text)) := h.post 1 _ rfl
theorem c33 (h : TAt w X s) : w.cell? ⟨X, 33, none⟩ = some (.int .i64 s.t.port) := h.post 2 _ rfl
theorem c34 (h : TAt w X s) : w.cell? ⟨X, 34, none⟩ = some (.bool s.t.mpls) := h.post 3 _ rfl
theorem c35 (h : TAt w X s) : w.cell? ⟨X, 35, none⟩ = some s.vb := h.post 4 _ rfl
theorem below (h : TAt w X s) {w' : World} {B : Nat} (hb : Below B w w') (hX : X < B) : TAt w' X s := ⟨h.b.below hb hX, h.p16⟩
theorem next (h : TAt w X s) {w' : World} (hb : Below w.heap.size w w') : TAt w' X s := h.below hb h.lt
end TAt
def oPre (t : Sc.Stp) : List Value := [.int .i64 t.kind, .int .i64 t.a, .int .i64 t.n, .int .i64 t.owner]
def oSp (t : Sc.Stp) : List Value := [.int .i64 t.s1, .int .i64 t.s2]
def oL (s : StV) : List Value := oPre s.t ++ (oSp s.t ++ (pfL s.t.pf ++ (hopL s.t.hop s.vl s.vr ++ ([s.vw] ++ ([.string (str s.t.text)] ++ [])))))
def oA (s : StV) : Array Value := (oL s).toArray
theorem oL_len (s : StV) : (oL s).length = 32 := by simp [oL, oPre, oSp, pfL_len, hopL]
theorem oA_size (s : StV) : (oA s).size = 32 := by simp [oA, oL_len]
theorem step_oL (s : StV) : stepL s = [.bool s.t.is] ++ (oL s ++ ([.int .i64 s.t.port, .bool s.t.mpls, s.vb] ++ [])) := by simp [stepL, oL, preL, oPre, oSp, postL]
structure OAt (w : World) (X : Nat) (s : StV) : Prop where
 b : Blk w X 42 (oA s)
 p16 : s.t.pf.addr.length = 16
namespace OAt
variable {w : World} {X : Nat} {s : StV}
theorem e6 (s : StV) : oL s = (oPre s.t ++ oSp s.t) ++ (pfL s.t.pf ++ (hopL s.t.hop s.vl s.vr ++ ([s.vw] ++ ([.string (str s.t.text)] ++ [])))) := by simp [oL]
theorem e24 (s : StV) : oL s = (oPre s.t ++ (oSp s.t ++ pfL s.t.pf)) ++ (hopL s.t.hop s.vl s.vr ++ ([s.vw] ++ ([.string (str s.t.text)] ++ []))) := by simp [oL]
theorem e30 (s : StV) : oL s = (oPre s.t ++ (oSp s.t ++ (pfL s.t.pf ++ hopL s.t.hop s.vl s.vr))) ++ ([s.vw] ++ ([.string (str s.t.text)] ++ [])) := by simp [oL]
theorem e31 (s : StV) : oL s = (oPre s.t ++ (oSp s.t ++ (pfL s.t.pf ++ (hopL s.t.hop s.vl s.vr ++ [s.vw])))) ++ ([.string (str s.t.text)] ++ []) := by simp [oL]
theorem l6 (t : Sc.Stp) : (oPre t ++ oSp t).length = 6 := rfl
theorem l24 (t : Sc.Stp) : (oPre t ++ (oSp t ++ pfL t.pf)).length = 24 := by simp [oPre, oSp, pfL_len]
theorem l30 (s : StV) : (oPre s.t ++ (oSp s.t ++ (pfL s.t.pf ++ hopL s.t.hop s.vl s.vr))).length = 30 := by simp [oPre, oSp, pfL_len, hopL]
theorem l31 (s : StV) : (oPre s.t ++ (oSp s.t ++ (pfL s.t.pf ++ (hopL s.t.hop s.vl s.vr ++ [s.vw])))).length = 31 := by simp [oPre, oSp, pfL_len, hopL]
end OAt
def svD (t : Sc.Stp) : StV := ⟨t, .slice none 0 0, .slice none 0 0, .slice none 0 0, .string (str t.bytes)⟩
theorem infoT : (Tryz.prog.info? 46).map (·.size) = some 36 := by kernel_rfl
theorem infoTZ : ((Tryz.prog.info? 46).bind (·.zero)).map (·.cells.size) = some 36 := by kernel_rfl
theorem zeroT (w : World) : (zeroValue 46).run Tryz.prog w = .ok (.agg (stepA (svD Sc.z))) w := by kernel_rfl
end Go.Proofs.YtdbgeobolongmaaGreatDoor
namespace Go.Proofs.YtdbgeobolongmaaGreatDoor
open Go.RowKit Go.Shelf Go.Proofs Go.OctetPlain Go.PrefixPlain
theorem run_way (s t : Int × Int) (w : World) : (Op.equalIn 10000 131 (.agg #[.int .i64 s.1, .int .i64 s.2]) (.agg #[.int .i64 t.1, .int .i64 t.2])).run Tryz.prog w = .ok (decide (s = t)) w := by
 have u3 := Tryz.underlying3
 have a3 := Tryz.isAgg3
 have z3 := Tryz.sizeOf3
 have hS : Tryz.prog.underlying 131 = some (.struct (Tryz.prog.fieldsOf 131)) := by kernel_rfl
 have hp : Tryz.prog.stoodInHeld 131 = false := by kernel_rfl
 obtain ⟨a, b⟩ := s
 obtain ⟨c, d⟩ := t
 rw [show (10000 : Nat) = 9999 + 1 from rfl, run_equalIn_agg w 9999 131 _ _ hS hp]
 simp only [Program.fieldsOf, Tryz.underlying131]
 go_simp
 by_cases h1 : a = c <;> by_cases h2 : b = d <;> simp [h1, h2]
theorem run_span (s t : Int × Int) (w : World) : (Op.equalIn 10000 23 (.agg #[.int .i64 s.1, .int .i64 s.2]) (.agg #[.int .i64 t.1, .int .i64 t.2])).run Tryz.prog w = .ok (decide (s = t)) w := by
 have u3 := Tryz.underlying3
 have a3 := Tryz.isAgg3
 have z3 := Tryz.sizeOf3
 have hS : Tryz.prog.underlying 23 = some (.struct (Tryz.prog.fieldsOf 23)) := by kernel_rfl
 have hp : Tryz.prog.stoodInHeld 23 = false := by kernel_rfl
 obtain ⟨a, b⟩ := s
 obtain ⟨c, d⟩ := t
 rw [show (10000 : Nat) = 9999 + 1 from rfl, run_equalIn_agg w 9999 23 _ _ hS hp]
 simp only [Program.fieldsOf, Tryz.underlying23]
 go_simp
 by_cases h1 : a = c <;> by_cases h2 : b = d <;> simp [h1, h2]
theorem allEq_dec {α : Type} [DecidableEq α] [Inhabited α] : ∀ (a b : List α), Lib.allEq (fun x y => decide (x = y)) a b = decide (a = b)
 | [], [] => rfl
 | [], _ :: _ => rfl
 | _ :: _, [] => rfl
 | x :: a, y :: b => by
  rw [Lib.allEq, allEq_dec a b]
  by_cases h1 : x = y <;> by_cases h2 : a = b <;> simp [h1, h2]
theorem neq_way : NeqAt Tryz.prog 131 (fun x => .agg (encWy x).toArray) (fun x y => decide (x = y)) :=
 ⟨fun x y w => by
  show (binOp .neq _ (.agg #[.int .i64 x.1, .int .i64 x.2]) (.agg #[.int .i64 y.1, .int .i64 y.2])).run _ _ = _
  rw [run_neq_struct, run_way]; rfl, GuardAt.agg _ (by kernel_rfl)⟩
theorem neq_u8 : NeqAt Tryz.prog 5 (fun c : UInt8 => .int .u8 (c.toNat : Int)) (fun x y => decide (x = y)) :=
 ⟨fun x y w => by
  by_cases h : x = y
  ·subst h; simp [binOp, Op.intCmp, bne]
  ·have : ¬ ((x.toNat : Int) = (y.toNat : Int)) := fun e => h (UInt8.toNat_inj.1 (by omega))
   simp [binOp, Op.intCmp, bne, h, this], fun op a b x y w => by rw [eqGuard_at_int]; rfl⟩
theorem equalW_any (a b : List (Int × Int)) (ha : a.length ≤ 1073741824) (hb : b.length ≤ 1073741824) (va vb : Value) (w : World) (hva : SlR w 2 encWy va a) (hvb : SlR w 2 encWy vb b) :
  Calls Tryz.prog 74 #[va, vb] w fun e w' => e = .returned (.bool (decide (a = b))) ∧ Below w.heap.size w w' := by
 obtain ⟨p1, c1, rfl, h1, h2, R1⟩ := hva
 obtain ⟨p2, c2, rfl, g1, g2, R2⟩ := hvb
 by_cases hl : a.length = b.length
 ·by_cases h0 : b.length = 0
  ·obtain rfl : a = [] := List.eq_nil_of_length_eq_zero (by omega)
   obtain rfl : b = [] := List.eq_nil_of_length_eq_zero h0
   clear hl h0
   go_enter Tryz.func74, Tryz.ntmps74
   go_wp2_with fail
   go_loop [5, 13] (fun _ i => i = .int .i64 0) (fun _ _ => 0)
   case atStart => rfl
   case round =>
    subst hrel
    go_wp2_with fail
    go_ret
    exact ⟨rfl, Below.refl _ _⟩
  ·obtain ⟨b1, o1, rfl, -, -⟩ := R1.at (i := 0) (by omega)
   obtain ⟨b2, o2, rfl, -, -⟩ := R2.at (i := 0) (by omega)
   have hcon := AnyQ.slices_Equal Tryz.equalW 2 (by intro w; exact Tryz.isAgg131 w) (by intro w; exact Tryz.sizeOf131 w) encWy encWy_len (fun x y => decide (x = y)) neq_way b1 o1 a.length c1 b2 o2 b.length c2 a b w (Nat.le_refl _) (Nat.le_refl _) (by omega) (by omega)
    (fun j hj i v hi => by rw [getElem!_pos a j hj] at hi; exact R1.in hj i v hi) (fun j hj i v hi => by rw [getElem!_pos b j hj] at hi; exact R2.in hj i v hi)
   change Calls Tryz.prog 74 _ _ _ at hcon
   refine hcon.mono ?_
   rintro e w' ⟨rfl, q, rfl⟩
   exact ⟨by rw [List.take_length, List.take_length, allEq_dec], below_drewN (Below.refl _ _) q⟩
 ·have HN : Hid (decide (a = b) = false) := qh (decide_eq_false fun h => hl (by rw [h]))
  have hd : ((a.length : Int) != (b.length : Int)) = true := by simp only [bne_iff_ne, ne_eq]; omega
  have hd2 : ((a.length : Int) == (b.length : Int)) = false := by simp only [beq_eq_false_iff_ne, ne_eq]; omega
  generalize decide (a = b) = db at *
  clear hl
  go_enter Tryz.func74, Tryz.ntmps74
  go_wp2_with fail
  go_ret
  exact ⟨by rw [HN.out]; rfl, Below.refl _ _⟩
theorem equalB_any (a b : List UInt8) (ha : a.length ≤ 1073741824) (hb : b.length ≤ 1073741824) (va vb : Value) (w : World) (hva : SlR w 1 encB va a) (hvb : SlR w 1 encB vb b) :
  Calls Tryz.prog 75 #[va, vb] w fun e w' => e = .returned (.bool (decide (a = b))) ∧ Below w.heap.size w w' := by
 obtain ⟨p1, c1, rfl, h1, h2, R1⟩ := hva
 obtain ⟨p2, c2, rfl, g1, g2, R2⟩ := hvb
 by_cases hl : a.length = b.length
 ·by_cases h0 : b.length = 0
  ·obtain rfl : a = [] := List.eq_nil_of_length_eq_zero (by omega)
   obtain rfl : b = [] := List.eq_nil_of_length_eq_zero h0
   clear hl h0
   go_enter Tryz.func75, Tryz.ntmps75
   go_wp2_with fail
   go_loop [5, 13] (fun _ i => i = .int .i64 0) (fun _ _ => 0)
   case atStart => rfl
   case round =>
    subst hrel
    go_wp2_with fail
    go_ret
    exact ⟨rfl, Below.refl _ _⟩
  ·obtain ⟨b1, o1, rfl, -, -⟩ := R1.at (i := 0) (by omega)
   obtain ⟨b2, o2, rfl, -, -⟩ := R2.at (i := 0) (by omega)
   have hcon := AnyE.slices_Equal Tryz.equalB (fun c : UInt8 => .int .u8 (c.toNat : Int)) (fun x y => decide (x = y)) neq_u8 b1 o1 a.length c1 b2 o2 b.length c2 a b w (Nat.le_refl _) (Nat.le_refl _) (by omega) (by omega)
    (fun j hj => by have := R1.in hj 0 _ rfl; rw [getElem!_pos a j hj]; simpa using this) (fun j hj => by have := R2.in hj 0 _ rfl; rw [getElem!_pos b j hj]; simpa using this)
   change Calls Tryz.prog 75 _ _ _ at hcon
   refine hcon.mono ?_
   rintro e w' ⟨rfl, q, rfl⟩
   exact ⟨by rw [List.take_length, List.take_length, allEq_dec], below_drewN (Below.refl _ _) q⟩
 ·have HN : Hid (decide (a = b) = false) := qh (decide_eq_false fun h => hl (by rw [h]))
  have hd : ((a.length : Int) != (b.length : Int)) = true := by simp only [bne_iff_ne, ne_eq]; omega
  have hd2 : ((a.length : Int) == (b.length : Int)) = false := by simp only [beq_eq_false_iff_ne, ne_eq]; omega
  generalize decide (a = b) = db at *
  clear hl
  go_enter Tryz.func75, Tryz.ntmps75
  go_wp2_with fail
  go_ret
  exact ⟨by rw [HN.out]; rfl, Below.refl _ _⟩
end Go.Proofs.YtdbgeobolongmaaGreatDoor
