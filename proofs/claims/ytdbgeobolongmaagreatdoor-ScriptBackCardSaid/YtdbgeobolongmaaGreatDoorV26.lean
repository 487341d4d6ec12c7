/- Part of the proof: contracts of the functions that the statements of layer 32 reach. -/
import Derived.Test.YtdbgeobolongmaaGreatDoorV25
set_option linter.unusedVariables false
set_option linter.unusedSimpArgs false
set_option maxRecDepth 100000
set_option maxHeartbeats 8000000
namespace Go.Proofs.YtdbgeobolongmaaGreatDoor
open Go.RowKit Go.Shelf Go.Proofs Go.OctetPlain Go.PrefixPlain
theorem PartV.lower {lo lo' : Nat} {w : World} {p : Sc.Part} {vs vr : Value} (h : PartV lo w.heap.size w p vs vr) (hl : lo' ≤ lo) : PartV lo' w.heap.size w p vs vr := h.mono (fun k _ _ cs t fr hc => hc) hl (Nat.le_refl _)
theorem PartV.next {lo : Nat} {w w' : World} {p : Sc.Part} {vs vr : Value} (h : PartV lo w.heap.size w p vs vr) (hb : Below w.heap.size w w') : PartV lo w'.heap.size w' p vs vr := h.mono (Agree.of_below hb (Nat.le_refl _)) (Nat.le_refl _) hb.size
namespace Pt
inductive K where
 | mk
 | ld (d s : Nat) (p : Sc.Part)
 | cl (d f : Nat) (p : Sc.Part)
 | bs1 (d s dp : Nat) (p : Sc.Part)
 | bs2 (d s1 s2 dp1 dp2 : Nat) (p1 p2 : Sc.Part)
 | bs3 (d s1 s2 s3 dp1 dp2 dp3 : Nat) (p1 p2 p3 : Sc.Part)
 | ins (x : Hp.Wd) (s dp : Nat) (ps : List Sc.Part)
 | m61 | m62 | lk | asg
def T : List K := [.mk,
 .ld 12 3 .A,
 .ld 13 4 .N,
 .bs2 14 12 13 1 2 .A .N,
 .ins [112, 111, 114, 116] 14 3 [.A, .N],
 .ld 15 3 .A,
 .bs1 16 15 5 .A,
 .ins [110, 111, 112, 111, 114, 116] 16 6 [.A],
 .ld 17 3 .A,
 .ld 18 4 .N,
 .bs2 19 17 18 8 9 .A .N,
 .ins [108, 105, 110, 107] 19 10 [.A, .N],
 .ld 20 3 .A,
 .cl 21 52 .S,
 .bs2 22 20 21 12 13 .A .S,
 .ins [99, 97, 114, 118, 101] 22 14 [.A, .S],
 .ld 23 3 .A,
 .bs1 24 23 16 .A,
 .ins [99, 108, 111, 115, 101] 24 17 [.A],
 .ld 25 5 .O,
 .ld 26 3 .A,
 .ld 27 4 .N,
 .bs3 28 25 26 27 19 20 21 .O .A .N,
 .ins [100, 114, 97, 119] 28 22 [.O, .A, .N],
 .ld 29 5 .O,
 .cl 30 52 .S,
 .bs2 31 29 30 24 25 .O .S,
 .ins [116, 97, 107, 101] 31 26 [.O, .S],
 .ld 32 5 .O,
 .cl 33 52 .S,
 .bs2 34 32 33 28 29 .O .S,
 .ins [102, 114, 101, 101] 34 30 [.O, .S],
 .cl 35 53 .H,
 .bs1 36 35 32 .H,
 .ins [104, 111, 112] 36 33 [.H],
 .ld 37 3 .A,
 .bs1 38 37 35 .A,
 .ins [110, 111, 104, 111, 112] 38 36 [.A],
 .ld 39 3 .A,
 .cl 40 54 .W,
 .bs2 41 39 40 38 39 .A .W,
 .ins [98, 105, 110, 100] 41 40 [.A, .W],
 .ld 42 3 .A,
 .bs1 43 42 42 .A,
 .ins [110, 111, 98, 105, 110, 100] 43 43 [.A],
 .cl 44 55 .P,
 .cl 45 54 .W,
 .bs2 46 44 45 45 46 .P .W,
 .ins [114, 111, 117, 116, 101] 46 47 [.P, .W],
 .cl 47 55 .P,
 .bs1 48 47 49 .P,
 .ins [110, 111, 114, 111, 117, 116, 101] 48 50 [.P],
 .ld 49 3 .A,
 .cl 50 56 .T,
 .bs2 51 49 50 52 53 .A .T,
 .ins [112, 111, 108, 105, 99, 121] 51 54 [.A, .T],
 .ld 52 3 .A,
 .cl 53 54 .W,
 .bs2 54 52 53 56 57 .A .W,
 .ins [115, 105, 100] 54 58 [.A, .W],
 .ld 55 6 .Q,
 .cl 56 57 .B,
 .bs2 57 55 56 60 61 .Q .B,
 .ins [105, 112] 57 62 [.Q, .B],
 .ld 58 6 .Q,
 .cl 59 57 .B,
 .bs2 60 58 59 64 65 .Q .B,
 .ins [109, 112, 108, 115] 60 66 [.Q, .B],
 .m61,
 .m62,
 .lk,
 .asg]
def dstK : K → Option Nat
 | .mk => some 11 | .ld d _ _ => some d | .cl d _ _ => some d | .bs1 d _ _ _ => some d | .bs2 d _ _ _ _ _ _ => some d | .bs3 d _ _ _ _ _ _ _ _ _ => some d
 | .ins _ _ _ _ => none | .m61 => some 61 | .m62 => some 62 | .lk => some 63 | .asg => some 2
def depsK : K → List Nat
 | .mk => [] | .ld _ _ _ => [] | .cl _ _ _ => [] | .bs1 _ _ a _ => [a] | .bs2 _ _ _ a b _ _ => [a, b] | .bs3 _ _ _ _ a b c _ _ _ => [a, b, c]
 | .ins _ _ a _ => [0, a] | .m61 => List.range 68 | .m62 => [] | .lk => [68, 69] | .asg => [70]
def opK : K → Op
 | .mk => .makeMap 112 none
 | .ld _ s _ => .load 88 (.tmp s)
 | .cl _ f _ => .call { callee := .value (.func f), args := #[], argTypes := #[] }
 | .bs1 _ s _ _ => .buildSlice 83 1 #[(0, .tmp s)]
 | .bs2 _ s1 s2 _ _ _ _ => .buildSlice 83 2 #[(0, .tmp s1), (1, .tmp s2)]
 | .bs3 _ s1 s2 s3 _ _ _ _ _ _ => .buildSlice 83 3 #[(0, .tmp s1), (1, .tmp s2), (2, .tmp s3)]
 | .ins x s _ _ => .insert 112 (.tmp 11) (.const (.string (str x))) (.tmp s)
 | .m61 => .move (.tmp 11)
 | .m62 => .move (.tmp 0)
 | .lk => .lookup 112 (.tmp 61) (.tmp 62) false
 | .asg => .assign (.tmp 63)
def OpOK (i : Nat) (k : K) (o : Oper) : Prop := o.guard = none ∧ (o.after.all fun e => decide (e.on < i)) = true ∧ ((depsK k).all fun j => o.after.any fun e => e.on == j && Region.binds .any e) = true ∧ o.dst = dstK k ∧ o.op = opK k
def AllOK : List K → List Oper → Nat → Prop
 | k :: ks, o :: os, i => OpOK i k o ∧ AllOK ks os (i + 1)
 | [], [], _ => True
 | _, _, _ => False
theorem AllOK.len : ∀ {ks : List K} {os : List Oper} {i : Nat}, AllOK ks os i → ks.length = os.length
 | [], [], _, _ => rfl
 | [], _ :: _, _, h => h.elim
 | _ :: _, [], _, h => h.elim
 | k :: ks, o :: os, i, h => by rw [List.length_cons, List.length_cons, AllOK.len h.2]
theorem AllOK.get : ∀ {ks : List K} {os : List Oper} {i : Nat}, AllOK ks os i → ∀ {j : Nat} {o : Oper}, os[j]? = some o → ∃ k, ks[j]? = some k ∧ OpOK (i + j) k o
 | [], [], _, _, j, o, h => by simp at h
 | [], _ :: _, _, h, _, _, _ => h.elim
 | _ :: _, [], _, h, _, _, _ => h.elim
 | k :: ks, o :: os, i, h, 0, q, hq => by
  simp only [List.getElem?_cons_zero, Option.some.injEq] at hq
  subst hq
  exact ⟨k, rfl, h.1⟩
 | k :: ks, o :: os, i, h, j + 1, q, hq => by
  obtain ⟨k', h1, h2⟩ := AllOK.get h.2 (j := j) (o := q) (by simpa using hq)
  exact ⟨k', by simpa using h1, by rw [show i + (j + 1) = i + 1 + j by omega]; exact h2⟩
def srcOK (j s : Nat) (p : Sc.Part) : Bool := match T[j]? with | some (.ld d _ q) => d == s && decide (q = p) | some (.cl d _ q) => d == s && decide (q = p) | _ => false
def sliOK (j s : Nat) (ps : List Sc.Part) : Bool := match T[j]? with | some (.bs1 d _ _ p) => d == s && decide (ps = [p]) | some (.bs2 d _ _ _ _ p1 p2) => d == s && decide (ps = [p1, p2]) | some (.bs3 d _ _ _ _ _ _ p1 p2 p3) => d == s && decide (ps = [p1, p2, p3]) | _ => false
def goodK (i : Nat) : K → Bool
 | .mk => i == 0
 | .ld _ s p => (s == 3 && decide (p = .A)) || (s == 4 && decide (p = .N)) || (s == 5 && decide (p = .O)) || (s == 6 && decide (p = .Q))
 | .cl _ f p => (f == 52 && decide (p = .S)) || (f == 53 && decide (p = .H)) || (f == 54 && decide (p = .W)) || (f == 55 && decide (p = .P)) || (f == 56 && decide (p = .T)) || (f == 57 && decide (p = .B))
 | .bs1 _ s a p => srcOK a s p
 | .bs2 _ s t a b p q => srcOK a s p && srcOK b t q
 | .bs3 _ s t u a b c p q r => srcOK a s p && srcOK b t q && srcOK c u r
 | .ins x s a ps => sliOK a s ps && decide (ps = Sc.partsOf x) && decide (x.length ≤ 1000) && decide (i < 68) && decide (x ∈ allWords)
 | .m61 => i == 68
 | .m62 => i == 69
 | .lk => i == 70
 | .asg => i == 71
def okD (i : Nat) (k : K) : Bool := match dstK k with
 | none => true
 | some d => decide (d < 64) && (d != 0 && d != 3 && d != 4 && d != 5 && d != 6) && (d != 11 || i == 0) && (d != 61 || i == 68)
theorem T_len : T.length = 72 := rfl
theorem T_good : (T.zipIdx.all fun q => goodK q.2 q.1 && okD q.2 q.1) = true := by kernel_rfl
theorem T_dst : ((List.range 72).all fun i => (List.range 72).all fun j => i == j || (match T[i]?, T[j]? with | some a, some b => (match dstK a, dstK b with | some x, some y => x != y | _, _ => true) | _, _ => true)) = true := by kernel_rfl
theorem T_words : (allWords.all fun x => T.any fun k => match k with | .ins y _ _ _ => decide (y = x) | _ => false) = true := by kernel_rfl
theorem good {i : Nat} {k : K} (h : T[i]? = some k) : goodK i k = true ∧ okD i k = true := by
 have h1 := List.all_eq_true.1 T_good (k, i) (List.mem_zipIdx_iff_getElem?.2 h)
 simpa using h1
theorem dst_ne {i j : Nat} {a b : K} {x y : Nat} (h1 : T[i]? = some a) (h2 : T[j]? = some b) (hx : dstK a = some x) (hy : dstK b = some y) (hne : i ≠ j) : x ≠ y := by
 have hi : i < 72 := by have := (List.getElem?_eq_some_iff.1 h1).1; rw [T_len] at this; exact this
 have hj : j < 72 := by have := (List.getElem?_eq_some_iff.1 h2).1; rw [T_len] at this; exact this
 have := List.all_eq_true.1 (List.all_eq_true.1 T_dst i (List.mem_range.2 hi)) j (List.mem_range.2 hj)
 rw [h1, h2] at this
 simp only [hx, hy] at this
 simpa [hne] using this
def PartAt (lo : Nat) (w : World) (v : Value) (p : Sc.Part) : Prop := ∃ vs vr, v = .agg #[vs, vr] ∧ PartV lo w.heap.size w p vs vr
def factV (lo : Nat) (word : Hp.Wd) (k : K) (v : Value) (w : World) : Prop := match k with
 | .ld _ _ p => PartAt lo w v p
 | .cl _ _ p => PartAt lo w v p
 | .bs1 _ _ _ p => PartsAre lo w v [p]
 | .bs2 _ _ _ _ _ p q => PartsAre lo w v [p, q]
 | .bs3 _ _ _ _ _ _ _ p q r => PartsAre lo w v [p, q, r]
 | .m62 => v = .string (str word)
 | .lk => PartsAre lo w v (Sc.partsOf word)
 | .asg => PartsAre lo w v (Sc.partsOf word)
 | _ => True
def Stb (w w' : World) : Prop := Below w.heap.size w w' ∨ ∃ M, Turn M w w'
theorem Stb.agree {lo : Nat} {w w' : World} (h : Stb w w') : Agree lo w.heap.size w w' := by
 rcases h with h | ⟨M, h⟩
 ·exact Agree.of_below h (Nat.le_refl _)
 ·exact h.agree
theorem Stb.size {w w' : World} (h : Stb w w') : w.heap.size ≤ w'.heap.size := by
 rcases h with h | ⟨M, h⟩
 ·exact h.size
 ·exact h.g.size
theorem Stb.parts {lo : Nat} {w w' : World} {v : Value} {ps : List Sc.Part} (h : Stb w w') (hp : PartsAre lo w v ps) : PartsAre lo w' v ps := by
 rcases h with h | ⟨M, h⟩
 ·exact hp.below h
 ·exact hp.turn h
theorem Stb.part {lo : Nat} {w w' : World} {v : Value} {p : Sc.Part} (h : Stb w w') (hp : PartAt lo w v p) : PartAt lo w' v p := by
 obtain ⟨vs, vr, e, hv⟩ := hp
 exact ⟨vs, vr, e, hv.mono h.agree (Nat.le_refl _) h.size⟩
theorem Stb.fact {lo : Nat} {word : Hp.Wd} {k : K} {v : Value} {w w' : World} (h : Stb w w') (hf : factV lo word k v w) : factV lo word k v w' := by
 cases k <;> first | exact h.part hf | exact h.parts hf | exact hf
variable {w0 : World} {word : Hp.Wd} {gA gN gO gQ : Nat} {va ra vn rn vo ro vq rq : Value}
theorem Stb.pb {lo : Nat} {w w' : World} (h : Stb w w') (hp : PB lo w gA gN gO gQ va ra vn rn vo ro vq rq) : PB lo w' gA gN gO gQ va ra vn rn vo ro vq rq := by
 rcases h with h | ⟨M, h⟩
 ·exact hp.below h
 ·exact hp.turn h
def InsL (L : Array Bool) (x : Hp.Wd) : Prop := ∃ i s dp ps, T[i]? = some (.ins x s dp ps) ∧ L.getD i false = true
structure Inv (w0 : World) (word : Hp.Wd) (gA gN gO gQ : Nat) (va ra vn rn vo ro vq rq : Value) (L : Array Bool) (a : Act) (w : World) : Prop where
 sz : L.size = 72
 tz : a.tmps.size = 64
 df : a.defers = []
 t0 : a.tmps.getD 0 undef = .string (str word)
 b3 : a.tmps.getD 3 undef = .pointer (some ⟨gA, 0, none⟩)
 b4 : a.tmps.getD 4 undef = .pointer (some ⟨gN, 0, none⟩)
 b5 : a.tmps.getD 5 undef = .pointer (some ⟨gO, 0, none⟩)
 b6 : a.tmps.getD 6 undef = .pointer (some ⟨gQ, 0, none⟩)
 pb : PB w0.heap.size w gA gN gO gQ va ra vn rn vo ro vq rq
 bel : Below w0.heap.size w0 w
 fv : ∀ i k d, T[i]? = some k → dstK k = some d → L.getD i false = true → factV w0.heap.size word k (a.tmps.getD d undef) w
 mp : L.getD 0 false = true → ∃ M n ks, w0.heap.size ≤ M ∧ a.tmps.getD 11 undef = .map (some M) ∧ MapOf w0.heap.size M w n ks ∧ n + unl L ≤ 72 ∧ (∀ x, x ∈ ks ↔ InsL L x) ∧ (L.getD 68 false = true → a.tmps.getD 61 undef = .map (some M))
 i0 : ∀ i k, T[i]? = some k → 0 ∈ depsK k → L.getD i false = true → L.getD 0 false = true
 all : L.getD 68 false = true → ∀ i, i < 68 → L.getD i false = true
theorem getD_put {a : Act} {d e : Nat} {v : Value} (hd : d < a.tmps.size) : (a.put (some d) v).tmps.getD e undef = if e = d then v else a.tmps.getD e undef := by
 simp only [Act.put, Array.getD_eq_getD_getElem?, Array.getElem?_setIfInBounds]
 by_cases h : e = d
 ·subst h; simp [hd]
 ·rw [if_neg h, if_neg (Ne.symm h)]
theorem insL_set {L : Array Bool} {i : Nat} {k : K} (hk : T[i]? = some k) (hL : i < L.size) (hn : ∀ x s dp ps, k ≠ .ins x s dp ps) (x : Hp.Wd) : InsL (L.setIfInBounds i true) x ↔ InsL L x := by
 constructor
 ·rintro ⟨j, s, dp, ps, h1, h2⟩
  rcases (getD_set_iff hL).1 h2 with rfl | h2
  ·rw [hk] at h1; cases h1; exact absurd rfl (hn x s dp ps)
  ·exact ⟨j, s, dp, ps, h1, h2⟩
 ·rintro ⟨j, s, dp, ps, h1, h2⟩
  exact ⟨j, s, dp, ps, h1, (getD_set_iff hL).2 (Or.inr h2)⟩
section
variable {L : Array Bool} {a : Act} {w w' : World}
theorem Inv.put (h : Inv w0 word gA gN gO gQ va ra vn rn vo ro vq rq L a w) {i : Nat} {k : K} {d : Nat} (hk : T[i]? = some k) (hu : L.getD i true = false) (hd : dstK k = some d) (hmk : k ≠ .mk)
  (hdep : ∀ j ∈ depsK k, L.getD j false = true) {v : Value} (hb : Below w.heap.size w w') (hf : factV w0.heap.size word k v w') (h61 : k = .m61 → v = a.tmps.getD 11 undef) :
  Inv w0 word gA gN gO gQ va ra vn rn vo ro vq rq (L.setIfInBounds i true) (a.put (some d) v) w' := by
 have hi : i < L.size := by
  rcases Nat.lt_or_ge i L.size with h' | h'
  ·exact h'
  ·simp [Array.getD, Nat.not_lt.2 h'] at hu
 obtain ⟨g1, g2⟩ := good hk
 unfold okD at g2
 rw [hd] at g2
 simp only [Bool.and_eq_true, decide_eq_true_eq, bne_iff_ne, ne_eq, Bool.or_eq_true, beq_iff_eq] at g2
 obtain ⟨⟨⟨d64, ⟨⟨⟨⟨d0, d3⟩, d4⟩, d5⟩, d6⟩⟩, d11⟩, d61⟩ := g2
 have hdz : d < a.tmps.size := by rw [h.tz]; exact d64
 have hst : Stb w w' := Or.inl hb
 have hne : ∀ e, e ≠ d → (a.put (some d) v).tmps.getD e undef = a.tmps.getD e undef := fun e he => by rw [getD_put hdz, if_neg he]
 have hi0 : i ≠ 0 ∨ k = .mk := by
  by_cases e : i = 0
  ·subst e; exact Or.inr (by have : T[0]? = some K.mk := rfl; rw [this] at hk; cases hk; rfl)
  ·exact Or.inl e
 have hi0 := hi0.resolve_right hmk
 refine ⟨by simpa using h.sz, by simpa [Act.put] using h.tz, h.df, by rw [hne 0 (Ne.symm d0)]; exact h.t0, by rw [hne 3 (Ne.symm d3)]; exact h.b3, by rw [hne 4 (Ne.symm d4)]; exact h.b4, by rw [hne 5 (Ne.symm d5)]; exact h.b5, by rw [hne 6 (Ne.symm d6)]; exact h.b6,
  hst.pb h.pb, h.bel.trans (hb.mono h.bel.size), fun j k' d' hk' hd' hL' => ?_, fun hL0 => ?_, fun j k' hk' h0 hL' => ?_, fun hL68 j hj => ?_⟩
 ·by_cases e : j = i
  ·subst e
   rw [hk] at hk'; cases hk'
   rw [hd] at hd'; cases hd'
   rw [getD_put hdz, if_pos rfl]
   exact hf
  ·rcases (getD_set_iff hi).1 hL' with h1 | h1
   ·exact absurd h1 e
   ·rw [hne d' (dst_ne hk' hk hd' hd e)]
    exact hst.fact (h.fv j k' d' hk' hd' h1)
 ·rcases (getD_set_iff hi).1 hL0 with h1 | h1
  ·exact absurd h1.symm hi0
  ·obtain ⟨M, n, ks, m1, m2, m3, m4, m5, m6⟩ := h.mp h1
   have hnI : ∀ x s dp ps, k ≠ .ins x s dp ps := fun x s dp ps e => by subst e; cases hd
   refine ⟨M, n, ks, m1, by rw [hne 11 (fun e => by rcases d11 with d11 | d11; exact d11 e.symm; exact hi0 d11)]; exact m2, m3.below hb, by have := unl_set hu; omega, fun x => (m5 x).trans (insL_set hk hi hnI x).symm, fun h68 => ?_⟩
   rcases (getD_set_iff hi).1 h68 with e | e
   ·have hk68 : k = .m61 := by subst e; have : T[68]? = some K.m61 := rfl; rw [this] at hk; cases hk; rfl
    subst hk68
    cases hd
    rw [getD_put hdz, if_pos rfl, h61 rfl, m2]
   ·by_cases e2 : 61 = d
    ·rcases d61 with d61 | d61
     ·exact absurd e2.symm d61
     ·subst d61
      have : L.getD 68 true = true := by
       have h9 := h.sz
       simp [Array.getD, h9] at e ⊢; exact e
      rw [this] at hu; cases hu
    ·rw [hne 61 e2]; exact m6 e
 ·rcases (getD_set_iff hi).1 hL' with h1 | h1
  ·subst h1
   rw [hk] at hk'; cases hk'
   exact (getD_set_iff hi).2 (Or.inr (hdep 0 h0))
  ·exact (getD_set_iff hi).2 (Or.inr (h.i0 j k' hk' h0 h1))
 ·rcases (getD_set_iff hi).1 hL68 with h1 | h1
  ·have hk68 : k = .m61 := by subst h1; have : T[68]? = some K.m61 := rfl; rw [this] at hk; cases hk; rfl
   subst hk68
   exact (getD_set_iff hi).2 (Or.inr (hdep j (List.mem_range.2 hj)))
  ·exact (getD_set_iff hi).2 (Or.inr (h.all h1 j hj))
theorem Inv.made (h : Inv w0 word gA gN gO gQ va ra vn rn vo ro vq rq L a w) (hu : L.getD 0 true = false) (hM : MapOf w0.heap.size w.heap.size (w.alloc (.map #[] 0)) 0 []) :
  Inv w0 word gA gN gO gQ va ra vn rn vo ro vq rq (L.setIfInBounds 0 true) (a.put (some 11) (.map (some w.heap.size))) (w.alloc (.map #[] 0)) := by
 have hi : 0 < L.size := by rw [h.sz]; decide
 have hdz : 11 < a.tmps.size := by rw [h.tz]; decide
 have hb := belowA w (.map #[] 0)
 have hst : Stb w (w.alloc (.map #[] 0)) := Or.inl hb
 have hne : ∀ e, e ≠ 11 → (a.put (some 11) (.map (some w.heap.size))).tmps.getD e undef = a.tmps.getD e undef := fun e he => by rw [getD_put hdz, if_neg he]
 have hf0 : L.getD 0 false = false := by
  simp [Array.getD, hi] at hu ⊢; exact hu
 refine ⟨by simpa using h.sz, by simpa [Act.put] using h.tz, h.df, by rw [hne 0 (by decide)]; exact h.t0, by rw [hne 3 (by decide)]; exact h.b3, by rw [hne 4 (by decide)]; exact h.b4, by rw [hne 5 (by decide)]; exact h.b5, by rw [hne 6 (by decide)]; exact h.b6,
  hst.pb h.pb, h.bel.trans (hb.mono h.bel.size), fun j k' d' hk' hd' hL' => ?_, fun _ => ?_, fun j k' hk' h0 hL' => (getD_set_iff hi).2 (Or.inl rfl), fun hL68 j hj => ?_⟩
 ·by_cases e : j = 0
  ·subst e
   have : T[0]? = some K.mk := rfl
   rw [this] at hk'; cases hk'
   trivial
  ·rcases (getD_set_iff hi).1 hL' with h1 | h1
   ·exact absurd h1 e
   ·rw [hne d' (dst_ne (b := .mk) (y := 11) hk' rfl hd' rfl e)]
    exact hst.fact (h.fv j k' d' hk' hd' h1)
 ·refine ⟨w.heap.size, 0, [], h.bel.size, by rw [getD_put hdz, if_pos rfl], hM, ?_, fun x => ⟨(fun hx => by cases hx), fun hx => ?_⟩, fun h68 => ?_⟩
  ·have := unl_set hu
   have h9 : unl L ≤ 72 := by
    unfold unl
    have := List.count_le_length (a := false) (l := L.toList)
    rw [Array.length_toList, h.sz] at this
    exact this
   omega
  ·obtain ⟨j, s, dp, ps, h1, h2⟩ := hx
   rcases (getD_set_iff hi).1 h2 with rfl | h2
   ·cases h1
   ·have := h.i0 j _ h1 (by simp [depsK]) h2
    rw [hf0] at this; cases this
  ·rcases (getD_set_iff hi).1 h68 with e | e
   ·cases e
   ·have := h.all e 0 (by decide)
    rw [hf0] at this; cases this
 ·rcases (getD_set_iff hi).1 hL68 with e | e
  ·cases e
  ·exact (getD_set_iff hi).2 (Or.inr (h.all e j hj))
theorem Inv.insd (h : Inv w0 word gA gN gO gQ va ra vn rn vo ro vq rq L a w) {i : Nat} {x : Hp.Wd} {s dp : Nat} {ps : List Sc.Part} (hk : T[i]? = some (.ins x s dp ps)) (hu : L.getD i true = false) (h0 : L.getD 0 false = true) {M n : Nat} {ks : List Hp.Wd}
  (m1 : w0.heap.size ≤ M) (m2 : a.tmps.getD 11 undef = .map (some M)) (m4 : n + unl L ≤ 72) (m5 : ∀ y, y ∈ ks ↔ InsL L y) (m6 : L.getD 68 false = true → a.tmps.getD 61 undef = .map (some M))
  (hM : MapOf w0.heap.size M w' (n + 1) (ks ++ [x])) (ht : Turn M w w') :
  Inv w0 word gA gN gO gQ va ra vn rn vo ro vq rq (L.setIfInBounds i true) a w' := by
 have hi : i < L.size := by
  rcases Nat.lt_or_ge i L.size with h' | h'
  ·exact h'
  ·simp [Array.getD, Nat.not_lt.2 h'] at hu
 have hi68 : i < 68 := by
  have := (good hk).1
  simp only [goodK, Bool.and_eq_true, decide_eq_true_eq] at this
  exact this.1.2
 have hst : Stb w w' := Or.inr ⟨M, ht⟩
 refine ⟨by simpa using h.sz, h.tz, h.df, h.t0, h.b3, h.b4, h.b5, h.b6, hst.pb h.pb, h.bel.trans (grown_Below ht.g h.bel.size m1), fun j k' d' hk' hd' hL' => ?_, fun _ => ?_, fun j k' hk' h9 hL' => (getD_set_iff hi).2 (Or.inr h0), fun hL68 j hj => ?_⟩
 ·rcases (getD_set_iff hi).1 hL' with rfl | h1
  ·rw [hk] at hk'; cases hk'; cases hd'
  ·exact hst.fact (h.fv j k' d' hk' hd' h1)
 ·refine ⟨M, n + 1, ks ++ [x], m1, m2, hM, by have := unl_set hu; omega, fun y => ?_, fun h68 => ?_⟩
  ·rw [List.mem_append, m5 y]
   constructor
   ·rintro (⟨j, s', dp', ps', h1, h2⟩ | hy)
    ·exact ⟨j, s', dp', ps', h1, (getD_set_iff hi).2 (Or.inr h2)⟩
    ·obtain rfl : y = x := by simpa using hy
     exact ⟨i, s, dp, ps, hk, (getD_set_iff hi).2 (Or.inl rfl)⟩
   ·rintro ⟨j, s', dp', ps', h1, h2⟩
    rcases (getD_set_iff hi).1 h2 with rfl | h2
    ·rw [hk] at h1; cases h1; exact Or.inr (by simp)
    ·exact Or.inl ⟨j, s', dp', ps', h1, h2⟩
  ·rcases (getD_set_iff hi).1 h68 with e | e
   ·omega
   ·exact m6 e
 ·rcases (getD_set_iff hi).1 hL68 with e | e
  ·omega
  ·exact (getD_set_iff hi).2 (Or.inr (h.all e j hj))
theorem src_fact (h : Inv w0 word gA gN gO gQ va ra vn rn vo ro vq rq L a w) {j s : Nat} {p : Sc.Part} (hs : srcOK j s p = true) (hL : L.getD j false = true) : PartAt w0.heap.size w (a.eval (.tmp s)) p := by
 unfold srcOK at hs
 split at hs
 ·rename_i d s' q e
  simp only [Bool.and_eq_true, beq_iff_eq, decide_eq_true_eq] at hs
  obtain ⟨rfl, rfl⟩ := hs
  exact h.fv j _ d e rfl hL
 ·rename_i d f q e
  simp only [Bool.and_eq_true, beq_iff_eq, decide_eq_true_eq] at hs
  obtain ⟨rfl, rfl⟩ := hs
  exact h.fv j _ d e rfl hL
 ·cases hs
theorem sli_fact (h : Inv w0 word gA gN gO gQ va ra vn rn vo ro vq rq L a w) {j s : Nat} {ps : List Sc.Part} (hs : sliOK j s ps = true) (hL : L.getD j false = true) : PartsAre w0.heap.size w (a.eval (.tmp s)) ps := by
 unfold sliOK at hs
 split at hs
 ·rename_i d _ _ q e
  simp only [Bool.and_eq_true, beq_iff_eq, decide_eq_true_eq] at hs
  obtain ⟨rfl, rfl⟩ := hs
  exact h.fv j _ d e rfl hL
 ·rename_i d _ _ _ _ q1 q2 e
  simp only [Bool.and_eq_true, beq_iff_eq, decide_eq_true_eq] at hs
  obtain ⟨rfl, rfl⟩ := hs
  exact h.fv j _ d e rfl hL
 ·rename_i d _ _ _ _ _ _ q1 q2 q3 e
  simp only [Bool.and_eq_true, beq_iff_eq, decide_eq_true_eq] at hs
  obtain ⟨rfl, rfl⟩ := hs
  exact h.fv j _ d e rfl hL
 ·cases hs
theorem bs_run1 (v : Value) (vs vr : Value) (hv : v = .agg #[vs, vr]) (w : World) : (Instr.buildSlice 83 1 #[(0, v)]).run Tryz.prog w = .ok (.slice (some ⟨w.heap.size, 0, none⟩) 1 1) (w.alloc (.cells #[vs, vr] 88)) := by
 subst hv
 simp [Instr.buildSlice, Instr.fill, Value.cells, newRow, go_sem, Tryz.underlying83, Tryz.sizeOf88, Tryz.zeroValue88, Result.andThen]
theorem bs_run2 (v1 v2 : Value) (a1 b1 a2 b2 : Value) (h1 : v1 = .agg #[a1, b1]) (h2 : v2 = .agg #[a2, b2]) (w : World) : (Instr.buildSlice 83 2 #[(0, v1), (1, v2)]).run Tryz.prog w = .ok (.slice (some ⟨w.heap.size, 0, none⟩) 2 2) (w.alloc (.cells #[a1, b1, a2, b2] 88)) := by
 subst h1 h2
 simp [Instr.buildSlice, Instr.fill, Value.cells, newRow, go_sem, Tryz.underlying83, Tryz.sizeOf88, Tryz.zeroValue88, Result.andThen]
theorem bs_run3 (v1 v2 v3 : Value) (a1 b1 a2 b2 a3 b3 : Value) (h1 : v1 = .agg #[a1, b1]) (h2 : v2 = .agg #[a2, b2]) (h3 : v3 = .agg #[a3, b3]) (w : World) : (Instr.buildSlice 83 3 #[(0, v1), (1, v2), (2, v3)]).run Tryz.prog w = .ok (.slice (some ⟨w.heap.size, 0, none⟩) 3 3) (w.alloc (.cells #[a1, b1, a2, b2, a3, b3] 88)) := by
 subst h1 h2 h3
 simp [Instr.buildSlice, Instr.fill, Value.cells, newRow, go_sem, Tryz.underlying83, Tryz.sizeOf88, Tryz.zeroValue88, Result.andThen]
theorem wp_bs {o : Oper} {n : Nat} {parts : Array (Nat × Operand)} {v : Value} {w1 : World} {Q : Exit → Act → World → Prop} {K : Act → World → Prop} (hop : o.op = .buildSlice 83 n parts)
  (hr : (Instr.buildSlice 83 n (parts.map fun (i, x) => (i, a.eval x))).run Tryz.prog w = .ok v w1) (hK : K (a.put o.dst v) w1) : o.wp Tryz.prog a w K Q := by
 unfold Oper.wp
 simp only [execOp, hop, Sem.run_bind, hr, Result.andThen_ok, Sem.run_pure]
 exact hK
theorem wp_cl {o : Oper} {f : Nat} {p : Sc.Part} {Q : Exit → Act → World → Prop} {K : Act → World → Prop} (hop : o.op = .call { callee := .value (.func f), args := #[], argTypes := #[] })
  (he : Ent f) (hc : Calls Tryz.prog f #[] w (RetPart p w)) (hK : ∀ v w', PartAt w.heap.size w' v p → Below w.heap.size w w' → K (a.put o.dst v) w') : o.wp Tryz.prog a w K Q := by
 have hr : (execOp a.eval o).run Tryz.prog w = .ok (.enter f #[]) w := by
  unfold Ent at he
  simp [execOp, hop, resolve, go_sem, he]
 unfold Oper.wp
 rw [hr, Oper.upon_enter]
 refine hc.mono ?_
 rintro e w' ⟨vs, vr, rfl, hv, hb⟩
 exact hK _ _ ⟨vs, vr, rfl, hv⟩ hb
theorem wp_mv {o : Oper} {x : Operand} {Q : Exit → Act → World → Prop} {K : Act → World → Prop} (hop : o.op = .move x) (hK : K (a.put o.dst (a.eval x)) w) : o.wp Tryz.prog a w K Q := by
 unfold Oper.wp
 simp only [execOp, hop]
 exact hK
theorem wp_as {o : Oper} {x : Operand} {Q : Exit → Act → World → Prop} {K : Act → World → Prop} (hop : o.op = .assign x) (hK : K (a.put o.dst (a.eval x)) w) : o.wp Tryz.prog a w K Q := by
 unfold Oper.wp
 simp only [execOp, hop]
 exact hK
theorem wp_ld {o : Oper} {s g : Nat} {vs vr : Value} {Q : Exit → Act → World → Prop} {K : Act → World → Prop} (hop : o.op = .load 88 (.tmp s)) (hx : a.eval (.tmp s) = .pointer (some ⟨g, 0, none⟩)) (hb : Blk w g 88 #[vs, vr])
  (hK : K (a.put o.dst (.agg #[vs, vr])) w) : o.wp Tryz.prog a w K Q :=
 wp_load_row _ _ hop g hx _ _ (0, 0) _ hb Tryz.underlying88 rfl infoPt hK
theorem Inv.step (h : Inv w0 word gA gN gO gQ va ra vn rn vo ro vq rq L a w) (hw : word.length ≤ 1073741824) {ops : Array Oper} {Q : Exit → Act → World → Prop} {i : Nat} {o : Oper} {k : K} (hk : T[i]? = some k) (ho : ops[i]? = some o) (hok : OpOK i k o) (hu : L.getD i true = false)
  (hdep : ∀ e ∈ o.after, Region.binds .any e = true → L.getD e.on false = true) : wpOp Tryz.prog ops Q i (fun a' w' => Inv w0 word gA gN gO gQ va ra vn rn vo ro vq rq (L.setIfInBounds i true) a' w') a w := by
 obtain ⟨hg, -, hd, hdst, hop⟩ := hok
 refine wpOp_plain ho hg ?_
 have hdeps : ∀ j ∈ depsK k, L.getD j false = true := fun j hj => by
  have := List.all_eq_true.1 hd j hj
  obtain ⟨q, hq, hb⟩ := Array.any_eq_true.1 this
  simp only [Bool.and_eq_true, beq_iff_eq] at hb
  rw [← hb.1]
  exact hdep _ (Array.getElem_mem hq) hb.2
 have hgood := (good hk).1
 cases k with
 | mk =>
  have hi0 : i = 0 := by simpa [goodK] using hgood
  subst hi0
  refine wp_mk w0.heap.size hop fun hM => ?_
  rw [hdst]
  exact h.made hu hM
 | ld d s p =>
  simp only [goodK, Bool.or_eq_true, Bool.and_eq_true, beq_iff_eq, decide_eq_true_eq] at hgood
  rcases hgood with ((⟨rfl, rfl⟩ | ⟨rfl, rfl⟩) | ⟨rfl, rfl⟩) | ⟨rfl, rfl⟩
  ·exact wp_ld hop h.b3 h.pb.bA (by rw [hdst]; exact h.put hk hu rfl (by simp) hdeps (Below.refl _ _) ⟨_, _, rfl, h.pb.A⟩ (by simp))
  ·exact wp_ld hop h.b4 h.pb.bN (by rw [hdst]; exact h.put hk hu rfl (by simp) hdeps (Below.refl _ _) ⟨_, _, rfl, h.pb.N⟩ (by simp))
  ·exact wp_ld hop h.b5 h.pb.bO (by rw [hdst]; exact h.put hk hu rfl (by simp) hdeps (Below.refl _ _) ⟨_, _, rfl, h.pb.O⟩ (by simp))
  ·exact wp_ld hop h.b6 h.pb.bQ (by rw [hdst]; exact h.put hk hu rfl (by simp) hdeps (Below.refl _ _) ⟨_, _, rfl, h.pb.Q⟩ (by simp))
 | cl d f p =>
  simp only [goodK, Bool.or_eq_true, Bool.and_eq_true, beq_iff_eq, decide_eq_true_eq] at hgood
  have hc : Ent f ∧ Calls Tryz.prog f #[] w (RetPart p w) := by
   rcases hgood with ((((⟨rfl, rfl⟩ | ⟨rfl, rfl⟩) | ⟨rfl, rfl⟩) | ⟨rfl, rfl⟩) | ⟨rfl, rfl⟩) | ⟨rfl, rfl⟩
   ·exact ⟨enters_of Tryz.func52 (by kernel_rfl) rfl, scr_spans w⟩
   ·exact ⟨enters_of Tryz.func53 (by kernel_rfl) rfl, scr_hops w⟩
   ·exact ⟨enters_of Tryz.func54 (by kernel_rfl) rfl, scr_ways w⟩
   ·exact ⟨enters_of Tryz.func55 (by kernel_rfl) rfl, scr_prefixes w⟩
   ·exact ⟨enters_of Tryz.func56 (by kernel_rfl) rfl, scr_texts w⟩
   ·exact ⟨enters_of Tryz.func57 (by kernel_rfl) rfl, scr_packets w⟩
  refine wp_cl hop hc.1 hc.2 fun v w' hv hb => ?_
  rw [hdst]
  obtain ⟨vs, vr, e, hp⟩ := hv
  exact h.put hk hu rfl (by simp) hdeps hb ⟨vs, vr, e, hp.lower h.bel.size⟩ (by simp)
 | bs1 d s dp p =>
  simp only [goodK] at hgood
  obtain ⟨vs, vr, e, hp⟩ := src_fact h hgood (hdeps dp (by simp [depsK]))
  have hb := belowA w (.cells #[vs, vr] 88)
  refine wp_bs (v := .slice (some ⟨w.heap.size, 0, none⟩) 1 1) (w1 := w.alloc (.cells #[vs, vr] 88)) hop (by simp only [List.map_toArray, List.map_cons, List.map_nil]; exact bs_run1 _ vs vr e w) ?_
  rw [hdst]
  exact h.put hk hu rfl (by simp) hdeps hb (lit_parts (ps := [p]) (rows := [(vs, vr)]) ⟨hp, trivial⟩ h.bel.size (by simp) _ _ rfl) (by simp)
 | bs2 d s t a1 a2 p q =>
  simp only [goodK, Bool.and_eq_true] at hgood
  obtain ⟨vs, vr, e, hp⟩ := src_fact h hgood.1 (hdeps a1 (by simp [depsK]))
  obtain ⟨vt, vu, e2, hp2⟩ := src_fact h hgood.2 (hdeps a2 (by simp [depsK]))
  have hb := belowA w (.cells #[vs, vr, vt, vu] 88)
  refine wp_bs (v := .slice (some ⟨w.heap.size, 0, none⟩) 2 2) (w1 := w.alloc (.cells #[vs, vr, vt, vu] 88)) hop (by simp only [List.map_toArray, List.map_cons, List.map_nil]; exact bs_run2 _ _ vs vr vt vu e e2 w) ?_
  rw [hdst]
  exact h.put hk hu rfl (by simp) hdeps hb (lit_parts (ps := [p, q]) (rows := [(vs, vr), (vt, vu)]) ⟨hp, hp2, trivial⟩ h.bel.size (by simp) _ _ rfl) (by simp)
 | bs3 d s t u a1 a2 a3 p q r =>
  simp only [goodK, Bool.and_eq_true] at hgood
  obtain ⟨vs, vr, e, hp⟩ := src_fact h hgood.1.1 (hdeps a1 (by simp [depsK]))
  obtain ⟨vt, vu, e2, hp2⟩ := src_fact h hgood.1.2 (hdeps a2 (by simp [depsK]))
  obtain ⟨vx, vy, e3, hp3⟩ := src_fact h hgood.2 (hdeps a3 (by simp [depsK]))
  have hb := belowA w (.cells #[vs, vr, vt, vu, vx, vy] 88)
  refine wp_bs (v := .slice (some ⟨w.heap.size, 0, none⟩) 3 3) (w1 := w.alloc (.cells #[vs, vr, vt, vu, vx, vy] 88)) hop (by simp only [List.map_toArray, List.map_cons, List.map_nil]; exact bs_run3 _ _ _ vs vr vt vu vx vy e e2 e3 w) ?_
  rw [hdst]
  exact h.put hk hu rfl (by simp) hdeps hb (lit_parts (ps := [p, q, r]) (rows := [(vs, vr), (vt, vu), (vx, vy)]) ⟨hp, hp2, hp3, trivial⟩ h.bel.size (by simp) _ _ rfl) (by simp)
 | ins x s dp ps =>
  simp only [goodK, Bool.and_eq_true, decide_eq_true_eq] at hgood
  obtain ⟨⟨⟨⟨g1, g2⟩, g3⟩, g4⟩, g5⟩ := hgood
  have h0 := hdeps 0 (by simp [depsK])
  have hv := sli_fact h g1 (hdeps dp (by simp [depsK]))
  rw [g2] at hv
  obtain ⟨M, n, ks, m1, m2, m3, m4, m5, m6⟩ := h.mp h0
  refine wp_ins _ _ _ hop m2 x rfl _ rfl m3 (by omega) g3 hv fun w' hM ht => ?_
  rw [hdst]
  exact h.insd hk hu h0 m1 m2 m4 m5 m6 hM ht
 | m61 =>
  refine wp_mv hop ?_
  rw [hdst]
  exact h.put hk hu rfl (by simp) hdeps (Below.refl _ _) trivial (fun _ => rfl)
 | m62 =>
  refine wp_mv hop ?_
  rw [hdst]
  exact h.put hk hu rfl (by simp) hdeps (Below.refl _ _) h.t0 (by simp)
 | lk =>
  have h68 := hdeps 68 (by simp [depsK])
  have h69 := hdeps 69 (by simp [depsK])
  have hall := h.all h68
  obtain ⟨M, n, ks, m1, m2, m3, m4, m5, m6⟩ := h.mp (hall 0 (by decide))
  have hwd : a.eval (.tmp 62) = .string (str word) := h.fv 69 .m62 62 rfl rfl h69
  refine wp_look _ _ hop (m6 h68) word hwd m3 hw (fun hn => no_parts fun hm => hn ((m5 word).2 ?_)) fun vv hvv => ?_
  ·have := List.all_eq_true.1 T_words word hm
   rw [List.any_eq_true] at this
   obtain ⟨k, hkm, hk2⟩ := this
   obtain ⟨j, hj⟩ := List.getElem?_of_mem hkm
   split at hk2
   ·rename_i y s dp ps
    have hy : y = word := by simpa using hk2
    subst hy
    have hj68 : j < 68 := by
     have := (good hj).1
     simp only [goodK, Bool.and_eq_true, decide_eq_true_eq] at this
     exact this.1.2
    exact ⟨j, s, dp, ps, hj, hall j hj68⟩
   ·cases hk2
  ·rw [hdst]
   exact h.put hk hu rfl (by simp) hdeps (Below.refl _ _) hvv (by simp)
 | asg =>
  have h70 := hdeps 70 (by simp [depsK])
  refine wp_as hop ?_
  rw [hdst]
  exact h.put hk hu rfl (by simp) hdeps (Below.refl _ _) (h.fv 70 .lk 63 rfl rfl h70) (by simp)
theorem region {ops : Array Oper} {Q : Exit → Act → World → Prop} {id : Nat} (hall : AllOK T ops.toList 0) (hw : word.length ≤ 1073741824) (tz : a.tmps.size = 64) (df : a.defers = []) (t0 : a.tmps.getD 0 undef = .string (str word))
  (b3 : a.tmps.getD 3 undef = .pointer (some ⟨gA, 0, none⟩)) (b4 : a.tmps.getD 4 undef = .pointer (some ⟨gN, 0, none⟩)) (b5 : a.tmps.getD 5 undef = .pointer (some ⟨gO, 0, none⟩)) (b6 : a.tmps.getD 6 undef = .pointer (some ⟨gQ, 0, none⟩))
  (pb : PB w0.heap.size w gA gN gO gQ va ra vn rn vo ro vq rq) (bel : Below w0.heap.size w0 w)
  (hQ : ∀ a' w', a'.tmps.size = 64 → a'.defers = [] → PartsAre w0.heap.size w' (a'.tmps.getD 2 undef) (Sc.partsOf word) → Below w0.heap.size w0 w' → Q .normal a' w') : (Code.region id ops true).wp Tryz.prog Q a w := by
 have hlen : ops.size = 72 := by have := hall.len; rw [T_len] at this; simpa using this.symm
 have hget : ∀ (i : Nat) (o : Oper), ops[i]? = some o → ∃ k, T[i]? = some k ∧ OpOK i k o := fun i o ho => by
  obtain ⟨k, h1, h2⟩ := hall.get (j := i) (o := o) (by simpa using ho)
  exact ⟨k, h1, by simpa using h2⟩
 have hno : ∀ i, (Array.replicate ops.size false).getD i false = false := fun i => by
  simp [Array.getD]
 refine wp_region_inv (by kernel_rfl) (Inv w0 word gA gN gO gQ va ra vn rn vo ro vq rq) (fun i o ho e he => ?_) (fun L a w h => by rw [h.sz, hlen]) (fun L a w i o h ho hu hd => ?_) (fun L a w h hl => ?_) ?_
 ·obtain ⟨k, h1, h2⟩ := hget i o ho
  have := h2.2.1
  rw [Array.all_eq_true_iff_forall_mem] at this
  simpa using this e he
 ·obtain ⟨k, h1, h2⟩ := hget i o ho
  exact h.step hw h1 ho h2 hu hd
 ·exact hQ a w h.tz h.df (h.fv 71 .asg 2 rfl rfl (hl 71 (by rw [hlen]; decide))) h.bel
 ·have hb := (Below.refl w.heap.size w).drew
  exact ⟨by simp [hlen], tz, df, t0, b3, b4, b5, b6, pb.below hb, bel.trans (hb.mono bel.size), (fun i k d _ _ hL => by rw [hno] at hL; cases hL), (fun hL => by rw [hno] at hL; cases hL), (fun i k _ _ hL => by rw [hno] at hL; cases hL), (fun hL => by rw [hno] at hL; cases hL)⟩
end
end Pt
open Pt in
theorem scr_parts (word : Hp.Wd) (hw : word.length ≤ 1073741824) (w : World) :
  Calls Tryz.prog 25 #[.string (str word)] w fun e w' => ∃ v, e = .returned v ∧ Below w.heap.size w w' ∧ PartsAre w.heap.size w' v (Sc.partsOf word) := by
 have HCA := qh fun W => scr_numberOf numA W
 have HCN := qh fun W => scr_numberOf numN W
 have HCO := qh fun W => scr_numberOf numO W
 have HCQ := qh fun W => scr_numberOf numQ W
 go_enter Tryz.func25, Tryz.ntmps25
 go_wp2_with fail
 refine (HCA.out _).mono ?_
 rintro e w1 ⟨vA, rA, rfl, hA, hb1⟩
 obtain ⟨fA, gA, cfA, cgA, rfl, rfl, -⟩ := id hA
 have HB1 := qh hb1
 have hpA1 := PartV.lower (lo' := w.heap.size) hA (by exact Nat.le_refl _)
 go_wp2_with (refine wpList_store_new rfl _ _ _ rfl #[.func (.func fA) #[] cfA, .func (.func gA) #[] cgA] rfl rfl _ _ infoPt rfl (oneF2 _ _ _ _ _ _) ?_)
 refine (HCN.out _).mono ?_
 rintro e w2 ⟨vN, rN, rfl, hN, hb2⟩
 obtain ⟨fN, gN, cfN, cgN, rfl, rfl, -⟩ := id hN
 have HB2 := qh ((HB1.out.alloc HB1.out.size (.cells #[.func (.func fA) #[] cfA, .func (.func gA) #[] cgA] 88)).trans (hb2.mono (by have := HB1.out.size; simp; omega)))
 have hkA2 := (Blk.new w1 88 #[.func (.func fA) #[] cfA, .func (.func gA) #[] cgA]).below hb2 (by simp)
 have hpA2 := (hpA1.next (belowA w1 (.cells #[.func (.func fA) #[] cfA, .func (.func gA) #[] cgA] 88))).next hb2
 have hpN2 := PartV.lower (lo' := w.heap.size) hN (by have := HB1.out.size; simp; omega)
 go_wp2_with (refine wpList_store_new rfl _ _ _ rfl #[.func (.func fN) #[] cfN, .func (.func gN) #[] cgN] rfl rfl _ _ infoPt rfl (oneF2 _ _ _ _ _ _) ?_)
 refine (HCO.out _).mono ?_
 rintro e w3 ⟨vO, rO, rfl, hO, hb3⟩
 obtain ⟨fO, gO, cfO, cgO, rfl, rfl, -⟩ := id hO
 have HB3 := qh ((HB2.out.alloc HB2.out.size (.cells #[.func (.func fN) #[] cfN, .func (.func gN) #[] cgN] 88)).trans (hb3.mono (by have := HB2.out.size; simp; omega)))
 have hkA3 := (hkA2.alloc (.cells #[.func (.func fN) #[] cfN, .func (.func gN) #[] cgN] 88)).below hb3 (by have := hkA2.lt; simp; omega)
 have hpA3 := (hpA2.next (belowA w2 (.cells #[.func (.func fN) #[] cfN, .func (.func gN) #[] cgN] 88))).next hb3
 have hkN3 := (Blk.new w2 88 #[.func (.func fN) #[] cfN, .func (.func gN) #[] cgN]).below hb3 (by simp)
 have hpN3 := (hpN2.next (belowA w2 (.cells #[.func (.func fN) #[] cfN, .func (.func gN) #[] cgN] 88))).next hb3
 have hpO3 := PartV.lower (lo' := w.heap.size) hO (by have := HB2.out.size; simp; omega)
 go_wp2_with (refine wpList_store_new rfl _ _ _ rfl #[.func (.func fO) #[] cfO, .func (.func gO) #[] cgO] rfl rfl _ _ infoPt rfl (oneF2 _ _ _ _ _ _) ?_)
 refine (HCQ.out _).mono ?_
 rintro e w4 ⟨vQ, rQ, rfl, hQ, hb4⟩
 obtain ⟨fQ, gQ, cfQ, cgQ, rfl, rfl, -⟩ := id hQ
 have HB4 := qh ((HB3.out.alloc HB3.out.size (.cells #[.func (.func fO) #[] cfO, .func (.func gO) #[] cgO] 88)).trans (hb4.mono (by have := HB3.out.size; simp; omega)))
 have hkA4 := (hkA3.alloc (.cells #[.func (.func fO) #[] cfO, .func (.func gO) #[] cgO] 88)).below hb4 (by have := hkA3.lt; simp; omega)
 have hpA4 := (hpA3.next (belowA w3 (.cells #[.func (.func fO) #[] cfO, .func (.func gO) #[] cgO] 88))).next hb4
 have hkN4 := (hkN3.alloc (.cells #[.func (.func fO) #[] cfO, .func (.func gO) #[] cgO] 88)).below hb4 (by have := hkN3.lt; simp; omega)
 have hpN4 := (hpN3.next (belowA w3 (.cells #[.func (.func fO) #[] cfO, .func (.func gO) #[] cgO] 88))).next hb4
 have hkO4 := (Blk.new w3 88 #[.func (.func fO) #[] cfO, .func (.func gO) #[] cgO]).below hb4 (by simp)
 have hpO4 := (hpO3.next (belowA w3 (.cells #[.func (.func fO) #[] cfO, .func (.func gO) #[] cgO] 88))).next hb4
 have hpQ4 := PartV.lower (lo' := w.heap.size) hQ (by have := HB3.out.size; simp; omega)
 have HPB : Hid (PB w.heap.size (w4.alloc (.cells #[.func (.func fQ) #[] cfQ, .func (.func gQ) #[] cgQ] 88)) w1.heap.size w2.heap.size w3.heap.size w4.heap.size (.func (.func fA) #[] cfA) (.func (.func gA) #[] cgA) (.func (.func fN) #[] cfN) (.func (.func gN) #[] cgN) (.func (.func fO) #[] cfO) (.func (.func gO) #[] cgO) (.func (.func fQ) #[] cfQ) (.func (.func gQ) #[] cgQ)) := qh ⟨hkA4.alloc _, hkN4.alloc _, hkO4.alloc _, Blk.new _ _ _, hpA4.next (belowA _ _), hpN4.next (belowA _ _), hpO4.next (belowA _ _), hpQ4.next (belowA _ _)⟩
 have HB5 : Hid (Below w.heap.size w (w4.alloc (.cells #[.func (.func fQ) #[] cfQ, .func (.func gQ) #[] cgQ] 88))) := qh (HB4.out.alloc HB4.out.size _)
 clear hkA2 hkA3 hkN3 hkA4 hkN4 hkO4 hpA1 hpA2 hpN2 hpA3 hpN3 hpO3 hpA4 hpN4 hpO4 hpQ4 hb1 hb2 hb3 hb4 HB1 HB2 HB3 HB4 hA hN hO hQ
 go_wp2_with (refine wpList_store_new rfl _ _ _ rfl #[.func (.func fQ) #[] cfQ, .func (.func gQ) #[] cgQ] rfl rfl _ _ infoPt rfl (oneF2 _ _ _ _ _ _) ?_)
 refine Pt.region (word := word) ?_ hw rfl rfl rfl rfl rfl rfl rfl HPB.out HB5.out ?_
 ·repeat (first | exact trivial | refine ⟨⟨rfl, by kernel_rfl, by kernel_rfl, rfl, rfl⟩, ?_⟩)
 ·intro a' w' h1 h2 h3 h4
  go_wp2_with fail
  exact bodyPost_ret (v := a'.tmps.getD 2 undef) (by simp [results, Tryz.results25, go_sem]) h2 ⟨_, rfl, h4, h3⟩
end Go.Proofs.YtdbgeobolongmaaGreatDoor
