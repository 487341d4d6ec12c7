/- slots.find: a range over the places of a label. -/
import Derived.Test.YtcioiiobjfblbaaRangeOn
import Derived.Test.YtcioiiobjfblbaaSlotsPlain
import Derived.Laws.BitsLemmas
import Derived.WalkMore
namespace Go.Proofs.Ytcioiiobjfblbaa
set_option linter.unusedVariables false
set_option linter.unusedSimpArgs false
open Go.RowKit Go.Shelf Go.Proofs
attribute [local go_sem] Oper.semAt_some

def encSlt (x : Sl.Slt) : List Value := [.int .i64 x.1, .int .i64 x.2.1, .int .i64 x.2.2]
theorem encSlt_len (x : Sl.Slt) : (encSlt x).length = 3 := rfl

/-- where a label stands first among n slots -/
def home (lab : Int) (n : Nat) : Nat := (lab.toNat * 2654435761 % 4294967296 / 128) % n

/-- a table in memory -/
structure TabW (w : World) (Bt : Nat) (room count used : Int) (Bs cap : Nat) (s : List Sl.Slt) : Prop where
  head : Blk w Bt 71 #[.int .i64 room, .int .i64 count, .int .i64 used, .slice (some ⟨Bs, 0, none⟩) s.length cap]
  rows : Blk w Bs 74 (flat encSlt s).toArray
  cap : s.length ≤ cap ∧ cap ≤ 1073741824
  ne : Bt ≠ Bs
theorem TabW.below {w w' : World} {Bt : Nat} {room count used : Int} {Bs cap : Nat} {s : List Sl.Slt} (h : TabW w Bt room count used Bs cap s) {B : Nat} (hb : Below B w w') (hB : w.heap.size ≤ B) : TabW w' Bt room count used Bs cap s :=
  ⟨(hb.block Bt (Nat.lt_of_lt_of_le h.head.lt hB)).trans h.head, (hb.block Bs (Nat.lt_of_lt_of_le h.rows.lt hB)).trans h.rows, h.cap, h.ne⟩
theorem TabW.slot {w : World} {Bt : Nat} {room count used : Int} {Bs cap : Nat} {s : List Sl.Slt} (h : TabW w Bt room count used Bs cap s) {p : Nat} {x : Sl.Slt} (hx : s[p]? = some x) :
    w.cell? ⟨Bs, p * 3, none⟩ = some (.int .i64 x.1) ∧ w.cell? ⟨Bs, p * 3 + 1, none⟩ = some (.int .i64 x.2.1) ∧ w.cell? ⟨Bs, p * 3 + 2, none⟩ = some (.int .i64 x.2.2) := by
  have e : ∀ j u, (encSlt x)[j]? = some u → w.cell? ⟨Bs, p * 3 + j, none⟩ = some u := by
    intro j u hu
    rw [h.rows.cell]
    simpa using flat_at encSlt_len hx hu
  exact ⟨e 0 _ rfl, e 1 _ rfl, e 2 _ rfl⟩

set_option maxHeartbeats 1000000 in
theorem places_in (n : Nat) (hn : 1 ≤ n) (p : Option Addr) (lab : Int) (w : World) :
    CallsIn FW n Try.prog 59 #[.pointer p, .int .i64 lab] w fun e w' => e = .returned (.func (.func 67) #[] #[.pointer (some ⟨w.heap.size, 0, none⟩), .pointer (some ⟨w.heap.size + 1, 0, none⟩)]) ∧ w' = (w.alloc (.cells #[.pointer p] 36)).alloc (.cells #[.int .i64 lab] 3) := by
  have hfn : ∀ k, FW.fn k := fun _ => trivial
  refine callsIn_of_wp Try.func59 rfl trivial ?_ rfl
  simp only [Try.ntmps59, List.size_toArray, List.length_cons, List.length_nil, Nat.reduceAdd, Nat.reduceSub, Array.replicate_succ, Array.replicate_zero, List.push_toArray, List.append_toArray, List.nil_append, List.cons_append]
  gi_wp2
  go_ret
  exact ⟨rfl, rfl⟩

theorem and_mask {N k0 : Nat} (hN : N = 2 ^ k0) (hm : N ≤ 1073741824) (x : Int) (h0 : 0 ≤ x) (h1 : x < 4611686018427387904) : bits .and .i64 x ((N : Int) - 1) = x % (N : Int) := by
  have hk : k0 ≤ 62 := by
    have h2 : 2 ^ k0 ≤ 2 ^ 30 := by omega
    have := (Nat.pow_le_pow_iff_right (by decide : 1 < 2)).1 h2
    omega
  have e62 : (2 : Int) ^ 62 = 4611686018427387904 := by decide
  have h := bits_mask .i64 62 (by decide) (fun n a b => IntWalk.i64_in n (by rw [e62] at b; omega)) k0 hk x h0 (by rw [e62]; exact h1)
  have e : (2 : Int) ^ k0 = (N : Int) := by rw [hN]; push_cast; rfl
  rw [e] at h
  exact h
theorem home_lt (lab : Int) {n : Nat} (h : 0 < n) : home lab n < n := Nat.mod_lt _ h
theorem home_eq {lab : Int} (h0 : 0 ≤ lab) (n : Nat) : (lab * 2654435761 % 4294967296 / 128) % (n : Int) = (home lab n : Int) := by
  obtain ⟨a, rfl⟩ := Int.eq_ofNat_of_zero_le h0
  unfold home
  rw [Int.toNat_natCast, Int.natCast_emod]
  congr 1

set_option maxHeartbeats 1000000 in
theorem places1_on (n : Nat) (hn : 1 ≤ n) (lab : Int) (h0 : 0 ≤ lab) (h1 : lab ≤ 1048575) (N k0 : Nat) (hN : N = 2 ^ k0) (hNm : N ≤ 1073741824) (Bt Bb Bl cap : Nat) (q : Option Addr) (w : World)
    (hb : w.cell? ⟨Bb, 0, none⟩ = some (.pointer (some ⟨Bt, 0, none⟩))) (hl : w.cell? ⟨Bl, 0, none⟩ = some (.int .i64 lab)) (ht : w.cell? ⟨Bt, 3, none⟩ = some (.slice q N cap)) :
    SeqOn n Try.prog 67 #[.pointer (some ⟨Bb, 0, none⟩), .pointer (some ⟨Bl, 0, none⟩)] (fun k => .int .i64 (((home lab N : Int) + (k : Int)) % (N : Int))) N w := by
  intro l J Jx W hW hY hJ hN0
  have gb := (hW.cell (p := ⟨Bb, 0, none⟩) (World.block_lt_of_cell? w _ hb)).trans hb
  have gl := (hW.cell (p := ⟨Bl, 0, none⟩) (World.block_lt_of_cell? w _ hl)).trans hl
  have gt := (hW.cell (p := ⟨Bt, 3, none⟩) (World.block_lt_of_cell? w _ ht)).trans ht
  have hfn : ∀ k, FW.fn k := fun _ => trivial
  refine callsIn_of_wp Try.func67 rfl trivial ?_ rfl
  simp only [Try.ntmps67, List.size_toArray, List.length_cons, List.length_nil, Nat.reduceAdd, Nat.reduceSub, Array.replicate_succ, Array.replicate_zero, List.push_toArray, List.append_toArray, List.nil_append, List.cons_append]
  clear hb hl ht hW
  have e1 : bits .and .i64 (lab * 2654435761 % 4294967296 / 128) ((N : Int) - 1) = (home lab N : Int) := by rw [and_mask hN hNm _ (by omega) (by omega), home_eq h0]
  have hh := home_lt lab hN0
  have HM : Hid (∀ k : Nat, k < N → bits .and .i64 ((home lab N : Int) + (k : Int)) ((N : Int) - 1) = ((home lab N : Int) + (k : Int)) % (N : Int)) := fun k hk => and_mask hN hNm _ (by omega) (by omega)
  clear hN
  generalize home lab N = h at e1 hh HM hY
  have HY := Lib.hid hY
  clear hY
  gi_wp2
  clear e1 gb gl gt
  gi_loopw [6] (fun i wr => ∃ k : Nat, i = .int .i64 k ∧ k < N ∧ J k wr) (fun i _ => N - (intOf i).toNat)
  case atStart => exact ⟨0, rfl, hN0, hJ⟩
  case round =>
    obtain ⟨k, rfl, hk, hJk⟩ := hrel
    have e2 := HM.out k hk
    obtain ⟨fn, tmps, assign, body, hy, hRo⟩ := HY.out k _ hk hJk
    gi_wp2
    refine hRo.mono ?_
    rintro e W3 (⟨rfl, hk1, hJ1⟩ | ⟨rfl, hJx⟩)
    · clear e2 hy
      gi_wp2
      go_roundw
      case rel => exact ⟨k + 1, by simp, hk1, hJ1⟩
      case measure => simp [intOf]; omega
    · clear e2 hy
      gi_wp2
      go_end0
      exact ⟨⟨_, rfl⟩, hJx⟩

theorem wpIn_scope {n : Nat} {P : Program} {c : Code} {Q : Exit → Act → World → Prop} {a : Act} {w : World} (h : c.wpIn FW n P (Exit.noGoto Q) a w) : (Code.scope c).wpIn FW n P Q a w :=
  wpIn_wide.2 (wp_scope_straight (wpIn_wide.1 h))

/-- what a search hands back -/
def FindRet (s : List Sl.Slt) (h : Nat) (lab : Int) (w : World) (e : Ending) (w' : World) : Prop :=
  ∃ (p : Nat) (b : Bool), e = .returned (.tuple #[.int .i64 p, .bool b]) ∧ (b = true → Sl.Yes s lab p) ∧ (b = false → Sl.No s h lab p) ∧ Below w.heap.size w w'

theorem boxed_ownFrom {β : Type} (B' B : Nat) (t : TypeId) (v : Value) : OwnFrom B' (fun (_ : β) W => Boxed W B t v) := fun s X Y row hs hg hr => by
  refine hs.kept hg fun e => ?_
  obtain ⟨_, o, ho, hc⟩ := hr B e.symm
  rw [show X.heap[B]? = _ from hs] at ho
  cases ho
  cases hc

/-- what a round finds: B: the first of the call's boxes -/
structure FI (w : World) (B : Nat) (lab : Int) (pt : Value) (op : Int) (W : World) : Prop where
  bt : Boxed W B 36 pt
  bl : Boxed W (B + 1) 3 (.int .i64 lab)
  b2 : Boxed W (B + 1 + 1) 3 (.int .i64 0)
  b3 : Boxed W (B + 1 + 1 + 1) 4 (.bool false)
  b4 : Boxed W (B + 1 + 1 + 1 + 1) 3 (.int .i64 op)
  below : Below w.heap.size w W
/-- how a search ends -/
def FX (w : World) (B : Nat) (s : List Sl.Slt) (h : Nat) (lab : Int) (c : Code) (W : World) : Prop :=
  Below w.heap.size w W ∧ ((c = .ret ∧ ∃ p : Nat, Sl.Yes s lab p ∧ Boxed W (B + 1 + 1) 3 (.int .i64 p) ∧ Boxed W (B + 1 + 1 + 1) 4 (.bool true)) ∨
    (c = .exit 0 ∧ ∃ p : Nat, Sl.No s h lab p ∧ Boxed W (B + 1 + 1 + 1 + 1) 3 (.int .i64 p) ∧ Boxed W (B + 1 + 1) 3 (.int .i64 0) ∧ Boxed W (B + 1 + 1 + 1) 4 (.bool false)))
theorem FI.own {w : World} {b : Nat} {lab : Int} {pt : Value} {op : Int} {B : Nat} {X Y : World} {row : Option Nat} (h : FI w b lab pt op X) (hB : w.heap.size ≤ B) (hg : X.grownBy Y row) (hr : ∀ r, row = some r → B ≤ r ∧ ∃ o : Obj, X.heap[r]? = some o ∧ o.isCells = false) : FI w b lab pt op Y :=
  ⟨boxed_ownFrom B _ _ _ () X Y row h.bt hg hr, boxed_ownFrom B _ _ _ () X Y row h.bl hg hr, boxed_ownFrom B _ _ _ () X Y row h.b2 hg hr, boxed_ownFrom B _ _ _ () X Y row h.b3 hg hr, boxed_ownFrom B _ _ _ () X Y row h.b4 hg hr,
    h.below.grown hg h.below.size fun k e => Nat.le_trans hB (hr k e).1⟩
theorem FX.own {w : World} {b : Nat} {s : List Sl.Slt} {h0 : Nat} {lab : Int} {c : Code} {B : Nat} {X Y : World} {row : Option Nat} (h : FX w b s h0 lab c X) (hB : w.heap.size ≤ B) (hg : X.grownBy Y row) (hr : ∀ r, row = some r → B ≤ r ∧ ∃ o : Obj, X.heap[r]? = some o ∧ o.isCells = false) : FX w b s h0 lab c Y := by
  refine ⟨h.1.grown hg h.1.size fun k e => Nat.le_trans hB (hr k e).1, ?_⟩
  rcases h.2 with ⟨rfl, p, hp, h1, h2⟩ | ⟨rfl, p, hp, h1, h2, h3⟩
  · exact .inl ⟨rfl, p, hp, boxed_ownFrom B _ _ _ () X Y row h1 hg hr, boxed_ownFrom B _ _ _ () X Y row h2 hg hr⟩
  · exact .inr ⟨rfl, p, hp, boxed_ownFrom B _ _ _ () X Y row h1 hg hr, boxed_ownFrom B _ _ _ () X Y row h2 hg hr, boxed_ownFrom B _ _ _ () X Y row h3 hg hr⟩
theorem FI.alloc {w : World} {b : Nat} {lab : Int} {pt : Value} {op : Int} {X : World} (h : FI w b lab pt op X) (o : Obj) : FI w b lab pt op (X.alloc o) :=
  ⟨h.bt.alloc o, h.bl.alloc o, h.b2.alloc o, h.b3.alloc o, h.b4.alloc o, h.below.alloc h.below.size o⟩
theorem FI.set4 {w : World} {b : Nat} {lab : Int} {pt : Value} {op : Int} {X : World} (h : FI w b lab pt op X) (hb : w.heap.size ≤ b) (op' : Int) : FI w b lab pt op' (X.setCell ⟨b + 1 + 1 + 1 + 1, 0, none⟩ (.int .i64 op')) :=
  ⟨h.bt.other (by omega) _, h.bl.other (by omega) _, h.b2.other (by omega) _, h.b3.other (by omega) _, h.b4.set _, h.below.setCell (p := ⟨b + 1 + 1 + 1 + 1, 0, none⟩) (by simp only; omega) _⟩
theorem keeps_alloc (B : Nat) (W : World) (o : Obj) : KeepsFrom B W (W.alloc o) := (KeepsOthers.alloc W o).from B
theorem keeps_set {B : Nat} {W X : World} (h : KeepsFrom B W X) (p : Addr) (v : Value) : KeepsFrom B W (X.setCell p v) := h.trans ((KeepsOthers.setCell X p v).from B)

theorem find_boxes (w : World) (o0 o1 o2 o3 o4 o5 o6 : Value) (t0 t1 t2 t3 t4 t5 t6 : TypeId) (W0 : World)
    (hW : W0 = (((((((w.alloc (.cells #[o0] t0)).alloc (.cells #[o1] t1)).alloc (.cells #[o2] t2)).alloc (.cells #[o3] t3)).alloc (.cells #[o4] t4)).alloc (.cells #[o5] t5)).alloc (.cells #[o6] t6))) :
    Boxed W0 w.heap.size t0 o0 ∧ Boxed W0 (w.heap.size + 1) t1 o1 ∧ Boxed W0 (w.heap.size + 1 + 1) t2 o2 ∧ Boxed W0 (w.heap.size + 1 + 1 + 1) t3 o3 ∧ Boxed W0 (w.heap.size + 1 + 1 + 1 + 1) t4 o4 ∧ Boxed W0 (w.heap.size + 1 + 1 + 1 + 1 + 1) t5 o5 ∧
      Boxed W0 (w.heap.size + 1 + 1 + 1 + 1 + 1 + 1) t6 o6 ∧ Below w.heap.size w W0 ∧ W0.heap.size = w.heap.size + 7 := by
  subst hW
  have e1 := Boxed.new (w.alloc (.cells #[o0] t0)) t1 o1
  have e2 := Boxed.new ((w.alloc (.cells #[o0] t0)).alloc (.cells #[o1] t1)) t2 o2
  have e3 := Boxed.new (((w.alloc (.cells #[o0] t0)).alloc (.cells #[o1] t1)).alloc (.cells #[o2] t2)) t3 o3
  have e4 := Boxed.new ((((w.alloc (.cells #[o0] t0)).alloc (.cells #[o1] t1)).alloc (.cells #[o2] t2)).alloc (.cells #[o3] t3)) t4 o4
  have e5 := Boxed.new (((((w.alloc (.cells #[o0] t0)).alloc (.cells #[o1] t1)).alloc (.cells #[o2] t2)).alloc (.cells #[o3] t3)).alloc (.cells #[o4] t4)) t5 o5
  have e6 := Boxed.new ((((((w.alloc (.cells #[o0] t0)).alloc (.cells #[o1] t1)).alloc (.cells #[o2] t2)).alloc (.cells #[o3] t3)).alloc (.cells #[o4] t4)).alloc (.cells #[o5] t5)) t6 o6
  simp only [World.size_alloc] at e1 e2 e3 e4 e5 e6
  exact ⟨((((((Boxed.new w t0 o0).alloc _).alloc _).alloc _).alloc _).alloc _).alloc _, ((((e1.alloc _).alloc _).alloc _).alloc _).alloc _, (((e2.alloc _).alloc _).alloc _).alloc _, ((e3.alloc _).alloc _).alloc _, (e4.alloc _).alloc _, e5.alloc _, e6,
    ((((((((Below.refl _ w).alloc (Nat.le_refl _) _).alloc (by simp) _).alloc (by simp; omega) _).alloc (by simp; omega) _).alloc (by simp; omega) _).alloc (by simp; omega) _).alloc (by simp; omega) _), by simp⟩

set_option maxRecDepth 100000 in
set_option maxHeartbeats 4000000 in
theorem find_in (n : Nat) (hn : 8 ≤ n) (lab : Int) (h0 : 0 ≤ lab) (h1 : lab ≤ 1048575) (Bt : Nat) (room count used : Int) (Bs cap k0 : Nat) (s : List Sl.Slt) (hs : s.length = 2 ^ k0) (hu : Sl.usedN s < s.length)
    (w : World) (hT : TabW w Bt room count used Bs cap s) :
    CallsIn FW n Try.prog 51 #[.pointer (some ⟨Bt, 0, none⟩), .int .i64 lab] w (FindRet s (home lab s.length) lab w) := by
  have hfn : ∀ k, FW.fn k := fun _ => trivial
  have hn1 : 1 ≤ n := by omega
  have hsl : s.length ≤ 1073741824 := by have := hT.cap; omega
  obtain ⟨d, hd, hdx⟩ := Sl.ends hu (home lab s.length)
  have hs0 : 0 < s.length := by omega
  refine callsIn_of_wp_marks Try.func51 rfl trivial ?_ rfl
  simp only [Try.ntmps51, List.size_toArray, List.length_cons, List.length_nil, Nat.reduceAdd, Nat.reduceSub, Array.replicate_succ, Array.replicate_zero, List.push_toArray, List.append_toArray, List.nil_append, List.cons_append]
  gi_wp2
  refine wpIn_scope ?_
  gi_wp2
  refine wpIn_label ?_
  gi_wp2_with (gi_at_call 59; refine (places_in (n - 1) (by omega) _ _ _).mono ?_; rintro e w1 ⟨rfl, rfl⟩)
  obtain ⟨W0, hW0⟩ : ∃ W0, (((((((w.alloc (Obj.cells #[Value.pointer (some { block := Bt, off := 0 })] 36)).alloc (Obj.cells #[Value.int IntKind.i64 lab] 3)).alloc (Obj.cells #[Value.int IntKind.i64 0] 3)).alloc (Obj.cells #[Value.bool false] 4)).alloc (Obj.cells #[Value.int IntKind.i64 (-1)] 3)).alloc (Obj.cells #[Value.pointer (some { block := Bt, off := 0 })] 36)).alloc (Obj.cells #[Value.int IntKind.i64 lab] 3)) = W0 := ⟨_, rfl⟩
  obtain ⟨b0, b1, b2, b3, b4, b5, b6, hB0, hsz⟩ := find_boxes w _ _ _ _ _ _ _ _ _ _ _ _ _ _ W0 hW0.symm
  rw [hW0]
  clear hW0
  have hT0 := hT.below hB0 (Nat.le_refl _)
  have hhd := hT0.head.cell 3
  simp at hhd
  have hseq := places1_on (n - 1) (by omega) lab h0 h1 s.length k0 hs hsl Bt _ _ cap (some ⟨Bs, 0, none⟩) W0 b5.cell b6.cell hhd
  have ep : ∀ k : Nat, ((home lab s.length : Int) + (k : Int)) % (s.length : Int) = ((home lab s.length + k) % s.length : Nat) := fun k => by rw [Int.natCast_emod, Int.natCast_add]
  clear hhd
  have hbz : w.heap.size ≤ W0.heap.size := by omega
  generalize hgen : home lab s.length = h at hseq ep hdx ⊢
  have HG := Lib.hid hgen
  clear hgen
  have HEP := Lib.hid ep
  clear ep
  refine wpIn_rangeFunc_on hn1 (gf := 67) rfl (enters_of Try.func67 (by kernel_rfl) rfl) hseq (Below.refl _ _) hs0 rfl
    (fun k W => ∃ op, FI w w.heap.size lab (.pointer (some ⟨Bt, 0, none⟩)) op W ∧ Sl.Srch s h lab op k) (FX w w.heap.size s h lab)
    (fun k X Y row hx hg hr => by obtain ⟨op, h1, h2⟩ := hx; exact ⟨op, h1.own hbz hg hr, h2⟩) (fun c X Y row hx hg hr => hx.own hbz hg hr)
    ⟨-1, ⟨b0, b1, b2, b3, b4, hB0⟩, Sl.Srch.start _ _ _⟩
    (fun k => { tmps := #[.pointer (some ⟨Bt, 0, none⟩), .int .i64 lab, .pointer (some ⟨w.heap.size, 0, none⟩), .pointer (some ⟨w.heap.size + 1, 0, none⟩), .pointer (some ⟨w.heap.size + 1 + 1, 0, none⟩), .pointer (some ⟨w.heap.size + 1 + 1 + 1, 0, none⟩), .pointer (some ⟨w.heap.size + 1 + 1 + 1 + 1, 0, none⟩),
      .int .i64 (((h + k) % s.length : Nat) : Int), undef, .pointer (some ⟨Bt, 0, none⟩), .int .i64 lab, .func (.func 67) #[] #[.pointer (some ⟨w.heap.size + 1 + 1 + 1 + 1 + 1, 0, none⟩), .pointer (some ⟨w.heap.size + 1 + 1 + 1 + 1 + 1 + 1, 0, none⟩)], .int .i64 (((h + k) % s.length : Nat) : Int), undef, undef, undef, undef, undef, undef, undef, undef, undef, undef, undef, undef, undef, undef, undef, undef, undef, undef, undef, undef, undef, undef, undef, undef, undef, undef, undef, undef, undef, undef, undef, undef], defers := [] })
    ?assign ?body ?stop
  case assign =>
    intro l k W K hK
    rw [HEP.out k]
    generalize (h + k) % s.length = p at hK ⊢
    gi_wp2
    exact hK
  case body =>
    rintro l k W hl hk ⟨op, hF, hS⟩
    have hp : (h + k) % s.length < s.length := Nat.mod_lt _ hs0
    obtain ⟨x, hx⟩ : ∃ x, s[(h + k) % s.length]? = some x := ⟨_, List.getElem?_eq_getElem hp⟩
    have HX := Lib.hid hx
    have HSr := Lib.hid hS
    have HFi := Lib.hid hF
    obtain ⟨q, hq⟩ : ∃ q, q = (h + k) % s.length := ⟨_, rfl⟩
    rw [← hq] at hp hx ⊢
    have hTW := hT.below hF.below (Nat.le_refl _)
    obtain ⟨c0, c1, c2⟩ := hTW.slot hx
    have ch := hTW.head.cell 3
    simp at ch
    have ct := hF.bt.cell
    have cl := hF.bl.cell
    have cop := hF.b4.cell
    have fop := hF.b4.frozen
    have cr := hF.b2.cell
    have fr := hF.b2.frozen
    have cb := hF.b3.cell
    have fb := hF.b3.frozen
    have cl' := fun o => (hF.bl.alloc o).cell
    have cop' := fun o => (hF.b4.alloc o).cell
    have fop' := fun o => (hF.b4.alloc o).frozen
    have cr' := fun o => (hF.b2.alloc o).cell
    have fr' := fun o => (hF.b2.alloc o).frozen
    have cb' := fun o => (hF.b3.alloc o).cell
    have fb' := fun o => (hF.b3.alloc o).frozen
    obtain ⟨a, lb, v⟩ := x
    simp only at c0 c1 c2
    have HQ := Lib.hid hq
    clear hx hS hF hTW hq hs
    have HDE : Hid (∀ op', Sl.Srch s h lab op' (k + 1) → k + 1 < s.length) := Lib.hid fun op' h' => by have := h'.lt hdx; omega
    clear hdx hd
    have csl : ∀ u, ((W.alloc (.cells #[.int .i64 a, .int .i64 lb, .int .i64 v] 74)).setCell ⟨w.heap.size + 1 + 1 + 1 + 1, 0, none⟩ u).cell? ⟨W.heap.size, 0, none⟩ = some (.int .i64 a) := fun u => by
      have := HFi.out.b4.lt
      rw [World.cell?_setCell_other _ _ _ _ (by simp only [ne_eq, Addr.mk.injEq]; omega), (Blk.new W _ _).cell 0]
      rfl
    by_cases ha2 : a = 2
    · subst ha2
      by_cases hb : lb = lab
      · rw [hb] at c1 HX
        clear hb
        gi_wp2
        exact ⟨keeps_set (keeps_set (keeps_alloc _ _ _) _ _) _ _, ((HFi.out.alloc _).below.setCell (p := ⟨w.heap.size + 1 + 1, 0, none⟩) (by simp only; omega) _).setCell (p := ⟨w.heap.size + 1 + 1 + 1, 0, none⟩) (by simp only; omega) _,
          .inl ⟨rfl, q, ⟨v, by rw [HQ.out]; exact HX.out⟩, (((HFi.out.alloc _).b2.set _).other (by omega) _), ((HFi.out.alloc _).b3.other (by omega) _).set _⟩⟩
      · have eb : (lb == lab) = false := by simpa using hb
        gi_wp2
        have hnew := HSr.out.there HX.out hb
        exact ⟨keeps_alloc _ _ _, HDE.out _ hnew, op, HFi.out.alloc _, hnew⟩
    · have e2 : (a == 2) = false := by simpa using ha2
      have e3 : (a != 2) = true := by simpa using ha2
      by_cases ho : op < 0
      · have eo : decide (op < 0) = true := by simpa using ho
        by_cases ha0 : a = 0
        · subst ha0
          gi_wp2
          obtain ⟨p, hp1, hp2⟩ := HSr.out.stop HX.out rfl hk
          rw [if_pos ho, ← HQ.out] at hp1
          obtain rfl : q = p := by omega
          exact ⟨keeps_set (keeps_alloc _ _ _) _ _, ((HFi.out.alloc _).set4 (Nat.le_refl _) _).below, .inr ⟨rfl, q, hp2, ((HFi.out.alloc _).set4 (Nat.le_refl _) _).b4, ((HFi.out.alloc _).set4 (Nat.le_refl _) _).b2, ((HFi.out.alloc _).set4 (Nat.le_refl _) _).b3⟩⟩
        · have e0 : (a == 0) = false := by simpa using ha0
          gi_wp2
          have hnew := HSr.out.gone HX.out ha0 ha2
          rw [if_pos ho, ← HQ.out] at hnew
          exact ⟨keeps_set (keeps_alloc _ _ _) _ _, HDE.out _ hnew, _, (HFi.out.alloc _).set4 (Nat.le_refl _) _, hnew⟩
      · have eo : decide (op < 0) = false := by simpa using ho
        by_cases ha0 : a = 0
        · subst ha0
          gi_wp2
          obtain ⟨p, hp1, hp2⟩ := HSr.out.stop HX.out rfl hk
          rw [if_neg (by omega)] at hp1
          subst hp1
          exact ⟨keeps_alloc _ _ _, (HFi.out.alloc _).below, .inr ⟨rfl, p, hp2, (HFi.out.alloc _).b4, (HFi.out.alloc _).b2, (HFi.out.alloc _).b3⟩⟩
        · have e0 : (a == 0) = false := by simpa using ha0
          gi_wp2
          have hnew := HSr.out.gone HX.out ha0 ha2
          rw [if_neg (by omega)] at hnew
          exact ⟨keeps_alloc _ _ _, HDE.out _ hnew, op, HFi.out.alloc _, hnew⟩
  case stop =>
    rintro D c W hD ⟨hbl, ⟨rfl, p, hp, x2, x3⟩ | ⟨rfl, p, hp, x4, x2, x3⟩⟩ hK
    · have c2 := x2.cell
      have c3 := x3.cell
      gi_wp2
      rw [Exit.noGoto_ret]
      refine ⟨by simp, .inl ⟨_, _, rfl, run_takeDeferred hK, ?_⟩⟩
      have y2 : Boxed (W.putObj D (.deferred none)) _ _ _ := x2.kept (grownBy_putObj' W D _) (fun e => by cases e; rw [show W.heap[_]? = _ from x2] at hK; cases hK)
      have y3 : Boxed (W.putObj D (.deferred none)) _ _ _ := x3.kept (grownBy_putObj' W D _) (fun e => by cases e; rw [show W.heap[_]? = _ from x3] at hK; cases hK)
      have d2 := y2.cell
      have d3 := y3.cell
      refine ⟨.tuple #[.int .i64 p, .bool true], ?_, p, true, rfl, fun _ => hp, fun e => (by cases e), hbl.trans (belowK_b (w := w) (Nat.le_refl _) W D _ _ (by omega) hK rfl rfl)⟩
      simp [results, Try.results51, go_sem, d2, d3]
    · have c4 := x4.cell
      have f4 := x4.frozen
      have c2 := x2.cell
      have f2 := x2.frozen
      have c3 := x3.cell
      have f3 := x3.frozen
      gi_wp2
      rw [Exit.noGoto_ret]
      have x2' := (x2.set (.int .i64 p)).other (B' := w.heap.size + 1 + 1 + 1) (by omega) (.bool false)
      have x3' := (x3.other (B' := w.heap.size + 1 + 1) (by omega) (.int .i64 p)).set (.bool false)
      have hK' : ((W.setCell ⟨w.heap.size + 1 + 1, 0, none⟩ (.int .i64 p)).setCell ⟨w.heap.size + 1 + 1 + 1, 0, none⟩ (.bool false)).heap[D]? = some (.deferred (some [])) := by
        rw [Below.heap_setCell _ _ _ _ (by simp only; omega), Below.heap_setCell _ _ _ _ (by simp only; omega)]; exact hK
      have hbl' : Below w.heap.size w ((W.setCell ⟨w.heap.size + 1 + 1, 0, none⟩ (.int .i64 p)).setCell ⟨w.heap.size + 1 + 1 + 1, 0, none⟩ (.bool false)) := (hbl.setCell (p := ⟨w.heap.size + 1 + 1, 0, none⟩) (by simp only; omega) _).setCell (p := ⟨w.heap.size + 1 + 1 + 1, 0, none⟩) (by simp only; omega) _
      refine ⟨by simp, .inl ⟨_, _, rfl, run_takeDeferred hK', ?_⟩⟩
      generalize ((W.setCell ⟨w.heap.size + 1 + 1, 0, none⟩ (.int .i64 p)).setCell ⟨w.heap.size + 1 + 1 + 1, 0, none⟩ (.bool false)) = V at *
      have y2 : Boxed (V.putObj D (.deferred none)) _ _ _ := x2'.kept (grownBy_putObj' V D _) (fun e => by cases e; rw [show V.heap[_]? = _ from x2'] at hK'; cases hK')
      have y3 : Boxed (V.putObj D (.deferred none)) _ _ _ := x3'.kept (grownBy_putObj' V D _) (fun e => by cases e; rw [show V.heap[_]? = _ from x3'] at hK'; cases hK')
      have d2 := y2.cell
      have d3 := y3.cell
      refine ⟨.tuple #[.int .i64 p, .bool false], ?_, p, false, rfl, fun e => (by cases e), fun _ => (by rw [HG.out]; exact hp), hbl'.trans (belowK_b (w := w) (Nat.le_refl _) V D _ _ (by omega) hK' rfl rfl)⟩
      simp [results, Try.results51, go_sem, d2, d3]

theorem find_any (lab : Int) (h0 : 0 ≤ lab) (h1 : lab ≤ 1048575) (Bt : Nat) (room count used : Int) (Bs cap k0 : Nat) (s : List Sl.Slt) (hs : s.length = 2 ^ k0) (hu : Sl.usedN s < s.length)
    (w : World) (hT : TabW w Bt room count used Bs cap s) :
    Calls Try.prog 51 #[.pointer (some ⟨Bt, 0, none⟩), .int .i64 lab] w (FindRet s (home lab s.length) lab w) :=
  callsIn_wide.1 (find_in 8 (Nat.le_refl _) lab h0 h1 Bt room count used Bs cap k0 s hs hu w hT)
end Go.Proofs.Ytcioiiobjfblbaa
