/- footplatelaw26.laid: a space and the document's, of the same areas and labels. -/
import Derived.Test.YtilahcnpjbnjiaaGreatDoorMSegB
import Derived.Test.YtilahcnpjbnjiaaGreatDoorMBase
namespace Go.Proofs.YtilahcnpjbnjiaaGreatDoor
set_option linter.unusedVariables false
set_option linter.unusedSimpArgs false
open Go.RowKit Go.Shelf Go.Proofs

/-- New: what it lays is new, too -/
def RetNew2 (w : World) (e : Ending) (w' : World) : Prop := ∃ g, e = .returned (.pointer (some ⟨g, 0, none⟩)) ∧ w.heap.size ≤ g ∧ SpcR w' g none Sp.spc0 ∧ Below w.heap.size w w' ∧ ∀ k : Nat, k ≤ 2 → ∀ a n c, w'.cell? ⟨g, k, none⟩ = some (.slice (some a) n c) → w.heap.size ≤ a.block
set_option maxRecDepth 100000 in
set_option maxHeartbeats 1000000 in
theorem spc_New2 (w : World) : Calls Tryz.prog 30 #[] w (RetNew2 w) := by
  obtain ⟨g, hg⟩ : ∃ g, g = w.heap.size := ⟨_, rfl⟩
  have hblk : Blk (w.alloc (.cells (spcG (fun _ => .slice none 0 0) (0, 0) (0, 0) (.slice none 0 0)) 96)) w.heap.size 96 (spcG (fun _ => .slice none 0 0) (0, 0) (0, 0) (.slice none 0 0)) := Blk.new _ _ _
  have hG : SpcG (w.alloc (.cells (spcG (fun _ => .slice none 0 0) (0, 0) (0, 0) (.slice none 0 0)) 96)) w.heap.size none (fun _ => []) (fun _ => .slice none 0 0) (0, 0) (0, 0) [] (.slice none 0 0) :=
    ⟨hblk, fun k _ _ => ⟨slr_nil _, fun b hb => by cases hb⟩, World.ownsRow_nil _ _ _ _, rfl⟩
  have HC := Lib.hid (free_add w.heap.size 0 (by omega) (by omega) (.slice none 0 0) [] 16 1048575 _ (hG.cell (by omega) (by omega)) (hblk.frozen' 0) (slr_nil _) (by simp))
  have HG := Lib.hid hG
  have HB := Lib.hid (belowA w (.cells (spcG (fun _ => .slice none 0 0) (0, 0) (0, 0) (.slice none 0 0)) 96))
  clear hG hblk
  simp only [spcG] at HC HG HB
  go_enter Tryz.func30, Tryz.ntmps30
  go_wp2_with fail
  refine HC.out.mono ?_
  rintro e w1 ⟨rfl, v, W1, ho, hb, hw1⟩
  rw [add_whole] at ho
  have HW := Lib.hid hw1
  have HO := Lib.hid (And.intro ho hb)
  clear hw1 ho hb
  go_wp2_with fail
  go_ret
  have hlt : w.heap.size < (w.alloc (.cells (spcG (fun _ => .slice none 0 0) (0, 0) (0, 0) (.slice none 0 0)) 96)).heap.size := by simp
  have hG1 := (HG.out.below HO.out.2).put (k := 0) (by omega) (by omega) HO.out.1 hlt (fun b hb => by cases hb)
  rw [← HW.out] at hG1
  refine ⟨_, rfl, Nat.le_refl _, hG1.spcR (m := Sp.spc0) fun k h0 h2 => ?_, ?_, fun k hk a n c hc => ?_⟩
  · have : k = 0 ∨ k = 1 ∨ k = 2 := by omega
    rcases this with rfl | rfl | rfl <;> rfl
  · rw [HW.out]
    exact (HB.out.trans (HO.out.2.mono (by simp))).setCell (Nat.le_refl _) _
  · have hcell := hG1.cell (k := (k : Int)) (by omega) (by omega)
    rw [Int.toNat_natCast, hc] at hcell
    by_cases hk0 : (k : Int) = 0
    · rw [hk0, upd_same] at hcell
      have hvv := Option.some.inj hcell
      have h1 := (HO.out.1.lt a.block (by rw [← hvv]; rfl)).1
      simp at h1
      omega
    · rw [upd_other _ _ hk0] at hcell
      cases Option.some.inj hcell
/-- the space at g; the document's (md, its blocks in vL) in the variable at z -/
structure LW (w W : World) (g : Nat) (r : Option Nat) (m : Sp.Spc) (vL : Value) (md : Sp.Spc) (z : Nat) : Prop where
  A : AW w W g r m
  d : SlF4 W g r vL md.L
  b : Blk W z 44 (sA md vL)
  hz : w.heap.size ≤ z
  n1 : z ≠ g
  n2 : some z ≠ r
  n3 : vL.ownBlock ≠ some z
  n4 : ∀ k : Nat, k ≤ 2 → ∀ a n c, W.cell? ⟨g, k, none⟩ = some (.slice (some a) n c) → a.block ≠ z
  n5 : ∀ k : Nat, k ≤ 2 → ∀ a n c, W.cell? ⟨g, k, none⟩ = some (.slice (some a) n c) → w.heap.size ≤ a.block
  n6 : ∀ b, vL.ownBlock = some b → w.heap.size ≤ b
section
variable {w W W' : World} {g : Nat} {r : Option Nat} {m q md : Sp.Spc} {vL v' : Value} {z : Nat}
theorem LW.next (h : LW w W g r m vL md z) (hb : Below W.heap.size W W') : LW w W' g r m vL md z :=
  ⟨h.A.next hb, ⟨h.d.1.below hb (Nat.le_refl _), h.d.2⟩, h.b.below hb h.b.lt, h.hz, h.n1, h.n2, h.n3, fun k hk a n c hc => h.n4 k hk a n c (by rw [← hb.cell (p := ⟨g, k, none⟩) h.A.S.lt]; exact hc), fun k hk a n c hc => h.n5 k hk a n c (by rw [← hb.cell (p := ⟨g, k, none⟩) h.A.S.lt]; exact hc), h.n6⟩
theorem LW.drew (h : LW w W g r m vL md z) : LW w W.drew g r m vL md z := h.next (Below.refl _ _).drew
theorem LW.first (hA : AW w W g none Sp.spc0) (h5 : ∀ k : Nat, k ≤ 2 → ∀ a n c, W.cell? ⟨g, k, none⟩ = some (.slice (some a) n c) → w.heap.size ≤ a.block) : LW w (W.alloc (.cells (sA Sp.spc0 (.slice none 0 0)) 44)) g none Sp.spc0 (.slice none 0 0) Sp.spc0 W.heap.size := by
  have h := RW.first hA
  exact ⟨h.A, h.d, h.b, h.hz, h.n1, h.n2, h.n3, h.n4, fun k hk a n c hc => h5 k hk a n c (by rw [← (belowA W _).cell (p := ⟨g, k, none⟩) hA.S.lt]; exact hc), fun b hb => by simp [Value.ownBlock] at hb⟩
/-- the space's step -/
theorem LW.prog (h : LW w W g r m vL md z) (hL : Left g r q W W') : ∃ r', LW w W' g r' q vL md z := by
  obtain ⟨r', S, nr, fr, old⟩ := hL
  have hzl := h.b.lt
  have hr2 : ∀ b, r' = some b → r = some b ∨ W.heap.size ≤ b := fun b hb => by
    rcases nr with e | ⟨c, e, hc⟩
    · exact Or.inl (e.symm.trans hb)
    · rw [e] at hb; cases hb; exact Or.inr hc
  have hbs := h.A.bel.size
  refine ⟨r', ⟨S, fr.below h.A.bel hbs h.A.hg h.A.hr, h.A.hg, fun b hb => ?_⟩, ⟨fr.slr h.d.1 h.d.2, fun b hb => ⟨(h.d.2 b hb).1, fun e => ?_⟩⟩, fr.blk h.b h.n1 h.n2, h.hz, h.n1, fun e => ?_, h.n3, fun k hk a n c hc => ?_, fun k hk a n c hc => ?_, h.n6⟩
  · rcases hr2 b hb with e | e
    · exact h.A.hr b e
    · omega
  · rcases hr2 b e.symm with e2 | e2
    · exact (h.d.2 b hb).2 e2.symm
    · have := h.d.1.own_lt b hb; omega
  · rcases hr2 z e.symm with e2 | e2
    · exact h.n2 e2.symm
    · omega
  · rcases old k hk a n c hc with e | ⟨j, a', n', c', hj, hc', e⟩
    · omega
    · rw [← e]; exact h.n4 j hj a' n' c' hc'
  · rcases old k hk a n c hc with e | ⟨j, a', n', c', hj, hc', e⟩
    · omega
    · rw [← e]; exact h.n5 j hj a' n' c' hc'
/-- the document's -/
theorem LW.doc (h : LW w W g r m vL md z) (h1 : SlR W' 4 encBk v' q.L) (hn : NewV W vL v') (hb : Below W.heap.size W W') : LW w (W'.setRow z (sA q v')) g r m v' q z := by
  have H := h.next hb
  have hzl := h.b.lt
  have hv : ∀ b, v'.ownBlock = some b → b ≠ g ∧ some b ≠ r ∧ b ≠ z := fun b e => by
    rcases hn b e with e2 | e2
    · exact ⟨(h.d.2 b e2).1, (h.d.2 b e2).2, fun e3 => h.n3 (by rw [e2, e3])⟩
    · exact ⟨by have := h.A.S.lt; omega, fun e3 => by have := (h.A.S.row b e3.symm).2; omega, by omega⟩
  refine ⟨⟨H.A.S.otherRow z _ h.n1 h.n2 H.n4, below_setRow H.A.bel h.hz _, h.A.hg, h.A.hr⟩, ⟨(Frm.setRow z none W' _).slr h1 (fun b hb => ⟨(hv b hb).2.2, by simp⟩), fun b hb => ⟨(hv b hb).1, (hv b hb).2.1⟩⟩, H.b.setRow _, h.hz, h.n1, h.n2, fun e => (hv z e).2.2 rfl, fun k hk a n c hc => H.n4 k hk a n c ?_, fun k hk a n c hc => H.n5 k hk a n c ?_, fun b e => ?_⟩
  · rw [← hc]
    exact (World.cell?_of_block (a := ⟨g, k, none⟩) (setRow_other W' z g _ (Ne.symm h.n1))).symm
  · rw [← hc]
    exact (World.cell?_of_block (a := ⟨g, k, none⟩) (setRow_other W' z g _ (Ne.symm h.n1))).symm
  · rcases hn b e with e2 | e2
    · exact h.n6 b e2
    · have := h.A.bel.size; omega
end
def laid2 (a b c d : Int) : Sp.Spc := (Sp.carveR (Sp.carveR Sp.spc0 1 (a, b)).1 2 (c, d)).1
def laidR (a b c d : Int) (T : List Sp.S) : Sp.Spc := T.foldl (fun m s => (Sp.takeR m 1 s).1) (laid2 a b c d)
/-- the boxes of 'laid': the areas; the result -/
def WL (w : World) (X : Array Value) : World := (w.alloc (.cells X 38)).alloc (.cells (sA Sp.spc0 (.slice none 0 0)) 44)
theorem WL.below (w : World) (X : Array Value) : Below w.heap.size w (WL w X) := (belowA w _).alloc (by simp) _
theorem WL.size (w : World) (X : Array Value) : (WL w X).heap.size = w.heap.size + 2 := by unfold WL; simp
theorem WL.x (w : World) (X : Array Value) : Blk (WL w X) w.heap.size 38 X := (Blk.new w _ _).alloc _
theorem WL.y (w : World) (X : Array Value) : Blk (WL w X) (w.heap.size + 1) 44 (sA Sp.spc0 (.slice none 0 0)) := by
  have h := Blk.new (w.alloc (.cells X 38)) 44 (sA Sp.spc0 (.slice none 0 0))
  rw [World.size_alloc] at h
  exact h
theorem results_tct {P : Program} {fn : Func} {p q s : Tmp} {ty : TypeId} (h : fn.results = #[.tmp p, .cell q ty, .tmp s]) (tmps : Array Value) (w : World) (g : Nat) (t : TypeId) (cs : Array Value) (fr : Nat × Nat) (d : TypeDesc)
    (hp : tmps.getD q undef = .pointer (some ⟨g, 0, none⟩)) (hg : w.heap[g]? = some (.cells cs t fr))
    (hu : P.underlying ty = some d) (hd : (match d with | .struct _ | .array _ _ => true | _ => false) = true) (hi : (P.info? ty).map (·.size) = some cs.size) :
    (results fn tmps).run P w = .ok (.tuple #[tmps.getD p undef, .agg cs, tmps.getD s undef]) w := by
  have hp' : tmps[q]?.getD undef = .pointer (some ⟨g, 0, none⟩) := by simpa using hp
  simp [results, h, hp', asAddr, run_loadVar_row w g t ty cs fr d hg hu hd hi]
/-- at last: what comes back -/
structure LE (w : World) (g : Nat) (r : Option Nat) (m : Sp.Spc) (vL : Value) (z : Nat) (W : World) : Prop where
  S : SpcR W g r m
  d : SlR W 4 encBk vL m.L
  b : Blk W z 44 (sA m vL)
  y : ∃ cs : Array Value, Blk W (w.heap.size + 1) 44 cs ∧ cs.size = 7
  bel : Below w.heap.size w W
  hg : w.heap.size + 2 ≤ g
  hr : ∀ b, r = some b → w.heap.size + 2 ≤ b
  hz : w.heap.size + 2 ≤ z
  n5 : ∀ k : Nat, k ≤ 2 → ∀ a n c, W.cell? ⟨g, k, none⟩ = some (.slice (some a) n c) → w.heap.size + 2 ≤ a.block
  n6 : ∀ b, vL.ownBlock = some b → w.heap.size + 2 ≤ b
section
variable {w W W' : World} {g z : Nat} {r : Option Nat} {m : Sp.Spc} {vL : Value}
theorem LE.next (h : LE w g r m vL z W) (hb : Below W.heap.size W W') : LE w g r m vL z W' := by
  obtain ⟨cs, h1, h2⟩ := h.y
  exact ⟨h.S.below hb, h.d.below hb (Nat.le_refl _), h.b.below hb h.b.lt, ⟨cs, h1.below hb h1.lt, h2⟩, h.bel.trans (hb.mono h.bel.size), h.hg, h.hr, h.hz, fun k hk a n c hc => h.n5 k hk a n c (by rw [← hb.cell (p := ⟨g, k, none⟩) h.S.lt]; exact hc), h.n6⟩
theorem LE.setY (h : LE w g r m vL z W) {cs : Array Value} (hc : cs.size = 7) : LE w g r m vL z (W.setRow (w.heap.size + 1) cs) := by
  obtain ⟨c0, h1, h2⟩ := h.y
  have hg := h.hg
  have hz := h.hz
  refine ⟨h.S.otherRow _ _ (by omega) (fun e => by have := h.hr _ e.symm; omega) (fun k hk a n c hc => by have := h.n5 k hk a n c hc; omega), (Frm.setRow _ none W cs).slr h.d (fun b hb => ⟨by have := h.n6 b hb; omega, by simp⟩), h.b.otherRow _ _ (by omega), ⟨cs, h1.setRow _, hc⟩, below_setRow h.bel (by omega) _, h.hg, h.hr, h.hz, fun k hk a n c hc => h.n5 k hk a n c ?_, h.n6⟩
  rw [← hc]
  exact (World.cell?_of_block (a := ⟨g, k, none⟩) (setRow_other W _ g _ (by omega))).symm
end
structure LT (w W0 : World) (X : Array Value) (g : Nat) (r : Option Nat) (m : Sp.Spc) (vL : Value) (md : Sp.Spc) (z b o : Nat) (x y : Int) (W : World) : Prop where
  L : LW W0 W g r m vL md z
  X : Blk W w.heap.size 38 X
  bs : b < W.heap.size
  c0 : W.cell? ⟨b, o, none⟩ = some (.int .i64 x)
  c1 : W.cell? ⟨b, o + 1, none⟩ = some (.int .i64 y)
theorem LT.next {w W0 : World} {X : Array Value} {g : Nat} {r : Option Nat} {m : Sp.Spc} {vL : Value} {md : Sp.Spc} {z b o : Nat} {x y : Int} {W W' : World} (h : LT w W0 X g r m vL md z b o x y W) (hb : Below W.heap.size W W') : LT w W0 X g r m vL md z b o x y W' :=
  ⟨h.L.next hb, h.X.below hb h.X.lt, Nat.lt_of_lt_of_le h.bs hb.size, (hb.cell (p := ⟨b, o, none⟩) h.bs).trans h.c0, (hb.cell (p := ⟨b, o + 1, none⟩) h.bs).trans h.c1⟩
theorem foldl_snoc {m : Sp.Spc} {T : List Sp.S} {k : Nat} (h : k < T.length) : (T.take (k + 1)).foldl (fun m s => (Sp.takeR m 1 s).1) m = (Sp.takeR ((T.take k).foldl (fun m s => (Sp.takeR m 1 s).1) m) 1 T[k]).1 := by
  rw [List.take_succ_eq_append_getElem h, List.foldl_append]; rfl
theorem slr_setRow {W : World} {z : Nat} {cs : Array Value} {v : Value} {L : List Sp.Bk} (h : SlR W 4 encBk v L) (hz : v.ownBlock ≠ some z) : SlR (W.setRow z cs) 4 encBk v L :=
  (Frm.setRow z none W cs).slr h (fun b hb => ⟨fun e => hz (by rw [hb, e]), by simp⟩)
set_option maxRecDepth 100000 in
set_option maxHeartbeats 8000000 in
theorem law_laid (a b c d : Int) (T : List Sp.S) (hT : T.length ≤ 900) (vT : Value) (w : World) (hv : SlR w 2 encSp vT T) :
    Calls Tryz.prog 14 #[.agg #[.int .i64 a, .int .i64 b, .int .i64 c, .int .i64 d, vT]] w fun e w' => ∃ g r vL, e = .returned (.tuple #[.pointer (some ⟨g, 0, none⟩), .agg (sA (laidR a b c d T) vL), .bool true]) ∧
      SpcR w' g r (laidR a b c d T) ∧ SlR w' 4 encBk vL (laidR a b c d T).L ∧ Below w.heap.size w w' := by
  obtain ⟨pT, cT, rfl, hc1, hc2, hR⟩ := hv
  have HR := Lib.hid hR
  clear hR
  obtain ⟨m1, e1, hq1⟩ : ∃ m1 e1, Sp.carveR Sp.spc0 1 (a, b) = (m1, e1) := ⟨_, _, rfl⟩
  obtain ⟨m2, e2, hq2⟩ : ∃ m2 e2, Sp.carveR m1 2 (c, d) = (m2, e2) := ⟨_, _, rfl⟩
  have hwf1 := Sp.carve_wf Sp.wf0 1 (a, b)
  rw [hq1] at hwf1
  have hwf2 := Sp.carve_wf hwf1.1 2 (c, d)
  rw [hq2] at hwf2
  have hm2 : laid2 a b c d = m2 := by unfold laid2; rw [hq1, hq2]
  have hL1 : m1.L.length ≤ 0 := hwf1.2
  have hL2 : m2.L.length ≤ 0 := Nat.le_trans hwf2.2 hL1
  have CV1 : Hid (∀ g W, SpcR W g none Sp.spc0 → Calls Tryz.prog 31 #[.pointer (some ⟨g, 0, none⟩), .int .i64 1, .agg #[.int .i64 a, .int .i64 b]] W (RetE g none (m1, e1) W)) := Lib.hid fun g W h => by have := spc_Carve g none Sp.spc0 Sp.wf0 1 a b W h; rw [hq1] at this; exact this
  have CV2 : Hid (∀ g r W, SpcR W g r m1 → Calls Tryz.prog 31 #[.pointer (some ⟨g, 0, none⟩), .int .i64 2, .agg #[.int .i64 c, .int .i64 d]] W (RetE g r (m2, e2) W)) := Lib.hid fun g r W h => by have := spc_Carve g r m1 hwf1.1 2 c d W h; rw [hq2] at this; exact this
  have CR1 : Hid (∀ vL W, SlR W 4 encBk vL Sp.spc0.L → Calls Tryz.prog 32 #[.agg (sA Sp.spc0 vL), .int .i64 1, .agg #[.int .i64 a, .int .i64 b]] W (RetSE vL (m1, e1) W)) := Lib.hid fun vL W h => by have := r12_Carve Sp.spc0 Sp.wf0 (by simp [Sp.spc0]) vL 1 a b W h; rw [hq1] at this; exact this
  have CR2 : Hid (∀ vL W, SlR W 4 encBk vL m1.L → Calls Tryz.prog 32 #[.agg (sA m1 vL), .int .i64 2, .agg #[.int .i64 c, .int .i64 d]] W (RetSE vL (m2, e2) W)) := Lib.hid fun vL W h => by have := r12_Carve m1 hwf1.1 (by omega) vL 2 c d W h; rw [hq2] at this; exact this
  have HX0 := Lib.hid (WL.x w #[.int .i64 a, .int .i64 b, .int .i64 c, .int .i64 d, .slice pT T.length cT])
  have HB0 := Lib.hid (WL.below w #[.int .i64 a, .int .i64 b, .int .i64 c, .int .i64 d, .slice pT T.length cT])
  have HZ0 := Lib.hid (WL.size w #[.int .i64 a, .int .i64 b, .int .i64 c, .int .i64 d, .slice pT T.length cT])
  have HY0 := Lib.hid (WL.y w #[.int .i64 a, .int .i64 b, .int .i64 c, .int .i64 d, .slice pT T.length cT])
  have HN := Lib.hid fun W => spc_New2 W
  obtain ⟨W0, hW0⟩ : ∃ W0, WL w #[.int .i64 a, .int .i64 b, .int .i64 c, .int .i64 d, .slice pT T.length cT] = W0 := ⟨_, rfl⟩
  rw [hW0] at HB0 HZ0 HX0 HY0
  simp only [WL, sA, Sp.spc0] at hW0
  have HXW : Hid (∀ W, Below W0.heap.size W0 W → Blk W w.heap.size 38 #[.int .i64 a, .int .i64 b, .int .i64 c, .int .i64 d, .slice pT T.length cT]) := Lib.hid fun W h => HX0.out.below h HX0.out.lt
  unfold laidR
  rw [hm2]
  clear hq1 hq2 hm2 HX0
  go_enter Tryz.func14, Tryz.ntmps14
  go_wp2_with fail
  clear hW0
  refine (HN.out _).mono ?_
  rintro e w1 ⟨g, rfl, hg, hS, hb, hsl⟩
  have HL := Lib.hid (LW.first (⟨hS, hb, hg, fun b e => by cases e⟩ : AW W0 w1 g none Sp.spc0) hsl)
  have cx0 := fun o => ((HXW.out _ hb).alloc o).cell 0
  have cx1 := fun o => ((HXW.out _ hb).alloc o).cell 1
  simp only [List.getElem?_toArray, List.getElem?_cons_zero, List.getElem?_cons_succ] at cx0 cx1
  clear hS hb hg hsl
  go_wp2_with fail
  clear cx0 cx1
  refine (CV1.out _ _ HL.out.A.S).mono ?_
  rintro e w2 ⟨rfl, hL⟩
  obtain ⟨r2, HL2⟩ := HL.out.prog hL
  clear hL HL
  generalize w1.heap.size = z at *
  have cx := HXW.out _ HL2.A.bel
  have cx0 := cx.cell 0
  have cx1 := cx.cell 1
  simp only [List.getElem?_toArray, List.getElem?_cons_zero, List.getElem?_cons_succ] at cx0 cx1
  have HL2 := Lib.hid HL2
  clear cx
  go_wp2_with (refine wpList_load_row rfl _ _ rfl z rfl _ (sA Sp.spc0 (.slice none 0 0)) (0, 0) _ HL2.out.b Tryz.underlying44 rfl infoS ?_)
  clear cx0 cx1
  refine (CR1.out _ _ HL2.out.d.1).mono ?_
  rintro e w3 ⟨v3, rfl, h3, hn3, hb3⟩
  have HL3 := Lib.hid (HL2.out.doc h3 hn3 hb3)
  have HB3 := Lib.hid (HL2.out.next hb3).b
  obtain ⟨p3, c3, rfl, -⟩ := h3
  clear hn3 hb3 HL2
  have cx := HXW.out _ HL3.out.A.bel
  have cx2 := cx.cell 2
  have cx3 := cx.cell 3
  simp only [List.getElem?_toArray, List.getElem?_cons_zero, List.getElem?_cons_succ] at cx2 cx3
  clear cx
  go_wp2_with (refine wpList_store_row rfl _ _ _ rfl z (sA m1 (.slice p3 m1.L.length c3)) rfl rfl _ _ HB3.out infoS rfl (oneS _ _ _ _) ?_)
  clear cx2 cx3 HB3
  refine (CV2.out _ _ _ HL3.out.A.S).mono ?_
  rintro e w4 ⟨rfl, hL⟩
  obtain ⟨r4, HL4⟩ := HL3.out.prog hL
  clear hL HL3
  have cx := HXW.out _ HL4.A.bel
  have cx2 := cx.cell 2
  have cx3 := cx.cell 3
  simp only [List.getElem?_toArray, List.getElem?_cons_zero, List.getElem?_cons_succ] at cx2 cx3
  have HL4 := Lib.hid HL4
  clear cx
  go_wp2_with (refine wpList_load_row rfl _ _ rfl z rfl _ (sA m1 (.slice p3 m1.L.length c3)) (0, 0) _ HL4.out.b Tryz.underlying44 rfl infoS ?_)
  clear cx2 cx3
  refine (CR2.out _ _ HL4.out.d.1).mono ?_
  rintro e w5 ⟨v5, rfl, h5, hn5, hb5⟩
  have HL5 := Lib.hid (HL4.out.doc h5 hn5 hb5)
  have HB5 := Lib.hid (HL4.out.next hb5).b
  obtain ⟨p5, c5, rfl, -⟩ := h5
  clear hn5 hb5 HL4
  go_wp2_with (refine wpList_store_row rfl _ _ _ rfl z (sA m2 (.slice p5 m2.L.length c5)) rfl rfl _ _ HB5.out infoS rfl (oneS _ _ _ _) ?_)
  go_loopw [11, 12] (fun vo vi wr => ∃ (k : Nat) (r : Option Nat) (m : Sp.Spc) (vL : Value), vo = .bool true ∧ vi = .int .i64 k ∧ k ≤ T.length ∧ m.L.length ≤ k ∧ Hid (Sp.WF m ∧ m = (T.take k).foldl (fun m s => (Sp.takeR m 1 s).1) m2) ∧ Hid (LW W0 wr g r m vL m z)) (fun _ vi _ => T.length - (intOf vi).toNat)
  case atStart => exact ⟨0, _, m2, _, rfl, rfl, Nat.zero_le _, hL2, Lib.hid ⟨hwf2.1, rfl⟩, HL5⟩
  case round =>
    clear HL5 HB5 CV1 CV2 CR1 CR2
    obtain ⟨k, r, m, vL, rfl, rfl, hk, hml, HM, HL⟩ := hrel
    have cx := HXW.out _ HL.out.A.bel
    have cx4 := cx.cell 4
    simp only [List.getElem?_toArray, List.getElem?_cons_zero, List.getElem?_cons_succ] at cx4
    by_cases hlt : k < T.length
    · obtain ⟨bT, oT, rfl, hbs, hx0, hx1⟩ := HR.out.at2 hlt
      have HCW : Hid (∀ W, Below W0.heap.size W0 W → bT < W.heap.size ∧ W.cell? ⟨bT, oT + k * 2, none⟩ = some (.int .i64 T[k].1) ∧ W.cell? ⟨bT, oT + k * 2 + 1, none⟩ = some (.int .i64 T[k].2)) := Lib.hid fun W h => by
        have hz0 := HZ0.out
        have hb := HB0.out.trans (h.mono (by omega))
        exact ⟨Nat.lt_of_lt_of_le hbs hb.size, (hb.cell (p := ⟨bT, oT + k * 2, none⟩) hbs).trans hx0, (hb.cell (p := ⟨bT, oT + k * 2 + 1, none⟩) hbs).trans hx1⟩
      clear hx0 hx1 hbs
      have HTA := Lib.hid (foldl_snoc (m := m2) hlt)
      have HTK : Hid (∀ W, SpcR W g r m → Calls Tryz.prog 33 #[.pointer (some ⟨g, 0, none⟩), .int .i64 1, .agg #[.int .i64 T[k].1, .int .i64 T[k].2]] W (RetE g r (Sp.takeR m 1 T[k]) W)) := Lib.hid fun W h => spc_Take g r m HM.out.1 (by omega) 1 _ _ W h
      have HRT : Hid (∀ vL W, SlR W 4 encBk vL m.L → Calls Tryz.prog 34 #[.agg (sA m vL), .int .i64 1, .agg #[.int .i64 T[k].1, .int .i64 T[k].2]] W (RetSE vL (Sp.takeR m 1 T[k]) W)) := Lib.hid fun vL W h => r12_Take m HM.out.1 (by omega) vL 1 _ _ W h
      have htw := Sp.take_wf HM.out.1 1 T[k]
      rw [← HM.out.2] at HTA
      generalize hq : Sp.takeR m 1 T[k] = q at *
      obtain ⟨m', e'⟩ := q
      clear hq
      generalize T[k] = t at *
      obtain ⟨x, y⟩ := t
      simp only at htw HTA HTK HRT HCW
      have HTW := Lib.hid htw
      obtain ⟨hbs, hx0, hx1⟩ := HCW.out _ HL.out.A.bel
      clear htw
      go_wp2_with fail
      clear hbs hx0 hx1 cx4
      refine (HTK.out _ HL.out.A.S).mono ?_
      rintro e w2 ⟨rfl, hL⟩
      obtain ⟨r2, HL2⟩ := HL.out.prog hL
      obtain ⟨hbs, hx0, hx1⟩ := HCW.out _ HL2.A.bel
      have HS2 : Hid (LT w W0 #[.int .i64 a, .int .i64 b, .int .i64 c, .int .i64 d, .slice (some ⟨bT, oT, none⟩) T.length cT] g r2 m' vL m z bT (oT + k * 2) x y w2) := Lib.hid ⟨HL2, HXW.out _ HL2.A.bel, hbs, hx0, hx1⟩
      have HVL := HL2.d.1
      obtain ⟨pL, cL, rfl, -⟩ := HVL
      clear hL HL HL2 hbs hx0 hx1
      go_wp2_with fail
      refine wp_region_held_drew (S := fun W => LT w W0 #[.int .i64 a, .int .i64 b, .int .i64 c, .int .i64 d, .slice (some ⟨bT, oT, none⟩) T.length cT] g r2 m' (.slice pL m.L.length cL) m z bT (oT + k * 2) x y W) (by kernel_rfl) (HS2.out.next (Below.refl _ _).drew) (fun hHeld => ?_)
      refine wpAnyH_take (i := 0) rfl (by kernel_rfl) (by kernel_rfl) (by kernel_rfl) (fun _ _ _ h => h) (yieldsIf_load_row (by rfl) _ _ rfl (z) rfl _ (sA m (.slice pL m.L.length cL)) _ (fun w h => h.L.b) Tryz.underlying44 rfl infoS) (by assumption) ?_
      simp only [Act.put, List.setIfInBounds_toArray, List.set_cons_zero, List.set_cons_succ, List.getElem_toArray, List.getElem_cons_zero, List.getElem_cons_succ]
      refine wpAnyH_take (i := 1) (v := ?_) rfl (by kernel_rfl) (by kernel_rfl) (by kernel_rfl) (fun _ _ _ h => h) (Or.inl ⟨by rfl, ?_⟩) (by assumption) ?_
      rotate_left
      · intro w hSw; go_simp; try with_reducible rfl
      simp only [Act.put, List.setIfInBounds_toArray, List.set_cons_zero, List.set_cons_succ, List.getElem_toArray, List.getElem_cons_zero, List.getElem_cons_succ]
      refine wpAnyH_take (i := 2) (v := ?_) rfl (by kernel_rfl) (by kernel_rfl) (by kernel_rfl) (fun _ _ _ h => h) (Or.inl ⟨by rfl, ?_⟩) (by assumption) ?_
      rotate_left
      · intro w h; have c4 := h.X.cell 4; go_simp; try with_reducible rfl
      simp only [Act.put, List.setIfInBounds_toArray, List.set_cons_zero, List.set_cons_succ, List.getElem_toArray, List.getElem_cons_zero, List.getElem_cons_succ]
      refine wpAnyH_take (i := 3) (v := ?_) rfl (by kernel_rfl) (by kernel_rfl) (by kernel_rfl) (fun _ _ _ h => h) (Or.inl ⟨by rfl, ?_⟩) (by assumption) ?_
      rotate_left
      · intro w hSw; go_simp; try with_reducible rfl
      simp only [Act.put, List.setIfInBounds_toArray, List.set_cons_zero, List.set_cons_succ, List.getElem_toArray, List.getElem_cons_zero, List.getElem_cons_succ]
      refine wpAnyH_take (i := 4) (v := ?_) rfl (by kernel_rfl) (by kernel_rfl) (by kernel_rfl) (fun _ _ _ h => h) (Or.inl ⟨by rfl, ?_⟩) (by assumption) ?_
      rotate_left
      · intro w hSw; go_simp; try with_reducible rfl
      simp only [Act.put, List.setIfInBounds_toArray, List.set_cons_zero, List.set_cons_succ, List.getElem_toArray, List.getElem_cons_zero, List.getElem_cons_succ]
      refine wpAnyH_take (i := 5) (v := ?_) rfl (by kernel_rfl) (by kernel_rfl) (by kernel_rfl) (fun _ _ _ h => h) (Or.inl ⟨by rfl, ?_⟩) (by assumption) ?_
      rotate_left
      · intro w h; have c0 := h.c0; have c1 := h.c1; go_simp; try with_reducible rfl
      simp only [Act.put, List.setIfInBounds_toArray, List.set_cons_zero, List.set_cons_succ, List.getElem_toArray, List.getElem_cons_zero, List.getElem_cons_succ]
      have HL4 := Lib.hid hHeld.L
      refine held_two (i := 6) (j := 10) rfl rfl (by kernel_rfl) (by rfl) (by rfl) (fun K hK => ?_) (fun K hK => ?_)
      · go_simp
        refine (HRT.out _ _ HL4.out.d.1).mono ?_; rintro e w5 ⟨v5, rfl, h5, hn5, hb5⟩; have HV5 := hHeld.next hb5; obtain ⟨p5, c5, hv5, -⟩ := id h5; subst hv5
        go_wp2_with fail
        refine hK.out _ _ HV5 (fun hHeld => ?_)
        clear hK K
        try simp only [Act.put, List.setIfInBounds_toArray, List.set_cons_zero, List.set_cons_succ, List.getElem_toArray, List.getElem_cons_zero, List.getElem_cons_succ]
        refine wpAnyH_take (i := 7) (v := ?_) rfl (by kernel_rfl) (by kernel_rfl) (by kernel_rfl) (fun _ _ _ h => h) (Or.inl ⟨by rfl, ?_⟩) (by assumption) ?_
        rotate_left
        · intro w hSw; go_simp; try with_reducible rfl
        simp only [Act.put, List.setIfInBounds_toArray, List.set_cons_zero, List.set_cons_succ, List.getElem_toArray, List.getElem_cons_zero, List.getElem_cons_succ]
        refine wpAnyH_take (i := 8) (v := ?_) rfl (by kernel_rfl) (by kernel_rfl) (by kernel_rfl) (fun _ _ _ h => h) (Or.inl ⟨by rfl, ?_⟩) (by assumption) ?_
        rotate_left
        · intro w hSw; go_simp; try with_reducible rfl
        simp only [Act.put, List.setIfInBounds_toArray, List.set_cons_zero, List.set_cons_succ, List.getElem_toArray, List.getElem_cons_zero, List.getElem_cons_succ]
        refine wpAnyH_take (i := 9) (v := ?_) rfl (by kernel_rfl) (by kernel_rfl) (by kernel_rfl) (fun _ _ _ h => h) (Or.inl ⟨by rfl, ?_⟩) (by assumption) ?_
        rotate_left
        · intro w hSw; go_simp; try with_reducible rfl
        simp only [Act.put, List.setIfInBounds_toArray, List.set_cons_zero, List.set_cons_succ, List.getElem_toArray, List.getElem_cons_zero, List.getElem_cons_succ]
        refine held_step (i := 10) rfl (by kernel_rfl) (by rfl) (fun K hK => ?_)
        go_simp
        refine hK.out _ _ (hHeld.next (belowA _ _)) (fun hHeld => ?_)
        clear hK K
        try simp only [Act.put, List.setIfInBounds_toArray, List.set_cons_zero, List.set_cons_succ, List.getElem_toArray, List.getElem_cons_zero, List.getElem_cons_succ]
        refine held_step (i := 11) rfl (by kernel_rfl) (by rfl) (fun K hK => ?_)
        refine wp_store_row _ _ _ rfl (w5.heap.size) (sA m' (.slice p5 m'.L.length c5)) rfl rfl _ (sA Sp.spc0 (.slice none 0 0)) (Blk.new w5 _ _) infoS (rfl) (oneS _ _ _ _) ?_
        refine hK.out _ _ (HV5.next (below_setRow (belowA w5 _) (Nat.le_refl _) _)) (fun hHeld => ?_)
        clear hK K
        try simp only [Act.put, List.setIfInBounds_toArray, List.set_cons_zero, List.set_cons_succ, List.getElem_toArray, List.getElem_cons_zero, List.getElem_cons_succ]
        refine wpAnyH_take (i := 12) (v := ?_) rfl (by kernel_rfl) (by kernel_rfl) (by kernel_rfl) (fun _ _ _ h => h) (Or.inl ⟨by rfl, ?_⟩) (by assumption) ?_
        rotate_left
        · intro w hSw; go_simp; try with_reducible rfl
        simp only [Act.put, List.setIfInBounds_toArray, List.set_cons_zero, List.set_cons_succ, List.getElem_toArray, List.getElem_cons_zero, List.getElem_cons_succ]
        refine wpAnyH_done (by kernel_rfl) ?_ _
        have HBV := Lib.hid (below_setRow (belowA w5 (.cells (sA Sp.spc0 (.slice none 0 0)) 44)) (Nat.le_refl _) (sA m' (.slice p5 m'.L.length c5)))
        have HN5 := Lib.hid ((Blk.new w5 44 (sA Sp.spc0 (.slice none 0 0))).setRow (sA m' (.slice p5 m'.L.length c5)))
        have HL5 := Lib.hid (HL4.out.doc (q := m') (h5.below HBV.out (Nat.le_refl _)) hn5 (hb5.trans (HBV.out.mono hb5.size)))
        have HZ5 := Lib.hid (HL4.out.next (hb5.trans (HBV.out.mono hb5.size))).b
        go_wp2_with (first
          | (refine wpList_load_row rfl _ _ rfl _ rfl _ _ (0, 0) _ HN5.out Tryz.underlying44 rfl infoS ?_)
          | (refine wpList_store_row rfl _ _ _ rfl z (sA m' (.slice p5 m'.L.length c5)) rfl rfl _ _ HZ5.out infoS rfl (oneS _ _ _ _) ?_))
        exact ⟨⟨k + 1, r2, m', _, rfl, by go_num, by omega, by have := HTW.out.2; omega, Lib.hid ⟨HTW.out.1, HTA.out.symm⟩, HL5⟩, by simp [intOf]; omega⟩
      · go_simp
        refine hK.out _ _ (hHeld.next (belowA _ _)) (fun hHeld => ?_)
        clear hK K
        try simp only [Act.put, List.setIfInBounds_toArray, List.set_cons_zero, List.set_cons_succ, List.getElem_toArray, List.getElem_cons_zero, List.getElem_cons_succ]
        have HN2 := Lib.hid (Blk.new w2.drew 44 (sA Sp.spc0 (.slice none 0 0)))
        have HNX := Lib.hid (HL4.out.next (belowA w2.drew (.cells (sA Sp.spc0 (.slice none 0 0)) 44)))
        have HBA := Lib.hid (belowA w2.drew (.cells (sA Sp.spc0 (.slice none 0 0)) 44))
        have HZL := Lib.hid HL4.out.b.lt
        refine held_step (i := 6) rfl (by kernel_rfl) (by rfl) (fun K hK => ?_)
        go_simp
        refine (HRT.out _ _ HNX.out.d.1).mono ?_; rintro e w5 ⟨v5, rfl, h5, hn5, hb5⟩; have HV5 := hHeld.next hb5; obtain ⟨p5, c5, hv5, -⟩ := id h5; subst hv5
        go_wp2_with fail
        refine hK.out _ _ HV5 (fun hHeld => ?_)
        clear hK K
        try simp only [Act.put, List.setIfInBounds_toArray, List.set_cons_zero, List.set_cons_succ, List.getElem_toArray, List.getElem_cons_zero, List.getElem_cons_succ]
        have HN5 := Lib.hid (HN2.out.below hb5 HN2.out.lt)
        have HB5 := Lib.hid (HBA.out.trans (hb5.mono HBA.out.size))
        have HBV := Lib.hid (below_setRow HB5.out (Nat.le_refl _) (sA m' (.slice p5 m'.L.length c5)))
        refine wpAnyH_take (i := 7) (v := ?_) rfl (by kernel_rfl) (by kernel_rfl) (by kernel_rfl) (fun _ _ _ h => h) (Or.inl ⟨by rfl, ?_⟩) (by assumption) ?_
        rotate_left
        · intro w hSw; go_simp; try with_reducible rfl
        simp only [Act.put, List.setIfInBounds_toArray, List.set_cons_zero, List.set_cons_succ, List.getElem_toArray, List.getElem_cons_zero, List.getElem_cons_succ]
        refine wpAnyH_take (i := 8) (v := ?_) rfl (by kernel_rfl) (by kernel_rfl) (by kernel_rfl) (fun _ _ _ h => h) (Or.inl ⟨by rfl, ?_⟩) (by assumption) ?_
        rotate_left
        · intro w hSw; go_simp; try with_reducible rfl
        simp only [Act.put, List.setIfInBounds_toArray, List.set_cons_zero, List.set_cons_succ, List.getElem_toArray, List.getElem_cons_zero, List.getElem_cons_succ]
        refine wpAnyH_take (i := 9) (v := ?_) rfl (by kernel_rfl) (by kernel_rfl) (by kernel_rfl) (fun _ _ _ h => h) (Or.inl ⟨by rfl, ?_⟩) (by assumption) ?_
        rotate_left
        · intro w hSw; go_simp; try with_reducible rfl
        simp only [Act.put, List.setIfInBounds_toArray, List.set_cons_zero, List.set_cons_succ, List.getElem_toArray, List.getElem_cons_zero, List.getElem_cons_succ]
        refine held_step (i := 11) rfl (by kernel_rfl) (by rfl) (fun K hK => ?_)
        refine wp_store_row _ _ _ rfl (w2.drew.heap.size) (sA m' (.slice p5 m'.L.length c5)) rfl rfl _ (sA Sp.spc0 (.slice none 0 0)) (HN5.out) infoS (rfl) (oneS _ _ _ _) ?_
        refine hK.out _ _ ((HS2.out.next (Below.refl _ _).drew).next HBV.out) (fun hHeld => ?_)
        clear hK K
        try simp only [Act.put, List.setIfInBounds_toArray, List.set_cons_zero, List.set_cons_succ, List.getElem_toArray, List.getElem_cons_zero, List.getElem_cons_succ]
        refine wpAnyH_take (i := 12) (v := ?_) rfl (by kernel_rfl) (by kernel_rfl) (by kernel_rfl) (fun _ _ _ h => h) (Or.inl ⟨by rfl, ?_⟩) (by assumption) ?_
        rotate_left
        · intro w hSw; go_simp; try with_reducible rfl
        simp only [Act.put, List.setIfInBounds_toArray, List.set_cons_zero, List.set_cons_succ, List.getElem_toArray, List.getElem_cons_zero, List.getElem_cons_succ]
        refine wpAnyH_done (by kernel_rfl) ?_ _
        have HN5 := Lib.hid (HN5.out.setRow (sA m' (.slice p5 m'.L.length c5)))
        have hnb : ∀ x, (Value.slice p5 m'.L.length c5).ownBlock = some x → (Value.slice pL m.L.length cL).ownBlock = some x ∨ w2.drew.heap.size < x := fun x hx => by
          rcases hn5 x hx with h | h
          · exact Or.inl h
          · refine Or.inr ?_
            rw [World.size_alloc] at h
            omega
        have hvl : ∀ x, (Value.slice pL m.L.length cL).ownBlock = some x → x < w2.drew.heap.size := fun x hx => HL4.out.d.1.own_lt x hx
        have HL5 := Lib.hid (HL4.out.doc (q := m') (slr_setRow h5 (fun e => by rcases hnb _ e with h | h; have := hvl _ h; omega; omega)) (fun x hx => by rcases hnb x hx with h | h; exact Or.inl h; exact Or.inr (by omega)) HBV.out)
        have HZ5 := Lib.hid (HL4.out.next HBV.out).b
        go_wp2_with (first
          | (refine wpList_load_row rfl _ _ rfl _ rfl _ _ (0, 0) _ HN5.out Tryz.underlying44 rfl infoS ?_)
          | (refine wpList_store_row rfl _ _ _ rfl z (sA m' (.slice p5 m'.L.length c5)) rfl rfl _ _ HZ5.out infoS rfl (oneS _ _ _ _) ?_))
        exact ⟨⟨k + 1, r2, m', _, rfl, by go_num, by omega, by have := HTW.out.2; omega, Lib.hid ⟨HTW.out.1, HTA.out.symm⟩, HL5⟩, by simp [intOf]; omega⟩
    · obtain rfl : k = T.length := by omega
      have hz0 := HZ0.out
      have HE : Hid (LE w g r m vL z wr) := Lib.hid ⟨HL.out.A.S, HL.out.d.1, HL.out.b, ⟨_, HY0.out.below HL.out.A.bel (by omega), rfl⟩, HB0.out.trans (HL.out.A.bel.mono (by omega)), by have := HL.out.A.hg; omega, fun b e => by have := HL.out.A.hr b e; omega, by have := HL.out.hz; omega, fun k hk a n c hc => by have := HL.out.n5 k hk a n c hc; omega, fun b e => by have := HL.out.n6 b e; omega⟩
      have HMQ := Lib.hid (show m = T.foldl (fun m s => (Sp.takeR m 1 s).1) m2 by have h := HM.out.2; rw [List.take_length] at h; exact h)
      obtain ⟨pL, cL, rfl, -⟩ := id HL.out.d.1
      clear HL HM
      go_wp2_with fail
      refine wp_region_held_drew (S := fun W => LE w g r m (.slice pL m.L.length cL) z W) (by kernel_rfl) (HE.out.next (Below.refl _ _).drew) (fun hHeld => ?_)
      refine wpAnyH_take (i := 0) (v := ?_) rfl (by kernel_rfl) (by kernel_rfl) (by kernel_rfl) (fun _ _ _ h => h) (Or.inl ⟨by rfl, ?_⟩) (by assumption) ?_
      rotate_left
      · intro w hSw; go_simp; try with_reducible rfl
      simp only [Act.put, List.setIfInBounds_toArray, List.set_cons_zero, List.set_cons_succ, List.getElem_toArray, List.getElem_cons_zero, List.getElem_cons_succ]
      refine wpAnyH_take (i := 1) rfl (by kernel_rfl) (by kernel_rfl) (by kernel_rfl) (fun _ _ _ h => h) (yieldsIf_load_row (by rfl) _ _ rfl (z) rfl _ (sA m (.slice pL m.L.length cL)) _ (fun w h => h.b) Tryz.underlying44 rfl infoS) (by assumption) ?_
      simp only [Act.put, List.setIfInBounds_toArray, List.set_cons_zero, List.set_cons_succ, List.getElem_toArray, List.getElem_cons_zero, List.getElem_cons_succ]
      refine wpAnyH_take (i := 2) (v := ?_) rfl (by kernel_rfl) (by kernel_rfl) (by kernel_rfl) (fun _ _ _ h => h) (Or.inl ⟨by rfl, ?_⟩) (by assumption) ?_
      rotate_left
      · intro w hSw; go_simp; try with_reducible rfl
      simp only [Act.put, List.setIfInBounds_toArray, List.set_cons_zero, List.set_cons_succ, List.getElem_toArray, List.getElem_cons_zero, List.getElem_cons_succ]
      refine wpAnyH_take (i := 3) (v := ?_) rfl (by kernel_rfl) (by kernel_rfl) (by kernel_rfl) (fun _ _ _ h => h) (Or.inl ⟨by rfl, ?_⟩) (by assumption) ?_
      rotate_left
      · intro w hSw; go_simp; try with_reducible rfl
      simp only [Act.put, List.setIfInBounds_toArray, List.set_cons_zero, List.set_cons_succ, List.getElem_toArray, List.getElem_cons_zero, List.getElem_cons_succ]
      obtain ⟨yc, hy1, hy2⟩ := hHeld.y
      refine held_step (i := 4) rfl (by kernel_rfl) (by rfl) (fun K hK => ?_)
      refine wp_store_row _ _ _ rfl (w.heap.size + 1) (sA m (.slice pL m.L.length cL)) rfl rfl _ (yc) (hy1) infoS (hy2) (oneS _ _ _ _) ?_
      refine hK.out _ _ (hHeld.setY rfl) (fun hHeld => ?_)
      clear hK K
      try simp only [Act.put, List.setIfInBounds_toArray, List.set_cons_zero, List.set_cons_succ, List.getElem_toArray, List.getElem_cons_zero, List.getElem_cons_succ]
      refine wpAnyH_take (i := 5) (v := ?_) rfl (by kernel_rfl) (by kernel_rfl) (by kernel_rfl) (fun _ _ _ h => h) (Or.inl ⟨by rfl, ?_⟩) (by assumption) ?_
      rotate_left
      · intro w hSw; go_simp; try with_reducible rfl
      simp only [Act.put, List.setIfInBounds_toArray, List.set_cons_zero, List.set_cons_succ, List.getElem_toArray, List.getElem_cons_zero, List.getElem_cons_succ]
      refine wpAnyH_done (by kernel_rfl) ?_ _
      go_wp2_with fail
      exact bodyPost_ret (results_tct rfl _ _ (w.heap.size + 1) _ _ _ _ rfl (hy1.setRow _) Tryz.underlying44 rfl infoS) rfl ⟨g, r, .slice pL m.L.length cL, by rw [← HMQ.out]; rfl, by rw [← HMQ.out]; exact hHeld.S, by rw [← HMQ.out]; exact hHeld.d, hHeld.bel⟩
end Go.Proofs.YtilahcnpjbnjiaaGreatDoor
