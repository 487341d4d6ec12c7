/- The space package: New, put. -/
import Derived.Test.YtbeombmblifohaaSpcState
namespace Go.Proofs.Ytbeombmblifohaa
set_option linter.unusedVariables false
set_option linter.unusedSimpArgs false
open Go.RowKit Go.Shelf Go.Proofs

/-- a new space -/
def RetNew (w : World) (e : Ending) (w' : World) : Prop := ∃ g, e = .returned (.pointer (some ⟨g, 0, none⟩)) ∧ w.heap.size ≤ g ∧ SpcR w' g none Sp.spc0 ∧ Below w.heap.size w w'
theorem add_whole : Sp.add [] (16, 1048575) = [(16, 1048575)] := by decide
set_option maxRecDepth 100000 in
set_option maxHeartbeats 1000000 in
theorem spc_New (w : World) : Calls Try.prog 8 #[] w (RetNew w) := by
  obtain ⟨g, hg⟩ : ∃ g, g = w.heap.size := ⟨_, rfl⟩
  have hblk : Blk (w.alloc (.cells (spcG (fun _ => .slice none 0 0) (0, 0) (0, 0) (.slice none 0 0)) 67)) w.heap.size 67 (spcG (fun _ => .slice none 0 0) (0, 0) (0, 0) (.slice none 0 0)) := Blk.new _ _ _
  have hG : SpcG (w.alloc (.cells (spcG (fun _ => .slice none 0 0) (0, 0) (0, 0) (.slice none 0 0)) 67)) w.heap.size none (fun _ => []) (fun _ => .slice none 0 0) (0, 0) (0, 0) [] (.slice none 0 0) :=
    ⟨hblk, fun k _ _ => ⟨slr_nil _, fun b hb => by cases hb⟩, World.ownsRow_nil _ _ _ _, rfl⟩
  have HC := Lib.hid (free_add w.heap.size 0 (by omega) (by omega) (.slice none 0 0) [] 16 1048575 _ (hG.cell (by omega) (by omega)) (hblk.frozen' 0) (slr_nil _) (by simp))
  have HG := Lib.hid hG
  have HB := Lib.hid (belowA w (.cells (spcG (fun _ => .slice none 0 0) (0, 0) (0, 0) (.slice none 0 0)) 67))
  clear hG hblk
  simp only [spcG] at HC HG HB
  go_enter Try.func8, Try.ntmps8
  go_wp2_with fail
  refine HC.out.mono ?_
  rintro e w1 ⟨rfl, v, W1, ho, hb, hw1⟩
  rw [add_whole] at ho
  have HW := Lib.hid hw1
  have HO := Lib.hid (And.intro ho hb)
  clear hw1 ho hb
  go_wp2_with fail
  go_ret
  have hlt : w.heap.size < (w.alloc (.cells (spcG (fun _ => .slice none 0 0) (0, 0) (0, 0) (.slice none 0 0)) 67)).heap.size := by simp
  have hG1 := (HG.out.below HO.out.2).put (k := 0) (by omega) (by omega) HO.out.1 hlt (fun b hb => by cases hb)
  rw [← HW.out] at hG1
  refine ⟨_, rfl, Nat.le_refl _, hG1.spcR (m := Sp.spc0) fun k h0 h2 => ?_, ?_⟩
  · have : k = 0 ∨ k = 1 ∨ k = 2 := by omega
    rcases this with rfl | rfl | rfl <;> rfl
  · rw [HW.out]
    exact (HB.out.trans (HO.out.2.mono (by simp))).setCell (Nat.le_refl _) _

/-- the areas' slices are those that were there, or new ones -/
def Old (g : Nat) (W w' : World) : Prop := ∀ k : Nat, k ≤ 2 → ∀ a n c, w'.cell? ⟨g, k, none⟩ = some (.slice (some a) n c) → W.heap.size ≤ a.block ∨ ∃ j a' n' c', j ≤ 2 ∧ W.cell? ⟨g, j, none⟩ = some (.slice (some a') n' c') ∧ a'.block = a.block
theorem Old.of_below {g : Nat} {W w' : World} (hg : g < W.heap.size) (hb : Below W.heap.size W w') : Old g W w' := fun k hk a n c h =>
  Or.inr ⟨k, a, n, c, hk, by rw [← hb.cell (p := ⟨g, k, none⟩) hg]; exact h, rfl⟩
theorem Old.trans {g : Nat} {W W1 W2 : World} (h : Old g W W1) (k : Old g W1 W2) (hs : W.heap.size ≤ W1.heap.size) : Old g W W2 := fun j hj a n c hc => by
  rcases k j hj a n c hc with h1 | ⟨j', a', n', c', hj', h1, h2⟩
  · exact Or.inl (Nat.le_trans hs h1)
  · rw [← h2]; exact h j' hj' a' n' c' h1
/-- what a method on a space leaves -/
def Left (g : Nat) (r : Option Nat) (m' : Sp.Spc) (W w' : World) : Prop := ∃ r', SpcR w' g r' m' ∧ NewRow W r r' ∧ Frm g r W w' ∧ Old g W w'
theorem Left.same {g : Nat} {r : Option Nat} {m : Sp.Spc} {W w' : World} (h : SpcR W g r m) (hb : Below W.heap.size W w') : Left g r m W w' := ⟨r, h.below hb, NewRow.refl _ _, Frm.of_below hb, Old.of_below h.lt hb⟩
/-- a cell of another block turns -/
theorem SpcR.other {W : World} {g : Nat} {r : Option Nat} {m : Sp.Spc} (h : SpcR W g r m) (b0 i : Nat) (v : Value) (h1 : b0 ≠ g) (h2 : some b0 ≠ r) (h3 : ∀ k : Nat, k ≤ 2 → ∀ a n c, W.cell? ⟨g, k, none⟩ = some (.slice (some a) n c) → a.block ≠ b0) : SpcR (W.setCell ⟨b0, i, none⟩ v) g r m := by
  obtain ⟨v0, v1, v2, vb, k1, k2, k3, k4, k5, k6⟩ := h
  have key : ∀ (x : Value) (l : List Sp.S) (k : Nat), k ≤ 2 → W.cell? ⟨g, k, none⟩ = some x → SlF W g r x l → SlF (W.setCell ⟨b0, i, none⟩ v) g r x l := fun x l k hk hc hx => by
    refine ⟨(Frm.setCell b0 none W i v).slr hx.1 fun b hb => ⟨fun e => ?_, by simp⟩, hx.2⟩
    obtain ⟨p, cap, hv, _⟩ := hx.1
    rw [hv] at hb hc
    cases p with
    | none => cases hb
    | some a =>
      have hab : a.block = b := Option.some.inj hb
      exact h3 k hk a _ _ hc (by omega)
  refine ⟨v0, v1, v2, vb, k1.other _ _ (Ne.symm h1), key v0 _ 0 (by omega) (k1.cell 0) k2, key v1 _ 1 (by omega) (k1.cell 1) k3, key v2 _ 2 (by omega) (k1.cell 2) k4, k5.kept (grown_set W b0 i v) (Or.inr fun e => h2 (e.symm.trans k6)), k6⟩
theorem insB_at (b : Sp.Bk) (L : List Sp.Bk) : Sp.insB b L = L.take (ahead b L) ++ b :: L.drop (ahead b L) := by
  have h := List.takeWhile_append_dropWhile (p := fun c : Sp.Bk => decide (c.sp.1 < b.sp.1)) (l := L)
  unfold Sp.insB ahead
  generalize L.takeWhile (fun c : Sp.Bk => decide (c.sp.1 < b.sp.1)) = A at h ⊢
  generalize L.dropWhile (fun c : Sp.Bk => decide (c.sp.1 < b.sp.1)) = B at h ⊢
  rw [← h, List.take_left' rfl, List.drop_left' rfl]
theorem srt_first {m : Sp.Spc} (h : Sp.WF m) : m.L.Pairwise (fun a b => a.sp.1 < b.sp.1) := by
  refine (List.pairwise_iff_forall_sublist.2 ?_)
  intro a b hs
  have h1 := List.pairwise_iff_forall_sublist.1 h.srt hs
  have h2 := Sp.owns_iff.1 (h.ok a (hs.subset (by simp))).1
  omega
/-- put, between two calls -/
structure PU (w W : World) (g : Nat) (r : Option Nat) (F : Int → List Sp.S) (V : Int → Value) (a1 a2 : Sp.S) (L : List Sp.Bk) (vb : Value) (b : Sp.Bk) : Prop where
  G : SpcG W g r F V a1 a2 L vb
  box : Blk W w.heap.size 47 (encBk b).toArray
  frm : Frm g r w W
section
variable {w W : World} {g : Nat} {r : Option Nat} {F : Int → List Sp.S} {V : Int → Value} {a1 a2 : Sp.S} {L : List Sp.Bk} {vb : Value} {b : Sp.Bk}
theorem PU.next (h : PU w W g r F V a1 a2 L vb b) {W' : World} (hb : Below W.heap.size W W') : PU w W' g r F V a1 a2 L vb b :=
  ⟨h.G.below hb, h.box.below hb h.box.lt, h.frm.trans (Frm.of_below hb) (NewRow.refl _ _)⟩
theorem PU.drewN (h : PU w W g r F V a1 a2 L vb b) (n : Nat) : PU w (W.drewN n) g r F V a1 a2 L vb b := h.next (below_drewN (Below.refl _ _) n)
theorem PU.init (h : SpcG w g r F V a1 a2 L vb) : PU w (w.alloc (.cells (encBk b).toArray 47)) g r F V a1 a2 L vb b :=
  ⟨h.below (belowA w _), Blk.new _ _ _, Frm.of_below (belowA w _)⟩
theorem PU.drew (h : PU w W g r F V a1 a2 L vb b) : PU w W.drew g r F V a1 a2 L vb b := h.next (Below.refl _ _).drew
theorem PU.cut (h : PU w W g r F V a1 a2 L vb b) {k : Int} (h0 : 0 ≤ k) (h2 : k ≤ 2) {l : List Sp.S} {W1 : World} {v : Value} (ho : W1.ownsRow W.heap.size 27 2 v l.length (flat encSp l)) (hb : Below W.heap.size W W1) (hg : g < w.heap.size) :
    PU w (W1.setCell ⟨g, k.toNat, none⟩ v) g r (upd F k l) (upd V k v) a1 a2 L vb b := by
  have hn := h.next hb
  refine ⟨hn.G.put h0 h2 ho (Nat.lt_of_lt_of_le hg h.frm.size) (fun b hb => (h.G.rowlt b hb).2), hn.box.other _ _ (show w.heap.size ≠ g by omega), hn.frm.trans (Frm.setCell g r W1 _ _) (NewRow.refl _ _)⟩
end
/-- the cells that put reads -/
abbrev SPU (w : World) (g : Nat) (r : Option Nat) (F : Int → List Sp.S) (V : Int → Value) (a1 a2 : Sp.S) (L : List Sp.Bk) (vb : Value) (b : Sp.Bk) (W : World) : Prop :=
  W.cell? ⟨w.heap.size, 0, none⟩ = some (.int .i64 b.sp.1) ∧ W.cell? ⟨w.heap.size, 1, none⟩ = some (.int .i64 b.sp.2) ∧ W.cell? ⟨w.heap.size, 2, none⟩ = some (.int .i64 b.owner) ∧ W.cell? ⟨w.heap.size, 3, none⟩ = some (.int .i64 b.area) ∧ W.cell? ⟨g, 9, none⟩ = some vb ∧ PU w W g r F V a1 a2 L vb b
theorem PU.spu {w W : World} {g : Nat} {r : Option Nat} {F : Int → List Sp.S} {V : Int → Value} {a1 a2 : Sp.S} {L : List Sp.Bk} {vb : Value} {b : Sp.Bk} (h : PU w W g r F V a1 a2 L vb b) : SPU w g r F V a1 a2 L vb b W :=
  ⟨h.box.cell 0, h.box.cell 1, h.box.cell 2, h.box.cell 3, h.G.blk.cell 9, h⟩
abbrev SBX (w : World) (b : Sp.Bk) (W : World) : Prop :=
  W.cell? ⟨w.heap.size, 0, none⟩ = some (.int .i64 b.sp.1) ∧ W.cell? ⟨w.heap.size, 1, none⟩ = some (.int .i64 b.sp.2) ∧ W.cell? ⟨w.heap.size, 2, none⟩ = some (.int .i64 b.owner) ∧ W.cell? ⟨w.heap.size, 3, none⟩ = some (.int .i64 b.area)
theorem PU.sbx {w W : World} {g : Nat} {r : Option Nat} {F : Int → List Sp.S} {V : Int → Value} {a1 a2 : Sp.S} {L : List Sp.Bk} {vb : Value} {b : Sp.Bk} (h : PU w W g r F V a1 a2 L vb b) : SBX w b W := ⟨h.box.cell 0, h.box.cell 1, h.box.cell 2, h.box.cell 3⟩
set_option maxRecDepth 100000 in
set_option maxHeartbeats 4000000 in
theorem spc_put (g : Nat) (r : Option Nat) (m : Sp.Spc) (hm : Sp.WF m) (hl : m.L.length ≤ 1000) (s : Sp.S) (o k : Int) (h0 : 0 ≤ k) (h2 : k ≤ 2) (ho : 1 ≤ o) (hs : Sp.has (Sp.leftR m k) s = true) (w : World) (h : SpcR w g r m) :
    Calls Try.prog 42 #[.pointer (some ⟨g, 0, none⟩), .agg (encBk ⟨s, o, k⟩).toArray] w fun e w' => e = .returned (.tuple #[]) ∧ Left g r (Sp.putR m ⟨s, o, k⟩) w w' := by
  obtain ⟨a, b⟩ := s
  obtain ⟨V, vb, hG⟩ := SpcG.of h
  have hVc : ∀ j : Int, 0 ≤ j → j ≤ 2 → w.cell? ⟨g, j.toNat, none⟩ = some (V j) := fun j j0 j2 => hG.cell j0 j2
  have HVC := Lib.hid hVc
  clear hVc
  have hgl := h.lt
  have P0 := Lib.hid (PU.init (b := ⟨(a, b), o, k⟩) hG)
  obtain ⟨pk1, pk2, pk3⟩ := Sp.put_ok hm h0 h2 ho hs
  have hll := Sp.left_len hm k
  have FC := Lib.hid fun (W : World) (hP : PU w W g r (Sp.leftR m) V m.a1 m.a2 m.L vb ⟨(a, b), o, k⟩) => free_cut g k h0 h2 (V k) (Sp.leftR m k) a b W (hP.G.cell h0 h2) (hP.G.blk.frozen' _) (hP.G.left k h0 h2).1 (by omega)
  have hsrt := srt_first hm
  have d0 := fun W (hP : PU w W g r (Sp.leftR m) V m.a1 m.a2 m.L vb ⟨(a, b), o, k⟩) => hP.box
  clear h hG
  have HG := Lib.hid hgl
  simp only [encBk] at P0
  go_enter Try.func42, Try.ntmps42
  simp only [encBk]
  go_wp2_with fail
  generalize w.alloc (.cells #[.int .i64 a, .int .i64 b, .int .i64 o, .int .i64 k] 47) = W0 at P0 ⊢
  have hst0 := P0.out
  go_region_held3 (fun W => SBX w ⟨(a, b), o, k⟩ W)
    (first
      | exact PU.sbx (by assumption)
      | (go_split_ands; exact PU.sbx (by assumption))
      | (go_split_ands; exact PU.sbx (PU.drew (by assumption))))
    (first
      | (go_at_call 49; refine (FC.out _ (by first | exact P0.out.drew | exact P0.out)).mono ?_; rintro e w1 ⟨rfl, v1, W1, ho1, hb1, hw1⟩; have P2 := (by first | exact PU.cut (k := k) (l := Sp.cut (Sp.leftR m k) (a, b)) P0.out.drew h0 h2 ho1 hb1 hgl | exact PU.cut (k := k) (l := Sp.cut (Sp.leftR m k) (a, b)) P0.out h0 h2 ho1 hb1 hgl); rw [← hw1] at P2; clear hw1))
  have P2 := Lib.hid P2
  have hv1 : ∀ a n c, v1 = .slice (some a) n c → w.heap.size ≤ a.block := fun a n c e => by
    have h1 := (ho1.lt a.block (by rw [e]; rfl)).1
    have h2 := P0.out.frm.size
    simp at h1
    omega
  have HV1 := Lib.hid hv1
  clear ho1 hb1 hst0 P0 FC hv1
  have hmL : m.L.length ≤ 1000000 := by omega
  have SE := Lib.hid fun (W : World) (h : SlR W 4 encBk vb m.L) => search_bk m.L hmL ⟨(a, b), o, k⟩ vb W h hsrt
  have IN := Lib.hid fun (x : Nat) (W : World) (ho : W.ownsRow (g + 1) 47 4 vb m.L.length (flat encBk m.L)) hx hxv hb => insert_bk (g + 1) x vb m.L (ahead ⟨(a, b), o, k⟩ m.L) ⟨(a, b), o, k⟩ W ho hx hxv hb (ahead_le _ _) hmL
  simp only [encBk] at SE IN
  generalize hp : ahead ⟨(a, b), o, k⟩ m.L = p at SE IN
  have hpl : p ≤ m.L.length := by rw [← hp]; exact ahead_le _ _
  have HPA := Lib.hid hp
  clear hp hsrt
  go_wp2_with fail
  have hst := P2.out
  go_region_held3 (fun W => SPU w g r (upd (Sp.leftR m) k (Sp.cut (Sp.leftR m k) (a, b))) (upd V k v1) m.a1 m.a2 m.L vb ⟨(a, b), o, k⟩ W)
    (first
      | exact PU.spu (by assumption)
      | (go_split_ands; exact PU.spu (by assumption))
      | (go_split_ands; exact PU.spu (PU.drew (by assumption))))
    (first
      | (go_at_call 60; go_split_ands; refine (SE.out _ (SlR.of_owns encBk_len (PU.G (by assumption)).own)).mono ?_; rintro e w2 ⟨bl, rfl, hb2⟩; have hst2 := PU.next (w := w) (g := g) (r := r) (F := upd (Sp.leftR m) k (Sp.cut (Sp.leftR m k) (a, b))) (V := upd V k v1) (a1 := m.a1) (a2 := m.a2) (L := m.L) (vb := vb) (b := ⟨(a, b), o, k⟩) (by assumption) hb2))
  have P3 := Lib.hid hst2
  clear hst hst2 hb2 P2 SE
  go_wp2_with fail
  have f9 : w2.cell? ⟨g, 9, none⟩ = some vb := P3.out.G.blk.cell 9
  have e0 := P3.out.box.cell 0
  have e1 := P3.out.box.cell 1
  have e2 := P3.out.box.cell 2
  have e3 := P3.out.box.cell 3
  simp only [encBk, List.getElem?_toArray, List.getElem?_cons_zero, List.getElem?_cons_succ] at e0 e1 e2 e3
  have hz2 := P3.out.box.lt
  have hg2 := P3.out.G.lt
  have hrow := fun x => P3.out.G.rowlt x
  have hrv := P3.out.G.row
  have HRV := Lib.hid hrv
  clear hrv
  go_region_with ((go_at_call 63; have hbx : Below w2.heap.size w2 _ := (by first | exact (belowA w2 (.cells #[.int .i64 a, .int .i64 b, .int .i64 o, .int .i64 k] 47)).drew | exact (Below.refl _ w2).drew.trans ((belowA w2.drew (.cells #[.int .i64 a, .int .i64 b, .int .i64 o, .int .i64 k] 47)).mono (Nat.le_refl _))); have hN := PU.next P3.out hbx; refine (IN.out w2.heap.size _ hN.G.own (by first | exact (Blk.new w2 _ _).drew | exact Blk.new w2.drew _ _) (fun e => by have := hrow _ (HRV.out.symm.trans e); omega) (by simp; omega)).mono ?_; rintro e w4 ⟨vn, rfl, ho4, hg4, hn4⟩; obtain ⟨pp, cc, hvn, -⟩ := SlR.of_owns (enc := encBk) (xs := m.L.take p ++ ⟨(a, b), o, k⟩ :: m.L.drop p) encBk_len (by rw [show (m.L.take p ++ (⟨(a, b), o, k⟩ : Sp.Bk) :: m.L.drop p).length = m.L.length + 1 by simp; omega]; exact ho4); rw [show (m.L.take p ++ (⟨(a, b), o, k⟩ : Sp.Bk) :: m.L.drop p).length = m.L.length + 1 by simp; omega] at hvn; subst hvn; have hB4 : Blk w4 g 67 _ := (hg4.block g hN.G.blk.lt (fun e => by have := hrow g (HRV.out.symm.trans e.symm); omega)).trans hN.G.blk; have u1 := hB4.cell 9; have u2 := hB4.frozen' 9))
  all_goals go_wp2_with fail
  all_goals go_end0
  all_goals
    have eL : Sp.insB ⟨(a, b), o, k⟩ m.L = m.L.take p ++ ⟨(a, b), o, k⟩ :: m.L.drop p := by rw [insB_at, HPA.out]
    have eN : (m.L.take p ++ (⟨(a, b), o, k⟩ : Sp.Bk) :: m.L.drop p).length = m.L.length + 1 := by simp; omega
    have G5 := hN.G.blocks (L' := m.L.take p ++ ⟨(a, b), o, k⟩ :: m.L.drop p) (by rw [eN]; exact ho4) hg4 hn4
    rw [← eL] at G5
    refine ⟨rfl, _, SpcG.spcR (m := Sp.putR m ⟨(a, b), o, k⟩) G5 fun j j0 j2 => ?_, ?_, ?_, ?_⟩
    · by_cases hjk : j = k
      · subst hjk; rw [upd_same]; exact pk2.symm
      · rw [upd_other _ _ hjk]; exact (pk3 j j0 j2 hjk).symm
    · rcases hn4 with h | h
      · exact Or.inl (h.trans HRV.out)
      · exact Or.inr ⟨_, h, hN.frm.size⟩
    · have hF : Frm g r _ w4 := ⟨hg4.os, hg4.tape, hg4.output, hg4.size, fun x hx _ hr => hg4.block x hx (by rw [HRV.out]; exact hr)⟩
      exact (hN.frm.trans hF (NewRow.refl _ _)).trans (Frm.setCell g r w4 9 _) (NewRow.refl _ _)
    · intro j hj q n c hc
      have hcj := G5.cell (k := (j : Int)) (by omega) (by omega)
      rw [Int.toNat_natCast, hc] at hcj
      by_cases hjk : (j : Int) = k
      · rw [hjk, upd_same] at hcj
        exact Or.inl (HV1.out q n c (Option.some.inj hcj).symm)
      · rw [upd_other _ _ hjk] at hcj
        refine Or.inr ⟨j, q, n, c, hj, ?_, rfl⟩
        have := HVC.out j (by omega) (by omega)
        rw [Int.toNat_natCast, ← Option.some.inj hcj] at this
        exact this
end Go.Proofs.Ytbeombmblifohaa
