import Derived.Test.YtbeombmblifohaaSpcLaw
/- Layer 12's laws: a step of both (draw; none), any step. -/
namespace Go.Proofs.Ytbeombmblifohaa
set_option linter.unusedVariables false
set_option linter.unusedSimpArgs false
open Go.RowKit Go.Shelf Go.Proofs

/-- two spans more -/
structure DD (w W : World) (s t : Nat) (q : Sp.Spc) (v' : Value) (X : Array Value) (a b : Int) : Prop where
  C : DC w W s q v' X
  n2 : Blk W (s + 1) 27 #[.int .i64 a, .int .i64 b]
  n3 : Blk W t 27 #[.int .i64 a, .int .i64 b]
  lt : s + 1 < t
theorem DD.next {w W W' : World} {s t : Nat} {q : Sp.Spc} {v' : Value} {X : Array Value} {a b : Int} (h : DD w W s t q v' X a b) (hb : Below W.heap.size W W') : DD w W' s t q v' X a b := ⟨h.C.next hb, h.n2.below hb h.n2.lt, h.n3.below hb h.n3.lt, h.lt⟩
theorem DD.drew {w W : World} {s t : Nat} {q : Sp.Spc} {v' : Value} {X : Array Value} {a b : Int} (h : DD w W s t q v' X a b) : DD w W.drew s t q v' X a b := h.next (Below.refl _ _).drew
theorem DD.setZ {w W : World} {s t : Nat} {q : Sp.Spc} {v' : Value} {X : Array Value} {a b : Int} (h : DD w W s t q v' X a b) : DD w (W.setRow (w.heap.size + 2) (sA q v')) s t q v' X a b := by
  have h1 := h.C.lt
  have h2 := h.lt
  exact ⟨h.C.setZ, h.n2.otherRow _ _ (by omega), h.n3.otherRow _ _ (by omega), h.lt⟩
/-- both results of the document's Draw, stored -/
def W2 (w1 : World) (q : Sp.Spc) (v' : Value) (a b : Int) : World := (((w1.alloc (.cells (sA Sp.spc0 (.slice none 0 0)) 31)).alloc (.cells #[.int .i64 0, .int .i64 0] 27)).setRow w1.heap.size (sA q v')).setRow (w1.heap.size + 1) #[.int .i64 a, .int .i64 b]
theorem W2.at {w1 : World} (q : Sp.Spc) (v' : Value) (a b : Int) : Blk ((w1.alloc (.cells (sA Sp.spc0 (.slice none 0 0)) 31)).alloc (.cells #[.int .i64 0, .int .i64 0] 27)) w1.heap.size 31 (sA Sp.spc0 (.slice none 0 0)) ∧
    Blk (((w1.alloc (.cells (sA Sp.spc0 (.slice none 0 0)) 31)).alloc (.cells #[.int .i64 0, .int .i64 0] 27)).setRow w1.heap.size (sA q v')) (w1.heap.size + 1) 27 #[.int .i64 0, .int .i64 0] ∧
    Blk (W2 w1 q v' a b) w1.heap.size 31 (sA q v') ∧ Blk (W2 w1 q v' a b) (w1.heap.size + 1) 27 #[.int .i64 a, .int .i64 b] ∧ Below w1.heap.size w1 (W2 w1 q v' a b) := by
  have hA : Blk ((w1.alloc (.cells (sA Sp.spc0 (.slice none 0 0)) 31)).alloc (.cells #[.int .i64 0, .int .i64 0] 27)) w1.heap.size 31 (sA Sp.spc0 (.slice none 0 0)) := (Blk.new w1 _ _).alloc _
  have hB := Blk.new (w1.alloc (.cells (sA Sp.spc0 (.slice none 0 0)) 31)) 27 #[.int .i64 0, .int .i64 0]
  rw [World.size_alloc] at hB
  have hB' := hB.otherRow w1.heap.size (sA q v') (by omega)
  exact ⟨hA, hB', (hA.setRow _).otherRow _ _ (by omega), hB'.setRow _, below_setRow (below_setRow ((belowA w1 _).alloc (by simp) _) (Nat.le_refl _) _) (by omega) _⟩
theorem W0.dd {w w1 : World} {m : Sp.Spc} {vL : Value} {X : Array Value} (hb : Below (W0 w m vL X).heap.size (W0 w m vL X) w1) (q : Sp.Spc) (v' : Value) (a b : Int) : DC w (W2 w1 q v' a b) w1.heap.size q v' X := by
  have h1 := Blk.new (w.alloc (.cells (sA m vL) 31)) 35 X
  have h2 := Blk.new ((w.alloc (.cells (sA m vL) 31)).alloc (.cells X 35)) 31 (sA Sp.spc0 (.slice none 0 0))
  simp only [World.size_alloc] at h1 h2
  have hz := W0.size w m vL X
  have hs := hb.size
  have hx : Blk (W0 w m vL X) (w.heap.size + 1) 35 X := h1.alloc _
  have hy : Blk (W0 w m vL X) (w.heap.size + 2) 31 (sA Sp.spc0 (.slice none 0 0)) := h2
  have hx1 := hx.below hb hx.lt
  have hy1 := hy.below hb hy.lt
  obtain ⟨_, _, h3, _, h5⟩ := W2.at (w1 := w1) q v' a b
  exact ⟨hx1.below h5 hx1.lt, ⟨_, hy1.below h5 hy1.lt, rfl⟩, h3, by omega⟩
set_option maxRecDepth 100000 in
set_option maxHeartbeats 8000000 in
theorem law_do2 (g : Nat) (r : Option Nat) (m : Sp.Spc) (hm : Sp.WF m) (hl : m.L.length ≤ 1000) (o a z f l : Int) (hz1 : -9223372036854775808 ≤ z) (hz2 : z ≤ 9223372036854775807) (vL : Value) (w : World) (h : SpcR w g r m) (hv : SlF4 w g r vL m.L) :
    Calls Try.prog 9 #[.pointer (some ⟨g, 0, none⟩), .agg (sA m vL), .agg #[.int .i64 2, .int .i64 o, .int .i64 a, .int .i64 z, .int .i64 f, .int .i64 l]] w (RetDo g r (Sp.drawR m o a z).1 vL w) := by
  have HS := Lib.hid h
  have HV := Lib.hid hv
  have hg := h.lt
  have hr := fun b (hb : r = some b) => (h.row b hb).2
  have HRW := Lib.hid hr
  obtain ⟨q, a', b', c, hq⟩ : ∃ q a' b' c, Sp.drawR m o a z = (q, (a', b'), c) := ⟨_, _, _, _, rfl⟩
  have CR := Lib.hid fun (W : World) (h : SlR W 4 encBk vL m.L) => r12_Draw m hm (by omega) vL o a z hz1 hz2 W h
  have CV := Lib.hid fun (W : World) (h : SpcR W g r m) => spc_Draw g r m hm hl o a z hz1 hz2 W h
  rw [hq] at CR CV ⊢
  have HB0 := Lib.hid (W0.below w m vL (stpA 2 o a z f l))
  have HZ0 := Lib.hid (W0.size w m vL (stpA 2 o a z f l))
  have HD0 := Lib.hid fun (w1 : World) (hb : Below (W0 w m vL (stpA 2 o a z f l)).heap.size (W0 w m vL (stpA 2 o a z f l)) w1) => W0.dd hb q
  have HV0 : Hid (SlR (W0 w m vL (stpA 2 o a z f l)) 4 encBk vL m.L) := Lib.hid (hv.1.below HB0.out (Nat.le_refl _))
  obtain ⟨⟨p, cap, rfl, hc1, hc2, -⟩, -⟩ := hv
  obtain ⟨⟨x1, y1⟩, ⟨x2, y2⟩, L⟩ := m
  simp only [sA, stpA, W0, Sp.spc0] at HB0 HZ0 HD0 HV0 CR ⊢
  clear h hq hr
  go_enter Try.func9, Try.ntmps9
  go_wp2_with fail
  refine (CR.out _ HV0.out).mono ?_
  rintro e w1 ⟨v1, rfl, h1, hn1, hb1⟩
  obtain ⟨p1, c1, hv1, -, -, -⟩ := id h1
  subst hv1
  have H1 := Lib.hid h1
  have HN1 := Lib.hid hn1
  have HB1 := Lib.hid hb1
  have HW := Lib.hid (W2.at (w1 := w1) q (.slice p1 q.L.length c1) a' b')
  have HC2 := Lib.hid (HD0.out _ hb1 (.slice p1 q.L.length c1) a' b')
  have k1 : (W2 w1 q (.slice p1 q.L.length c1) a' b').cell? ⟨w.heap.size + 1, 1, none⟩ = some (.int .i64 o) := HC2.out.x.cell 1
  have k2 : (W2 w1 q (.slice p1 q.L.length c1) a' b').cell? ⟨w.heap.size + 1, 2, none⟩ = some (.int .i64 a) := HC2.out.x.cell 2
  have k3 : (W2 w1 q (.slice p1 q.L.length c1) a' b').cell? ⟨w.heap.size + 1, 3, none⟩ = some (.int .i64 z) := HC2.out.x.cell 3
  clear h1 hn1 hb1
  have HS2 : Hid (SpcR (W2 w1 q (.slice p1 q.L.length c1) a' b') g r ⟨(x1, y1), (x2, y2), L⟩) := Lib.hid (((HS.out.below HB0.out).below HB1.out).below HW.out.2.2.2.2)
  go_wp2_with (first
    | (refine wpList_store_row rfl _ _ _ rfl w1.heap.size (sA q (.slice p1 q.L.length c1)) rfl rfl _ _ HW.out.1 infoS rfl (oneS _ _ _ _) ?_)
    | (refine wpList_store_row rfl _ _ _ rfl (w1.heap.size + 1) #[.int .i64 a', .int .i64 b'] rfl rfl _ _ HW.out.2.1 infoSpn rfl (one2 _ _) ?_; change wpList _ _ _ _ _ (W2 w1 q (.slice p1 q.L.length c1) a' b')))
  refine (CV.out _ HS2.out).mono ?_
  rintro e w3 ⟨rfl, hL3⟩
  have HL3 := Lib.hid hL3
  have hC3 := HC2.out.left hL3 hg HRW.out
  have hn2 : Blk w3 (w1.heap.size + 1) 27 #[.int .i64 a', .int .i64 b'] := by
    obtain ⟨r', _, _, fr, _⟩ := hL3
    have hz0 := HZ0.out
    have hs1 := HB1.out.size
    have hw := HB0.out.size
    exact (fr.block _ HW.out.2.2.2.1.lt (by omega) (fun e => by have := HRW.out _ e.symm; omega)).trans HW.out.2.2.2.1
  have H5 : Hid (DD w (w3.alloc (.cells #[.int .i64 a', .int .i64 b'] 27)) w1.heap.size w3.heap.size q (.slice p1 q.L.length c1) #[.int .i64 2, .int .i64 o, .int .i64 a, .int .i64 z, .int .i64 f, .int .i64 l] a' b') := Lib.hid ⟨hC3.next (belowA _ _), hn2.alloc _, Blk.new _ _ _, hn2.lt⟩
  have heqs := run_eql_sp (a', b') (a', b')
  simp only [decide_true] at heqs
  clear hC3 hn2 hL3 k1 k2 k3
  go_wp2_with fail
  refine wp_region_held_drew (S := fun W => DD w W w1.heap.size w3.heap.size q (.slice p1 q.L.length c1) #[.int .i64 2, .int .i64 o, .int .i64 a, .int .i64 z, .int .i64 f, .int .i64 l] a' b') (by kernel_rfl) H5.out.drew (fun hHeld => ?_)
  refine wpAnyH_take (i := 0) rfl (by kernel_rfl) (by kernel_rfl) (by kernel_rfl) (fun _ _ _ h => h) (yieldsIf_load_row (by rfl) _ _ rfl (w1.heap.size) rfl _ (sA q (.slice p1 q.L.length c1)) _ (fun w h => h.C.n) Try.underlying31 rfl infoS) (by assumption) ?_
  simp only [Act.put, List.setIfInBounds_toArray, List.set_cons_zero, List.set_cons_succ, List.getElem_toArray, List.getElem_cons_zero, List.getElem_cons_succ]
  refine wpAnyH_take (i := 1) rfl (by kernel_rfl) (by kernel_rfl) (by kernel_rfl) (fun _ _ _ h => h) (yieldsIf_load_row (by rfl) _ _ rfl (w1.heap.size + 1) rfl _ (#[.int .i64 a', .int .i64 b']) _ (fun w h => h.n2) Try.underlying27 rfl infoSpn) (by assumption) ?_
  simp only [Act.put, List.setIfInBounds_toArray, List.set_cons_zero, List.set_cons_succ, List.getElem_toArray, List.getElem_cons_zero, List.getElem_cons_succ]
  refine wpAnyH_take (i := 2) rfl (by kernel_rfl) (by kernel_rfl) (by kernel_rfl) (fun _ _ _ h => h) (yieldsIf_load_row (by rfl) _ _ rfl (w3.heap.size) rfl _ (#[.int .i64 a', .int .i64 b']) _ (fun w h => h.n3) Try.underlying27 rfl infoSpn) (by assumption) ?_
  simp only [Act.put, List.setIfInBounds_toArray, List.set_cons_zero, List.set_cons_succ, List.getElem_toArray, List.getElem_cons_zero, List.getElem_cons_succ]
  refine wpAnyH_take (i := 3) (v := ?_) rfl (by kernel_rfl) (by kernel_rfl) (by kernel_rfl) (fun _ _ _ h => h) (Or.inl ⟨by rfl, ?_⟩) (by assumption) ?_
  rotate_left
  · intro w hSw; go_simp; try with_reducible rfl
  simp only [Act.put, List.setIfInBounds_toArray, List.set_cons_zero, List.set_cons_succ, List.getElem_toArray, List.getElem_cons_zero, List.getElem_cons_succ]
  refine wpAnyH_take (i := 4) (v := ?_) rfl (by kernel_rfl) (by kernel_rfl) (by kernel_rfl) (fun _ _ _ h => h) (Or.inl ⟨by rfl, ?_⟩) (by assumption) ?_
  rotate_left
  · intro w hSw; go_simp; try with_reducible rfl
  simp only [Act.put, List.setIfInBounds_toArray, List.set_cons_zero, List.set_cons_succ, List.getElem_toArray, List.getElem_cons_zero, List.getElem_cons_succ]
  refine wpAnyH_take (i := 5) (v := ?_) rfl (by kernel_rfl) (by kernel_rfl) (by kernel_rfl) (fun _ _ _ h => h) (Or.inl ⟨by rfl, ?_⟩) (by assumption) ?_
  rotate_left
  · intro w hSw; go_simp; try with_reducible rfl
  simp only [Act.put, List.setIfInBounds_toArray, List.set_cons_zero, List.set_cons_succ, List.getElem_toArray, List.getElem_cons_zero, List.getElem_cons_succ]
  refine wpAnyH_take (i := 6) (v := ?_) rfl (by kernel_rfl) (by kernel_rfl) (by kernel_rfl) (fun _ _ _ h => h) (Or.inl ⟨by rfl, ?_⟩) (by assumption) ?_
  rotate_left
  · intro w hSw; go_simp; try with_reducible rfl
  simp only [Act.put, List.setIfInBounds_toArray, List.set_cons_zero, List.set_cons_succ, List.getElem_toArray, List.getElem_cons_zero, List.getElem_cons_succ]
  refine wpAnyH_take (i := 7) (v := ?_) rfl (by kernel_rfl) (by kernel_rfl) (by kernel_rfl) (fun _ _ _ h => h) (Or.inl ⟨by rfl, ?_⟩) (by assumption) ?_
  rotate_left
  · intro w hSw; go_simp; try with_reducible rfl
  simp only [Act.put, List.setIfInBounds_toArray, List.set_cons_zero, List.set_cons_succ, List.getElem_toArray, List.getElem_cons_zero, List.getElem_cons_succ]
  refine wpAnyH_take (i := 8) (v := ?_) rfl (by kernel_rfl) (by kernel_rfl) (by kernel_rfl) (fun _ _ _ h => h) (Or.inl ⟨by rfl, ?_⟩) (by assumption) ?_
  rotate_left
  · intro w hSw; go_simp; try with_reducible rfl
  simp only [Act.put, List.setIfInBounds_toArray, List.set_cons_zero, List.set_cons_succ, List.getElem_toArray, List.getElem_cons_zero, List.getElem_cons_succ]
  obtain ⟨cs, hcs, hsz⟩ := hHeld.C.z
  refine held_step (i := 9) rfl (by kernel_rfl) (by rfl) (fun K hK => ?_)
  refine wp_store_row _ _ _ rfl (w.heap.size + 2) (sA q (.slice p1 q.L.length c1)) rfl rfl _ (cs) (hcs) infoS (hsz) (oneS _ _ _ _) ?_
  refine hK.out _ _ (hHeld.setZ) (fun hHeld => ?_)
  clear hK K
  try simp only [Act.put, List.setIfInBounds_toArray, List.set_cons_zero, List.set_cons_succ, List.getElem_toArray, List.getElem_cons_zero, List.getElem_cons_succ]
  refine wpAnyH_take (i := 10) (v := ?_) rfl (by kernel_rfl) (by kernel_rfl) (by kernel_rfl) (fun _ _ _ h => h) (Or.inl ⟨by rfl, ?_⟩) (by assumption) ?_
  rotate_left
  · intro w hSw; go_simp; try with_reducible rfl
  simp only [Act.put, List.setIfInBounds_toArray, List.set_cons_zero, List.set_cons_succ, List.getElem_toArray, List.getElem_cons_zero, List.getElem_cons_succ]
  refine wpAnyH_done (by kernel_rfl) ?_ _
  go_wp2_with fail
  have HE := both (w := w) HS.out HV.out HB0.out HZ0.out H1.out HN1.out HB1.out HW.out.2.2.2.2 HL3.out (below_drewN (belowA w3 (.cells #[.int .i64 a', .int .i64 b'] 27)) 1) (sA q (.slice p1 q.L.length c1))
  obtain ⟨r', HE⟩ := HE
  exact bodyPost_ret (results_ct rfl _ _ _ _ _ _ _ rfl (hcs.setRow _) Try.underlying31 rfl infoS) rfl ⟨_, r', rfl, HE⟩
end Go.Proofs.Ytbeombmblifohaa

/- Layer 12's laws: any step of both; the example. -/
namespace Go.Proofs.Ytbeombmblifohaa
set_option linter.unusedVariables false
set_option linter.unusedSimpArgs false
open Go.RowKit Go.Shelf Go.Proofs

set_option maxRecDepth 100000 in
set_option maxHeartbeats 8000000 in
theorem law_do5 (g : Nat) (r : Option Nat) (m : Sp.Spc) (kd o a z f l : Int) (hk : kd ≠ 0 ∧ kd ≠ 1 ∧ kd ≠ 2 ∧ kd ≠ 3 ∧ kd ≠ 4) (vL : Value) (w : World) (h : SpcR w g r m) (hv : SlF4 w g r vL m.L) :
    Calls Try.prog 9 #[.pointer (some ⟨g, 0, none⟩), .agg (sA m vL), .agg #[.int .i64 kd, .int .i64 o, .int .i64 a, .int .i64 z, .int .i64 f, .int .i64 l]] w (RetDo g r m vL w) := by
  have HS := Lib.hid h
  have HV := Lib.hid hv
  have hz := Blk.new ((w.alloc (.cells (sA m vL) 31)).alloc (.cells (stpA kd o a z f l) 35)) 31 (sA Sp.spc0 (.slice none 0 0))
  simp only [World.size_alloc] at hz
  have HZ := Lib.hid hz
  have HB := Lib.hid (below_setRow (W0.below w m vL (stpA kd o a z f l)) (show w.heap.size ≤ w.heap.size + 2 by omega) (sA m vL))
  have k0 : ((kd : Int) == 0) = false := by rw [beq_eq_false_iff_ne]; exact hk.1
  have k1 : ((kd : Int) == 1) = false := by rw [beq_eq_false_iff_ne]; exact hk.2.1
  have k2 : ((kd : Int) == 2) = false := by rw [beq_eq_false_iff_ne]; exact hk.2.2.1
  have k3 : ((kd : Int) == 3) = false := by rw [beq_eq_false_iff_ne]; exact hk.2.2.2.1
  have k4 : ((kd : Int) == 4) = false := by rw [beq_eq_false_iff_ne]; exact hk.2.2.2.2
  obtain ⟨⟨p, cap, rfl, hc1, hc2, -⟩, -⟩ := hv
  obtain ⟨⟨x1, y1⟩, ⟨x2, y2⟩, L⟩ := m
  simp only [sA, stpA, W0, Sp.spc0] at HB HZ ⊢
  clear h hk hz
  go_enter Try.func9, Try.ntmps9
  go_wp2_with (refine wpList_store_row rfl _ _ _ rfl (w.heap.size + 2) (sA ⟨(x1, y1), (x2, y2), L⟩ (.slice p L.length cap)) rfl rfl _ _ HZ.out infoS rfl (oneS _ _ _ _) ?_)
  exact bodyPost_ret (results_ct rfl _ _ _ _ _ _ _ rfl (HZ.out.setRow _) Try.underlying31 rfl infoS) rfl ⟨_, r, rfl, HS.out.below HB.out, NewRow.refl _ _, Frm.of_below HB.out, Old.of_below HS.out.lt HB.out, ⟨HV.out.1.below HB.out (Nat.le_refl _), HV.out.2⟩, NewV.refl _ _⟩
/-- a script's step, as an argument, and as cells -/
def encStp (x : Sp.Stp) : List Value := [.int .i64 x.kind, .int .i64 x.owner, .int .i64 x.area, .int .i64 x.size, .int .i64 x.sp.1, .int .i64 x.sp.2]
theorem encStp_len (x : Sp.Stp) : (encStp x).length = 6 := rfl
theorem law_do (g : Nat) (r : Option Nat) (m : Sp.Spc) (hm : Sp.WF m) (hl : m.L.length ≤ 1000) (x : Sp.Stp) (hz1 : -9223372036854775808 ≤ x.size) (hz2 : x.size ≤ 9223372036854775807) (vL : Value) (w : World) (h : SpcR w g r m) (hv : SlF4 w g r vL m.L) :
    Calls Try.prog 9 #[.pointer (some ⟨g, 0, none⟩), .agg (sA m vL), .agg #[.int .i64 x.kind, .int .i64 x.owner, .int .i64 x.area, .int .i64 x.size, .int .i64 x.sp.1, .int .i64 x.sp.2]] w (RetDo g r (Sp.stepR m x) vL w) := by
  obtain ⟨kd, o, a, z, ⟨f, l⟩⟩ := x
  by_cases h0 : kd = 0
  · subst h0; exact law_do0 g r m hm hl o a z f l vL w h hv
  by_cases h1 : kd = 1
  · subst h1; exact law_do1 g r m hm hl o a z f l vL w h hv
  by_cases h2 : kd = 2
  · subst h2; exact law_do2 g r m hm hl o a z f l hz1 hz2 vL w h hv
  by_cases h3 : kd = 3
  · subst h3; exact law_do3 g r m hm hl o a z f l vL w h hv
  by_cases h4 : kd = 4
  · subst h4; exact law_do4 g r m hm hl o a z f l vL w h hv
  have e : Sp.stepR m ⟨kd, o, a, z, (f, l)⟩ = m := by simp [Sp.stepR, h0, h1, h2, h3, h4]
  rw [e]
  exact law_do5 g r m kd o a z f l ⟨h0, h1, h2, h3, h4⟩ vL w h hv
/-- a new space, and what has become of it -/
structure AW (w W : World) (g : Nat) (r : Option Nat) (m : Sp.Spc) : Prop where
  S : SpcR W g r m
  bel : Below w.heap.size w W
  hg : w.heap.size ≤ g
  hr : ∀ b, r = some b → w.heap.size ≤ b
theorem AW.next {w W W' : World} {g : Nat} {r : Option Nat} {m : Sp.Spc} (h : AW w W g r m) (hb : Below W.heap.size W W') : AW w W' g r m := ⟨h.S.below hb, h.bel.trans (hb.mono h.bel.size), h.hg, h.hr⟩
theorem AW.step {w W W' : World} {g : Nat} {r : Option Nat} {m m' : Sp.Spc} (h : AW w W g r m) (hL : Left g r m' W W') : ∃ r', AW w W' g r' m' ∧ NewRow W r r' := by
  obtain ⟨r', S, nr, fr, old⟩ := hL
  refine ⟨r', ⟨S, fr.below h.bel h.bel.size h.hg h.hr, h.hg, fun b hb => ?_⟩, nr⟩
  rcases nr with e | ⟨c, e, hc⟩
  · exact h.hr b (e.symm.trans hb)
  · rw [e] at hb; cases hb; have := h.bel.size; omega
structure AX (w W : World) (g : Nat) (r : Option Nat) (m : Sp.Spc) (x : Nat) (a b : Int) : Prop where
  A : AW w W g r m
  bx : Blk W x 27 #[.int .i64 a, .int .i64 b]
  n1 : x ≠ g
  n2 : some x ≠ r
theorem AX.next {w W W' : World} {g : Nat} {r : Option Nat} {m : Sp.Spc} {x : Nat} {a b : Int} (h : AX w W g r m x a b) (hb : Below W.heap.size W W') : AX w W' g r m x a b := ⟨h.A.next hb, h.bx.below hb h.bx.lt, h.n1, h.n2⟩
theorem AX.step {w W W' : World} {g : Nat} {r : Option Nat} {m m' : Sp.Spc} {x : Nat} {a b : Int} (h : AX w W g r m x a b) (hL : Left g r m' W W') : ∃ r', AX w W' g r' m' x a b := by
  obtain ⟨r', h1, h2⟩ := h.A.step hL
  obtain ⟨_, _, _, fr, _⟩ := hL
  refine ⟨r', h1, fr.blk h.bx h.n1 h.n2, h.n1, fun e => ?_⟩
  rcases h2 with e2 | ⟨c, e2, hc⟩
  · exact h.n2 (e.trans e2)
  · rw [e2] at e; cases e; have := h.bx.lt; omega
def aw1 : Sp.Spc := ⟨(16000, 23999), (0, 0), []⟩
def aw2 : Sp.Spc := ⟨(16000, 23999), (0, 0), [⟨(16, 18), 7, 0⟩]⟩
def aw3 : Sp.Spc := ⟨(16000, 23999), (0, 0), [⟨(16, 18), 7, 0⟩, ⟨(16001, 16001), 8, 1⟩]⟩
def aw4 : Sp.Spc := ⟨(16000, 23999), (0, 0), [⟨(16001, 16001), 8, 1⟩]⟩
theorem awk1 : Sp.carveR Sp.spc0 1 (16000, 23999) = (aw1, 0) := by rfl
theorem awk2 : Sp.indexR aw1 5 = (16005, true) := by rfl
theorem awk3 : Sp.drawR aw1 7 0 3 = (aw2, (16, 18), 0) := by rfl
theorem awk4 : Sp.ownerR aw2 17 = (7, 0) := by rfl
theorem awk5 : Sp.takeR aw2 8 (18, 19) = (aw2, 42) := by rfl
theorem awk6 : Sp.takeR aw2 8 (16001, 16001) = (aw3, 0) := by rfl
theorem awk7 : Sp.closeR aw3 1 = (aw3, 33) := by rfl
theorem awk8 : Sp.freeR aw3 7 (16, 18) = (aw4, 0) := by rfl
end Go.Proofs.Ytbeombmblifohaa

/- Layer 12's laws: the document's example. -/
namespace Go.Proofs.Ytbeombmblifohaa
set_option linter.unusedVariables false
set_option linter.unusedSimpArgs false
open Go.RowKit Go.Shelf Go.Proofs

theorem awf1 : Sp.WF aw1 := by have h := (Sp.carve_wf Sp.wf0 1 (16000, 23999)).1; rw [awk1] at h; exact h
theorem awf2 : Sp.WF aw2 := by have h := (Sp.draw_wf awf1 7 0 3).1; rw [awk3] at h; exact h
theorem awf3 : Sp.WF aw3 := by have h := (Sp.take_wf awf2 8 (16001, 16001)).1; rw [awk6] at h; exact h
set_option maxRecDepth 100000 in
set_option maxHeartbeats 4000000 in
theorem law12_awake (w : World) : Calls Try.prog 7 #[] w fun e w' => e = .returned (.bool true) ∧ Below w.heap.size w w' := by
  have C1 := Lib.hid fun (g : Nat) (r : Option Nat) (W : World) (h : SpcR W g r Sp.spc0) => show Calls Try.prog _ _ _ (RetE g r (aw1, 0) W) from awk1 ▸ spc_Carve g r Sp.spc0 Sp.wf0 1 16000 23999 W h
  have C2 := Lib.hid fun (g : Nat) (r : Option Nat) (W : World) (h : SpcR W g r aw1) => show Calls Try.prog _ _ _ (RetIB (16005, true) W) from awk2 ▸ spc_Index' g 5 aw1 awf1 r W h
  have C3 := Lib.hid fun (g : Nat) (r : Option Nat) (W : World) (h : SpcR W g r aw1) => show Calls Try.prog _ _ _ (RetD g r (aw2, (16, 18), 0) W) from awk3 ▸ spc_Draw g r aw1 awf1 (by decide) 7 0 3 (by omega) (by omega) W h
  have C4 := Lib.hid fun (g : Nat) (r : Option Nat) (W : World) (h : SpcR W g r aw2) => show Calls Try.prog _ _ _ (RetII (7, 0) W) from awk4 ▸ spc_Owner g 17 aw2 (by decide) r W h
  have C5 := Lib.hid fun (g : Nat) (r : Option Nat) (W : World) (h : SpcR W g r aw2) => show Calls Try.prog _ _ _ (RetE g r (aw2, 42) W) from awk5 ▸ spc_Take g r aw2 awf2 (by decide) 8 18 19 W h
  have C6 := Lib.hid fun (g : Nat) (r : Option Nat) (W : World) (h : SpcR W g r aw2) => show Calls Try.prog _ _ _ (RetE g r (aw3, 0) W) from awk6 ▸ spc_Take g r aw2 awf2 (by decide) 8 16001 16001 W h
  have C7 := Lib.hid fun (g : Nat) (r : Option Nat) (W : World) (h : SpcR W g r aw3) => show Calls Try.prog _ _ _ (RetE g r (aw3, 33) W) from awk7 ▸ spc_Close g r aw3 awf3 (by decide) 1 W h
  have C8 := Lib.hid fun (g : Nat) (r : Option Nat) (W : World) (h : SpcR W g r aw3) => spc_Blocks' g aw3 (by decide) r W h
  have C9 := Lib.hid fun (g : Nat) (r : Option Nat) (W : World) (h : SpcR W g r aw3) => show Calls Try.prog _ _ _ (RetE g r (aw4, 0) W) from awk8 ▸ spc_Free g r aw3 awf3 (by decide) 7 16 18 W h
  go_enter Try.func7, Try.ntmps7
  go_wp2_with fail
  refine (spc_New _).mono ?_
  rintro e w1 ⟨g, rfl, hg, hS, hb⟩
  have H1 : Hid (AW w w1 g none Sp.spc0) := Lib.hid ⟨hS, hb, hg, fun b e => by cases e⟩
  clear hS hb hg
  go_wp2_with fail
  refine (C1.out g _ _ H1.out.S).mono ?_
  rintro e w2 ⟨rfl, hL⟩
  obtain ⟨r2, h2, -⟩ := H1.out.step hL
  have H2 := Lib.hid h2
  clear hL h2
  go_wp2_with fail
  refine (C2.out g _ _ H2.out.S).mono ?_
  rintro e w3 ⟨rfl, hb⟩
  have H3 := Lib.hid (H2.out.next hb)
  clear hb
  go_wp2_with fail
  refine (C3.out g _ _ H3.out.S).mono ?_
  rintro e w4 ⟨rfl, hL⟩
  obtain ⟨r4, h4, -⟩ := H3.out.step hL
  have hx : AX w (w4.alloc (.cells #[.int .i64 16, .int .i64 18] 27)) g r4 aw2 w4.heap.size 16 18 := ⟨h4.next (belowA _ _), Blk.new _ _ _, by have := h4.S.lt; omega, fun e => by have := (h4.S.row _ e.symm).2; omega⟩
  have H4 := Lib.hid hx
  clear hL h4 hx
  go_wp2_with fail
  refine (C4.out g _ _ H4.out.A.S).mono ?_
  rintro e w5 ⟨rfl, hb⟩
  have H5 := Lib.hid (H4.out.next hb)
  clear hb
  go_wp2_with fail
  refine (C5.out g _ _ H5.out.A.S).mono ?_
  rintro e w6 ⟨rfl, hL⟩
  obtain ⟨r6, h6⟩ := H5.out.step hL
  have H6 := Lib.hid h6
  clear hL h6
  go_wp2_with fail
  refine (C6.out g _ _ H6.out.A.S).mono ?_
  rintro e w7 ⟨rfl, hL⟩
  obtain ⟨r7, h7⟩ := H6.out.step hL
  have H7 := Lib.hid h7
  clear hL h7
  go_wp2_with fail
  refine (C7.out g _ _ H7.out.A.S).mono ?_
  rintro e w8 ⟨rfl, hL⟩
  obtain ⟨r8, h8⟩ := H7.out.step hL
  have H8 := Lib.hid h8
  have e0 : w8.cell? ⟨w4.heap.size, 0, none⟩ = some (.int .i64 16) := h8.bx.cell 0
  have e1 : w8.cell? ⟨w4.heap.size, 1, none⟩ = some (.int .i64 18) := h8.bx.cell 1
  have heqs := run_eql_sp (16, 18) (16, 18)
  simp only [decide_true] at heqs
  clear hL h8
  go_wp2_with fail
  refine (C8.out g _ _ H8.out.A.S).mono ?_
  rintro e w9 ⟨v9, rfl, ho, hb⟩
  obtain ⟨p9, c9, hv9, -⟩ := SlR.of_owns encBk_len ho
  have H9 := Lib.hid (H8.out.next hb)
  have e2 : w9.cell? ⟨w4.heap.size, 0, none⟩ = some (.int .i64 16) := H9.out.bx.cell 0
  have e3 : w9.cell? ⟨w4.heap.size, 1, none⟩ = some (.int .i64 18) := H9.out.bx.cell 1
  rw [show aw3.L.length = 2 from rfl] at hv9
  subst hv9
  clear ho hb e0 e1 heqs
  go_wp2_with fail
  refine (C9.out g _ _ H9.out.A.S).mono ?_
  rintro e w10 ⟨rfl, hL⟩
  obtain ⟨r10, h10, -⟩ := H9.out.A.step hL
  have H10 := Lib.hid h10.bel
  clear hL h10
  go_wp2_with fail
  go_ret
  exact ⟨rfl, H10.out⟩
end Go.Proofs.Ytbeombmblifohaa

/- Layer 12's laws: a script's round. -/
namespace Go.Proofs.Ytbeombmblifohaa
set_option linter.unusedVariables false
set_option linter.unusedSimpArgs false
open Go.RowKit Go.Shelf Go.Proofs

theorem cs7 {W : World} {b : Nat} {x1 y1 x2 y2 : Int} {L : List Sp.Bk} {v : Value} (h : Blk W b 31 (sA ⟨(x1, y1), (x2, y2), L⟩ v)) :
    W.cell? ⟨b, 0, none⟩ = some (.int .i64 0) ∧ W.cell? ⟨b, 1, none⟩ = some (.int .i64 0) ∧ W.cell? ⟨b, 2, none⟩ = some (.int .i64 x1) ∧ W.cell? ⟨b, 3, none⟩ = some (.int .i64 y1) ∧
    W.cell? ⟨b, 4, none⟩ = some (.int .i64 x2) ∧ W.cell? ⟨b, 5, none⟩ = some (.int .i64 y2) ∧ W.cell? ⟨b, 6, none⟩ = some v :=
  ⟨h.cell 0, h.cell 1, h.cell 2, h.cell 3, h.cell 4, h.cell 5, h.cell 6⟩
/-- both spaces between two steps: the space at g, the document's blocks in vL, the document's variable at z (which reads mb, vb) -/
structure RW (w W : World) (g : Nat) (r : Option Nat) (m : Sp.Spc) (vL : Value) (z : Nat) (mb : Sp.Spc) (vb : Value) : Prop where
  A : AW w W g r m
  d : SlF4 W g r vL m.L
  b : Blk W z 31 (sA mb vb)
  hz : w.heap.size ≤ z
  n1 : z ≠ g
  n2 : some z ≠ r
  n3 : vL.ownBlock ≠ some z
  n4 : ∀ k : Nat, k ≤ 2 → ∀ a n c, W.cell? ⟨g, k, none⟩ = some (.slice (some a) n c) → a.block ≠ z
section
variable {w W W' Wc : World} {g : Nat} {r r' : Option Nat} {m q mb : Sp.Spc} {vL v' vb : Value} {z : Nat}
theorem RW.next (h : RW w W g r m vL z mb vb) (hb : Below W.heap.size W W') : RW w W' g r m vL z mb vb :=
  ⟨h.A.next hb, ⟨h.d.1.below hb (Nat.le_refl _), h.d.2⟩, h.b.below hb h.b.lt, h.hz, h.n1, h.n2, h.n3, fun k hk a n c hc => h.n4 k hk a n c (by rw [← hb.cell (p := ⟨g, k, none⟩) h.A.S.lt]; exact hc)⟩
theorem RW.drew (h : RW w W g r m vL z mb vb) : RW w W.drew g r m vL z mb vb := h.next (Below.refl _ _).drew
theorem RW.step (h : RW w W g r m vL z mb vb) (hB : Bth W W' g r r' q vL v') : RW w W' g r' q v' z mb vb := by
  obtain ⟨hS, nr, fr, old, d, nv⟩ := hB
  obtain ⟨r2, hA2, -⟩ := h.A.step ⟨r', hS, nr, fr, old⟩
  have hzl := h.b.lt
  have hr2 : ∀ b, r' = some b → w.heap.size ≤ b := fun b hb => by
    rcases nr with e | ⟨c, e, hc⟩
    · exact h.A.hr b (e.symm.trans hb)
    · rw [e] at hb; cases hb; have := h.A.bel.size; omega
  refine ⟨⟨hS, hA2.bel, h.A.hg, hr2⟩, d, fr.blk h.b h.n1 h.n2, h.hz, h.n1, fun e => ?_, fun e => ?_, fun k hk a n c hc => ?_⟩
  · rcases nr with e2 | ⟨c, e2, hc⟩
    · exact h.n2 (e.trans e2)
    · rw [e2] at e; cases e; omega
  · rcases nv z e with e2 | e2
    · exact h.n3 e2
    · omega
  · rcases old k hk a n c hc with e | ⟨j, a', n', c', hj, hc', e⟩
    · omega
    · rw [← e]; exact h.n4 j hj a' n' c' hc'
theorem RW.row (h : RW w W g r m vL z mb vb) (q : Sp.Spc) (v : Value) : RW w (W.setRow z (sA q v)) g r m vL z q v := by
  refine ⟨⟨h.A.S.otherRow z _ h.n1 h.n2 h.n4, below_setRow h.A.bel h.hz _, h.A.hg, h.A.hr⟩, ⟨(Frm.setRow z none W _).slr h.d.1 (fun b hb => ⟨fun e => h.n3 (by rw [hb, e]), by simp⟩), h.d.2⟩, h.b.setRow _, h.hz, h.n1, h.n2, h.n3, fun k hk a n c hc => h.n4 k hk a n c ?_⟩
  rw [← hc]
  exact (World.cell?_of_block (a := ⟨g, k, none⟩) (setRow_other W z g _ (Ne.symm h.n1))).symm
theorem RW.first (hA : AW w W g none Sp.spc0) : RW w (W.alloc (.cells (sA Sp.spc0 (.slice none 0 0)) 31)) g none Sp.spc0 (.slice none 0 0) W.heap.size Sp.spc0 (.slice none 0 0) := by
  refine ⟨hA.next (belowA _ _), ⟨⟨none, 0, rfl, by simp [Sp.spc0], by omega, fun _ => rfl, fun a ha => by cases ha⟩, fun b hb => by cases hb⟩, Blk.new _ _ _, hA.bel.size, by have := hA.S.lt; omega, by simp, by simp [Value.ownBlock], fun k hk a n c hc => ?_⟩
  have := (hA.S.slices k hk a n c (by rw [← (belowA W _).cell (p := ⟨g, k, none⟩) hA.S.lt]; exact hc)).1
  omega
end
/-- the script's row, and the document's variable: what a round's region reads -/
structure SR (w W : World) (z : Nat) (m : Sp.Spc) (vL : Value) : Prop where
  b : Blk W z 31 (sA m vL)
  bel : Below w.heap.size w W
theorem SR.next {w W W' : World} {z : Nat} {m : Sp.Spc} {vL : Value} (h : SR w W z m vL) (hb : Below W.heap.size W W') : SR w W' z m vL := ⟨h.b.below hb h.b.lt, h.bel.trans (hb.mono h.bel.size)⟩
end Go.Proofs.Ytbeombmblifohaa
