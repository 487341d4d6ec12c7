/- Layer 12's laws: a step of the space, beside one of an empty document's. -/
import Derived.Test.YtbeombmblifohaaSpcLaw4
namespace Go.Proofs.Ytbeombmblifohaa
set_option linter.unusedVariables false
set_option linter.unusedSimpArgs false
open Go.RowKit Go.Shelf Go.Proofs

theorem bothL {w W0 w1 W2 w3 w4 : World} {g : Nat} {r : Option Nat} {m q : Sp.Spc} (hS : SpcR w g r m)
    (hb0 : Below w.heap.size w W0) (h0 : w.heap.size + 2 < W0.heap.size) (hb1 : Below W0.heap.size W0 w1) (hb2 : Below w1.heap.size w1 W2)
    (hL : Left g r q W2 w3) (hb3 : Below w3.heap.size w3 w4) (cs : Array Value) : Left g r q w (w4.setRow (w.heap.size + 2) cs) := by
  obtain ⟨r', S3, nr, fr, old⟩ := hL
  have hg := hS.lt
  have hr := hS.row
  have s0 : w.heap.size ≤ W0.heap.size := hb0.size
  have s1 := hb1.size
  have s2 := hb2.size
  have s3 := fr.size
  have s4 := hb3.size
  have hb02 : Below w.heap.size w W2 := (hb0.trans (hb1.mono s0)).trans (hb2.mono (by omega))
  have hrr : ∀ b, r' = some b → b < w.heap.size ∨ W2.heap.size ≤ b := fun b hb => by
    rcases nr with e | ⟨c, e, hc⟩
    · exact Or.inl (hr b (e.symm.trans hb)).2
    · rw [e] at hb; cases hb; exact Or.inr hc
  have S4 := S3.below hb3
  have O4 := old.below S3.lt hb3
  have F24 : Frm g r W2 w4 := fr.trans (Frm.of_below hb3) nr
  have O24 : Old g w w4 := (Old.of_below hg hb02).trans O4 (by omega)
  refine ⟨r', S4.otherRow _ _ (by omega) (fun e => by have := hrr _ e.symm; omega) (fun k hk a n c hc => ?_), ?_, ((Frm.of_below hb02).trans F24 (NewRow.refl _ _)).rowAt (by omega) _, O24.row (by omega) _⟩
  · rcases O4 k hk a n c hc with e | ⟨j, a', n', c', hj, hc', e⟩
    · omega
    · have hcw : w.cell? ⟨g, j, none⟩ = some (.slice (some a') n' c') := by rw [← hb02.cell (p := ⟨g, j, none⟩) hg]; exact hc'
      have := (hS.slices j hj a' n' c' hcw).1
      omega
  · rcases nr with e | ⟨c, e, hc⟩
    · exact Or.inl e
    · exact Or.inr ⟨c, e, by omega⟩
/-- whatever is answered, the space has made its step -/
def RetEo (g : Nat) (r : Option Nat) (m' : Sp.Spc) (w : World) (e : Ending) (w' : World) : Prop := ∃ v, e = .returned v ∧ Left g r m' w w'
theorem nil4 (w : World) : SlR w 4 encBk (.slice none 0 0) Sp.spc0.L := ⟨none, 0, rfl, by simp [Sp.spc0], by omega, fun _ => rfl, fun a ha => by cases ha⟩
set_option maxRecDepth 100000 in
set_option maxHeartbeats 8000000 in
theorem law_eo0 (g : Nat) (r : Option Nat) (m : Sp.Spc) (hm : Sp.WF m) (hl : m.L.length ≤ 1000) (o a z f l : Int) (w : World) (h : SpcR w g r m) :
    Calls Try.prog 9 #[.pointer (some ⟨g, 0, none⟩), .agg (sA Sp.spc0 (.slice none 0 0)), .agg #[.int .i64 0, .int .i64 o, .int .i64 a, .int .i64 z, .int .i64 f, .int .i64 l]] w (RetEo g r (Sp.carveR m a (f, l)).1 w) := by
  have HS := Lib.hid h
  have hg := h.lt
  have hr := fun b (hb : r = some b) => (h.row b hb).2
  have HRW := Lib.hid hr
  obtain ⟨qs, cs0, hqs⟩ : ∃ q c, Sp.carveR m a (f, l) = (q, c) := ⟨_, _, rfl⟩
  obtain ⟨q, c, hq⟩ : ∃ q c, Sp.carveR Sp.spc0 a (f, l) = (q, c) := ⟨_, _, rfl⟩
  have CR := Lib.hid fun (W : World) => r12_Carve Sp.spc0 Sp.wf0 (by decide) (.slice none 0 0) a f l W (nil4 W)
  have CV := Lib.hid fun (W : World) (h : SpcR W g r m) => spc_Carve g r m hm a f l W h
  rw [hq] at CR
  rw [hqs] at CV ⊢
  have HB0 := Lib.hid (W0.below w Sp.spc0 (.slice none 0 0) (stpA 0 o a z f l))
  have HZ0 := Lib.hid (W0.size w Sp.spc0 (.slice none 0 0) (stpA 0 o a z f l))
  have HD0 := Lib.hid fun (w1 : World) (hb : Below (W0 w Sp.spc0 (.slice none 0 0) (stpA 0 o a z f l)).heap.size (W0 w Sp.spc0 (.slice none 0 0) (stpA 0 o a z f l)) w1) => W0.dc hb q
  simp only [sA, stpA, W0, Sp.spc0] at HB0 HZ0 HD0 CR ⊢
  clear h hq hqs hr
  go_enter Try.func9, Try.ntmps9
  go_wp2_with fail
  refine (CR.out _).mono ?_
  rintro e w1 ⟨v1, rfl, h1, hn1, hb1⟩
  have HD1 := Lib.hid (HD0.out _ hb1 v1)
  obtain ⟨p1, c1, hv1, -, -, -⟩ := id h1
  subst hv1
  have HB1 := Lib.hid hb1
  clear h1 hn1 hb1
  go_wp2_with (refine wpList_store_newS rfl _ _ _ rfl (sA q (.slice p1 q.L.length c1)) rfl rfl _ _ infoS rfl (oneS _ _ _ _) ?_)
  have HS2 : Hid (SpcR (w1.alloc (.cells (sA q (.slice p1 q.L.length c1)) 31)).drew g r m) := Lib.hid (((HS.out.below HB0.out).below HB1.out).below (below_drewN (belowA _ _) 1))
  refine wp_region_held_drew (S := fun W => DC w W w1.heap.size q (.slice p1 q.L.length c1) #[.int .i64 0, .int .i64 o, .int .i64 a, .int .i64 z, .int .i64 f, .int .i64 l]) (by kernel_rfl) HD1.out.drew (fun hHeld => ?_)
  refine wpAnyH_take (i := 0) rfl (by kernel_rfl) (by kernel_rfl) (by kernel_rfl) (fun _ _ _ h => h) (yieldsIf_load_row (by rfl) _ _ rfl (w1.heap.size) rfl _ (sA q (.slice p1 q.L.length c1)) _ (fun w h => h.n) Try.underlying31 rfl infoS) (by assumption) ?_
  simp only [Act.put, List.setIfInBounds_toArray, List.set_cons_zero, List.set_cons_succ, List.getElem_toArray, List.getElem_cons_zero, List.getElem_cons_succ]
  refine wpAnyH_take (i := 1) (v := ?_) rfl (by kernel_rfl) (by kernel_rfl) (by kernel_rfl) (fun _ _ _ h => h) (Or.inl ⟨by rfl, ?_⟩) (by assumption) ?_
  rotate_left
  · intro w hSw; go_simp; try with_reducible rfl
  simp only [Act.put, List.setIfInBounds_toArray, List.set_cons_zero, List.set_cons_succ, List.getElem_toArray, List.getElem_cons_zero, List.getElem_cons_succ]
  refine wpAnyH_take (i := 2) (v := ?_) rfl (by kernel_rfl) (by kernel_rfl) (by kernel_rfl) (fun _ _ _ h => h) (Or.inl ⟨by rfl, ?_⟩) (by assumption) ?_
  rotate_left
  · intro w hSw; go_simp; try with_reducible rfl
  simp only [Act.put, List.setIfInBounds_toArray, List.set_cons_zero, List.set_cons_succ, List.getElem_toArray, List.getElem_cons_zero, List.getElem_cons_succ]
  refine wpAnyH_take (i := 3) (v := ?_) rfl (by kernel_rfl) (by kernel_rfl) (by kernel_rfl) (fun _ _ _ h => h) (Or.inl ⟨by rfl, ?_⟩) (by assumption) ?_
  rotate_left
  · intro w h; have k2 := h.x.cell 2; go_simp; try with_reducible rfl
  simp only [Act.put, List.setIfInBounds_toArray, List.set_cons_zero, List.set_cons_succ, List.getElem_toArray, List.getElem_cons_zero, List.getElem_cons_succ]
  refine wpAnyH_take (i := 4) (v := ?_) rfl (by kernel_rfl) (by kernel_rfl) (by kernel_rfl) (fun _ _ _ h => h) (Or.inl ⟨by rfl, ?_⟩) (by assumption) ?_
  rotate_left
  · intro w hSw; go_simp; try with_reducible rfl
  simp only [Act.put, List.setIfInBounds_toArray, List.set_cons_zero, List.set_cons_succ, List.getElem_toArray, List.getElem_cons_zero, List.getElem_cons_succ]
  refine wpAnyH_take (i := 5) (v := ?_) rfl (by kernel_rfl) (by kernel_rfl) (by kernel_rfl) (fun _ _ _ h => h) (Or.inl ⟨by rfl, ?_⟩) (by assumption) ?_
  rotate_left
  · intro w h; have k4 := h.x.cell 4; have k5 := h.x.cell 5; go_simp; try with_reducible rfl
  simp only [Act.put, List.setIfInBounds_toArray, List.set_cons_zero, List.set_cons_succ, List.getElem_toArray, List.getElem_cons_zero, List.getElem_cons_succ]
  refine wpAnyH_take (i := 7) (v := ?_) rfl (by kernel_rfl) (by kernel_rfl) (by kernel_rfl) (fun _ _ _ h => h) (Or.inl ⟨by rfl, ?_⟩) (by assumption) ?_
  rotate_left
  · intro w hSw; go_simp; try with_reducible rfl
  simp only [Act.put, List.setIfInBounds_toArray, List.set_cons_zero, List.set_cons_succ, List.getElem_toArray, List.getElem_cons_zero, List.getElem_cons_succ]
  refine held_step (i := 6) rfl (by kernel_rfl) (by rfl) (fun K hK => ?_)
  go_simp
  refine (CV.out _ HS2.out).mono ?_; rintro e w3 ⟨rfl, hL3⟩; have HL3 := Lib.hid hL3; have HD3 := hHeld.left hL3 hg HRW.out
  go_wp2_with fail
  refine hK.out _ _ (HD3) (fun hHeld => ?_)
  clear hK K
  try simp only [Act.put, List.setIfInBounds_toArray, List.set_cons_zero, List.set_cons_succ, List.getElem_toArray, List.getElem_cons_zero, List.getElem_cons_succ]
  refine wpAnyH_take (i := 8) (v := ?_) rfl (by kernel_rfl) (by kernel_rfl) (by kernel_rfl) (fun _ _ _ h => h) (Or.inl ⟨by rfl, ?_⟩) (by assumption) ?_
  rotate_left
  · intro w hSw; go_simp; try with_reducible rfl
  simp only [Act.put, List.setIfInBounds_toArray, List.set_cons_zero, List.set_cons_succ, List.getElem_toArray, List.getElem_cons_zero, List.getElem_cons_succ]
  obtain ⟨cs, hcs, hsz⟩ := HD3.z
  refine held_step (i := 9) rfl (by kernel_rfl) (by rfl) (fun K hK => ?_)
  refine wp_store_row _ _ _ rfl (w.heap.size + 2) (sA q (.slice p1 q.L.length c1)) rfl rfl _ (cs) (hcs) infoS (hsz) (oneS _ _ _ _) ?_
  refine hK.out _ _ (HD3.setZ) (fun hHeld => ?_)
  clear hK K
  try simp only [Act.put, List.setIfInBounds_toArray, List.set_cons_zero, List.set_cons_succ, List.getElem_toArray, List.getElem_cons_zero, List.getElem_cons_succ]
  refine wpAnyH_take (i := 10) (v := ?_) rfl (by kernel_rfl) (by kernel_rfl) (by kernel_rfl) (fun _ _ _ h => h) (Or.inl ⟨by rfl, ?_⟩) (by assumption) ?_
  rotate_left
  · intro w hSw; go_simp; try with_reducible rfl
  simp only [Act.put, List.setIfInBounds_toArray, List.set_cons_zero, List.set_cons_succ, List.getElem_toArray, List.getElem_cons_zero, List.getElem_cons_succ]
  refine wpAnyH_done (by kernel_rfl) ?_ _
  go_wp2_with fail
  have HE := bothL (w := w) (w4 := w3) HS.out HB0.out HZ0.out HB1.out (below_drewN (belowA _ _) 1) HL3.out (Below.refl _ _) (sA q (.slice p1 q.L.length c1))
  exact bodyPost_ret (results_ct rfl _ _ _ _ _ _ _ rfl (hcs.setRow _) Try.underlying31 rfl infoS) rfl ⟨_, rfl, HE⟩
set_option maxRecDepth 100000 in
set_option maxHeartbeats 8000000 in
theorem law_eo1 (g : Nat) (r : Option Nat) (m : Sp.Spc) (hm : Sp.WF m) (hl : m.L.length ≤ 1000) (o a z f l : Int) (w : World) (h : SpcR w g r m) :
    Calls Try.prog 9 #[.pointer (some ⟨g, 0, none⟩), .agg (sA Sp.spc0 (.slice none 0 0)), .agg #[.int .i64 1, .int .i64 o, .int .i64 a, .int .i64 z, .int .i64 f, .int .i64 l]] w (RetEo g r (Sp.closeR m a).1 w) := by
  have HS := Lib.hid h
  have hg := h.lt
  have hr := fun b (hb : r = some b) => (h.row b hb).2
  have HRW := Lib.hid hr
  obtain ⟨qs, cs0, hqs⟩ : ∃ q c, Sp.closeR m a = (q, c) := ⟨_, _, rfl⟩
  obtain ⟨q, c, hq⟩ : ∃ q c, Sp.closeR Sp.spc0 a = (q, c) := ⟨_, _, rfl⟩
  have CR := Lib.hid fun (W : World) => r12_Close Sp.spc0 (by decide) (.slice none 0 0) a W (nil4 W)
  have CV := Lib.hid fun (W : World) (h : SpcR W g r m) => spc_Close g r m hm hl a W h
  rw [hq] at CR
  rw [hqs] at CV ⊢
  have HB0 := Lib.hid (W0.below w Sp.spc0 (.slice none 0 0) (stpA 1 o a z f l))
  have HZ0 := Lib.hid (W0.size w Sp.spc0 (.slice none 0 0) (stpA 1 o a z f l))
  have HD0 := Lib.hid fun (w1 : World) (hb : Below (W0 w Sp.spc0 (.slice none 0 0) (stpA 1 o a z f l)).heap.size (W0 w Sp.spc0 (.slice none 0 0) (stpA 1 o a z f l)) w1) => W0.dc hb q
  simp only [sA, stpA, W0, Sp.spc0] at HB0 HZ0 HD0 CR ⊢
  clear h hq hqs hr
  go_enter Try.func9, Try.ntmps9
  go_wp2_with fail
  refine (CR.out _).mono ?_
  rintro e w1 ⟨v1, rfl, h1, hn1, hb1⟩
  have HD1 := Lib.hid (HD0.out _ hb1 v1)
  obtain ⟨p1, c1, hv1, -, -, -⟩ := id h1
  subst hv1
  have HB1 := Lib.hid hb1
  clear h1 hn1 hb1
  go_wp2_with (refine wpList_store_newS rfl _ _ _ rfl (sA q (.slice p1 q.L.length c1)) rfl rfl _ _ infoS rfl (oneS _ _ _ _) ?_)
  have HS2 : Hid (SpcR (w1.alloc (.cells (sA q (.slice p1 q.L.length c1)) 31)).drew g r m) := Lib.hid (((HS.out.below HB0.out).below HB1.out).below (below_drewN (belowA _ _) 1))
  refine wp_region_held_drew (S := fun W => DC w W w1.heap.size q (.slice p1 q.L.length c1) #[.int .i64 1, .int .i64 o, .int .i64 a, .int .i64 z, .int .i64 f, .int .i64 l]) (by kernel_rfl) HD1.out.drew (fun hHeld => ?_)
  refine wpAnyH_take (i := 0) rfl (by kernel_rfl) (by kernel_rfl) (by kernel_rfl) (fun _ _ _ h => h) (yieldsIf_load_row (by rfl) _ _ rfl (w1.heap.size) rfl _ (sA q (.slice p1 q.L.length c1)) _ (fun w h => h.n) Try.underlying31 rfl infoS) (by assumption) ?_
  simp only [Act.put, List.setIfInBounds_toArray, List.set_cons_zero, List.set_cons_succ, List.getElem_toArray, List.getElem_cons_zero, List.getElem_cons_succ]
  refine wpAnyH_take (i := 1) (v := ?_) rfl (by kernel_rfl) (by kernel_rfl) (by kernel_rfl) (fun _ _ _ h => h) (Or.inl ⟨by rfl, ?_⟩) (by assumption) ?_
  rotate_left
  · intro w hSw; go_simp; try with_reducible rfl
  simp only [Act.put, List.setIfInBounds_toArray, List.set_cons_zero, List.set_cons_succ, List.getElem_toArray, List.getElem_cons_zero, List.getElem_cons_succ]
  refine wpAnyH_take (i := 2) (v := ?_) rfl (by kernel_rfl) (by kernel_rfl) (by kernel_rfl) (fun _ _ _ h => h) (Or.inl ⟨by rfl, ?_⟩) (by assumption) ?_
  rotate_left
  · intro w hSw; go_simp; try with_reducible rfl
  simp only [Act.put, List.setIfInBounds_toArray, List.set_cons_zero, List.set_cons_succ, List.getElem_toArray, List.getElem_cons_zero, List.getElem_cons_succ]
  refine wpAnyH_take (i := 3) (v := ?_) rfl (by kernel_rfl) (by kernel_rfl) (by kernel_rfl) (fun _ _ _ h => h) (Or.inl ⟨by rfl, ?_⟩) (by assumption) ?_
  rotate_left
  · intro w h; have k2 := h.x.cell 2; go_simp; try with_reducible rfl
  simp only [Act.put, List.setIfInBounds_toArray, List.set_cons_zero, List.set_cons_succ, List.getElem_toArray, List.getElem_cons_zero, List.getElem_cons_succ]
  refine wpAnyH_take (i := 5) (v := ?_) rfl (by kernel_rfl) (by kernel_rfl) (by kernel_rfl) (fun _ _ _ h => h) (Or.inl ⟨by rfl, ?_⟩) (by assumption) ?_
  rotate_left
  · intro w hSw; go_simp; try with_reducible rfl
  simp only [Act.put, List.setIfInBounds_toArray, List.set_cons_zero, List.set_cons_succ, List.getElem_toArray, List.getElem_cons_zero, List.getElem_cons_succ]
  refine held_step (i := 4) rfl (by kernel_rfl) (by rfl) (fun K hK => ?_)
  go_simp
  refine (CV.out _ HS2.out).mono ?_; rintro e w3 ⟨rfl, hL3⟩; have HL3 := Lib.hid hL3; have HD3 := hHeld.left hL3 hg HRW.out
  go_wp2_with fail
  refine hK.out _ _ (HD3) (fun hHeld => ?_)
  clear hK K
  try simp only [Act.put, List.setIfInBounds_toArray, List.set_cons_zero, List.set_cons_succ, List.getElem_toArray, List.getElem_cons_zero, List.getElem_cons_succ]
  refine wpAnyH_take (i := 6) (v := ?_) rfl (by kernel_rfl) (by kernel_rfl) (by kernel_rfl) (fun _ _ _ h => h) (Or.inl ⟨by rfl, ?_⟩) (by assumption) ?_
  rotate_left
  · intro w hSw; go_simp; try with_reducible rfl
  simp only [Act.put, List.setIfInBounds_toArray, List.set_cons_zero, List.set_cons_succ, List.getElem_toArray, List.getElem_cons_zero, List.getElem_cons_succ]
  obtain ⟨cs, hcs, hsz⟩ := HD3.z
  refine held_step (i := 7) rfl (by kernel_rfl) (by rfl) (fun K hK => ?_)
  refine wp_store_row _ _ _ rfl (w.heap.size + 2) (sA q (.slice p1 q.L.length c1)) rfl rfl _ (cs) (hcs) infoS (hsz) (oneS _ _ _ _) ?_
  refine hK.out _ _ (HD3.setZ) (fun hHeld => ?_)
  clear hK K
  try simp only [Act.put, List.setIfInBounds_toArray, List.set_cons_zero, List.set_cons_succ, List.getElem_toArray, List.getElem_cons_zero, List.getElem_cons_succ]
  refine wpAnyH_take (i := 8) (v := ?_) rfl (by kernel_rfl) (by kernel_rfl) (by kernel_rfl) (fun _ _ _ h => h) (Or.inl ⟨by rfl, ?_⟩) (by assumption) ?_
  rotate_left
  · intro w hSw; go_simp; try with_reducible rfl
  simp only [Act.put, List.setIfInBounds_toArray, List.set_cons_zero, List.set_cons_succ, List.getElem_toArray, List.getElem_cons_zero, List.getElem_cons_succ]
  refine wpAnyH_done (by kernel_rfl) ?_ _
  go_wp2_with fail
  have HE := bothL (w := w) (w4 := w3) HS.out HB0.out HZ0.out HB1.out (below_drewN (belowA _ _) 1) HL3.out (Below.refl _ _) (sA q (.slice p1 q.L.length c1))
  exact bodyPost_ret (results_ct rfl _ _ _ _ _ _ _ rfl (hcs.setRow _) Try.underlying31 rfl infoS) rfl ⟨_, rfl, HE⟩
set_option maxRecDepth 100000 in
set_option maxHeartbeats 8000000 in
theorem law_eo3 (g : Nat) (r : Option Nat) (m : Sp.Spc) (hm : Sp.WF m) (hl : m.L.length ≤ 1000) (o a z f l : Int) (w : World) (h : SpcR w g r m) :
    Calls Try.prog 9 #[.pointer (some ⟨g, 0, none⟩), .agg (sA Sp.spc0 (.slice none 0 0)), .agg #[.int .i64 3, .int .i64 o, .int .i64 a, .int .i64 z, .int .i64 f, .int .i64 l]] w (RetEo g r (Sp.takeR m o (f, l)).1 w) := by
  have HS := Lib.hid h
  have hg := h.lt
  have hr := fun b (hb : r = some b) => (h.row b hb).2
  have HRW := Lib.hid hr
  obtain ⟨qs, cs0, hqs⟩ : ∃ q c, Sp.takeR m o (f, l) = (q, c) := ⟨_, _, rfl⟩
  obtain ⟨q, c, hq⟩ : ∃ q c, Sp.takeR Sp.spc0 o (f, l) = (q, c) := ⟨_, _, rfl⟩
  have CR := Lib.hid fun (W : World) => r12_Take Sp.spc0 Sp.wf0 (by decide) (.slice none 0 0) o f l W (nil4 W)
  have CV := Lib.hid fun (W : World) (h : SpcR W g r m) => spc_Take g r m hm hl o f l W h
  rw [hq] at CR
  rw [hqs] at CV ⊢
  have HB0 := Lib.hid (W0.below w Sp.spc0 (.slice none 0 0) (stpA 3 o a z f l))
  have HZ0 := Lib.hid (W0.size w Sp.spc0 (.slice none 0 0) (stpA 3 o a z f l))
  have HD0 := Lib.hid fun (w1 : World) (hb : Below (W0 w Sp.spc0 (.slice none 0 0) (stpA 3 o a z f l)).heap.size (W0 w Sp.spc0 (.slice none 0 0) (stpA 3 o a z f l)) w1) => W0.dc hb q
  simp only [sA, stpA, W0, Sp.spc0] at HB0 HZ0 HD0 CR ⊢
  clear h hq hqs hr
  go_enter Try.func9, Try.ntmps9
  go_wp2_with fail
  refine (CR.out _).mono ?_
  rintro e w1 ⟨v1, rfl, h1, hn1, hb1⟩
  have HD1 := Lib.hid (HD0.out _ hb1 v1)
  obtain ⟨p1, c1, hv1, -, -, -⟩ := id h1
  subst hv1
  have HB1 := Lib.hid hb1
  clear h1 hn1 hb1
  go_wp2_with (refine wpList_store_newS rfl _ _ _ rfl (sA q (.slice p1 q.L.length c1)) rfl rfl _ _ infoS rfl (oneS _ _ _ _) ?_)
  have HS2 : Hid (SpcR (w1.alloc (.cells (sA q (.slice p1 q.L.length c1)) 31)).drew g r m) := Lib.hid (((HS.out.below HB0.out).below HB1.out).below (below_drewN (belowA _ _) 1))
  refine wp_region_held_drew (S := fun W => DC w W w1.heap.size q (.slice p1 q.L.length c1) #[.int .i64 3, .int .i64 o, .int .i64 a, .int .i64 z, .int .i64 f, .int .i64 l]) (by kernel_rfl) HD1.out.drew (fun hHeld => ?_)
  refine wpAnyH_take (i := 0) rfl (by kernel_rfl) (by kernel_rfl) (by kernel_rfl) (fun _ _ _ h => h) (yieldsIf_load_row (by rfl) _ _ rfl (w1.heap.size) rfl _ (sA q (.slice p1 q.L.length c1)) _ (fun w h => h.n) Try.underlying31 rfl infoS) (by assumption) ?_
  simp only [Act.put, List.setIfInBounds_toArray, List.set_cons_zero, List.set_cons_succ, List.getElem_toArray, List.getElem_cons_zero, List.getElem_cons_succ]
  refine wpAnyH_take (i := 1) (v := ?_) rfl (by kernel_rfl) (by kernel_rfl) (by kernel_rfl) (fun _ _ _ h => h) (Or.inl ⟨by rfl, ?_⟩) (by assumption) ?_
  rotate_left
  · intro w hSw; go_simp; try with_reducible rfl
  simp only [Act.put, List.setIfInBounds_toArray, List.set_cons_zero, List.set_cons_succ, List.getElem_toArray, List.getElem_cons_zero, List.getElem_cons_succ]
  refine wpAnyH_take (i := 2) (v := ?_) rfl (by kernel_rfl) (by kernel_rfl) (by kernel_rfl) (fun _ _ _ h => h) (Or.inl ⟨by rfl, ?_⟩) (by assumption) ?_
  rotate_left
  · intro w hSw; go_simp; try with_reducible rfl
  simp only [Act.put, List.setIfInBounds_toArray, List.set_cons_zero, List.set_cons_succ, List.getElem_toArray, List.getElem_cons_zero, List.getElem_cons_succ]
  refine wpAnyH_take (i := 3) (v := ?_) rfl (by kernel_rfl) (by kernel_rfl) (by kernel_rfl) (fun _ _ _ h => h) (Or.inl ⟨by rfl, ?_⟩) (by assumption) ?_
  rotate_left
  · intro w h; have k1 := h.x.cell 1; go_simp; try with_reducible rfl
  simp only [Act.put, List.setIfInBounds_toArray, List.set_cons_zero, List.set_cons_succ, List.getElem_toArray, List.getElem_cons_zero, List.getElem_cons_succ]
  refine wpAnyH_take (i := 4) (v := ?_) rfl (by kernel_rfl) (by kernel_rfl) (by kernel_rfl) (fun _ _ _ h => h) (Or.inl ⟨by rfl, ?_⟩) (by assumption) ?_
  rotate_left
  · intro w hSw; go_simp; try with_reducible rfl
  simp only [Act.put, List.setIfInBounds_toArray, List.set_cons_zero, List.set_cons_succ, List.getElem_toArray, List.getElem_cons_zero, List.getElem_cons_succ]
  refine wpAnyH_take (i := 5) (v := ?_) rfl (by kernel_rfl) (by kernel_rfl) (by kernel_rfl) (fun _ _ _ h => h) (Or.inl ⟨by rfl, ?_⟩) (by assumption) ?_
  rotate_left
  · intro w h; have k4 := h.x.cell 4; have k5 := h.x.cell 5; go_simp; try with_reducible rfl
  simp only [Act.put, List.setIfInBounds_toArray, List.set_cons_zero, List.set_cons_succ, List.getElem_toArray, List.getElem_cons_zero, List.getElem_cons_succ]
  refine wpAnyH_take (i := 7) (v := ?_) rfl (by kernel_rfl) (by kernel_rfl) (by kernel_rfl) (fun _ _ _ h => h) (Or.inl ⟨by rfl, ?_⟩) (by assumption) ?_
  rotate_left
  · intro w hSw; go_simp; try with_reducible rfl
  simp only [Act.put, List.setIfInBounds_toArray, List.set_cons_zero, List.set_cons_succ, List.getElem_toArray, List.getElem_cons_zero, List.getElem_cons_succ]
  refine held_step (i := 6) rfl (by kernel_rfl) (by rfl) (fun K hK => ?_)
  go_simp
  refine (CV.out _ HS2.out).mono ?_; rintro e w3 ⟨rfl, hL3⟩; have HL3 := Lib.hid hL3; have HD3 := hHeld.left hL3 hg HRW.out
  go_wp2_with fail
  refine hK.out _ _ (HD3) (fun hHeld => ?_)
  clear hK K
  try simp only [Act.put, List.setIfInBounds_toArray, List.set_cons_zero, List.set_cons_succ, List.getElem_toArray, List.getElem_cons_zero, List.getElem_cons_succ]
  refine wpAnyH_take (i := 8) (v := ?_) rfl (by kernel_rfl) (by kernel_rfl) (by kernel_rfl) (fun _ _ _ h => h) (Or.inl ⟨by rfl, ?_⟩) (by assumption) ?_
  rotate_left
  · intro w hSw; go_simp; try with_reducible rfl
  simp only [Act.put, List.setIfInBounds_toArray, List.set_cons_zero, List.set_cons_succ, List.getElem_toArray, List.getElem_cons_zero, List.getElem_cons_succ]
  obtain ⟨cs, hcs, hsz⟩ := HD3.z
  refine held_step (i := 9) rfl (by kernel_rfl) (by rfl) (fun K hK => ?_)
  refine wp_store_row _ _ _ rfl (w.heap.size + 2) (sA q (.slice p1 q.L.length c1)) rfl rfl _ (cs) (hcs) infoS (hsz) (oneS _ _ _ _) ?_
  refine hK.out _ _ (HD3.setZ) (fun hHeld => ?_)
  clear hK K
  try simp only [Act.put, List.setIfInBounds_toArray, List.set_cons_zero, List.set_cons_succ, List.getElem_toArray, List.getElem_cons_zero, List.getElem_cons_succ]
  refine wpAnyH_take (i := 10) (v := ?_) rfl (by kernel_rfl) (by kernel_rfl) (by kernel_rfl) (fun _ _ _ h => h) (Or.inl ⟨by rfl, ?_⟩) (by assumption) ?_
  rotate_left
  · intro w hSw; go_simp; try with_reducible rfl
  simp only [Act.put, List.setIfInBounds_toArray, List.set_cons_zero, List.set_cons_succ, List.getElem_toArray, List.getElem_cons_zero, List.getElem_cons_succ]
  refine wpAnyH_done (by kernel_rfl) ?_ _
  go_wp2_with fail
  have HE := bothL (w := w) (w4 := w3) HS.out HB0.out HZ0.out HB1.out (below_drewN (belowA _ _) 1) HL3.out (Below.refl _ _) (sA q (.slice p1 q.L.length c1))
  exact bodyPost_ret (results_ct rfl _ _ _ _ _ _ _ rfl (hcs.setRow _) Try.underlying31 rfl infoS) rfl ⟨_, rfl, HE⟩
set_option maxRecDepth 100000 in
set_option maxHeartbeats 8000000 in
theorem law_eo4 (g : Nat) (r : Option Nat) (m : Sp.Spc) (hm : Sp.WF m) (hl : m.L.length ≤ 1000) (o a z f l : Int) (w : World) (h : SpcR w g r m) :
    Calls Try.prog 9 #[.pointer (some ⟨g, 0, none⟩), .agg (sA Sp.spc0 (.slice none 0 0)), .agg #[.int .i64 4, .int .i64 o, .int .i64 a, .int .i64 z, .int .i64 f, .int .i64 l]] w (RetEo g r (Sp.freeR m o (f, l)).1 w) := by
  have HS := Lib.hid h
  have hg := h.lt
  have hr := fun b (hb : r = some b) => (h.row b hb).2
  have HRW := Lib.hid hr
  obtain ⟨qs, cs0, hqs⟩ : ∃ q c, Sp.freeR m o (f, l) = (q, c) := ⟨_, _, rfl⟩
  obtain ⟨q, c, hq⟩ : ∃ q c, Sp.freeR Sp.spc0 o (f, l) = (q, c) := ⟨_, _, rfl⟩
  have CR := Lib.hid fun (W : World) => r12_Free Sp.spc0 (by decide) (.slice none 0 0) o f l W (nil4 W)
  have CV := Lib.hid fun (W : World) (h : SpcR W g r m) => spc_Free g r m hm hl o f l W h
  rw [hq] at CR
  rw [hqs] at CV ⊢
  have HB0 := Lib.hid (W0.below w Sp.spc0 (.slice none 0 0) (stpA 4 o a z f l))
  have HZ0 := Lib.hid (W0.size w Sp.spc0 (.slice none 0 0) (stpA 4 o a z f l))
  have HD0 := Lib.hid fun (w1 : World) (hb : Below (W0 w Sp.spc0 (.slice none 0 0) (stpA 4 o a z f l)).heap.size (W0 w Sp.spc0 (.slice none 0 0) (stpA 4 o a z f l)) w1) => W0.dc hb q
  simp only [sA, stpA, W0, Sp.spc0] at HB0 HZ0 HD0 CR ⊢
  clear h hq hqs hr
  go_enter Try.func9, Try.ntmps9
  go_wp2_with fail
  refine (CR.out _).mono ?_
  rintro e w1 ⟨v1, rfl, h1, hn1, hb1⟩
  have HD1 := Lib.hid (HD0.out _ hb1 v1)
  obtain ⟨p1, c1, hv1, -, -, -⟩ := id h1
  subst hv1
  have HB1 := Lib.hid hb1
  clear h1 hn1 hb1
  go_wp2_with (refine wpList_store_newS rfl _ _ _ rfl (sA q (.slice p1 q.L.length c1)) rfl rfl _ _ infoS rfl (oneS _ _ _ _) ?_)
  have HS2 : Hid (SpcR (w1.alloc (.cells (sA q (.slice p1 q.L.length c1)) 31)).drew g r m) := Lib.hid (((HS.out.below HB0.out).below HB1.out).below (below_drewN (belowA _ _) 1))
  refine wp_region_held_drew (S := fun W => DC w W w1.heap.size q (.slice p1 q.L.length c1) #[.int .i64 4, .int .i64 o, .int .i64 a, .int .i64 z, .int .i64 f, .int .i64 l]) (by kernel_rfl) HD1.out.drew (fun hHeld => ?_)
  refine wpAnyH_take (i := 0) rfl (by kernel_rfl) (by kernel_rfl) (by kernel_rfl) (fun _ _ _ h => h) (yieldsIf_load_row (by rfl) _ _ rfl (w1.heap.size) rfl _ (sA q (.slice p1 q.L.length c1)) _ (fun w h => h.n) Try.underlying31 rfl infoS) (by assumption) ?_
  simp only [Act.put, List.setIfInBounds_toArray, List.set_cons_zero, List.set_cons_succ, List.getElem_toArray, List.getElem_cons_zero, List.getElem_cons_succ]
  refine wpAnyH_take (i := 1) (v := ?_) rfl (by kernel_rfl) (by kernel_rfl) (by kernel_rfl) (fun _ _ _ h => h) (Or.inl ⟨by rfl, ?_⟩) (by assumption) ?_
  rotate_left
  · intro w hSw; go_simp; try with_reducible rfl
  simp only [Act.put, List.setIfInBounds_toArray, List.set_cons_zero, List.set_cons_succ, List.getElem_toArray, List.getElem_cons_zero, List.getElem_cons_succ]
  refine wpAnyH_take (i := 2) (v := ?_) rfl (by kernel_rfl) (by kernel_rfl) (by kernel_rfl) (fun _ _ _ h => h) (Or.inl ⟨by rfl, ?_⟩) (by assumption) ?_
  rotate_left
  · intro w hSw; go_simp; try with_reducible rfl
  simp only [Act.put, List.setIfInBounds_toArray, List.set_cons_zero, List.set_cons_succ, List.getElem_toArray, List.getElem_cons_zero, List.getElem_cons_succ]
  refine wpAnyH_take (i := 3) (v := ?_) rfl (by kernel_rfl) (by kernel_rfl) (by kernel_rfl) (fun _ _ _ h => h) (Or.inl ⟨by rfl, ?_⟩) (by assumption) ?_
  rotate_left
  · intro w h; have k1 := h.x.cell 1; go_simp; try with_reducible rfl
  simp only [Act.put, List.setIfInBounds_toArray, List.set_cons_zero, List.set_cons_succ, List.getElem_toArray, List.getElem_cons_zero, List.getElem_cons_succ]
  refine wpAnyH_take (i := 4) (v := ?_) rfl (by kernel_rfl) (by kernel_rfl) (by kernel_rfl) (fun _ _ _ h => h) (Or.inl ⟨by rfl, ?_⟩) (by assumption) ?_
  rotate_left
  · intro w hSw; go_simp; try with_reducible rfl
  simp only [Act.put, List.setIfInBounds_toArray, List.set_cons_zero, List.set_cons_succ, List.getElem_toArray, List.getElem_cons_zero, List.getElem_cons_succ]
  refine wpAnyH_take (i := 5) (v := ?_) rfl (by kernel_rfl) (by kernel_rfl) (by kernel_rfl) (fun _ _ _ h => h) (Or.inl ⟨by rfl, ?_⟩) (by assumption) ?_
  rotate_left
  · intro w h; have k4 := h.x.cell 4; have k5 := h.x.cell 5; go_simp; try with_reducible rfl
  simp only [Act.put, List.setIfInBounds_toArray, List.set_cons_zero, List.set_cons_succ, List.getElem_toArray, List.getElem_cons_zero, List.getElem_cons_succ]
  refine wpAnyH_take (i := 7) (v := ?_) rfl (by kernel_rfl) (by kernel_rfl) (by kernel_rfl) (fun _ _ _ h => h) (Or.inl ⟨by rfl, ?_⟩) (by assumption) ?_
  rotate_left
  · intro w hSw; go_simp; try with_reducible rfl
  simp only [Act.put, List.setIfInBounds_toArray, List.set_cons_zero, List.set_cons_succ, List.getElem_toArray, List.getElem_cons_zero, List.getElem_cons_succ]
  refine held_step (i := 6) rfl (by kernel_rfl) (by rfl) (fun K hK => ?_)
  go_simp
  refine (CV.out _ HS2.out).mono ?_; rintro e w3 ⟨rfl, hL3⟩; have HL3 := Lib.hid hL3; have HD3 := hHeld.left hL3 hg HRW.out
  go_wp2_with fail
  refine hK.out _ _ (HD3) (fun hHeld => ?_)
  clear hK K
  try simp only [Act.put, List.setIfInBounds_toArray, List.set_cons_zero, List.set_cons_succ, List.getElem_toArray, List.getElem_cons_zero, List.getElem_cons_succ]
  refine wpAnyH_take (i := 8) (v := ?_) rfl (by kernel_rfl) (by kernel_rfl) (by kernel_rfl) (fun _ _ _ h => h) (Or.inl ⟨by rfl, ?_⟩) (by assumption) ?_
  rotate_left
  · intro w hSw; go_simp; try with_reducible rfl
  simp only [Act.put, List.setIfInBounds_toArray, List.set_cons_zero, List.set_cons_succ, List.getElem_toArray, List.getElem_cons_zero, List.getElem_cons_succ]
  obtain ⟨cs, hcs, hsz⟩ := HD3.z
  refine held_step (i := 9) rfl (by kernel_rfl) (by rfl) (fun K hK => ?_)
  refine wp_store_row _ _ _ rfl (w.heap.size + 2) (sA q (.slice p1 q.L.length c1)) rfl rfl _ (cs) (hcs) infoS (hsz) (oneS _ _ _ _) ?_
  refine hK.out _ _ (HD3.setZ) (fun hHeld => ?_)
  clear hK K
  try simp only [Act.put, List.setIfInBounds_toArray, List.set_cons_zero, List.set_cons_succ, List.getElem_toArray, List.getElem_cons_zero, List.getElem_cons_succ]
  refine wpAnyH_take (i := 10) (v := ?_) rfl (by kernel_rfl) (by kernel_rfl) (by kernel_rfl) (fun _ _ _ h => h) (Or.inl ⟨by rfl, ?_⟩) (by assumption) ?_
  rotate_left
  · intro w hSw; go_simp; try with_reducible rfl
  simp only [Act.put, List.setIfInBounds_toArray, List.set_cons_zero, List.set_cons_succ, List.getElem_toArray, List.getElem_cons_zero, List.getElem_cons_succ]
  refine wpAnyH_done (by kernel_rfl) ?_ _
  go_wp2_with fail
  have HE := bothL (w := w) (w4 := w3) HS.out HB0.out HZ0.out HB1.out (below_drewN (belowA _ _) 1) HL3.out (Below.refl _ _) (sA q (.slice p1 q.L.length c1))
  exact bodyPost_ret (results_ct rfl _ _ _ _ _ _ _ rfl (hcs.setRow _) Try.underlying31 rfl infoS) rfl ⟨_, rfl, HE⟩
/-- two spans more, each its own -/
structure DE (w W : World) (s t : Nat) (q : Sp.Spc) (v' : Value) (X : Array Value) (a b a2 b2 : Int) : Prop where
  C : DC w W s q v' X
  n2 : Blk W (s + 1) 27 #[.int .i64 a, .int .i64 b]
  n3 : Blk W t 27 #[.int .i64 a2, .int .i64 b2]
  lt : s + 1 < t
theorem DE.next {w W W' : World} {s t : Nat} {q : Sp.Spc} {v' : Value} {X : Array Value} {a b a2 b2 : Int} (h : DE w W s t q v' X a b a2 b2) (hb : Below W.heap.size W W') : DE w W' s t q v' X a b a2 b2 := ⟨h.C.next hb, h.n2.below hb h.n2.lt, h.n3.below hb h.n3.lt, h.lt⟩
theorem DE.drew {w W : World} {s t : Nat} {q : Sp.Spc} {v' : Value} {X : Array Value} {a b a2 b2 : Int} (h : DE w W s t q v' X a b a2 b2) : DE w W.drew s t q v' X a b a2 b2 := h.next (Below.refl _ _).drew
theorem DE.setZ {w W : World} {s t : Nat} {q : Sp.Spc} {v' : Value} {X : Array Value} {a b a2 b2 : Int} (h : DE w W s t q v' X a b a2 b2) : DE w (W.setRow (w.heap.size + 2) (sA q v')) s t q v' X a b a2 b2 := by
  have h1 := h.C.lt
  have h2 := h.lt
  exact ⟨h.C.setZ, h.n2.otherRow _ _ (by omega), h.n3.otherRow _ _ (by omega), h.lt⟩
set_option maxRecDepth 100000 in
set_option maxHeartbeats 8000000 in
theorem law_eo2 (g : Nat) (r : Option Nat) (m : Sp.Spc) (hm : Sp.WF m) (hl : m.L.length ≤ 1000) (o a z f l : Int) (hz1 : -9223372036854775808 ≤ z) (hz2 : z ≤ 9223372036854775807) (w : World) (h : SpcR w g r m) :
    Calls Try.prog 9 #[.pointer (some ⟨g, 0, none⟩), .agg (sA Sp.spc0 (.slice none 0 0)), .agg #[.int .i64 2, .int .i64 o, .int .i64 a, .int .i64 z, .int .i64 f, .int .i64 l]] w (RetEo g r (Sp.drawR m o a z).1 w) := by
  have HS := Lib.hid h
  have hg := h.lt
  have hr := fun b (hb : r = some b) => (h.row b hb).2
  have HRW := Lib.hid hr
  obtain ⟨qs, a2, b2, c2, hqs⟩ : ∃ q a' b' c, Sp.drawR m o a z = (q, (a', b'), c) := ⟨_, _, _, _, rfl⟩
  obtain ⟨q, a', b', c, hq⟩ : ∃ q a' b' c, Sp.drawR Sp.spc0 o a z = (q, (a', b'), c) := ⟨_, _, _, _, rfl⟩
  have CR := Lib.hid fun (W : World) => r12_Draw Sp.spc0 Sp.wf0 (by decide) (.slice none 0 0) o a z hz1 hz2 W (nil4 W)
  have CV := Lib.hid fun (W : World) (h : SpcR W g r m) => spc_Draw g r m hm hl o a z hz1 hz2 W h
  rw [hq] at CR
  rw [hqs] at CV ⊢
  have HB0 := Lib.hid (W0.below w Sp.spc0 (.slice none 0 0) (stpA 2 o a z f l))
  have HZ0 := Lib.hid (W0.size w Sp.spc0 (.slice none 0 0) (stpA 2 o a z f l))
  have HD0 := Lib.hid fun (w1 : World) (hb : Below (W0 w Sp.spc0 (.slice none 0 0) (stpA 2 o a z f l)).heap.size (W0 w Sp.spc0 (.slice none 0 0) (stpA 2 o a z f l)) w1) => W0.dd hb q
  simp only [sA, stpA, W0, Sp.spc0] at HB0 HZ0 HD0 CR ⊢
  clear h hq hqs hr
  go_enter Try.func9, Try.ntmps9
  go_wp2_with fail
  refine (CR.out _).mono ?_
  rintro e w1 ⟨v1, rfl, h1, hn1, hb1⟩
  obtain ⟨p1, c1, hv1, -, -, -⟩ := id h1
  subst hv1
  have HB1 := Lib.hid hb1
  have HW := Lib.hid (W2.at (w1 := w1) q (.slice p1 q.L.length c1) a' b')
  have HC2 := Lib.hid (HD0.out _ hb1 (.slice p1 q.L.length c1) a' b')
  have k1 : (W2 w1 q (.slice p1 q.L.length c1) a' b').cell? ⟨w.heap.size + 1, 1, none⟩ = some (.int .i64 o) := HC2.out.x.cell 1
  have k2 : (W2 w1 q (.slice p1 q.L.length c1) a' b').cell? ⟨w.heap.size + 1, 2, none⟩ = some (.int .i64 a) := HC2.out.x.cell 2
  have k3 : (W2 w1 q (.slice p1 q.L.length c1) a' b').cell? ⟨w.heap.size + 1, 3, none⟩ = some (.int .i64 z) := HC2.out.x.cell 3
  clear h1 hn1 hb1
  have HS2 : Hid (SpcR (W2 w1 q (.slice p1 q.L.length c1) a' b') g r m) := Lib.hid (((HS.out.below HB0.out).below HB1.out).below HW.out.2.2.2.2)
  go_wp2_with (first
    | (refine wpList_store_row rfl _ _ _ rfl w1.heap.size (sA q (.slice p1 q.L.length c1)) rfl rfl _ _ HW.out.1 infoS rfl (oneS _ _ _ _) ?_)
    | (refine wpList_store_row rfl _ _ _ rfl (w1.heap.size + 1) #[.int .i64 a', .int .i64 b'] rfl rfl _ _ HW.out.2.1 infoSpn rfl (one2 _ _) ?_; change wpList _ _ _ _ _ (W2 w1 q (.slice p1 q.L.length c1) a' b')))
  refine (CV.out _ HS2.out).mono ?_
  rintro e w3 ⟨rfl, hL3⟩
  have HL3 := Lib.hid hL3
  have hC3 := HC2.out.left hL3 hg HRW.out
  have hn2 : Blk w3 (w1.heap.size + 1) 27 #[.int .i64 a', .int .i64 b'] := by
    obtain ⟨r', _, _, fr, _⟩ := hL3
    have hz0 := HZ0.out
    have hs1 := HB1.out.size
    have hw := HB0.out.size
    exact (fr.block _ HW.out.2.2.2.1.lt (by omega) (fun e => by have := HRW.out _ e.symm; omega)).trans HW.out.2.2.2.1
  have H5 : Hid (DE w (w3.alloc (.cells #[.int .i64 a2, .int .i64 b2] 27)) w1.heap.size w3.heap.size q (.slice p1 q.L.length c1) #[.int .i64 2, .int .i64 o, .int .i64 a, .int .i64 z, .int .i64 f, .int .i64 l] a' b' a2 b2) := Lib.hid ⟨hC3.next (belowA _ _), hn2.alloc _, Blk.new _ _ _, hn2.lt⟩
  have heqs := run_eql_sp (a', b') (a2, b2)
  have HE : Hid (∀ cs, Left g r qs w ((w3.alloc (.cells #[.int .i64 a2, .int .i64 b2] 27)).drew.setRow (w.heap.size + 2) cs)) := Lib.hid fun cs => bothL (w := w) HS.out HB0.out HZ0.out HB1.out HW.out.2.2.2.2 HL3.out (below_drewN (belowA w3 (.cells #[.int .i64 a2, .int .i64 b2] 27)) 1) cs
  clear hC3 hn2 hL3 k1 k2 k3
  by_cases hab : ((a', b') : Sp.S) = (a2, b2)
  · rw [decide_eq_true hab] at heqs
    clear hab
    go_wp2_with fail
    refine wp_region_held_drew (S := fun W => DE w W w1.heap.size w3.heap.size q (.slice p1 q.L.length c1) #[.int .i64 2, .int .i64 o, .int .i64 a, .int .i64 z, .int .i64 f, .int .i64 l] a' b' a2 b2) (by kernel_rfl) H5.out.drew (fun hHeld => ?_)
    refine wpAnyH_take (i := 0) rfl (by kernel_rfl) (by kernel_rfl) (by kernel_rfl) (fun _ _ _ h => h) (yieldsIf_load_row (by rfl) _ _ rfl (w1.heap.size) rfl _ (sA q (.slice p1 q.L.length c1)) _ (fun w h => h.C.n) Try.underlying31 rfl infoS) (by assumption) ?_
    simp only [Act.put, List.setIfInBounds_toArray, List.set_cons_zero, List.set_cons_succ, List.getElem_toArray, List.getElem_cons_zero, List.getElem_cons_succ]
    refine wpAnyH_take (i := 1) rfl (by kernel_rfl) (by kernel_rfl) (by kernel_rfl) (fun _ _ _ h => h) (yieldsIf_load_row (by rfl) _ _ rfl (w1.heap.size + 1) rfl _ (#[.int .i64 a', .int .i64 b']) _ (fun w h => h.n2) Try.underlying27 rfl infoSpn) (by assumption) ?_
    simp only [Act.put, List.setIfInBounds_toArray, List.set_cons_zero, List.set_cons_succ, List.getElem_toArray, List.getElem_cons_zero, List.getElem_cons_succ]
    refine wpAnyH_take (i := 2) rfl (by kernel_rfl) (by kernel_rfl) (by kernel_rfl) (fun _ _ _ h => h) (yieldsIf_load_row (by rfl) _ _ rfl (w3.heap.size) rfl _ (#[.int .i64 a2, .int .i64 b2]) _ (fun w h => h.n3) Try.underlying27 rfl infoSpn) (by assumption) ?_
    simp only [Act.put, List.setIfInBounds_toArray, List.set_cons_zero, List.set_cons_succ, List.getElem_toArray, List.getElem_cons_zero, List.getElem_cons_succ]
    refine wpAnyH_take (i := 3) (v := ?_) rfl (by kernel_rfl) (by kernel_rfl) (by kernel_rfl) (fun _ _ _ h => h) (Or.inl ⟨by rfl, ?_⟩) (by assumption) ?_
    rotate_left
    · intro w hSw; go_simp; try with_reducible rfl
    simp only [Act.put, List.setIfInBounds_toArray, List.set_cons_zero, List.set_cons_succ, List.getElem_toArray, List.getElem_cons_zero, List.getElem_cons_succ]
    refine wpAnyH_take (i := 4) (v := ?_) rfl (by kernel_rfl) (by kernel_rfl) (by kernel_rfl) (fun _ _ _ h => h) (Or.inl ⟨by rfl, ?_⟩) (by assumption) ?_
    rotate_left
    · intro w hSw; go_simp; try with_reducible rfl
    simp only [Act.put, List.setIfInBounds_toArray, List.set_cons_zero, List.set_cons_succ, List.getElem_toArray, List.getElem_cons_zero, List.getElem_cons_succ]
    refine wpAnyH_take (i := 5) (v := ?_) rfl (by kernel_rfl) (by kernel_rfl) (by kernel_rfl) (fun _ _ _ h => h) (Or.inl ⟨by rfl, ?_⟩) (by assumption) ?_
    rotate_left
    · intro w hSw; go_simp; try with_reducible rfl
    simp only [Act.put, List.setIfInBounds_toArray, List.set_cons_zero, List.set_cons_succ, List.getElem_toArray, List.getElem_cons_zero, List.getElem_cons_succ]
    refine wpAnyH_take (i := 6) (v := ?_) rfl (by kernel_rfl) (by kernel_rfl) (by kernel_rfl) (fun _ _ _ h => h) (Or.inl ⟨by rfl, ?_⟩) (by assumption) ?_
    rotate_left
    · intro w hSw; go_simp; try with_reducible rfl
    simp only [Act.put, List.setIfInBounds_toArray, List.set_cons_zero, List.set_cons_succ, List.getElem_toArray, List.getElem_cons_zero, List.getElem_cons_succ]
    refine wpAnyH_take (i := 7) (v := ?_) rfl (by kernel_rfl) (by kernel_rfl) (by kernel_rfl) (fun _ _ _ h => h) (Or.inl ⟨by rfl, ?_⟩) (by assumption) ?_
    rotate_left
    · intro w hSw; go_simp; try with_reducible rfl
    simp only [Act.put, List.setIfInBounds_toArray, List.set_cons_zero, List.set_cons_succ, List.getElem_toArray, List.getElem_cons_zero, List.getElem_cons_succ]
    refine wpAnyH_take (i := 8) (v := ?_) rfl (by kernel_rfl) (by kernel_rfl) (by kernel_rfl) (fun _ _ _ h => h) (Or.inl ⟨by rfl, ?_⟩) (by assumption) ?_
    rotate_left
    · intro w hSw; go_simp; try with_reducible rfl
    simp only [Act.put, List.setIfInBounds_toArray, List.set_cons_zero, List.set_cons_succ, List.getElem_toArray, List.getElem_cons_zero, List.getElem_cons_succ]
    obtain ⟨cs, hcs, hsz⟩ := hHeld.C.z
    refine held_step (i := 9) rfl (by kernel_rfl) (by rfl) (fun K hK => ?_)
    refine wp_store_row _ _ _ rfl (w.heap.size + 2) (sA q (.slice p1 q.L.length c1)) rfl rfl _ (cs) (hcs) infoS (hsz) (oneS _ _ _ _) ?_
    refine hK.out _ _ (hHeld.setZ) (fun hHeld => ?_)
    clear hK K
    try simp only [Act.put, List.setIfInBounds_toArray, List.set_cons_zero, List.set_cons_succ, List.getElem_toArray, List.getElem_cons_zero, List.getElem_cons_succ]
    refine wpAnyH_take (i := 10) (v := ?_) rfl (by kernel_rfl) (by kernel_rfl) (by kernel_rfl) (fun _ _ _ h => h) (Or.inl ⟨by rfl, ?_⟩) (by assumption) ?_
    rotate_left
    · intro w hSw; go_simp; try with_reducible rfl
    simp only [Act.put, List.setIfInBounds_toArray, List.set_cons_zero, List.set_cons_succ, List.getElem_toArray, List.getElem_cons_zero, List.getElem_cons_succ]
    refine wpAnyH_done (by kernel_rfl) ?_ _
    go_wp2_with fail
    exact bodyPost_ret (results_ct rfl _ _ _ _ _ _ _ rfl (hcs.setRow _) Try.underlying31 rfl infoS) rfl ⟨_, rfl, HE.out _⟩
  · rw [decide_eq_false hab] at heqs
    clear hab
    go_wp2_with fail
    refine wp_region_held_drew (S := fun W => DE w W w1.heap.size w3.heap.size q (.slice p1 q.L.length c1) #[.int .i64 2, .int .i64 o, .int .i64 a, .int .i64 z, .int .i64 f, .int .i64 l] a' b' a2 b2) (by kernel_rfl) H5.out.drew (fun hHeld => ?_)
    refine wpAnyH_take (i := 0) rfl (by kernel_rfl) (by kernel_rfl) (by kernel_rfl) (fun _ _ _ h => h) (yieldsIf_load_row (by rfl) _ _ rfl (w1.heap.size) rfl _ (sA q (.slice p1 q.L.length c1)) _ (fun w h => h.C.n) Try.underlying31 rfl infoS) (by assumption) ?_
    simp only [Act.put, List.setIfInBounds_toArray, List.set_cons_zero, List.set_cons_succ, List.getElem_toArray, List.getElem_cons_zero, List.getElem_cons_succ]
    refine wpAnyH_take (i := 1) rfl (by kernel_rfl) (by kernel_rfl) (by kernel_rfl) (fun _ _ _ h => h) (yieldsIf_load_row (by rfl) _ _ rfl (w1.heap.size + 1) rfl _ (#[.int .i64 a', .int .i64 b']) _ (fun w h => h.n2) Try.underlying27 rfl infoSpn) (by assumption) ?_
    simp only [Act.put, List.setIfInBounds_toArray, List.set_cons_zero, List.set_cons_succ, List.getElem_toArray, List.getElem_cons_zero, List.getElem_cons_succ]
    refine wpAnyH_take (i := 2) rfl (by kernel_rfl) (by kernel_rfl) (by kernel_rfl) (fun _ _ _ h => h) (yieldsIf_load_row (by rfl) _ _ rfl (w3.heap.size) rfl _ (#[.int .i64 a2, .int .i64 b2]) _ (fun w h => h.n3) Try.underlying27 rfl infoSpn) (by assumption) ?_
    simp only [Act.put, List.setIfInBounds_toArray, List.set_cons_zero, List.set_cons_succ, List.getElem_toArray, List.getElem_cons_zero, List.getElem_cons_succ]
    refine wpAnyH_take (i := 3) (v := ?_) rfl (by kernel_rfl) (by kernel_rfl) (by kernel_rfl) (fun _ _ _ h => h) (Or.inl ⟨by rfl, ?_⟩) (by assumption) ?_
    rotate_left
    · intro w hSw; go_simp; try with_reducible rfl
    simp only [Act.put, List.setIfInBounds_toArray, List.set_cons_zero, List.set_cons_succ, List.getElem_toArray, List.getElem_cons_zero, List.getElem_cons_succ]
    refine wpAnyH_take (i := 4) (v := ?_) rfl (by kernel_rfl) (by kernel_rfl) (by kernel_rfl) (fun _ _ _ h => h) (Or.inl ⟨by rfl, ?_⟩) (by assumption) ?_
    rotate_left
    · intro w hSw; go_simp; try with_reducible rfl
    simp only [Act.put, List.setIfInBounds_toArray, List.set_cons_zero, List.set_cons_succ, List.getElem_toArray, List.getElem_cons_zero, List.getElem_cons_succ]
    refine wpAnyH_take (i := 5) rfl (by kernel_rfl) (by kernel_rfl) (by kernel_rfl) (fun _ _ _ h => h) (yieldsIf_off (by rfl)) (by assumption) ?_
    simp only [Act.put, List.setIfInBounds_toArray, List.set_cons_zero, List.set_cons_succ, List.getElem_toArray, List.getElem_cons_zero, List.getElem_cons_succ]
    refine wpAnyH_take (i := 6) rfl (by kernel_rfl) (by kernel_rfl) (by kernel_rfl) (fun _ _ _ h => h) (yieldsIf_off (by rfl)) (by assumption) ?_
    simp only [Act.put, List.setIfInBounds_toArray, List.set_cons_zero, List.set_cons_succ, List.getElem_toArray, List.getElem_cons_zero, List.getElem_cons_succ]
    refine wpAnyH_take (i := 7) rfl (by kernel_rfl) (by kernel_rfl) (by kernel_rfl) (fun _ _ _ h => h) (yieldsIf_off (by rfl)) (by assumption) ?_
    simp only [Act.put, List.setIfInBounds_toArray, List.set_cons_zero, List.set_cons_succ, List.getElem_toArray, List.getElem_cons_zero, List.getElem_cons_succ]
    refine wpAnyH_take (i := 8) (v := ?_) rfl (by kernel_rfl) (by kernel_rfl) (by kernel_rfl) (fun _ _ _ h => h) (Or.inl ⟨by rfl, ?_⟩) (by assumption) ?_
    rotate_left
    · intro w hSw; go_simp; try with_reducible rfl
    simp only [Act.put, List.setIfInBounds_toArray, List.set_cons_zero, List.set_cons_succ, List.getElem_toArray, List.getElem_cons_zero, List.getElem_cons_succ]
    obtain ⟨cs, hcs, hsz⟩ := hHeld.C.z
    refine held_step (i := 9) rfl (by kernel_rfl) (by rfl) (fun K hK => ?_)
    refine wp_store_row _ _ _ rfl (w.heap.size + 2) (sA q (.slice p1 q.L.length c1)) rfl rfl _ (cs) (hcs) infoS (hsz) (oneS _ _ _ _) ?_
    refine hK.out _ _ (hHeld.setZ) (fun hHeld => ?_)
    clear hK K
    try simp only [Act.put, List.setIfInBounds_toArray, List.set_cons_zero, List.set_cons_succ, List.getElem_toArray, List.getElem_cons_zero, List.getElem_cons_succ]
    refine wpAnyH_take (i := 10) (v := ?_) rfl (by kernel_rfl) (by kernel_rfl) (by kernel_rfl) (fun _ _ _ h => h) (Or.inl ⟨by rfl, ?_⟩) (by assumption) ?_
    rotate_left
    · intro w hSw; go_simp; try with_reducible rfl
    simp only [Act.put, List.setIfInBounds_toArray, List.set_cons_zero, List.set_cons_succ, List.getElem_toArray, List.getElem_cons_zero, List.getElem_cons_succ]
    refine wpAnyH_done (by kernel_rfl) ?_ _
    go_wp2_with fail
    exact bodyPost_ret (results_ct rfl _ _ _ _ _ _ _ rfl (hcs.setRow _) Try.underlying31 rfl infoS) rfl ⟨_, rfl, HE.out _⟩
set_option maxRecDepth 100000 in
set_option maxHeartbeats 8000000 in
theorem law_eo5 (g : Nat) (r : Option Nat) (m : Sp.Spc) (kd o a z f l : Int) (hk : kd ≠ 0 ∧ kd ≠ 1 ∧ kd ≠ 2 ∧ kd ≠ 3 ∧ kd ≠ 4) (w : World) (h : SpcR w g r m) :
    Calls Try.prog 9 #[.pointer (some ⟨g, 0, none⟩), .agg (sA Sp.spc0 (.slice none 0 0)), .agg #[.int .i64 kd, .int .i64 o, .int .i64 a, .int .i64 z, .int .i64 f, .int .i64 l]] w (RetEo g r m w) := by
  have HS := Lib.hid h
  have hz := Blk.new ((w.alloc (.cells (sA Sp.spc0 (.slice none 0 0)) 31)).alloc (.cells (stpA kd o a z f l) 35)) 31 (sA Sp.spc0 (.slice none 0 0))
  simp only [World.size_alloc] at hz
  have HZ := Lib.hid hz
  have HB := Lib.hid (below_setRow (W0.below w Sp.spc0 (.slice none 0 0) (stpA kd o a z f l)) (show w.heap.size ≤ w.heap.size + 2 by omega) (sA Sp.spc0 (.slice none 0 0)))
  have k0 : ((kd : Int) == 0) = false := by rw [beq_eq_false_iff_ne]; exact hk.1
  have k1 : ((kd : Int) == 1) = false := by rw [beq_eq_false_iff_ne]; exact hk.2.1
  have k2 : ((kd : Int) == 2) = false := by rw [beq_eq_false_iff_ne]; exact hk.2.2.1
  have k3 : ((kd : Int) == 3) = false := by rw [beq_eq_false_iff_ne]; exact hk.2.2.2.1
  have k4 : ((kd : Int) == 4) = false := by rw [beq_eq_false_iff_ne]; exact hk.2.2.2.2
  simp only [sA, stpA, W0, Sp.spc0] at HB HZ ⊢
  clear h hk hz
  go_enter Try.func9, Try.ntmps9
  go_wp2_with (refine wpList_store_row rfl _ _ _ rfl (w.heap.size + 2) (sA Sp.spc0 (.slice none 0 0)) rfl rfl _ _ HZ.out infoS rfl (oneS _ _ _ _) ?_)
  exact bodyPost_ret (results_ct rfl _ _ _ _ _ _ _ rfl (HZ.out.setRow _) Try.underlying31 rfl infoS) rfl ⟨_, rfl, Left.same HS.out HB.out⟩
theorem law_eo (g : Nat) (r : Option Nat) (m : Sp.Spc) (hm : Sp.WF m) (hl : m.L.length ≤ 1000) (x : Sp.Stp) (hz1 : -9223372036854775808 ≤ x.size) (hz2 : x.size ≤ 9223372036854775807) (w : World) (h : SpcR w g r m) :
    Calls Try.prog 9 #[.pointer (some ⟨g, 0, none⟩), .agg (sA Sp.spc0 (.slice none 0 0)), .agg #[.int .i64 x.kind, .int .i64 x.owner, .int .i64 x.area, .int .i64 x.size, .int .i64 x.sp.1, .int .i64 x.sp.2]] w (RetEo g r (Sp.stepR m x) w) := by
  obtain ⟨kd, o, a, z, ⟨f, l⟩⟩ := x
  by_cases h0 : kd = 0
  · subst h0; exact law_eo0 g r m hm hl o a z f l w h
  by_cases h1 : kd = 1
  · subst h1; exact law_eo1 g r m hm hl o a z f l w h
  by_cases h2 : kd = 2
  · subst h2; exact law_eo2 g r m hm hl o a z f l hz1 hz2 w h
  by_cases h3 : kd = 3
  · subst h3; exact law_eo3 g r m hm hl o a z f l w h
  by_cases h4 : kd = 4
  · subst h4; exact law_eo4 g r m hm hl o a z f l w h
  have e : Sp.stepR m ⟨kd, o, a, z, (f, l)⟩ = m := by simp [Sp.stepR, h0, h1, h2, h3, h4]
  rw [e]
  exact law_eo5 g r m kd o a z f l ⟨h0, h1, h2, h3, h4⟩ w h
end Go.Proofs.Ytbeombmblifohaa
