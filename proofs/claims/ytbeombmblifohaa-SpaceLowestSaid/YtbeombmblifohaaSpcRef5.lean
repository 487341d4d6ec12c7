/- The document's spaces: Take. -/
import Derived.Test.YtbeombmblifohaaSpcRef4
namespace Go.Proofs.Ytbeombmblifohaa
set_option linter.unusedVariables false
set_option linter.unusedSimpArgs false
open Go.RowKit Go.Shelf Go.Proofs

theorem SlR.own_lt {α : Type} {w : World} {n : Nat} {enc : α → List Value} {v : Value} {xs : List α} (h : SlR w n enc v xs) : ∀ b, v.ownBlock = some b → b < w.heap.size := by
  obtain ⟨p, cap, rfl, _, _, hR⟩ := h
  intro b hb
  cases p with
  | none => cases hb
  | some a =>
    have : a.block = b := Option.some.inj hb
    have := hR.lt
    omega
theorem QC.ret {w W W' : World} {m q : Sp.Spc} {vL v4 : Value} {a b : Int} (h : QC w W m vL a b) (hb : Below W.heap.size W W') (hv : SlR w 4 encBk vL m.L) (h4 : SlR W' 4 encBk v4 q.L) (hn : NewV W vL v4) :
    SlR (W'.setRow (w.heap.size + 2) (sA q v4)) 4 encBk v4 q.L ∧ NewV w vL v4 ∧ Below w.heap.size w (W'.setRow (w.heap.size + 2) (sA q v4)) ∧ Blk (W'.setRow (w.heap.size + 2) (sA q v4)) (w.heap.size + 2) 31 (sA q v4) := by
  have hlt := h.bz.lt
  have hn' := h.next hb
  refine ⟨(Frm.setRow (w.heap.size + 2) none _ _).slr h4 (fun b hb' => ⟨?_, by simp⟩), fun b hb' => ?_, (hn'.set q v4).1, (hn'.set q v4).2⟩
  · rcases hn b hb' with e | e
    · have := hv.own_lt b e; omega
    · omega
  · rcases hn b hb' with e | e
    · exact Or.inl e
    · exact Or.inr (by omega)
theorem inR_at {m : Sp.Spc} {s : Sp.S} {k : Nat} (hk : k < 3) (h0 : ∀ j : Nat, j < k → Sp.has (Sp.leftR m (j : Int)) s = false) (h : Sp.has (Sp.leftR m (k : Int)) s = true) : Sp.inR m s = k := by
  unfold Sp.inR
  have hk3 : k = 0 ∨ k = 1 ∨ k = 2 := by omega
  rcases hk3 with rfl | rfl | rfl
  · have h' : Sp.has (Sp.leftR m 0) s = true := h
    simp [h']
  · have h' : Sp.has (Sp.leftR m 1) s = true := h
    have a0 : Sp.has (Sp.leftR m 0) s = false := h0 0 (by omega)
    simp [h', a0]
  · have h' : Sp.has (Sp.leftR m 2) s = true := h
    have a0 : Sp.has (Sp.leftR m 0) s = false := h0 0 (by omega)
    have a1 : Sp.has (Sp.leftR m 1) s = false := h0 1 (by omega)
    simp [h', a0, a1]
theorem inR_none {m : Sp.Spc} {s : Sp.S} (h0 : ∀ j : Nat, j < 3 → Sp.has (Sp.leftR m (j : Int)) s = false) : Sp.inR m s = -1 := by
  have a0 : Sp.has (Sp.leftR m 0) s = false := h0 0 (by omega)
  have a1 : Sp.has (Sp.leftR m 1) s = false := h0 1 (by omega)
  have a2 : Sp.has (Sp.leftR m 2) s = false := h0 2 (by omega)
  unfold Sp.inR
  simp [a0, a1, a2]
set_option maxRecDepth 100000 in
set_option maxHeartbeats 8000000 in
theorem r12_Take (m : Sp.Spc) (hm : Sp.WF m) (hl : m.L.length ≤ 1000000) (vL : Value) (o a b : Int) (w : World) (hv : SlR w 4 encBk vL m.L) :
    Calls Try.prog 31 #[.agg (sA m vL), .int .i64 o, .agg #[.int .i64 a, .int .i64 b]] w (RetSE vL (Sp.takeR m o (a, b)) w) := by
  have HV := Lib.hid hv
  have H0 := Lib.hid (QC.first hv a b)
  have LF := Lib.hid fun (k : Int) (W : World) (h : QC w W m vL a b) => r12_Left m hm hl k vL W h.U.rd
  have PT := Lib.hid fun (k : Int) (W : World) (h : QC w W m vL a b) => r12_put m a b o k hl vL W h.U.rd
  have MY := Lib.hid fun W => r12_may a b W
  have HH := Lib.hid fun (k : Int) (v : Value) (W : World) (h : SlR W 2 encSp v (Sp.leftR m k)) => ref_Has (Sp.leftR m k) (a, b) v W (by have := Sp.left_len hm k; omega) h
  have HIN := Lib.hid fun (k : Nat) (hk : k < 3) h0 h => inR_at (m := m) (s := (a, b)) hk h0 h
  have HNO := Lib.hid fun h0 => inR_none (m := m) (s := (a, b)) h0
  have HT : Hid (Sp.takeR m o (a, b) = if o < 1 then (m, 1) else if Sp.owns (a, b) = false then (m, 40) else if Sp.inR m (a, b) < 0 then (m, 42) else (Sp.putR m ⟨(a, b), o, Sp.inR m (a, b)⟩, 0)) := Lib.hid rfl
  obtain ⟨p, cap, rfl, hc1, hc2, hR⟩ := hv
  clear hR
  obtain ⟨⟨x1, y1⟩, ⟨x2, y2⟩, L⟩ := m
  simp only at hl hc1 HV
  simp only [sA, Sp.spc0] at H0 LF PT ⊢
  generalize hq : Sp.takeR ⟨(x1, y1), (x2, y2), L⟩ o (a, b) = q at HT ⊢
  clear hq
  obtain ⟨b0, b1, b2, b3, b4, b5, b6, s0, s1⟩ := H0.out.sq
  by_cases ho : o < 1
  · have hr : q = (⟨(x1, y1), (x2, y2), L⟩, 1) := by rw [HT.out]; exact if_pos ho
    rw [hr]
    have HS := Lib.hid (H0.out.set ⟨(x1, y1), (x2, y2), L⟩ (.slice p L.length cap))
    clear hr LF MY HH PT
    go_enter Try.func31, Try.ntmps31
    go_wp2_with (refine wpList_store_row rfl _ _ _ rfl (w.heap.size + 2) (sA ⟨(x1, y1), (x2, y2), L⟩ (.slice p L.length cap)) rfl rfl _ _ H0.out.bz infoS rfl (oneS _ _ _ _) ?_)
    exact bodyPost_ret (results_ct rfl _ _ _ _ _ _ _ rfl HS.out.2 Try.underlying31 rfl infoS) rfl ⟨_, rfl, HV.out.below HS.out.1 (Nat.le_refl _), NewV.refl _ _, HS.out.1⟩
  · cases how : Sp.owns (a, b)
    · have hr : q = (⟨(x1, y1), (x2, y2), L⟩, 40) := by rw [HT.out, if_neg ho, if_pos how]
      rw [hr]
      rw [how] at MY
      clear hr LF HH PT how
      go_enter Try.func31, Try.ntmps31
      go_wp2_with fail
      refine (MY.out _).mono ?_
      rintro e w1 ⟨rfl, hb1⟩
      have H1 := Lib.hid (H0.out.next hb1)
      have HS := Lib.hid (H1.out.set ⟨(x1, y1), (x2, y2), L⟩ (.slice p L.length cap))
      clear b0 b1 b2 b3 b4 b5 b6 s0 s1 hb1 H0
      obtain ⟨b0, b1, b2, b3, b4, b5, b6, -, -⟩ := H1.out.sq
      go_wp2_with (refine wpList_store_row rfl _ _ _ rfl (w.heap.size + 2) (sA ⟨(x1, y1), (x2, y2), L⟩ (.slice p L.length cap)) rfl rfl _ _ H1.out.bz infoS rfl (oneS _ _ _ _) ?_)
      exact bodyPost_ret (results_ct rfl _ _ _ _ _ _ _ rfl HS.out.2 Try.underlying31 rfl infoS) rfl ⟨_, rfl, HV.out.below HS.out.1 (Nat.le_refl _), NewV.refl _ _, HS.out.1⟩
    · rw [how] at MY
      have HQ : Hid (q = if Sp.inR ⟨(x1, y1), (x2, y2), L⟩ (a, b) < 0 then (⟨(x1, y1), (x2, y2), L⟩, 42) else (Sp.putR ⟨(x1, y1), (x2, y2), L⟩ ⟨(a, b), o, Sp.inR ⟨(x1, y1), (x2, y2), L⟩ (a, b)⟩, 0)) := Lib.hid (by rw [HT.out, if_neg ho, if_neg (by rw [how]; simp)])
      clear HT how
      go_enter Try.func31, Try.ntmps31
      go_wp2_with fail
      refine (MY.out _).mono ?_
      rintro e w1 ⟨rfl, hb1⟩
      have H1 := Lib.hid (H0.out.next hb1)
      clear b0 b1 b2 b3 b4 b5 b6 s0 s1 hb1 H0
      go_wp2_with fail
      go_loopw [9] (fun vi wr => ∃ n : Nat, n ≤ 3 ∧ vi = .int .i64 n ∧ Hid (∀ j : Nat, j < n → Sp.has (Sp.leftR ⟨(x1, y1), (x2, y2), L⟩ (j : Int)) (a, b) = false) ∧ Hid (QC w wr ⟨(x1, y1), (x2, y2), L⟩ (.slice p L.length cap) a b)) (fun vi _ => 3 - (intOf vi).toNat)
      case atStart => exact ⟨0, Nat.zero_le _, rfl, Lib.hid (fun j h => by omega), H1⟩
      case round =>
        obtain ⟨n, hn, rfl, HF, HC⟩ := hrel
        by_cases hlt : n < 3
        · have hss := HC.out.sq2
          have LF' := Lib.hid fun (W : World) (h : QC w W ⟨(x1, y1), (x2, y2), L⟩ (.slice p L.length cap) a b) => LF.out n W h
          have HH' := Lib.hid (HH.out n)
          have HIN' := Lib.hid (HIN.out n hlt HF.out)
          have HF2 : Hid (Sp.has (Sp.leftR ⟨(x1, y1), (x2, y2), L⟩ (n : Int)) (a, b) = false → ∀ j : Nat, j < n + 1 → Sp.has (Sp.leftR ⟨(x1, y1), (x2, y2), L⟩ (j : Int)) (a, b) = false) := Lib.hid fun h j hj => by
            rcases Nat.lt_or_ge j n with h2 | h2
            · exact HF.out j h2
            · obtain rfl : j = n := by omega
              exact h
          generalize Sp.leftR ⟨(x1, y1), (x2, y2), L⟩ (n : Int) = lf at LF' HH' HIN' HF2
          cases hh : Sp.has lf (a, b)
          all_goals
            have hnI : (n : Int) < 3 := by omega
            rw [hh] at HH'
            have HHH := Lib.hid hh
            clear hh
            go_wp2_with fail
            go_region_held3 (fun W => SQ2 w x1 y1 x2 y2 L (.slice p L.length cap) a b W)
              (first
                | exact QC.sq2 (by assumption)
                | (go_split_ands; exact QC.sq2 (by assumption))
                | (go_split_ands; exact QC.sq2 (QC.drew (by assumption))))
              (first
                | (go_at_call 54; go_split_ands; refine (HH'.out _ _ (by first | exact hn2 | exact hn2.drew)).mono ?_; rintro e w3 ⟨rfl, hb3⟩; have hst3 := QC.next (w := w) (vL := .slice p L.length cap) (a := a) (b := b) (by assumption) hb3)
                | (go_at_call 35; go_split_ands; refine (LF'.out _ (by assumption)).mono ?_; rintro e w2 ⟨v2, rfl, hn2, hb2⟩; have hst2 := QC.next (w := w) (vL := .slice p L.length cap) (a := a) (b := b) (by assumption) hb2))
          · have HX := Lib.hid hst3
            have HF3 := Lib.hid (HF2.out HHH.out)
            clear hst2 hst3 hn2 hb2 hb3
            go_wp2_with fail
            exact ⟨⟨n + 1, by omega, by go_num, HF3, HX⟩, by simp [intOf]; omega⟩
          · have HX := Lib.hid hst3
            have hin := HIN'.out HHH.out
            have hr : q = (Sp.putR ⟨(x1, y1), (x2, y2), L⟩ ⟨(a, b), o, (n : Int)⟩, 0) := by rw [HQ.out, hin, if_neg (by omega)]
            clear HQ
            subst hr
            clear hst2 hst3 hn2 hb2 hb3 hin
            obtain ⟨b0, b1, b2, b3, b4, b5, b6, s0, s1⟩ := HX.out.sq
            go_wp2_with fail
            refine (PT.out n _ HX.out).mono ?_
            rintro e w4 ⟨v4, rfl, h4, hn4, hb4⟩
            have HE := Lib.hid (HX.out.ret hb4 HV.out h4 hn4)
            have HX4 := Lib.hid (HX.out.next hb4)
            obtain ⟨p4, c4, rfl, -, -, hR4⟩ := h4
            clear hn4 hb4 hR4
            go_wp2_with (refine wpList_store_row rfl _ _ _ rfl (w.heap.size + 2) (sA (Sp.putR ⟨(x1, y1), (x2, y2), L⟩ ⟨(a, b), o, (n : Int)⟩) (.slice p4 (Sp.putR ⟨(x1, y1), (x2, y2), L⟩ ⟨(a, b), o, (n : Int)⟩).L.length c4)) rfl rfl _ _ HX4.out.bz infoS rfl (oneS _ _ _ _) ?_)
            exact bodyPost_ret (results_ct rfl _ _ _ _ _ _ _ rfl HE.out.2.2.2 Try.underlying31 rfl infoS) rfl ⟨_, rfl, HE.out.1, HE.out.2.1, HE.out.2.2.1⟩
        · obtain rfl : n = 3 := by omega
          have hno := HNO.out HF.out
          have hr : q = (⟨(x1, y1), (x2, y2), L⟩, 42) := by rw [HQ.out, hno, if_pos (by omega)]
          clear HQ
          subst hr
          have HS := Lib.hid (HC.out.set ⟨(x1, y1), (x2, y2), L⟩ (.slice p L.length cap))
          clear hno
          obtain ⟨b0, b1, b2, b3, b4, b5, b6, s0, s1⟩ := HC.out.sq
          go_wp2_with (refine wpList_store_row rfl _ _ _ rfl (w.heap.size + 2) (sA ⟨(x1, y1), (x2, y2), L⟩ (.slice p L.length cap)) rfl rfl _ _ HC.out.bz infoS rfl (oneS _ _ _ _) ?_)
          exact bodyPost_ret (results_ct rfl _ _ _ _ _ _ _ rfl HS.out.2 Try.underlying31 rfl infoS) rfl ⟨_, rfl, HV.out.below HS.out.1 (Nat.le_refl _), NewV.refl _ _, HS.out.1⟩
end Go.Proofs.Ytbeombmblifohaa
