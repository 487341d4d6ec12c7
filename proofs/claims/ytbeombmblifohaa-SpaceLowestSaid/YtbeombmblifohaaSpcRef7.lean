/- The document's spaces: Draw. -/
import Derived.Test.YtbeombmblifohaaSpcRef6
import Derived.Test.YtbeombmblifohaaHeldS
namespace Go.Proofs.Ytbeombmblifohaa
set_option linter.unusedVariables false
set_option linter.unusedSimpArgs false
open Go.RowKit Go.Shelf Go.Proofs

/-- the document's space comes back, a span, and an int -/
def RetSSE (v0 : Value) (q : Sp.Spc × Sp.S × Int) (w : World) (e : Ending) (w' : World) : Prop := ∃ vL, e = .returned (.tuple #[.agg (sA q.1 vL), .agg #[.int .i64 q.2.1.1, .int .i64 q.2.1.2], .int .i64 q.2.2]) ∧ SlR w' 4 encBk vL q.1.L ∧ NewV w v0 vL ∧ Below w.heap.size w w'
theorem one2 (x y : Int) : (#[.int .i64 x, .int .i64 y] : Array Value).all (·.oneCell') = true := by simp [Value.oneCell']
theorem infoSpn : (Try.prog.info? 27).map (·.size) = some 2 := by kernel_rfl
theorem results_cct {P : Program} {fn : Func} {p p2 q : Tmp} {ty ty2 : TypeId} (h : fn.results = #[.cell p ty, .cell p2 ty2, .tmp q]) (tmps : Array Value) (w : World) (g g2 : Nat) (t t2 : TypeId) (cs cs2 : Array Value) (fr fr2 : Nat × Nat) (d d2 : TypeDesc)
    (hp : tmps.getD p undef = .pointer (some ⟨g, 0, none⟩)) (hg : w.heap[g]? = some (.cells cs t fr)) (hp2 : tmps.getD p2 undef = .pointer (some ⟨g2, 0, none⟩)) (hg2 : w.heap[g2]? = some (.cells cs2 t2 fr2))
    (hu : P.underlying ty = some d) (hd : (match d with | .struct _ | .array _ _ => true | _ => false) = true) (hi : (P.info? ty).map (·.size) = some cs.size)
    (hu2 : P.underlying ty2 = some d2) (hd2 : (match d2 with | .struct _ | .array _ _ => true | _ => false) = true) (hi2 : (P.info? ty2).map (·.size) = some cs2.size) :
    (results fn tmps).run P w = .ok (.tuple #[.agg cs, .agg cs2, tmps.getD q undef]) w := by
  have hp' : tmps[p]?.getD undef = .pointer (some ⟨g, 0, none⟩) := by simpa using hp
  have hp2' : tmps[p2]?.getD undef = .pointer (some ⟨g2, 0, none⟩) := by simpa using hp2
  simp [results, h, hp', hp2', asAddr, run_loadVar_row w g t ty cs fr d hg hu hd hi, run_loadVar_row w g2 t2 ty2 cs2 fr2 d2 hg2 hu2 hd2 hi2]
/-- Draw's boxes -/
structure QD (w W : World) (m : Sp.Spc) (vL : Value) : Prop where
  U : QU w W w.heap.size m vL
  bz : Blk W (w.heap.size + 1) 31 (sA Sp.spc0 (.slice none 0 0))
  bx : Blk W (w.heap.size + 2) 27 #[.int .i64 0, .int .i64 0]
section
variable {w W W' : World} {m q : Sp.Spc} {vL v4 : Value}
theorem QD.next (h : QD w W m vL) (hb : Below W.heap.size W W') : QD w W' m vL := ⟨h.U.next hb, h.bz.below hb h.bz.lt, h.bx.below hb h.bx.lt⟩
theorem QD.drew (h : QD w W m vL) : QD w W.drew m vL := h.next (Below.refl _ _).drew
theorem QD.first (h : SlR w 4 encBk vL m.L) : QD w (((w.alloc (.cells (sA m vL) 31)).alloc (.cells (sA Sp.spc0 (.slice none 0 0)) 31)).alloc (.cells #[.int .i64 0, .int .i64 0] 27)) m vL := by
  have h1 := Blk.new (w.alloc (.cells (sA m vL) 31)) 31 (sA Sp.spc0 (.slice none 0 0))
  have h2 := Blk.new ((w.alloc (.cells (sA m vL) 31)).alloc (.cells (sA Sp.spc0 (.slice none 0 0)) 31)) 27 #[.int .i64 0, .int .i64 0]
  simp only [World.size_alloc] at h1 h2
  exact ⟨((QU.first w m vL h).next (belowA _ _)).next (belowA _ _), h1.alloc _, h2⟩
/-- the end: both results' blocks are written -/
theorem QD.set (h : QD w W m vL) (m' : Sp.Spc) (v' : Value) (x y : Int) :
    Below w.heap.size w ((W.setRow (w.heap.size + 1) (sA m' v')).setRow (w.heap.size + 2) #[.int .i64 x, .int .i64 y]) ∧ Blk ((W.setRow (w.heap.size + 1) (sA m' v')).setRow (w.heap.size + 2) #[.int .i64 x, .int .i64 y]) (w.heap.size + 1) 31 (sA m' v') ∧
    Blk ((W.setRow (w.heap.size + 1) (sA m' v')).setRow (w.heap.size + 2) #[.int .i64 x, .int .i64 y]) (w.heap.size + 2) 27 #[.int .i64 x, .int .i64 y] ∧ Blk (W.setRow (w.heap.size + 1) (sA m' v')) (w.heap.size + 2) 27 #[.int .i64 0, .int .i64 0] :=
  have h1 := h.bx.otherRow (w.heap.size + 1) (sA m' v') (by omega)
  ⟨below_setRow (below_setRow h.U.bel (by omega) _) (by omega) _, (h.bz.setRow _).otherRow _ _ (by omega), h1.setRow _, h1⟩
end
/-- and the span that was found -/
structure QE (w W : World) (m : Sp.Spc) (vL : Value) (s : Nat) (a b : Int) : Prop where
  D : QD w W m vL
  bs : Blk W s 27 #[.int .i64 a, .int .i64 b]
theorem QE.next {w W W' : World} {m : Sp.Spc} {vL : Value} {s : Nat} {a b : Int} (h : QE w W m vL s a b) (hb : Below W.heap.size W W') : QE w W' m vL s a b := ⟨h.D.next hb, h.bs.below hb h.bs.lt⟩
theorem QE.drew {w W : World} {m : Sp.Spc} {vL : Value} {s : Nat} {a b : Int} (h : QE w W m vL s a b) : QE w W.drew m vL s a b := h.next (Below.refl _ _).drew
/-- the region that stores both results -/
structure QF (w W : World) (m : Sp.Spc) (vL : Value) (s : Nat) (a b : Int) : Prop where
  rd0 : SlR w 4 encBk vL m.L
  U : QU w W w.heap.size m vL
  bs : Blk W s 27 #[.int .i64 a, .int .i64 b]
  hs : w.heap.size + 2 < s
  ez : ∃ cs, Blk W (w.heap.size + 1) 31 cs ∧ cs.size = 7
  ex : ∃ cs, Blk W (w.heap.size + 2) 27 cs ∧ cs.size = 2
section
variable {w W W' : World} {m : Sp.Spc} {vL : Value} {s : Nat} {a b : Int}
theorem QF.next (h : QF w W m vL s a b) (hb : Below W.heap.size W W') : QF w W' m vL s a b := by
  obtain ⟨cs, h1, h2⟩ := h.ez
  obtain ⟨ds, h3, h4⟩ := h.ex
  exact ⟨h.rd0, h.U.next hb, h.bs.below hb h.bs.lt, h.hs, ⟨cs, h1.below hb h1.lt, h2⟩, ⟨ds, h3.below hb h3.lt, h4⟩⟩
theorem QF.drew (h : QF w W m vL s a b) : QF w W.drew m vL s a b := h.next (Below.refl _ _).drew
theorem QF.row (h : QF w W m vL s a b) {z : Nat} {ds : Array Value} (hz : w.heap.size < z) : QU w (W.setRow z ds) w.heap.size m vL := by
  have hd := below_setRow h.U.bel (Nat.le_of_lt hz) ds
  exact ⟨h.rd0.below hd (Nat.le_refl _), h.U.bx.otherRow _ _ (by omega), hd⟩
theorem QF.setZ (h : QF w W m vL s a b) (q : Sp.Spc) (v : Value) : QF w (W.setRow (w.heap.size + 1) (sA q v)) m vL s a b := by
  obtain ⟨cs, h1, h2⟩ := h.ez
  obtain ⟨ds, h3, h4⟩ := h.ex
  have := h.hs
  exact ⟨h.rd0, h.row (by omega), h.bs.otherRow _ _ (by omega), h.hs, ⟨_, h1.setRow _, rfl⟩, ⟨ds, h3.otherRow _ _ (by omega), h4⟩⟩
theorem QF.setX (h : QF w W m vL s a b) (x y : Int) : QF w (W.setRow (w.heap.size + 2) #[.int .i64 x, .int .i64 y]) m vL s a b := by
  obtain ⟨cs, h1, h2⟩ := h.ez
  obtain ⟨ds, h3, h4⟩ := h.ex
  have := h.hs
  exact ⟨h.rd0, h.row (by omega), h.bs.otherRow _ _ (by omega), h.hs, ⟨cs, h1.otherRow _ _ (by omega), h2⟩, ⟨_, h3.setRow _, rfl⟩⟩
theorem QF.fin {w5 : World} {q : Sp.Spc} {v : Value} (h : QF w w5 m vL s a b) (h5 : SlR w5 4 encBk v q.L) (hn : NewV W vL v) (hW : w.heap.size + 2 < W.heap.size) :
    SlR ((w5.setRow (w.heap.size + 1) (sA q v)).setRow (w.heap.size + 2) #[.int .i64 a, .int .i64 b]) 4 encBk v q.L ∧ NewV w vL v ∧ Below w.heap.size w ((w5.setRow (w.heap.size + 1) (sA q v)).setRow (w.heap.size + 2) #[.int .i64 a, .int .i64 b]) ∧
    Blk ((w5.setRow (w.heap.size + 1) (sA q v)).setRow (w.heap.size + 2) #[.int .i64 a, .int .i64 b]) (w.heap.size + 1) 31 (sA q v) ∧ Blk ((w5.setRow (w.heap.size + 1) (sA q v)).setRow (w.heap.size + 2) #[.int .i64 a, .int .i64 b]) (w.heap.size + 2) 27 #[.int .i64 a, .int .i64 b] := by
  obtain ⟨cs, h1, h2⟩ := h.ez
  obtain ⟨ds, h3, h4⟩ := h.ex
  have hd : ∀ b', v.ownBlock = some b' → b' < w.heap.size ∨ w.heap.size + 2 < b' := fun b' hb' => by
    rcases hn b' hb' with e | e
    · exact Or.inl (h.rd0.own_lt b' e)
    · exact Or.inr (by omega)
  have s1 := (Frm.setRow (w.heap.size + 1) none w5 (sA q v)).slr h5 (fun b' hb' => ⟨by have := hd b' hb'; omega, by simp⟩)
  refine ⟨(Frm.setRow (w.heap.size + 2) none _ _).slr s1 (fun b' hb' => ⟨by have := hd b' hb'; omega, by simp⟩), fun b' hb' => ?_, below_setRow (below_setRow h.U.bel (by omega) _) (by omega) _, (h1.setRow _).otherRow _ _ (by omega), (h3.otherRow _ _ (by omega)).setRow _⟩
  rcases hn b' hb' with e | e
  · exact Or.inl e
  · exact Or.inr (by omega)
end
set_option maxRecDepth 100000 in
set_option maxHeartbeats 8000000 in
theorem r12_Draw (m : Sp.Spc) (hm : Sp.WF m) (hl : m.L.length ≤ 1000000) (vL : Value) (o k z : Int) (hz1 : -9223372036854775808 ≤ z) (hz2 : z ≤ 9223372036854775807) (w : World) (hv : SlR w 4 encBk vL m.L) :
    Calls Try.prog 30 #[.agg (sA m vL), .int .i64 o, .int .i64 k, .int .i64 z] w (RetSSE vL (Sp.drawR m o k z) w) := by
  have HV := Lib.hid hv
  have H0 := Lib.hid (QD.first hv)
  have LF := Lib.hid fun (W : World) (h : QD w W m vL) => r12_Left m hm hl k vL W h.U.rd
  have hll := Sp.left_len hm k
  have FI := Lib.hid fun (v : Value) (W : World) (h : SlR W 2 encSp v (Sp.leftR m k)) => ref_First (Sp.leftR m k) z v W hz1 hz2 (by omega) h
  have PT := Lib.hid fun (a b : Int) (W : World) (h : QU w W w.heap.size m vL) => r12_put m a b o k hl vL W h.rd
  have hat := hm.at_ k
  obtain ⟨p, cap, rfl, hc1, hc2, hR⟩ := hv
  clear hR
  obtain ⟨⟨x1, y1⟩, ⟨x2, y2⟩, L⟩ := m
  simp only at hl hc1 HV
  simp only [sA, Sp.spc0] at H0 LF PT ⊢
  obtain ⟨b0, b1, b2, b3, b4, b5, b6⟩ := H0.out.U.cs
  by_cases hbad : o < 1 ∨ k < 0 ∨ 2 < k ∨ z < 1
  · have hr : Sp.drawR ⟨(x1, y1), (x2, y2), L⟩ o k z = (⟨(x1, y1), (x2, y2), L⟩, (0, 0), 1) := by unfold Sp.drawR; rw [if_pos hbad]
    rw [hr]
    have HS := Lib.hid (H0.out.set ⟨(x1, y1), (x2, y2), L⟩ (.slice p L.length cap) 0 0)
    have hb4 : o < 1 ∨ (¬ o < 1 ∧ k < 0) ∨ (¬ o < 1 ∧ ¬ k < 0 ∧ 2 < k) ∨ (¬ o < 1 ∧ ¬ k < 0 ∧ ¬ 2 < k ∧ z < 1) := by omega
    clear hr hbad LF FI PT hat
    rcases hb4 with h1 | ⟨h1, h2⟩ | ⟨h1, h2, h3⟩ | ⟨h1, h2, h3, h4⟩
    all_goals
      go_enter Try.func30, Try.ntmps30
      go_wp2_with (first
        | (refine wpList_store_row rfl _ _ _ rfl (w.heap.size + 1) (sA ⟨(x1, y1), (x2, y2), L⟩ (.slice p L.length cap)) rfl rfl _ _ H0.out.bz infoS rfl (oneS _ _ _ _) ?_)
        | (refine wpList_store_row rfl _ _ _ rfl (w.heap.size + 2) #[.int .i64 0, .int .i64 0] rfl rfl _ _ HS.out.2.2.2 infoSpn rfl (one2 _ _) ?_))
      exact bodyPost_ret (results_cct rfl _ _ _ _ _ _ _ _ _ _ _ _ rfl HS.out.2.1 rfl HS.out.2.2.1 Try.underlying31 rfl infoS Try.underlying27 rfl infoSpn) rfl ⟨_, rfl, HV.out.below HS.out.1 (Nat.le_refl _), NewV.refl _ _, HS.out.1⟩
  · have g1 : ¬ o < 1 := by omega
    have g2 : ¬ k < 0 := by omega
    have g3 : ¬ 2 < k := by omega
    have g4 : ¬ z < 1 := by omega
    by_cases hka : 0 < k ∧ (Sp.Spc.at ⟨(x1, y1), (x2, y2), L⟩ k).1 = 0
    · have hr : Sp.drawR ⟨(x1, y1), (x2, y2), L⟩ o k z = (⟨(x1, y1), (x2, y2), L⟩, (0, 0), 31) := by unfold Sp.drawR; rw [if_neg hbad, if_pos hka]
      rw [hr]
      have HS := Lib.hid (H0.out.set ⟨(x1, y1), (x2, y2), L⟩ (.slice p L.length cap) 0 0)
      have hk12 : k = 1 ∨ k = 2 := by omega
      clear hr hbad LF FI PT hat
      rcases hk12 with rfl | rfl
      all_goals
        first
          | (have e : x1 = 0 := hka.2; have hxb : ((x1 : Int) == 0) = true := by (rw [e]; rfl))
          | (have e : x2 = 0 := hka.2; have hxb : ((x2 : Int) == 0) = true := by (rw [e]; rfl))
        clear e hka
        go_enter Try.func30, Try.ntmps30
        go_wp2_with (first
          | (refine wpList_store_row rfl _ _ _ rfl (w.heap.size + 1) (sA ⟨(x1, y1), (x2, y2), L⟩ (.slice p L.length cap)) rfl rfl _ _ H0.out.bz infoS rfl (oneS _ _ _ _) ?_)
          | (refine wpList_store_row rfl _ _ _ rfl (w.heap.size + 2) #[.int .i64 0, .int .i64 0] rfl rfl _ _ HS.out.2.2.2 infoSpn rfl (one2 _ _) ?_))
        exact bodyPost_ret (results_cct rfl _ _ _ _ _ _ _ _ _ _ _ _ rfl HS.out.2.1 rfl HS.out.2.2.1 Try.underlying31 rfl infoS Try.underlying27 rfl infoSpn) rfl ⟨_, rfl, HV.out.below HS.out.1 (Nat.le_refl _), NewV.refl _ _, HS.out.1⟩
    · have hd : Sp.drawR ⟨(x1, y1), (x2, y2), L⟩ o k z = if (Sp.first (Sp.leftR ⟨(x1, y1), (x2, y2), L⟩ k) z).2 = true then (Sp.putR ⟨(x1, y1), (x2, y2), L⟩ ⟨(Sp.first (Sp.leftR ⟨(x1, y1), (x2, y2), L⟩ k) z).1, o, k⟩, (Sp.first (Sp.leftR ⟨(x1, y1), (x2, y2), L⟩ k) z).1, 0) else (⟨(x1, y1), (x2, y2), L⟩, (0, 0), 43) := by unfold Sp.drawR; rw [if_neg hbad, if_neg hka]
      rw [hd]
      clear hd hbad hat
      have hk3 : k = 0 ∨ (k = 1 ∧ x1 ≠ 0) ∨ (k = 2 ∧ x2 ≠ 0) := by
        have h3 : k = 0 ∨ k = 1 ∨ k = 2 := by omega
        rcases h3 with rfl | rfl | rfl
        · exact Or.inl rfl
        · exact Or.inr (Or.inl ⟨rfl, fun e => hka ⟨by omega, e⟩⟩)
        · exact Or.inr (Or.inr ⟨rfl, fun e => hka ⟨by omega, e⟩⟩)
      clear hka g2 g3
      have LF' := Lib.hid fun (W : World) (h : QD w W ⟨(x1, y1), (x2, y2), L⟩ (.slice p L.length cap)) => LF.out W h
      generalize Sp.leftR ⟨(x1, y1), (x2, y2), L⟩ k = lf at LF LF' FI hll ⊢
      clear LF
      obtain ⟨a, b, is, hf⟩ : ∃ a b is, Sp.first lf z = ((a, b), is) := ⟨_, _, _, rfl⟩
      rw [hf] at FI ⊢
      simp only
      clear hf hll
      cases is
      · rcases hk3 with rfl | ⟨rfl, hx⟩ | ⟨rfl, hx⟩
        all_goals
          first
            | (have hxb : ((x1 : Int) == 0) = false := by (rw [beq_eq_false_iff_ne]; exact hx))
            | (have hxb : ((x2 : Int) == 0) = false := by (rw [beq_eq_false_iff_ne]; exact hx))
            | skip
          try clear hx
          go_enter Try.func30, Try.ntmps30
          go_wp2_with fail
          refine (LF'.out _ H0.out).mono ?_
          rintro e w1 ⟨v1, rfl, hs1, hb1⟩
          have H1 := Lib.hid (H0.out.next hb1)
          go_wp2_with fail
          refine (FI.out _ _ hs1).mono ?_
          rintro e w2 ⟨rfl, hb2⟩
          have H2 := Lib.hid (H1.out.next hb2)
          have H3 := Lib.hid (H2.out.next (belowA _ (.cells #[.int .i64 a, .int .i64 b] 27)))
          clear b0 b1 b2 b3 b4 b5 b6 hb1 hb2 hs1
          have hzz := H2.out.U.bx.lt
          have n0 := fun o => (H2.out.U.next (belowA _ o)).cs.1
          have n1 := fun o => (H2.out.U.next (belowA _ o)).cs.2.1
          have n2 := fun o => (H2.out.U.next (belowA _ o)).cs.2.2.1
          have n3 := fun o => (H2.out.U.next (belowA _ o)).cs.2.2.2.1
          have n4 := fun o => (H2.out.U.next (belowA _ o)).cs.2.2.2.2.1
          have n5 := fun o => (H2.out.U.next (belowA _ o)).cs.2.2.2.2.2.1
          have n6 := fun o => (H2.out.U.next (belowA _ o)).cs.2.2.2.2.2.2
          have HS := Lib.hid (H3.out.set ⟨(x1, y1), (x2, y2), L⟩ (.slice p L.length cap) 0 0)
          go_wp2_with (first
            | (refine wpList_store_row rfl _ _ _ rfl (w.heap.size + 1) (sA ⟨(x1, y1), (x2, y2), L⟩ (.slice p L.length cap)) rfl rfl _ _ H3.out.bz infoS rfl (oneS _ _ _ _) ?_)
            | (refine wpList_store_row rfl _ _ _ rfl (w.heap.size + 2) #[.int .i64 0, .int .i64 0] rfl rfl _ _ HS.out.2.2.2 infoSpn rfl (one2 _ _) ?_))
          exact bodyPost_ret (results_cct rfl _ _ _ _ _ _ _ _ _ _ _ _ rfl HS.out.2.1 rfl HS.out.2.2.1 Try.underlying31 rfl infoS Try.underlying27 rfl infoSpn) rfl ⟨_, rfl, HV.out.below HS.out.1 (Nat.le_refl _), NewV.refl _ _, HS.out.1⟩
      · rcases hk3 with rfl | ⟨rfl, hx⟩ | ⟨rfl, hx⟩
        all_goals
          first
            | (have hxb : ((x1 : Int) == 0) = false := by (rw [beq_eq_false_iff_ne]; exact hx))
            | (have hxb : ((x2 : Int) == 0) = false := by (rw [beq_eq_false_iff_ne]; exact hx))
            | skip
          try clear hx
          go_enter Try.func30, Try.ntmps30
          go_wp2_with fail
          refine (LF'.out _ H0.out).mono ?_
          rintro e w1 ⟨v1, rfl, hs1, hb1⟩
          have H1 := Lib.hid (H0.out.next hb1)
          go_wp2_with fail
          refine (FI.out _ _ hs1).mono ?_
          rintro e w2 ⟨rfl, hb2⟩
          have H2 := Lib.hid (H1.out.next hb2)
          have H3 := Lib.hid (H2.out.next (belowA _ (.cells #[.int .i64 a, .int .i64 b] 27)))
          clear b0 b1 b2 b3 b4 b5 b6 hb1 hb2 hs1
          have hzz := H2.out.U.bx.lt
          have n0 := fun o => (H2.out.U.next (belowA _ o)).cs.1
          have n1 := fun o => (H2.out.U.next (belowA _ o)).cs.2.1
          have n2 := fun o => (H2.out.U.next (belowA _ o)).cs.2.2.1
          have n3 := fun o => (H2.out.U.next (belowA _ o)).cs.2.2.2.1
          have n4 := fun o => (H2.out.U.next (belowA _ o)).cs.2.2.2.2.1
          have n5 := fun o => (H2.out.U.next (belowA _ o)).cs.2.2.2.2.2.1
          have n6 := fun o => (H2.out.U.next (belowA _ o)).cs.2.2.2.2.2.2
          go_wp2_with fail
          have H4 : Hid (QF w (w2.alloc (.cells #[.int .i64 a, .int .i64 b] 27)) ⟨(x1, y1), (x2, y2), L⟩ (.slice p L.length cap) w2.heap.size a b) := Lib.hid ⟨HV.out, H3.out.U, Blk.new _ _ _, H2.out.bx.lt, ⟨_, H3.out.bz, rfl⟩, ⟨_, H3.out.bx, rfl⟩⟩
          have PTA := Lib.hid fun (W : World) (h : QF w W ⟨(x1, y1), (x2, y2), L⟩ (.slice p L.length cap) w2.heap.size a b) => PT.out a b W h.U
          clear n0 n1 n2 n3 n4 n5 n6 hzz
          refine wp_region_held_drew (S := fun W => QF w W ⟨(x1, y1), (x2, y2), L⟩ (.slice p L.length cap) w2.heap.size a b) (by kernel_rfl) H4.out.drew (fun hHeld => ?_)
          refine wpAnyH_take (i := 0) rfl (by kernel_rfl) (by kernel_rfl) (by kernel_rfl) (fun _ _ _ h => h) (yieldsIf_load_row (by rfl) _ _ rfl (w.heap.size) rfl _ (sA ⟨(x1, y1), (x2, y2), L⟩ (.slice p L.length cap)) _ (fun w h => h.U.bx) Try.underlying31 rfl infoS) (by assumption) ?_
          simp only [Act.put, List.setIfInBounds_toArray, List.set_cons_zero, List.set_cons_succ, List.getElem_toArray, List.getElem_cons_zero, List.getElem_cons_succ]
          refine wpAnyH_take (i := 1) rfl (by kernel_rfl) (by kernel_rfl) (by kernel_rfl) (fun _ _ _ h => h) (yieldsIf_load_row (by rfl) _ _ rfl (w2.heap.size) rfl _ (#[.int .i64 a, .int .i64 b]) _ (fun w h => h.bs) Try.underlying27 rfl infoSpn) (by assumption) ?_
          simp only [Act.put, List.setIfInBounds_toArray, List.set_cons_zero, List.set_cons_succ, List.getElem_toArray, List.getElem_cons_zero, List.getElem_cons_succ]
          refine wpAnyH_take (i := 2) (v := ?_) rfl (by kernel_rfl) (by kernel_rfl) (by kernel_rfl) (fun _ _ _ h => h) (Or.inl ⟨by rfl, ?_⟩) (by assumption) ?_
          rotate_left
          · intro w hSw; go_simp; try with_reducible rfl
          simp only [Act.put, List.setIfInBounds_toArray, List.set_cons_zero, List.set_cons_succ, List.getElem_toArray, List.getElem_cons_zero, List.getElem_cons_succ]
          refine wpAnyH_take (i := 3) (v := ?_) rfl (by kernel_rfl) (by kernel_rfl) (by kernel_rfl) (fun _ _ _ h => h) (Or.inl ⟨by rfl, ?_⟩) (by assumption) ?_
          rotate_left
          · intro w hSw; go_simp; try with_reducible rfl
          simp only [Act.put, List.setIfInBounds_toArray, List.set_cons_zero, List.set_cons_succ, List.getElem_toArray, List.getElem_cons_zero, List.getElem_cons_succ]
          refine wpAnyH_take (i := 4) (v := ?_) rfl (by kernel_rfl) (by kernel_rfl) (by kernel_rfl) (fun _ _ _ h => h) (Or.inl ⟨by rfl, ?_⟩) (by assumption) ?_
          rotate_left
          · intro w hSw; go_simp; try with_reducible rfl
          simp only [Act.put, List.setIfInBounds_toArray, List.set_cons_zero, List.set_cons_succ, List.getElem_toArray, List.getElem_cons_zero, List.getElem_cons_succ]
          refine wpAnyH_take (i := 6) rfl (by kernel_rfl) (by kernel_rfl) (by kernel_rfl) (fun _ _ _ h => h) (yieldsIf_load_row (by rfl) _ _ rfl (w2.heap.size) rfl _ (#[.int .i64 a, .int .i64 b]) _ (fun w h => h.bs) Try.underlying27 rfl infoSpn) (by assumption) ?_
          simp only [Act.put, List.setIfInBounds_toArray, List.set_cons_zero, List.set_cons_succ, List.getElem_toArray, List.getElem_cons_zero, List.getElem_cons_succ]
          refine held_step (i := 5) rfl (by kernel_rfl) (by rfl) (fun K hK => ?_)
          go_simp
          refine (PTA.out _ (by assumption)).mono ?_; rintro e w5 ⟨v5, rfl, h5, hn5, hb5⟩; have HQ5 := QF.next (w := w) (by assumption) hb5
          go_wp2_with fail
          refine hK.out _ _ (HQ5) (fun hHeld => ?_)
          clear hK K
          try simp only [Act.put, List.setIfInBounds_toArray, List.set_cons_zero, List.set_cons_succ, List.getElem_toArray, List.getElem_cons_zero, List.getElem_cons_succ]
          obtain ⟨p5, c5, rfl, -, -, -⟩ := id h5
          obtain ⟨cs7, hcs7, hsz7⟩ := HQ5.ez
          refine held_step (i := 7) rfl (by kernel_rfl) (by rfl) (fun K hK => ?_)
          refine wp_store_row _ _ _ rfl (w.heap.size + 1) _ rfl rfl _ (cs7) (hcs7) infoS (hsz7) (oneS _ _ _ _) ?_
          refine hK.out _ _ (HQ5.setZ _ _) (fun hHeld => ?_)
          clear hK K
          try simp only [Act.put, List.setIfInBounds_toArray, List.set_cons_zero, List.set_cons_succ, List.getElem_toArray, List.getElem_cons_zero, List.getElem_cons_succ]
          obtain ⟨cs8, hcs8, hsz8⟩ := hHeld.ex
          refine held_step (i := 8) rfl (by kernel_rfl) (by rfl) (fun K hK => ?_)
          refine wp_store_row _ _ _ rfl (w.heap.size + 2) (#[.int .i64 a, .int .i64 b]) rfl rfl _ (cs8) (hcs8) infoSpn (hsz8) (one2 _ _) ?_
          refine hK.out _ _ ((HQ5.setZ _ _).setX a b) (fun hHeld => ?_)
          clear hK K
          try simp only [Act.put, List.setIfInBounds_toArray, List.set_cons_zero, List.set_cons_succ, List.getElem_toArray, List.getElem_cons_zero, List.getElem_cons_succ]
          refine wpAnyH_take (i := 9) (v := ?_) rfl (by kernel_rfl) (by kernel_rfl) (by kernel_rfl) (fun _ _ _ h => h) (Or.inl ⟨by rfl, ?_⟩) (by assumption) ?_
          rotate_left
          · intro w hSw; go_simp; try with_reducible rfl
          simp only [Act.put, List.setIfInBounds_toArray, List.set_cons_zero, List.set_cons_succ, List.getElem_toArray, List.getElem_cons_zero, List.getElem_cons_succ]
          refine wpAnyH_done (by kernel_rfl) ?_ _
          go_wp2_with fail
          have HE := HQ5.fin h5 hn5 (by have := H2.out.bx.lt; simp; omega)
          exact bodyPost_ret (results_cct rfl _ _ _ _ _ _ _ _ _ _ _ _ rfl HE.2.2.2.1 rfl HE.2.2.2.2 Try.underlying31 rfl infoS Try.underlying27 rfl infoSpn) rfl ⟨_, rfl, HE.1, HE.2.1, HE.2.2.1⟩
end Go.Proofs.Ytbeombmblifohaa
