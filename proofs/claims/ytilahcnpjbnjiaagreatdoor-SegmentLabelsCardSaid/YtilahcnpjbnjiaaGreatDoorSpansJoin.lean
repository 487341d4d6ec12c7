/- spans.joined: a range over spans.right that appends to, and writes into, a row of its own. -/
import Derived.Test.YtilahcnpjbnjiaaGreatDoorSpansRight
namespace Go.Proofs.YtilahcnpjbnjiaaGreatDoor
set_option linter.unusedVariables false
set_option linter.unusedSimpArgs false
open Go.RowKit Go.Shelf Go.Proofs
attribute [local go_sem] Oper.semAt_some

theorem flat_set {m : List Sp.S} {q : Nat} (hq : q < m.length) (x : Int) : flat encSp (m.set q (m[q].1, x)) = (flat encSp m).set (q * 2 + 1) (.int .i64 x) := by
  induction m generalizing q with
  | nil => simp at hq
  | cons a r ih =>
    cases q with
    | zero => simp [flat, encSp]
    | succ q =>
      have hq' : q < r.length := by simpa using hq
      have := ih hq'
      simp only [flat, List.getElem_cons_succ, List.set_cons_succ, List.flatMap_cons] at this ⊢
      rw [this, List.set_append, if_neg (by simp [encSp]; omega)]
      simp only [encSp_len]
      congr 2
      omega

set_option maxRecDepth 100000 in
set_option maxHeartbeats 8000000 in
theorem joined_in (n : Nat) (hn : 12 ≤ n) (l : List Sp.S) (hl : l.length ≤ 1073741824) (v : Value) (w : World) (hv : SlR w 2 encSp v l) :
    CallsIn FW n Tryz.prog 93 #[v] w (RetRow w.heap.size 35 2 (Sp.norm l).length (flat encSp (Sp.norm l)) w) := by
  obtain ⟨p, cap, rfl, hc1, hc2, hR⟩ := hv
  have hfn : ∀ k, FW.fn k := fun _ => trivial
  have hn1 : 1 ≤ n := by omega
  refine callsIn_of_wp_marks Tryz.func93 rfl trivial ?_ rfl
  simp only [Tryz.ntmps93, List.size_toArray, List.length_cons, List.length_nil, Nat.reduceAdd, Nat.reduceSub, Array.replicate_succ, Array.replicate_zero, List.push_toArray, List.append_toArray, List.nil_append, List.cons_append]
  gi_wp2_with (gi_at_call 109; refine (right_in (n - 1) (by omega) _ _ rfl rfl).mono ?_; rintro e w1 ⟨rfl, rfl⟩)
  have bO := (Boxed.new w 36 (.slice none 0 0)).alloc (.cells #[.slice p l.length cap] 36)
  have bL := Boxed.new (w.alloc (.cells #[.slice none 0 0] 36)) 36 (.slice p l.length cap)
  rw [World.size_alloc] at bL
  have hB0 : Below w.heap.size w ((w.alloc (.cells #[.slice none 0 0] 36)).alloc (.cells #[.slice p l.length cap] 36)) := ((Below.refl _ w).alloc (Nat.le_refl _) _).alloc (by simp) _
  have hsz : ((w.alloc (.cells #[.slice none 0 0] 36)).alloc (.cells #[.slice p l.length cap] 36)).heap.size = w.heap.size + 2 := by simp
  obtain ⟨W0, hW0⟩ : ∃ W0, (w.alloc (.cells #[.slice none 0 0] 36)).alloc (.cells #[.slice p l.length cap] 36) = W0 := ⟨_, rfl⟩
  rw [hW0] at bO bL hB0 hsz ⊢
  clear hW0
  have hseq : SeqStopsK FW (n - 1) Tryz.prog 119 #[.pointer (some ⟨w.heap.size + 1, 0, none⟩)] (fun x : Sp.SM => #[.agg #[.int .i64 x.1.1, .int .i64 x.1.2]]) (KpOut w.heap.size) (fun ys => Sp.Told l (ys.map (·.1))) (fun _ => True) l.length W0 :=
    fun lp J Jx W hW hJ _ hY h0 => right1_in (Keeps.out w.heap.size) (n - 1) (by omega) lp (w.heap.size + 1) p cap l hl J Jx W hJ hY
      ((hW.cell (p := ⟨w.heap.size + 1, 0, none⟩) (by simp; omega)).trans bL.cell) ((hR.below hB0 (Nat.le_refl _)).below hW (Nat.le_refl _)) (fresh_out ((hW.cell (p := ⟨w.heap.size, 0, none⟩) (by simp; omega)).trans bO.cell)) h0
  refine wpIn_rangeFunc_ownH rfl hn1 (gf := 119) (lb := #[.pointer (some ⟨w.heap.size + 1, 0, none⟩)]) rfl trivial (enters_of Tryz.func119 (by kernel_rfl) rfl) hseq
    (fun h k => h.trans k) (fun W lp o o' hlp hW ho _ => KpOut.putObj lp o o' (by omega) hW ho) (Below.refl _ _) (fun _ => rfl)
    (fun pre W => (∃ v, Boxed W w.heap.size 36 v ∧ W.ownsRow w.heap.size 35 2 v (Sp.joinF (pre.map (·.1))).length (flat encSp (Sp.joinF (pre.map (·.1)))) ∧ True) ∧ Below w.heap.size w W)
    (fun _ _ _ => False)
    (OwnFrom.and (Own.from (holdsRow_own w.heap.size w.heap.size 36 35 2 (fun (pre : List Sp.SM) => (Sp.joinF (pre.map (·.1))).length) (fun (pre : List Sp.SM) => flat encSp (Sp.joinF (pre.map (·.1)))) (fun _ _ => True)) _) (ownFrom_below (Nat.le_refl _) (by omega)))
    (fun _ _ _ _ _ hs _ _ => hs)
    ⟨⟨_, bO, World.ownsRow_nil _ _ _ _, trivial⟩, hB0⟩
    (fun x a' W => ∃ Bx, w.heap.size < Bx ∧ Blk W Bx 35 #[.int .i64 x.1.1, .int .i64 x.1.2] ∧ a' = { tmps := #[.slice p l.length cap, undef, .slice none 0 0, .pointer (some ⟨w.heap.size, 0, none⟩), .pointer (some ⟨Bx, 0, none⟩), undef, .slice p l.length cap, .func (.func 119) #[] #[.pointer (some ⟨w.heap.size + 1, 0, none⟩)],   .agg #[.int .i64 x.1.1, .int .i64 x.1.2], undef, undef, undef, undef, undef, undef, undef, undef, undef, undef, undef, undef, undef, undef, undef, undef, undef, undef, undef, undef, undef, undef, undef, undef, undef, undef, undef, undef, undef, undef, undef, undef, undef], defers := [] })
    (fun x a' _ X Y row hs hg hr => by obtain ⟨Bx, h1, h2, h3⟩ := hs; exact ⟨Bx, h1, h2.own hg (fun r e => (hr r e).2), h3⟩)
    ?assign ?body ?done ?stop
  case assign =>
    rintro lp pre x W K ⟨⟨v, hv, hrow, _⟩, hB⟩ hK
    gi_wp2
    exact hK _ _ ((KeepsOthers.alloc _ _).from _) (KpOut.of_below hv.lt ((Below.refl _ _).alloc (Nat.le_refl _) _)) ⟨⟨v, hv.alloc _, hrow.alloc _, trivial⟩, hB.alloc hB.size _⟩ ⟨W.heap.size, hv.lt, Blk.new W _ _, rfl⟩
  case body =>
    rintro lp pre x a' W hl' ⟨r, hr⟩ ⟨⟨v, hv, hrow, _⟩, hB⟩ ⟨Bx, hBx, bX, rfl⟩ hlt
    have hx0 := bX.cell 0
    have hx1 := bX.cell 1
    simp at hx0 hx1
    have hjl := Sp.joinF_length (pre.map (·.1))
    have HY := Lib.hid (Sp.joinF_may pre)
    have hpre : (pre ++ [x]).map (·.1) = pre.map (·.1) ++ [x.1] := by simp
    have HJ : Hid (Sp.joinF ((pre ++ [x]).map (·.1)) = Sp.jstep (Sp.joinF (pre.map (·.1))) x.1) := by rw [hpre]; exact Sp.joinF_snoc _ _
    obtain ⟨⟨x1, x2⟩, hx⟩ := x
    obtain ⟨hxa, hxb, hxc⟩ := Sp.mayB_iff.1 hx
    simp only [List.length_map] at hjl hx0 hx1 hxa hxb hxc HJ
    clear hpre bX
    generalize Sp.joinF (pre.map (·.1)) = m at hrow hjl HJ HY
    have hc0 := hv.cell
    have hf0 := hv.frozen
    have hB1 := hB.size
    have hBl := hv.lt
    have HV := Lib.hid hv
    clear hv
    have hn3 : 1 ≤ n - 1 - 1 := by omega
    by_cases hm0 : m.length = 0
    · obtain ⟨po, co, rfl, ho1, ho2, hRo⟩ := owns_sp hrow
      have hmn : m = [] := List.eq_nil_of_length_eq_zero hm0
      have HA : Hid (Sp.jstep m (x1, x2) = m ++ [(x1, x2)]) := by rw [hmn]; rfl
      have e1 : IntKind.i64.wrap ((m.length : Int) - 1) = -1 := by rw [hm0]; rfl
      have e2 : ((m.length : Int) - 1) = -1 := by omega
      have e3 : decide ((0 : Int) ≤ -1) = false := by decide
      clear hmn hm0
      have HR := Lib.hid hrow
      clear hrow
      gi_wp2
      refine wpInRound_quiet (by kernel_rfl) (by kernel_rfl) (by kernel_rfl) (by rintro ⟨_, _, h⟩; exact h) ?_
      repeat (go_big_quiet_step (fail))
      refine wpQuiet_nil ?_
      intro _ hw'
      obtain ⟨nq, hw''⟩ := hw'
      subst hw''
      have HV' : Boxed (W.drewN nq) w.heap.size 36 (.slice po m.length co) := HV.out
      have HRd : (W.drewN nq).ownsRow w.heap.size 35 2 (.slice po m.length co) m.length (flat encSp m) := HR.out
      gi_wp2_with (gi_at_builtin; refine wpListIn_app elemSp rfl _ _ rfl w.heap.size (.slice po m.length co) _ _ rfl HRd 1 1 [.int .i64 x1, .int .i64 x2] rfl rfl (by simp [Value.oneCell']) (by omega) hB1 ?_; intro v' w1 hown' hgrow _ hat; obtain ⟨g', cap', rfl⟩ := ownsRow_succ hown'; have hKO := KpOut.appended HV' HRd hgrow hat (HV'.not_row (by decide) HRd); obtain ⟨hv1, hv2, hr2, hk2, hb2⟩ := HV'.appended (by decide) HRd hB1 (Nat.le_refl _) hown' hgrow; have hc1 := hv1.cell; have hf1 := hv1.frozen)
      have hk3 : KeepsOthers W (w1.setCell ⟨w.heap.size, 0, none⟩ (.slice (some ⟨g', 0, none⟩) (m.length + 1) cap')) := ⟨hk2.size, hk2.same⟩
      exact ⟨hk3.from _, (KpOut.of_drewN nq).trans hKO, ⟨_, hv2, by rw [HJ.out, HA.out]; simpa [flat_append, flat, encSp] using hr2, trivial⟩, hB.trans ((below_drewN (Below.refl _ _) nq).trans hb2)⟩
    · obtain ⟨q, hq⟩ : ∃ q, q = m.length - 1 := ⟨_, rfl⟩
      have hqm : q < m.length := by omega
      obtain ⟨g, co, rfl⟩ : ∃ g co, v = .slice (some ⟨g, 0, none⟩) m.length co := by
        rcases hrow.2 with ⟨_, h0⟩ | ⟨g, co, cur, hv, _⟩
        · omega
        · exact ⟨g, co, hv⟩
      have HR := Lib.hid hrow
      have hg1 : w.heap.size ≤ g := (hrow.lt g rfl).1
      have hne : w.heap.size ≠ g := fun e => HV.out.not_row (by decide) hrow (by rw [e]; rfl)
      obtain ⟨po', co', hve, ho1, ho2, hRo⟩ := owns_sp hrow
      obtain ⟨rfl, rfl⟩ : some ⟨g, 0, none⟩ = po' ∧ co = co' := by injection hve with h1 h2 h3; exact ⟨h1, h3⟩
      clear hve
      obtain ⟨g', og', hge, _, hy0, hy1⟩ := hRo.at2 hqm
      obtain ⟨rfl, rfl⟩ : g = g' ∧ 0 = og' := by injection hge with h1; injection h1 with h1 h2; exact ⟨h1, h2⟩
      simp only [Nat.zero_add] at hy0 hy1
      have hfz := hrow.frozenAt (q * 2 + 1)
      clear hge hrow
      obtain ⟨hma, hmb, hmc⟩ := Sp.mayB_iff.1 (HY.out _ (List.getElem_mem hqm))
      have HQ := Lib.hid hq
      have e1 : IntKind.i64.wrap ((m.length : Int) - 1) = (q : Int) := by rw [IntWalk.i64_in ((m.length : Int) - 1) (by omega)]; omega
      have e2 : ((m.length : Int) - 1) = (q : Int) := by omega
      have e3 : decide ((0 : Int) ≤ (q : Int)) = true := by simp
      have e4 : IntKind.i64.wrap (m[q].2 + 1) = m[q].2 + 1 := IntWalk.i64_in _ (by omega)
      clear hq
      by_cases hh : x1 ≤ m[q].2 + 1
      · have e5 : decide (x1 ≤ m[q].2 + 1) = true := by simpa using hh
        have HA := Lib.hid (Sp.jstep_hit (s := (x1, x2)) hqm HQ.out hh)
        gi_wp2
        refine wpInRound_quiet (by kernel_rfl) (by kernel_rfl) (by kernel_rfl) (by rintro ⟨_, _, h⟩; exact h) ?_
        repeat (go_big_quiet_step (fail))
        refine wpQuiet_nil ?_
        intro _ hw'
        obtain ⟨nq, hw''⟩ := hw'
        subst hw''
        gi_wp2
        have HE : Hid (∀ (k : Nat) (x : Int), x = max m[q].2 x2 → KeepsFrom W0.heap.size W ((W.drewN k).setCell ⟨g, q * 2 + 1, none⟩ (.int .i64 x)) ∧ KpOut w.heap.size W ((W.drewN k).setCell ⟨g, q * 2 + 1, none⟩ (.int .i64 x)) ∧
            (∃ v, Boxed ((W.drewN k).setCell ⟨g, q * 2 + 1, none⟩ (.int .i64 x)) w.heap.size 36 v ∧ ((W.drewN k).setCell ⟨g, q * 2 + 1, none⟩ (.int .i64 x)).ownsRow w.heap.size 35 2 v (Sp.joinF (List.map (fun (y : Sp.SM) => y.1) (pre ++ [⟨(x1, x2), hx⟩]))).length (flat encSp (Sp.joinF (List.map (fun (y : Sp.SM) => y.1) (pre ++ [⟨(x1, x2), hx⟩])))) ∧ True) ∧
            Below w.heap.size w ((W.drewN k).setCell ⟨g, q * 2 + 1, none⟩ (.int .i64 x))) := by
          rintro k x rfl
          have HRk : (W.drewN k).ownsRow w.heap.size 35 2 (.slice (some ⟨g, 0, none⟩) m.length co) m.length (flat encSp m) := HR.out
          have HVk : Boxed (W.drewN k) w.heap.size 36 (.slice (some ⟨g, 0, none⟩) m.length co) := HV.out
          obtain ⟨hs1, hs2⟩ := HRk.stored (q * 2 + 1) (.int .i64 (max m[q].2 x2))
          have hk0 := KeepsOthers.setCell (W.drewN k) ⟨g, q * 2 + 1, none⟩ (.int .i64 (max m[q].2 x2))
          have hk1 : KeepsOthers W ((W.drewN k).setCell ⟨g, q * 2 + 1, none⟩ (.int .i64 (max m[q].2 x2))) := ⟨hk0.size, hk0.same⟩
          refine ⟨hk1.from _, (KpOut.of_drewN k).trans (KpOut.setRow HVk hne _ _), ⟨_, HVk.kept hs2 (by simpa using hne), ?_, trivial⟩, (below_drewN hB k).setCell (p := ⟨g, q * 2 + 1, none⟩) (hg1) _⟩
          rw [HJ.out, HA.out, flat_set hqm, List.length_set]
          exact hs1
        by_cases hmx : m[q].2 < x2
        all_goals
          refine wpInRound_still_tail 12 (by kernel_rfl) (by kernel_rfl) (by kernel_rfl) (by rintro ⟨_, _, h⟩; exact h) ?_
          simp only [List.take_succ_cons, List.take_zero, List.drop_succ_cons, List.drop_zero]
          repeat still_step
          refine wpStill_nil ?_
          go_wp2
          gi_wp2
          exact HE.out (nq + 1) _ (by omega)
      · have e5 : decide (x1 ≤ m[q].2 + 1) = false := by simpa using hh
        have HA := Lib.hid (Sp.jstep_miss (s := (x1, x2)) hqm HQ.out hh)
        gi_wp2
        refine wpInRound_quiet (by kernel_rfl) (by kernel_rfl) (by kernel_rfl) (by rintro ⟨_, _, h⟩; exact h) ?_
        repeat (go_big_quiet_step (fail))
        refine wpQuiet_nil ?_
        intro _ hw'
        obtain ⟨nq, hw''⟩ := hw'
        subst hw''
        have HV' : Boxed (W.drewN nq) w.heap.size 36 (.slice (some ⟨g, 0, none⟩) m.length co) := HV.out
        have HRd : (W.drewN nq).ownsRow w.heap.size 35 2 (.slice (some ⟨g, 0, none⟩) m.length co) m.length (flat encSp m) := HR.out
        gi_wp2_with (gi_at_builtin; refine wpListIn_app elemSp rfl _ _ rfl w.heap.size (.slice (some ⟨g, 0, none⟩) m.length co) _ _ rfl HRd 1 1 [.int .i64 x1, .int .i64 x2] rfl rfl (by simp [Value.oneCell']) (by omega) hB1 ?_; intro v' w1 hown' hgrow _ hat; obtain ⟨g', cap', rfl⟩ := ownsRow_succ hown'; have hKO := KpOut.appended HV' HRd hgrow hat (HV'.not_row (by decide) HRd); obtain ⟨hv1, hv2, hr2, hk2, hb2⟩ := HV'.appended (by decide) HRd hB1 (Nat.le_refl _) hown' hgrow; have hc1 := hv1.cell; have hf1 := hv1.frozen)
        have hk3 : KeepsOthers W (w1.setCell ⟨w.heap.size, 0, none⟩ (.slice (some ⟨g', 0, none⟩) (m.length + 1) cap')) := ⟨hk2.size, hk2.same⟩
        exact ⟨hk3.from _, (KpOut.of_drewN nq).trans hKO, ⟨_, hv2, by rw [HJ.out, HA.out]; simpa [flat_append, flat, encSp] using hr2, trivial⟩, hB.trans ((below_drewN (Below.refl _ _) nq).trans hb2)⟩
  case done =>
    rintro D ys W hD hS ⟨⟨v, hv, hrow, _⟩, hB⟩ hK
    have hc := hv.cell
    gi_wp2
    refine ⟨by simp, .inl ⟨_, _, rfl, run_takeDeferred hK, ?_⟩⟩
    rw [hS.join] at hrow
    exact ⟨_, results_tmp rfl _ _ _, v, rfl, ownsRow_putObj hrow _ hK rfl, hB.trans (belowK_b (w := w) (Nat.le_refl _) W D _ _ (by omega) hK rfl rfl)⟩
  case stop =>
    rintro D c pre W _ _ h _
    exact h.elim
end Go.Proofs.YtilahcnpjbnjiaaGreatDoor
