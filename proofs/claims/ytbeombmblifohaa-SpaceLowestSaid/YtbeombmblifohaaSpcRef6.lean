/- The document's spaces: Free. -/
import Derived.Test.YtbeombmblifohaaSpcRef5
namespace Go.Proofs.Ytbeombmblifohaa
set_option linter.unusedVariables false
set_option linter.unusedSimpArgs false
open Go.RowKit Go.Shelf Go.Proofs

theorem run_eql_sp (s t : Sp.S) (w : World) : (binOp .eql 27 (.agg #[.int .i64 s.1, .int .i64 s.2]) (.agg #[.int .i64 t.1, .int .i64 t.2])).run Try.prog w = .ok (.bool (decide (s = t))) w := by
  have u3 := Try.underlying3
  have a3 := Try.isAgg3
  have z3 := Try.sizeOf3
  have hS : Try.prog.underlying 27 = some (.struct (Try.prog.fieldsOf 27)) := by kernel_rfl
  have hp : Try.prog.stoodInHeld 27 = false := by kernel_rfl
  obtain ⟨a, b⟩ := s
  obtain ⟨c, d⟩ := t
  rw [run_eql_struct, show (10000 : Nat) = 9999 + 1 from rfl, run_equalIn_agg w 9999 27 _ _ hS hp]
  simp only [Program.fieldsOf, Try.underlying27]
  go_simp
  by_cases h1 : a = c <;> by_cases h2 : b = d <;> simp [h1, h2]
theorem QC.own {w W W' : World} {m : Sp.Spc} {vL v' : Value} {a b : Int} (h : QC w W m vL a b) {L' : List Sp.Bk} (hb : Below W.heap.size W W') (ho : W'.ownsRow W.heap.size 74 4 v' L'.length (flat encBk L')) (m' : Sp.Spc) (hm : m'.L = L') :
    (∀ cs, Below w.heap.size w ((W'.setCell ⟨w.heap.size, 6, none⟩ v').setRow (w.heap.size + 2) cs)) ∧ NewV w vL v' ∧ (∀ cs, SlR ((W'.setCell ⟨w.heap.size, 6, none⟩ v').setRow (w.heap.size + 2) cs) 4 encBk v' m'.L) ∧
      Blk ((W'.setCell ⟨w.heap.size, 6, none⟩ v').setRow (w.heap.size + 2) (sA m' v')) (w.heap.size + 2) 31 (sA m' v') ∧ Blk (W'.setCell ⟨w.heap.size, 6, none⟩ v') (w.heap.size + 2) 31 (sA Sp.spc0 (.slice none 0 0)) := by
  have hn := h.next hb
  have hlt := h.bz.lt
  have hz := hn.bz.other ⟨w.heap.size, 6, none⟩ v' (by simp)
  refine ⟨fun cs => below_setRow (hn.U.bel.setCell (Nat.le_refl _) _) (by omega) _, fun b hb' => Or.inr (by have := (ho.lt b hb').1; omega), fun cs => ?_, hz.setRow _, hz⟩
  subst hm
  have s1 := SlR.of_owns encBk_len ho
  have s2 := (Frm.setCell w.heap.size none W' 6 v').slr s1 (fun b hb' => ⟨by have := (ho.lt b hb').1; omega, by simp⟩)
  exact (Frm.setRow (w.heap.size + 2) none _ cs).slr s2 (fun b hb' => ⟨by have := (ho.lt b hb').1; omega, by simp⟩)
theorem idx_hit {α : Type} {q : α → Bool} : ∀ {l : List α} {k : Nat} {c : α}, l[k]? = some c → (∀ (j : Nat) (d : α), l[j]? = some d → j < k → q d = false) → q c = true → l.findIdx? q = some k
  | [], k, c, h, _, _ => by simp at h
  | d :: r, 0, c, h, _, hq => by cases h; simp [hq, List.findIdx?_cons]
  | d :: r, k + 1, c, h, h0, hq => by
    have hd := h0 0 d rfl (by omega)
    rw [List.findIdx?_cons, hd]
    have := idx_hit (l := r) (k := k) (by simpa using h) (fun j e he hj => h0 (j + 1) e (by simpa using he) (by omega)) hq
    simp [this]
theorem idx_miss {α : Type} {q : α → Bool} {l : List α} (h : ∀ (j : Nat) (d : α), l[j]? = some d → j < l.length → q d = false) : l.findIdx? q = none := by
  rw [List.findIdx?_eq_none_iff]
  intro x hx
  obtain ⟨j, hj⟩ := List.getElem?_of_mem hx
  exact h j x hj (List.getElem?_eq_some_iff.1 hj).1
set_option maxRecDepth 100000 in
set_option maxHeartbeats 8000000 in
theorem r12_Free (m : Sp.Spc) (hl : m.L.length ≤ 1000000) (vL : Value) (o a b : Int) (w : World) (hv : SlR w 4 encBk vL m.L) :
    Calls Try.prog 32 #[.agg (sA m vL), .int .i64 o, .agg #[.int .i64 a, .int .i64 b]] w (RetSE vL (Sp.freeR m o (a, b)) w) := by
  have HV := Lib.hid hv
  have H0 := Lib.hid (QC.first hv a b)
  have HT : Hid (Sp.freeR m o (a, b) = match m.L.findIdx? (Sp.isB (a, b) o) with | some i => ({ m with L := m.L.eraseIdx i }, 0) | none => (m, 31)) := Lib.hid rfl
  obtain ⟨p, cap, rfl, hc1, hc2, hR⟩ := hv
  have HRd := Lib.hid hR
  clear hR
  obtain ⟨⟨x1, y1⟩, ⟨x2, y2⟩, L⟩ := m
  simp only at hl hc1 HV HRd
  simp only [sA, Sp.spc0] at H0 ⊢
  generalize hq : Sp.freeR ⟨(x1, y1), (x2, y2), L⟩ o (a, b) = q at HT ⊢
  simp only at HT
  clear hq
  go_enter Try.func32, Try.ntmps32
  go_wp2_with fail
  go_loopw [8] (fun vi wr => ∃ n : Nat, n ≤ L.length ∧ vi = .int .i64 n ∧ Hid (∀ (j : Nat) (d : Sp.Bk), L[j]? = some d → j < n → Sp.isB (a, b) o d = false) ∧ Hid (QC w wr ⟨(x1, y1), (x2, y2), L⟩ (.slice p L.length cap) a b)) (fun vi _ => L.length - (intOf vi).toNat)
  case atStart => exact ⟨0, Nat.zero_le _, rfl, Lib.hid (fun j d _ h => by omega), H0⟩
  case round =>
    obtain ⟨n, hn, rfl, HE, HC⟩ := hrel
    obtain ⟨b0, b1, b2, b3, b4, b5, b6, s0, s1⟩ := HC.out.sq
    by_cases hlt : n < L.length
    · obtain ⟨c, hc⟩ : ∃ c, L[n]? = some c := ⟨_, List.getElem?_eq_getElem hlt⟩
      have hcc : L[n] = c := (List.getElem?_eq_some_iff.1 hc).2
      have HLn := Lib.hid hcc
      obtain ⟨bb, off, rfl, hbs, hcl⟩ := (HRd.out.below HC.out.U.bel (Nat.le_refl _)).at hlt
      rw [hcc] at hcl
      have c0 := hcl 0 _ rfl
      have c1 := hcl 1 _ rfl
      have c2 := hcl 2 _ rfl
      have c3 := hcl 3 _ rfl
      simp only [Nat.add_zero] at c0
      have heq := run_eql_sp c.sp (a, b)
      have HCc := Lib.hid hc
      have HB : Hid (Sp.isB (a, b) o c = (decide (c.sp = (a, b)) && decide (c.owner = o))) := Lib.hid rfl
      have HNext : Hid (Sp.isB (a, b) o c = false → ∀ (j : Nat) (d : Sp.Bk), L[j]? = some d → j < n + 1 → Sp.isB (a, b) o d = false) := Lib.hid fun h j d hd hj => by
        rcases Nat.lt_or_ge j n with h2 | h2
        · exact HE.out j d hd h2
        · obtain rfl : j = n := by omega
          rw [hc] at hd; cases hd
          exact h
      clear hcl hc hcc
      by_cases h1 : c.sp = (a, b)
      · rw [decide_eq_true h1] at heq HB
        by_cases h2 : c.owner = o
        · have h2b : ((c.owner : Int) == o) = true := by simpa using h2
          have hhit : Sp.isB (a, b) o c = true := by rw [HB.out]; simp [h2]
          have hr : q = (⟨(x1, y1), (x2, y2), L.eraseIdx n⟩, 0) := by rw [HT.out, idx_hit HCc.out HE.out hhit]
          clear HT
          subst hr
          have HEr : Hid (L.eraseIdx n = L.take n ++ L.drop (n + 1)) := Lib.hid (List.eraseIdx_eq_take_drop_succ L n)
          have HEl : Hid ((L.eraseIdx n).length = L.length - 1) := Lib.hid (List.length_eraseIdx_of_lt hlt)
          clear hhit h1 h2 HE HNext HB
          have HTk := Lib.hid (show n = (L.take n).length by rw [List.length_take]; omega)
          have HE1 := Lib.hid (show (L.eraseIdx n).length = 0 + (L.take n).length + (L.drop (n + 1)).length by rw [HEl.out]; simp; omega)
          have HE2 := Lib.hid (show flat encBk (L.eraseIdx n) = [] ++ flat encBk (L.take n) ++ flat encBk (L.drop (n + 1)) by rw [HEr.out]; simp [flat])
          have HT := Lib.hid ((HRd.out.below HC.out.U.bel (Nat.le_refl _)).takeK n)
          have hi1 : IntKind.i64.wrap ((n : Int) + 1) = (n : Int) + 1 := IntWalk.i64_in _ (by omega)
          go_wp2_with fail
          go_quiet (fail)
          clear heq h2b c0 c1 c2 c3
          by_cases hck : cap = n + 1
          · have HDk := Lib.hid (show 0 = (L.drop (n + 1)).length by rw [List.length_drop]; omega)
            have HTl := Lib.hid ((HRd.out.below HC.out.U.bel (Nat.le_refl _)).tail_eq (j := n + 1) (by omega))
            subst hck
            go_wp2_with (first
               | (at_builtin; refine wpList_app_slK elemB12 rfl (.tmp 35) (.tmp 39) rfl wr.heap.size (.slice none 0 0) 0 [] rfl (World.ownsRow_nil _ _ _ _) encBk encBk_len (some ⟨bb, off, none⟩) _ _ (L.take n) HTk.out rfl (HT.out.below (below_drewN (Below.refl _ _) _) (Nat.le_refl _)) encBk_one (by rw [← HTk.out]; omega) (Nat.le_refl _) ?_; intro v3 w3 hown3 _ _ hb3; have Q3 := (HC.out.next (below_drewN (Below.refl _ _) _)).next hb3; obtain ⟨-, -, -, -, -, -, x6, -, -⟩ := Q3.sq)
               | (at_builtin; refine wpList_app_slK elemB12 rfl (.tmp 41) (.tmp 46) rfl wr.heap.size v3 _ _ rfl hown3 encBk encBk_len _ _ _ (L.drop (n + 1)) HDk.out rfl (HTl.out.below ((below_drewN (Below.refl _ _) _).trans hb3) (Nat.le_refl _)) encBk_one (by rw [← HTk.out, ← HDk.out]; omega) hb3.size ?_; intro v5 w5 hown5 _ _ hb5; rw [← HE1.out, ← HE2.out] at hown5; obtain ⟨p5, c5, rfl, hd1, hd2, hR5⟩ := SlR.of_owns encBk_len hown5; have hb25 := hb3.trans hb5; have Q5 := HC.out.own (L' := L.eraseIdx n) ((below_drewN (Below.refl _ _) _).trans hb25) hown5 ⟨(x1, y1), (x2, y2), L.eraseIdx n⟩ rfl; have QN := Lib.hid Q5; have Q5n := HC.out.next ((below_drewN (Below.refl _ _) _).trans hb25); obtain ⟨y0, y1', y2', y3, y4, y5, y6, -, -⟩ := Q5n.sq; have yf := Q5n.U.bx.frozen' 6)
               | (refine wpList_store_row rfl _ _ _ rfl (w.heap.size + 2) (sA ⟨(x1, y1), (x2, y2), L.eraseIdx n⟩ (.slice p5 (L.eraseIdx n).length c5)) rfl rfl _ _ QN.out.2.2.2.2 infoS rfl (oneS _ _ _ _) ?_))
            exact bodyPost_ret (results_ct rfl _ _ _ _ _ _ _ rfl QN.out.2.2.2.1 Try.underlying31 rfl infoS) rfl ⟨_, rfl, QN.out.2.2.1 _, QN.out.2.1, QN.out.1 _⟩
          · have HDk := Lib.hid (show L.length - (n + 1) = (L.drop (n + 1)).length by rw [List.length_drop])
            have HTl := Lib.hid ((HRd.out.below HC.out.U.bel (Nat.le_refl _)).dropK (n + 1))
            have hck' : n + 1 < cap := by omega
            clear hck
            go_wp2_with (first
               | (at_builtin; refine wpList_app_slK elemB12 rfl (.tmp 35) (.tmp 39) rfl wr.heap.size (.slice none 0 0) 0 [] rfl (World.ownsRow_nil _ _ _ _) encBk encBk_len (some ⟨bb, off, none⟩) _ _ (L.take n) HTk.out rfl (HT.out.below (below_drewN (Below.refl _ _) _) (Nat.le_refl _)) encBk_one (by rw [← HTk.out]; omega) (Nat.le_refl _) ?_; intro v3 w3 hown3 _ _ hb3; have Q3 := (HC.out.next (below_drewN (Below.refl _ _) _)).next hb3; obtain ⟨-, -, -, -, -, -, x6, -, -⟩ := Q3.sq)
               | (at_builtin; refine wpList_app_slK elemB12 rfl (.tmp 41) (.tmp 46) rfl wr.heap.size v3 _ _ rfl hown3 encBk encBk_len _ _ _ (L.drop (n + 1)) HDk.out rfl (HTl.out.below ((below_drewN (Below.refl _ _) _).trans hb3) (Nat.le_refl _)) encBk_one (by rw [← HTk.out, ← HDk.out]; omega) hb3.size ?_; intro v5 w5 hown5 _ _ hb5; rw [← HE1.out, ← HE2.out] at hown5; obtain ⟨p5, c5, rfl, hd1, hd2, hR5⟩ := SlR.of_owns encBk_len hown5; have hb25 := hb3.trans hb5; have Q5 := HC.out.own (L' := L.eraseIdx n) ((below_drewN (Below.refl _ _) _).trans hb25) hown5 ⟨(x1, y1), (x2, y2), L.eraseIdx n⟩ rfl; have QN := Lib.hid Q5; have Q5n := HC.out.next ((below_drewN (Below.refl _ _) _).trans hb25); obtain ⟨y0, y1', y2', y3, y4, y5, y6, -, -⟩ := Q5n.sq; have yf := Q5n.U.bx.frozen' 6)
               | (refine wpList_store_row rfl _ _ _ rfl (w.heap.size + 2) (sA ⟨(x1, y1), (x2, y2), L.eraseIdx n⟩ (.slice p5 (L.eraseIdx n).length c5)) rfl rfl _ _ QN.out.2.2.2.2 infoS rfl (oneS _ _ _ _) ?_))
            exact bodyPost_ret (results_ct rfl _ _ _ _ _ _ _ rfl QN.out.2.2.2.1 Try.underlying31 rfl infoS) rfl ⟨_, rfl, QN.out.2.2.1 _, QN.out.2.1, QN.out.1 _⟩
        · have h2b : ((c.owner : Int) == o) = false := by simpa using h2
          have HN := Lib.hid (HNext.out (by rw [HB.out]; simp [h2]))
          clear h1 h2 HE HNext HB
          go_wp2_with fail
          go_quiet (fail)
          go_wp2_with fail
          exact ⟨⟨n + 1, by omega, by go_num, HN, Lib.hid (HC.out.next (below_drewN (Below.refl _ _) _))⟩, by simp [intOf]; omega⟩
      · rw [decide_eq_false h1] at heq HB
        have HN := Lib.hid (HNext.out (by rw [HB.out]; simp))
        clear h1 HE HNext HB
        go_wp2_with fail
        go_quiet (fail)
        go_wp2_with fail
        exact ⟨⟨n + 1, by omega, by go_num, HN, Lib.hid (HC.out.next (below_drewN (Below.refl _ _) _))⟩, by simp [intOf]; omega⟩
    · obtain rfl : n = L.length := by omega
      have hr : q = (⟨(x1, y1), (x2, y2), L⟩, 31) := by rw [HT.out, idx_miss HE.out]
      clear HT
      subst hr
      have HS := Lib.hid (HC.out.set ⟨(x1, y1), (x2, y2), L⟩ (.slice p L.length cap))
      go_wp2_with (refine wpList_store_row rfl _ _ _ rfl (w.heap.size + 2) (sA ⟨(x1, y1), (x2, y2), L⟩ (.slice p L.length cap)) rfl rfl _ _ HC.out.bz infoS rfl (oneS _ _ _ _) ?_)
      exact bodyPost_ret (results_ct rfl _ _ _ _ _ _ _ rfl HS.out.2 Try.underlying31 rfl infoS) rfl ⟨_, rfl, HV.out.below HS.out.1 (Nat.le_refl _), NewV.refl _ _, HS.out.1⟩
end Go.Proofs.Ytbeombmblifohaa
