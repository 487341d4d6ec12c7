/- The walks of footplateref11.Add and Cut. -/
import Derived.Test.YtilahcnpjbnjiaaGreatDoorSpansRef2
import Derived.StillTailTactics
namespace Go.Proofs.YtilahcnpjbnjiaaGreatDoor
set_option linter.unusedVariables false
set_option linter.unusedSimpArgs false
open Go.RowKit

theorem Sp.pieces_take {s : Sp.S} {m : List Sp.S} {k : Nat} (h : k < m.length) : Sp.pieces s (m.take (k + 1)) = Sp.pieces s (m.take k) ++ [(m[k].1, min m[k].2 (s.1 - 1)), (max m[k].1 (s.2 + 1), m[k].2)] := by
  rw [List.take_succ_eq_append_getElem h, Sp.pieces, List.flatMap_append]; rfl
theorem Sp.pieces_len (s : Sp.S) (m : List Sp.S) : (Sp.pieces s m).length = m.length * 2 := by
  induction m with
  | nil => rfl
  | cons x r ih => simp [Sp.pieces] at ih ⊢; omega

set_option maxRecDepth 100000 in
set_option maxHeartbeats 2000000 in
theorem ref_Cut (l : List Sp.S) (s : Sp.S) (v : Value) (w : World) (hl : l.length ≤ 536870912) (hv : SlR w 2 encSp v l) :
    Calls Tryz.prog 80 #[v, .agg #[.int .i64 s.1, .int .i64 s.2]] w (RetRow w.heap.size 35 2 (Sp.cut l s).length (flat encSp (Sp.cut l s)) w) := by
  obtain ⟨p, cap, rfl, hc1, hc2, hR⟩ := hv
  obtain ⟨a, b⟩ := s
  have hml := Sp.norm_length l
  have hcon : ∀ W, Below w.heap.size w W → Calls Tryz.prog 78 #[.slice p l.length cap] W (RetRow W.heap.size 35 2 (Sp.norm l).length (flat encSp (Sp.norm l)) W) := fun W hW => ref_Norm l (.slice p l.length cap) W (by omega) ⟨p, cap, rfl, hc1, hc2, hR.below hW (Nat.le_refl _)⟩
  cases hm : Sp.mayB (a, b)
  · rw [show Sp.cut l (a, b) = Sp.norm l by simp [Sp.cut, hm]]
    generalize Sp.norm l = m at hcon hml ⊢
    have HC := Lib.hid hcon
    clear hcon
    go_enter Tryz.func80, Tryz.ntmps80
    go_wp2_with fail
    refine (ref_may_no _ _ hm).mono ?_
    rintro e w1 ⟨rfl, hb1⟩
    obtain ⟨hp0, hp1, hz1, hbw⟩ := box2 hb1
    go_wp2_with fail
    refine (HC.out _ hbw).mono ?_
    rintro e w2 ⟨v2, rfl, hown2, hb2⟩
    go_wp2
    go_ret
    exact ⟨v2, rfl, owns_base hown2 hbw.size, hbw.trans (hb2.mono hbw.size)⟩
  · rw [show Sp.cut l (a, b) = Sp.norm (Sp.pieces (a, b) (Sp.norm l)) by simp [Sp.cut, hm]]
    have HM := Lib.hid (Sp.norm_ok l).1.may
    generalize Sp.norm l = m at hcon hml HM ⊢
    have hcon2 : ∀ v W, SlR W 2 encSp v (Sp.pieces (a, b) m) → Calls Tryz.prog 78 #[v] W (RetRow W.heap.size 35 2 (Sp.norm (Sp.pieces (a, b) m)).length (flat encSp (Sp.norm (Sp.pieces (a, b) m))) W) := fun v W h => ref_Norm _ v W (by rw [Sp.pieces_len]; omega) h
    generalize Sp.norm (Sp.pieces (a, b) m) = q at hcon2 ⊢
    have HC := Lib.hid hcon
    have HC2 := Lib.hid hcon2
    clear hcon hcon2
    have hmm := Sp.mayB_iff.1 hm
    simp only at hmm
    obtain ⟨ha1, ha2, ha3⟩ := hmm
    go_enter Tryz.func80, Tryz.ntmps80
    go_wp2_with fail
    refine (ref_may_yes _ _ hm).mono ?_
    rintro e w1 ⟨rfl, hb1⟩
    obtain ⟨hp0, hp1, hz1, hbw⟩ := box2 hb1
    go_wp2_with fail
    refine (HC.out _ hbw).mono ?_
    rintro e w2 ⟨v2, rfl, hown2, hb2⟩
    have hq0 := (hb2.cell (p := ⟨w.heap.size, 0, none⟩) hz1).trans hp0
    have hq1 := (hb2.cell (p := ⟨w.heap.size, 1, none⟩) hz1).trans hp1
    have hz := Nat.lt_of_lt_of_le hz1 hb2.size
    have hb3 := Lib.hid (hbw.trans (hb2.mono hbw.size))
    obtain ⟨p1, c1, rfl, hd1, hd2, hR1⟩ := owns_sp hown2
    clear hown2 hb1 hb2 hp0 hp1 hbw
    go_wp2
    go_loopw [7, 8] (fun o i wr => ∃ k : Nat, k ≤ m.length ∧ i = .int .i64 k ∧ wr.ownsRow w2.heap.size 35 2 o (k * 2) (flat encSp (Sp.pieces (a, b) (m.take k))) ∧ Below w2.heap.size w2 wr) (fun _ i _ => m.length - (intOf i).toNat)
    case atStart => exact ⟨0, Nat.zero_le _, rfl, World.ownsRow_nil _ _ _ _, Below.refl _ _⟩
    case round =>
      obtain ⟨k, hk, rfl, hrow, hbl⟩ := hrel
      by_cases hlt : k < m.length
      · obtain ⟨g, off, rfl, hbs, hx0, hx1⟩ := (hR1.below hbl (Nat.le_refl _)).at2 hlt
        have q0 : wr.cell? ⟨w.heap.size, 0, none⟩ = some (.int .i64 a) := (hbl.cell (p := ⟨w.heap.size, 0, none⟩) hz).trans hq0
        have q1 : wr.cell? ⟨w.heap.size, 1, none⟩ = some (.int .i64 b) := (hbl.cell (p := ⟨w.heap.size, 1, none⟩) hz).trans hq1
        obtain ⟨hm1, hm2, hm3⟩ := Sp.mayB_iff.1 (HM.out _ (List.getElem_mem hlt))
        have HT := Lib.hid (Sp.pieces_take (s := (a, b)) hlt)
        have e1 : IntKind.i64.wrap (a - 1) = a - 1 := IntWalk.i64_in _ (by omega)
        have e2 : IntKind.i64.wrap (b + 1) = b + 1 := IntWalk.i64_in _ (by omega)
        have hfin : ∀ x y (v' : Value) (w' : World), x = min m[k].2 (a - 1) → y = max m[k].1 (b + 1) → w'.ownsRow w2.heap.size 35 2 v' (k * 2 + 2) (flat encSp (Sp.pieces (a, b) (m.take k)) ++ [.int .i64 m[k].1, .int .i64 x, .int .i64 y, .int .i64 m[k].2]) → w'.ownsRow w2.heap.size 35 2 v' ((k + 1) * 2) (flat encSp (Sp.pieces (a, b) (m.take (k + 1)))) := by
          rintro x y v' w' rfl rfl h
          rw [HT.out, flat_append, show (k + 1) * 2 = k * 2 + 2 by omega]
          exact h
        have HN := Lib.hid hfin
        clear hfin
        have hrow' : wr.drew.ownsRow w2.heap.size 35 2 _ (k * 2) (flat encSp (Sp.pieces (a, b) (m.take k))) := hrow
        have hbz : w2.heap.size ≤ wr.heap.size := hbl.size
        have hi0' : (0 : Int) ≤ (k : Int) := Int.natCast_nonneg _
        have hi1 : (k : Int) < (m.length : Int) := by omega
        have hg2 : g < w2.heap.size := hR1.lt
        skip
        all_goals
          go_wp2
          go_region_held3 (fun w' => w'.cell? ⟨g, off + k * 2, none⟩ = some (.int .i64 m[k].1) ∧ w'.cell? ⟨g, off + k * 2 + 1, none⟩ = some (.int .i64 m[k].2) ∧ w'.cell? ⟨w.heap.size, 0, none⟩ = some (.int .i64 a) ∧ w'.cell? ⟨w.heap.size, 1, none⟩ = some (.int .i64 b))
            (first
              | go_keep
              | (go_split_ands
                 refine ⟨?_, ?_, ?_, ?_⟩
                 all_goals (rw [hb'.cell (by simp; omega)]; assumption)))
            ((refine step_app elemSp rfl _ _ rfl w2.heap.size _ _ _ rfl ((hrow.alloc _).drew) ⟨wr.heap.size, 0, none⟩ 2 2 _ rfl rfl (cell_new_list wr _ _) (by simp [Value.oneCell']) (by omega) (by simp; omega) ?_; intro v' w' hown' _ hb'))
          clear e1 e2
          go_wp2
          all_goals
            refine ⟨⟨k + 1, by omega, by go_num, HN.out _ _ _ _ ?_ ?_ hown', ((hbl.alloc hbz _).drew).trans hb'⟩, by simp [intOf]; omega⟩
            all_goals omega
      · go_wp2_with fail
        rw [List.take_of_length_le (by omega)] at hrow
        have hkk : k = m.length := by omega
        have hown := hrow
        rw [show k * 2 = (Sp.pieces (a, b) m).length by rw [Sp.pieces_len, hkk]] at hown
        have hbw := hb3.out
        have hbz := hbl.size
        refine (HC2.out _ wr (SlR.of_owns encSp_len hown)).mono ?_
        rintro e w4 ⟨v4, rfl, hown4, hb4⟩
        go_wp2
        go_ret
        have hb5 := hbw.trans (hbl.mono hbw.size)
        exact ⟨v4, rfl, owns_base hown4 hb5.size, hb5.trans (hb4.mono hb5.size)⟩
end Go.Proofs.YtilahcnpjbnjiaaGreatDoor
