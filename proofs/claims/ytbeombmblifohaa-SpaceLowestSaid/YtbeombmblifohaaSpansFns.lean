/- The spans package over joined. -/
import Derived.Test.YtbeombmblifohaaSpansJoin
namespace Go.Proofs.Ytbeombmblifohaa
set_option linter.unusedVariables false
set_option linter.unusedSimpArgs false
open Go.RowKit Go.Shelf Go.Proofs

theorem joined_any (l : List Sp.S) (hl : l.length ≤ 1073741824) (v : Value) (w : World) (hv : SlR w 2 encSp v l) :
    Calls Try.prog 70 #[v] w (RetRow w.heap.size 27 2 (Sp.norm l).length (flat encSp (Sp.norm l)) w) := callsIn_wide.1 (joined_in 12 (Nat.le_refl _) l hl v w hv)

theorem spans_Norm (l : List Sp.S) (hl : l.length ≤ 1073741824) (v : Value) (w : World) (hv : SlR w 2 encSp v l) :
    Calls Try.prog 58 #[v] w (RetRow w.heap.size 27 2 (Sp.norm l).length (flat encSp (Sp.norm l)) w) := by
  have hcon := joined_any l hl v w hv
  go_enter Try.func58, Try.ntmps58
  go_wp2_with (go_at_call 70; refine hcon.mono ?_; rintro e w1 ⟨v1, rfl, hrow, hb1⟩)
  go_ret
  exact ⟨v1, rfl, hrow, hb1⟩

theorem spans_size (s : Sp.S) (w : World) (h : Sp.mayB s = true) :
    Calls Try.prog 59 #[.agg #[.int .i64 s.1, .int .i64 s.2]] w fun e w' => e = .returned (.int .i64 (Sp.size s)) ∧ Below w.heap.size w w' := by
  obtain ⟨a, b⟩ := s
  obtain ⟨h1, h2, h3⟩ := Sp.mayB_iff.1 h
  simp only at h1 h2 h3
  have hb : ∀ o n, Below w.heap.size w ((w.alloc o).drewN n) := fun o n => below_drewN ((Below.refl _ _).alloc (Nat.le_refl _) _) n
  clear h
  unfold Sp.size
  simp only
  have e1 : IntKind.i64.wrap (b - a) = b - a := IntWalk.i64_in _ (by omega)
  have e2 : IntKind.i64.wrap (b - a + 1) = b - a + 1 := IntWalk.i64_in _ (by omega)
  go_enter Try.func59, Try.ntmps59
  go_wp2
  go_ret
  exact ⟨rfl, hb _ 0⟩

theorem RdP.cells {α : Type} {w : World} {k : Nat} {enc : α → List Value} (hk : ∀ x, (enc x).length = k) (h0 : 0 < k) {a : Addr} {xs : List α} (h : RdP w k enc (some a) xs) : ∀ j u, (flat enc xs)[j]? = some u → w.cell? ⟨a.block, a.off + j, none⟩ = some u := by
  intro j u hu
  obtain ⟨_, _, hcell⟩ := h.2 _ rfl
  have hjl : j < (flat enc xs).length := (List.getElem?_eq_some_iff.1 hu).1
  rw [flat_length hk] at hjl
  have hi' : j / k < xs.length := Nat.div_lt_of_lt_mul (by rw [Nat.mul_comm]; exact hjl)
  have hm : j % k < (enc xs[j / k]).length := by rw [hk]; exact Nat.mod_lt _ h0
  have hfl := flat_at hk (List.getElem?_eq_getElem hi') (List.getElem?_eq_getElem hm)
  have hj : j / k * k + j % k = j := by rw [Nat.mul_comm]; exact Nat.div_add_mod j k
  rw [hj, hu] at hfl
  have := hcell _ _ (List.getElem?_eq_getElem hi') _ _ ((List.getElem?_eq_getElem hm).trans hfl.symm)
  rw [← this]
  congr 1
  simp only [Addr.mk.injEq, true_and, and_true]
  omega

theorem cloneSp_any (l : List Sp.S) (hl : l.length ≤ 1073741824) (v : Value) (w : World) (hv : SlR w 2 encSp v l) :
    Calls Try.prog 40 #[v] w (RetRow w.heap.size 27 2 l.length (flat encSp l) w) := by
  obtain ⟨p, cap, rfl, hc1, hc2, hR⟩ := hv
  cases p with
  | none =>
    have h0 := hR.1 rfl
    have hl0 : l = [] := List.eq_nil_of_length_eq_zero h0
    subst hl0
    have hcon := AnyE.slices_Clone_nil Try.cloneSp 0 cap w
    change Calls Try.prog 40 _ _ _ at hcon
    refine hcon.mono ?_
    rintro e w' ⟨rfl, rfl⟩
    exact ⟨_, rfl, World.ownsRow_nil _ _ _ _, Below.refl _ _⟩
  | some a =>
    obtain ⟨hsp, _, _⟩ := hR.2 a rfl
    obtain ⟨_, _, _, i0, z, hi, hz, hsz, hby, hzs⟩ := elemSp
    have hcon := AnyE.slices_Clone Try.cloneSp i0 z 2 16 hi hz hsz hby hzs (by omega) Try.sizeOf27 a.block a.off l.length cap (flat encSp l) w (flat_length encSp_len l) (by unfold maxLen; omega) (by omega) (hR.cells encSp_len (by omega)) (by intro u hu; simp only [flat, List.mem_flatMap] at hu; obtain ⟨y, _, hy⟩ := hu; exact encSp_one y u hy)
    change Calls Try.prog 40 _ _ _ at hcon
    have ha : a = ⟨a.block, a.off, none⟩ := by cases a; simp_all
    rw [ha]
    refine hcon.mono ?_
    rintro e w' ⟨v', rfl, ho, _, hb⟩
    exact ⟨v', rfl, ho, hb⟩

set_option maxHeartbeats 1000000 in
theorem spans_First (l : List Sp.S) (hl : l.length ≤ 1073741824) (many : Int) (hmin : -9223372036854775808 ≤ many) (hmax : many ≤ 9223372036854775807) (v : Value) (w : World) (hv : SlR w 2 encSp v l) :
    Calls Try.prog 41 #[v, .int .i64 many] w (RetSpOk (Sp.first l many) w) := by
  have hml := Sp.norm_length l
  have HM := Lib.hid (Sp.norm_ok l).1.may
  have hB0 : Below w.heap.size w (w.alloc (.cells #[.int .i64 0, .int .i64 0] 27)) := (Below.refl _ _).alloc (Nat.le_refl _) _
  by_cases hmany : many < 1
  · rw [show Sp.first l many = ((0, 0), false) by unfold Sp.first; rw [if_pos hmany]]
    go_enter Try.func41, Try.ntmps41
    go_wp2
    exact bodyPost_ret (v := .tuple #[.agg #[.int .i64 0, .int .i64 0], .bool false]) (by simp [results, Try.results41, go_sem]) rfl ⟨rfl, hB0⟩
  · have hcon := spans_Norm l hl v _ (hv.below hB0 (Nat.le_refl _))
    have HF : Hid (∀ k (h : k < (Sp.norm l).length), (∀ s ∈ (Sp.norm l).take k, Sp.size s < many) → many ≤ Sp.size (Sp.norm l)[k] → Sp.first l many = (((Sp.norm l)[k].1, (Sp.norm l)[k].1 + many - 1), true)) := fun k h h0 h1 => by
      unfold Sp.first
      rw [if_neg hmany, Sp.first_hit h (fun s hs => by have := h0 s hs; simp; omega) (by simpa using h1)]
    have HG : Hid ((∀ s ∈ Sp.norm l, Sp.size s < many) → Sp.first l many = ((0, 0), false)) := fun h => by
      unfold Sp.first
      rw [if_neg hmany, List.find?_eq_none.2 (fun s hs => by have := h s hs; simp; omega)]
    generalize Sp.first l many = r at HF HG ⊢
    generalize Sp.norm l = m at hcon HF HG HM hml ⊢
    go_enter Try.func41, Try.ntmps41
    go_wp2_with (go_at_call 58; refine hcon.mono ?_; rintro e w1 ⟨v1, rfl, hrow, hb1⟩; obtain ⟨p1, c1, rfl, hd1, hd2, hR1⟩ := owns_sp hrow)
    obtain ⟨hp0, hp1, hz1, hbw⟩ := box2 hb1
    obtain ⟨hcc, hff⟩ := bcell hb1
    have hf0 := hff w.heap.size 0 (by simp)
    have hf1 := hff w.heap.size 1 (by simp)
    simp at hf0 hf1
    have hW := Lib.hid hbw
    clear hcon hrow hcc hff hb1 hbw
    go_loopw [14] (fun i wr => ∃ k : Nat, k ≤ m.length ∧ i = .int .i64 k ∧ Hid (∀ s ∈ m.take k, Sp.size s < many) ∧ Below w1.heap.size w1 wr) (fun i _ => m.length - (intOf i).toNat)
    case atStart => exact ⟨0, Nat.zero_le _, rfl, Lib.hid (by simp), Below.refl _ _⟩
    case round =>
      obtain ⟨k, hk, rfl, H, hbl⟩ := hrel
      have q0 : wr.cell? ⟨w.heap.size, 0, none⟩ = some (.int .i64 0) := (hbl.cell (p := ⟨w.heap.size, 0, none⟩) hz1).trans hp0
      have q1 : wr.cell? ⟨w.heap.size, 1, none⟩ = some (.int .i64 0) := (hbl.cell (p := ⟨w.heap.size, 1, none⟩) hz1).trans hp1
      have r0 : wr.frozen? ⟨w.heap.size, 0, none⟩ = false := (hbl.frozen (p := ⟨w.heap.size, 0, none⟩) hz1).trans hf0
      have r1 : wr.frozen? ⟨w.heap.size, 1, none⟩ = false := (hbl.frozen (p := ⟨w.heap.size, 1, none⟩) hz1).trans hf1
      have hlt0 : w.heap.size < wr.heap.size := Nat.lt_of_lt_of_le hz1 hbl.size
      by_cases hlt : k < m.length
      · obtain ⟨g, off, rfl, hbs, hx0, hx1⟩ := (hR1.below hbl (Nat.le_refl _)).at2 hlt
        have hmay := HM.out _ (List.getElem_mem hlt)
        have hsz := Sp.size_bd hmay
        obtain ⟨hm1, hm2, hm3⟩ := Sp.mayB_iff.1 hmay
        have HT : Hid (∀ x, x ∈ m.take (k + 1) ↔ x ∈ m.take k ∨ x = m[k]) := fun x => Sp.mem_take hlt
        have hc := fun W => spans_size m[k] W hmay
        have HC := Lib.hid hc
        have hszd : Sp.size m[k] = m[k].2 - m[k].1 + 1 := rfl
        have HSZ := Lib.hid hszd
        clear hc hszd
        by_cases hs : many ≤ Sp.size m[k]
        · have hfin := Lib.hid (HF.out k hlt H.out hs)
          have e3 : m[k].1 + many ≤ 1048576 := by have := HSZ.out; omega
          go_wp2_with (go_at_call 59; refine (HC.out _).mono ?_; rintro e w2 ⟨rfl, hb2⟩; obtain ⟨hn0, hn1, hn2, hn3⟩ := box2 hb2; obtain ⟨hgc, hgf⟩ := bcell hn3)
          have q20 : w2.cell? ⟨w.heap.size, 0, none⟩ = some (.int .i64 0) := (hgc _ _ hlt0).trans q0
          have q21 : w2.cell? ⟨w.heap.size, 1, none⟩ = some (.int .i64 0) := (hgc _ _ hlt0).trans q1
          obtain ⟨s0, s1⟩ := set2 q20 q21 (.int .i64 m[k].1) (.int .i64 (m[k].1 + many - 1))
          refine bodyPost_ret (v := .tuple #[.agg #[.int .i64 m[k].1, .int .i64 (m[k].1 + many - 1)], .bool true]) (by simp [results, Try.results41, go_sem, s0, s1]) rfl ⟨by rw [hfin.out], (((hW.out.trans (hbl.mono hW.out.size)).trans (hn3.mono (Nat.le_trans hW.out.size hbl.size))).setCell (p := ⟨w.heap.size, 0, none⟩) (Nat.le_refl _) _).setCell (p := ⟨w.heap.size, 1, none⟩) (Nat.le_refl _) _⟩
        · go_wp2_with (go_at_call 59; refine (HC.out _).mono ?_; rintro e w2 ⟨rfl, hb2⟩)
          exact ⟨⟨k + 1, by omega, by go_num, Lib.hid (fun s hs => by rcases (HT.out s).1 hs with hs | rfl; exact H.out s hs; omega), hbl.trans (((Below.refl _ _).alloc (Nat.le_refl _) _ |>.trans (hb2.mono (by simp))).mono hbl.size)⟩, by simp [intOf]; omega⟩
      · go_wp2
        have hall := H.out
        rw [List.take_of_length_le (by omega)] at hall
        obtain ⟨s0, s1⟩ := set2 q0 q1 (.int .i64 0) (.int .i64 0)
        refine bodyPost_ret (v := .tuple #[.agg #[.int .i64 0, .int .i64 0], .bool false]) (by simp [results, Try.results41, go_sem, s0, s1]) rfl ⟨by rw [HG.out hall], ((hW.out.trans (hbl.mono hW.out.size)).setCell (p := ⟨w.heap.size, 0, none⟩) (Nat.le_refl _) _).setCell (p := ⟨w.heap.size, 1, none⟩) (Nat.le_refl _) _⟩
end Go.Proofs.Ytbeombmblifohaa
