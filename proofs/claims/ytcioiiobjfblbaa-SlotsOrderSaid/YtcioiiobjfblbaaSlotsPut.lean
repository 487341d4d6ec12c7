/- slots.Table: Put. -/
import Derived.Test.YtcioiiobjfblbaaSlotsGrow2
namespace Go.Proofs.Ytcioiiobjfblbaa
set_option linter.unusedVariables false
set_option linter.unusedSimpArgs false
open Go.RowKit Go.Shelf Go.Proofs

set_option maxHeartbeats 2000000 in
theorem slots_Put_nil (lab v : Int) (w : World) : Calls Try.prog 33 #[.pointer none, .int .i64 lab, .int .i64 v] w fun e w' => e = .returned (.int .i64 1) ∧ w = w' := by
  go_enter Try.func33, Try.ntmps33
  go_wp2
  go_ret
  exact ⟨rfl, rfl⟩
set_option maxHeartbeats 2000000 in
theorem slots_Put_bad (p : Addr) (lab v : Int) (w : World) (ho : okLab lab = false) :
    Calls Try.prog 33 #[.pointer (some p), .int .i64 lab, .int .i64 v] w fun e w' => e = .returned (.int .i64 40) ∧ w = w' := by
  have HO := Lib.hid ho
  clear ho
  go_enter Try.func33, Try.ntmps33
  go_wp2_with (go_at_call 50; refine (slots_right lab _).mono ?_; rw [HO.out]; rintro e w1 ⟨rfl, rfl⟩)
  go_ret
  exact ⟨rfl, rfl⟩

/-- a label that is there gets another value -/
theorem after_old {B Bt : Nat} {room : Int} {M : List Sl.It} {Bs cap k0 : Nat} {s : List Sl.Slt} {w w2 : World} (h2 : TabS Bt room M Bs cap k0 s w) (hb : Below w.heap.size w w2) (h0 : B ≤ Bt) (h1 : B ≤ Bs) (hB : B ≤ w.heap.size)
    {lab v0 : Int} {p : Nat} (hx : s[p]? = some (2, lab, v0)) (v : Int) :
    TabI B Bt room (Sl.put M lab v) (set3 w2 Bs p 2 lab v) ∧ KeepT w (set3 w2 Bs p 2 lab v) ∧ Below B w (set3 w2 Bs p 2 lab v) := by
  have hp : p < s.length := (List.getElem?_eq_some_iff.1 hx).1
  have hT := h2.mem.below hb (Nat.le_refl _)
  have hin := h2.tbl.of_yes hx
  have hyes : Sl.hasB M lab = true := (Sl.has_iff h2.rise lab).2 ⟨v0, hin⟩
  have hl : (Sl.put M lab v).length = M.length := by rw [Sl.length_put, if_pos hyes]
  have hu := Sl.countP_set (fun x : Sl.Slt => decide (x.1 ≠ 0)) hx (2, lab, v)
  have ht := Sl.countP_set (fun x : Sl.Slt => decide (x.1 = 2)) hx (2, lab, v)
  simp at hu ht
  have hus : Sl.usedN (s.set p (2, lab, v)) = Sl.usedN s := by unfold Sl.usedN; simpa using hu
  have hts : Sl.thereN (s.set p (2, lab, v)) = Sl.thereN s := by unfold Sl.thereN; simpa using ht
  refine ⟨⟨h0, Bs, cap, k0, s.set p (2, lab, v), h1, ?_⟩, (KeepT.of_below hb).set3 hT.rows p 2 lab v, below_set3 (hb.mono hB) h1 p 2 lab v⟩
  refine ⟨by rw [hus, hl]; exact hT.put hp 2 lab v, by rw [List.length_set]; exact h2.pow, by rw [List.length_set]; exact h2.lo, by rw [List.length_set]; exact h2.hi, (h2.tbl.put_old hx v).congr fun x => (Sl.mem_put h2.rise lab v x).symm, Sl.rise_put h2.rise lab v, fun x hx' => ?_,
    by rw [hus, List.length_set]; exact h2.half, by rw [hts, hl]; exact h2.cnt, h2.room1, h2.room2, by rw [hl]; exact h2.fits⟩
  rcases (Sl.mem_put h2.rise lab v x).1 hx' with rfl | ⟨h, _⟩
  · exact h2.lab (lab, v0) hin
  · exact h2.lab x h

/-- a label that wasn't there is put in; W: behind what is counted -/
theorem after_new {B Bt : Nat} {room : Int} {M : List Sl.It} {Bs cap k0 : Nat} {s : List Sl.Slt} {w W : World} (h2 : TabS Bt room M Bs cap k0 s w) (h0 : B ≤ Bt) (h1 : B ≤ Bs) (hhalf : 2 * (Sl.usedN s + 1) ≤ s.length) (hfit : (M.length : Int) < room)
    {lab : Int} (hl0 : 0 ≤ lab) (hl1 : lab ≤ 1048575) {p : Nat} (hno : Sl.No s (home lab s.length) lab p) (v : Int) {used : Int} (hused : used = (Sl.usedN s : Int) + if (s[p]'hno.lt).1 = 0 then 1 else 0)
    (hm : TabW W Bt room ((M.length : Int) + 1) used Bs cap s) :
    TabI B Bt room (Sl.put M lab v) (set3 W Bs p 2 lab v) := by
  have hp := hno.lt
  have hno' : Sl.hasB M lab = false := by
    cases hh : Sl.hasB M lab
    · rfl
    · obtain ⟨v', hv⟩ := (Sl.has_iff h2.rise lab).1 hh
      exact absurd hv (h2.tbl.not_there hno v')
  have hl : (Sl.put M lab v).length = M.length + 1 := by rw [Sl.length_put, if_neg (by rw [hno']; simp)]
  have hf := hno.free _ (List.getElem?_eq_getElem hp)
  have hu := Sl.countP_set (fun x : Sl.Slt => decide (x.1 ≠ 0)) (List.getElem?_eq_getElem hp) (2, lab, v)
  have ht := Sl.countP_set (fun x : Sl.Slt => decide (x.1 = 2)) (List.getElem?_eq_getElem hp) (2, lab, v)
  simp [hf] at hu ht
  have hts : Sl.thereN (s.set p (2, lab, v)) = Sl.thereN s + 1 := by unfold Sl.thereN; simpa using ht
  have hus : (Sl.usedN (s.set p (2, lab, v)) : Int) = used := by
    rw [hused]
    unfold Sl.usedN
    by_cases hz : s[p].1 = 0
    · simp [hz] at hu ⊢; omega
    · simp [hz] at hu ⊢; omega
  have hle : Sl.usedN (s.set p (2, lab, v)) ≤ Sl.usedN s + 1 := by split at hused <;> omega
  refine ⟨h0, Bs, cap, k0, s.set p (2, lab, v), h1, ?_⟩
  refine ⟨by rw [hus, hl]; push_cast; exact hm.put hp 2 lab v, by rw [List.length_set]; exact h2.pow, by rw [List.length_set]; exact h2.lo, by rw [List.length_set]; exact h2.hi, (h2.tbl.put_new hno v).congr fun x => ?_, Sl.rise_put h2.rise lab v, fun x hx' => ?_,
    by rw [List.length_set]; omega, by rw [hts, hl, h2.cnt], h2.room1, h2.room2, by rw [hl]; push_cast; omega⟩
  · rw [Sl.mem_put h2.rise]
    constructor
    · rintro (rfl | hx)
      · exact .inl rfl
      · refine .inr ⟨hx, ?_⟩
        rintro rfl
        exact h2.tbl.not_there hno x.2 hx
    · rintro (rfl | ⟨hx, _⟩)
      · exact .inl rfl
      · exact .inr hx
  · rcases (Sl.mem_put h2.rise lab v x).1 hx' with rfl | ⟨h, _⟩
    · exact ⟨hl0, hl1⟩
    · exact h2.lab x h

set_option maxRecDepth 100000 in
set_option maxHeartbeats 4000000 in
theorem slots_Put_old (B Bt : Nat) (room : Int) (M : List Sl.It) (lab v : Int) (w : World) (hT : TabI B Bt room M w) (hB : B ≤ w.heap.size) (hl0 : 0 ≤ lab) (hl1 : lab ≤ 1048575) (hyes : Sl.hasB M lab = true) :
    Calls Try.prog 33 #[.pointer (some ⟨Bt, 0, none⟩), .int .i64 lab, .int .i64 v] w fun e w' => e = .returned (.int .i64 0) ∧ TabI B Bt room (Sl.put M lab v) w' ∧ KeepT w w' ∧ Below B w w' := by
  obtain ⟨h0, Bs, cap, k0, s, h1, h2⟩ := hT
  have HO : Hid (okLab lab = true) := Lib.hid (okLab_iff.2 ⟨hl0, hl1⟩)
  have hcall := Lib.hid (h2.use lab hl0 hl1)
  have H2 := Lib.hid h2
  have HY := Lib.hid hyes
  clear h2 hyes
  go_enter Try.func33, Try.ntmps33
  go_wp2_with (go_at_call 50; refine (slots_right lab _).mono ?_; rw [HO.out]; rintro e w1 ⟨rfl, rfl⟩)
  refine hcall.out.mono ?_
  rintro e w2 ⟨p, b, rfl, hy, hn, hb⟩
  cases b
  · exfalso
    obtain ⟨v', hv⟩ := (Sl.has_iff H2.out.rise lab).1 HY.out
    exact H2.out.tbl.not_there (hn rfl) v' hv
  · obtain ⟨v0, hx⟩ := hy rfl
    have hT := H2.out.mem.below hb (Nat.le_refl _)
    obtain ⟨c0, c1, c2⟩ := hT.slot hx
    have ch := hT.head.cell 3
    have f0 := hT.rows.frozen' (p * 3)
    have f1 := hT.rows.frozen' (p * 3 + 1)
    have f2 := hT.rows.frozen' (p * 3 + 2)
    simp at ch
    have hp : p < s.length := (List.getElem?_eq_some_iff.1 hx).1
    have hs := H2.out.hi
    have HXx := Lib.hid hx
    clear hy hn hT hx
    go_wp2
    go_ret
    exact ⟨rfl, after_old H2.out hb h0 h1 hB HXx.out v⟩

set_option maxRecDepth 100000 in
set_option maxHeartbeats 4000000 in
theorem slots_Put_full (B Bt : Nat) (room : Int) (M : List Sl.It) (lab v : Int) (w : World) (hT : TabI B Bt room M w) (hB : B ≤ w.heap.size) (hl0 : 0 ≤ lab) (hl1 : lab ≤ 1048575) (hno : Sl.hasB M lab = false) (hf : (M.length : Int) = room) :
    Calls Try.prog 33 #[.pointer (some ⟨Bt, 0, none⟩), .int .i64 lab, .int .i64 v] w fun e w' => e = .returned (.int .i64 30) ∧ Below w.heap.size w w' := by
  obtain ⟨h0, Bs, cap, k0, s, h1, h2⟩ := hT
  have HO : Hid (okLab lab = true) := Lib.hid (okLab_iff.2 ⟨hl0, hl1⟩)
  have hcall := Lib.hid (h2.use lab hl0 hl1)
  have H2 := Lib.hid h2
  have HY := Lib.hid hno
  have ef : ((M.length : Int) == room) = true := by simpa using hf
  have HFf := Lib.hid hf
  clear h2 hno hf
  go_enter Try.func33, Try.ntmps33
  go_wp2_with (go_at_call 50; refine (slots_right lab _).mono ?_; rw [HO.out]; rintro e w1 ⟨rfl, rfl⟩)
  refine hcall.out.mono ?_
  rintro e w2 ⟨p, b, rfl, hy, hn, hb⟩
  cases b
  · have hT := H2.out.mem.below hb (Nat.le_refl _)
    have c0 := hT.head.cell 0
    have c1 := hT.head.cell 1
    simp at c0 c1
    clear hy hn hT
    go_wp2_with fail
    go_quiet (fail)
    go_wp2
    go_ret
    exact ⟨rfl, below_drewN hb nq⟩
  · exfalso
    obtain ⟨v, hx⟩ := hy rfl
    have := (Sl.has_iff H2.out.rise lab).2 ⟨v, H2.out.tbl.of_yes hx⟩
    rw [HY.out] at this
    cases this

set_option maxRecDepth 100000 in
set_option maxHeartbeats 4000000 in
theorem slots_Put_new (B Bt : Nat) (room : Int) (M : List Sl.It) (lab v : Int) (w : World) (hT : TabI B Bt room M w) (hB : B ≤ w.heap.size) (hl0 : 0 ≤ lab) (hl1 : lab ≤ 1048575) (hno : Sl.hasB M lab = false) (hf : (M.length : Int) < room) :
    Calls Try.prog 33 #[.pointer (some ⟨Bt, 0, none⟩), .int .i64 lab, .int .i64 v] w fun e w' => e = .returned (.int .i64 0) ∧ TabI B Bt room (Sl.put M lab v) w' ∧ KeepT w w' ∧ Below B w w' := by
  obtain ⟨h0, Bs, cap, k0, s, h1, h2⟩ := hT
  have HO : Hid (okLab lab = true) := Lib.hid (okLab_iff.2 ⟨hl0, hl1⟩)
  have hcall := Lib.hid (h2.use lab hl0 hl1)
  have H2 := Lib.hid h2
  have HY := Lib.hid hno
  have ef : ((M.length : Int) == room) = false := by simp; omega
  have hml : (M.length : Int) ≤ 65536 := by have := h2.room2; omega
  clear h2 hno
  go_enter Try.func33, Try.ntmps33
  go_wp2_with (go_at_call 50; refine (slots_right lab _).mono ?_; rw [HO.out]; rintro e w1 ⟨rfl, rfl⟩)
  refine hcall.out.mono ?_
  rintro e w2 ⟨p, b, rfl, hy, hn, hb⟩
  cases b
  · have hT := H2.out.mem.below hb (Nat.le_refl _)
    have c0 := hT.head.cell 0
    have c1 := hT.head.cell 1
    simp at c0 c1
    have HTS : Hid (TabS Bt room M Bs cap k0 s w2) := Lib.hid { H2.out with mem := hT }
    clear hy hn hT
    go_wp2_with fail
    go_quiet (fail)
    go_wp2_with fail
    clear c0 c1 ef
    have hbq := below_drewN hb nq
    refine (slots_grow B Bt room M Bs cap k0 s (w2.drewN nq) { HTS.out with mem := HTS.out.mem.below (below_drewN (Below.refl _ _) nq) (Nat.le_refl _) } h0 h1 (Nat.le_trans hB hb.size) hf).mono ?_
    rintro e w3 ⟨rfl, Bs3, cap3, k3, s3, h3, h4, hhalf, hk3, hb3⟩
    have hcall3 := Lib.hid (h4.use lab hl0 hl1)
    have H4 := Lib.hid h4
    have HK3 := Lib.hid hk3
    have HB3 : Hid (Below B w w3) := Lib.hid ((hbq.mono hB).trans hb3)
    have HKb : Hid (KeepT w w3) := Lib.hid ((KeepT.of_below hbq).trans hk3)
    have hB3 : B ≤ w3.heap.size := Nat.le_trans hB HB3.out.size
    clear h4 hk3 hb3 hbq hb
    go_wp2_with fail
    refine hcall3.out.mono ?_
    rintro e w4 ⟨q, b, rfl, hy, hn, hb⟩
    cases b
    · have hno := hn rfl
      have hT4 := H4.out.mem.below hb (Nat.le_refl _)
      have hp := hno.lt
      obtain ⟨y0, y1, y2⟩ := hT4.slot (List.getElem?_eq_getElem hp)
      have c1 := hT4.head.cell 1
      have c2 := hT4.head.cell 2
      have c3 := hT4.head.cell 3
      simp at c1 c2 c3
      have g1 := hT4.head.frozen' 1
      have g2 := hT4.head.frozen' 2
      have f0 := hT4.rows.frozen' (q * 3)
      have f1 := hT4.rows.frozen' (q * 3 + 1)
      have f2 := hT4.rows.frozen' (q * 3 + 2)
      have hne := hT4.ne
      have hs3 := H4.out.hi
      have HT4 := Lib.hid hT4
      have HNo := Lib.hid hno
      have hul : (Sl.usedN s3 : Int) ≤ 524288 := by omega
      have HBb : Hid (Below B w w4) := Lib.hid (HB3.out.trans (hb.mono hB3))
      have HKk : Hid (KeepT w w4) := Lib.hid (HKb.out.trans (KeepT.of_below hb))
      by_cases hz : (s3[q]'hp).1 = 0
      · have ez : ((s3[q]'hp).1 == 0) = true := by simpa using hz
        have HZ := Lib.hid hz
        clear hy hn hT4 hno hb hz
        go_wp2
        go_ret
        have hm := (HT4.out.used ((Sl.usedN s3 : Int) + 1)).count ((M.length : Int) + 1)
        exact ⟨rfl, after_new H4.out h0 h3 hhalf hf hl0 hl1 HNo.out v (by rw [if_pos HZ.out]) hm,
          ((HKk.out.setT HT4.out.head 2 _).setT (HT4.out.used _).head 1 _).set3 hm.rows q 2 lab v, below_set3 ((HBb.out.setCell (p := ⟨Bt, 2, none⟩) h0 _).setCell (p := ⟨Bt, 1, none⟩) h0 _) h3 q 2 lab v⟩
      · have ez : ((s3[q]'hp).1 == 0) = false := by simpa using hz
        have HZ := Lib.hid hz
        clear hy hn hT4 hno hb hz
        go_wp2
        go_ret
        have hm := HT4.out.count ((M.length : Int) + 1)
        exact ⟨rfl, after_new H4.out h0 h3 hhalf hf hl0 hl1 HNo.out v (by rw [if_neg HZ.out]; omega) hm,
          (HKk.out.setT HT4.out.head 1 _).set3 hm.rows q 2 lab v, below_set3 (HBb.out.setCell (p := ⟨Bt, 1, none⟩) h0 _) h3 q 2 lab v⟩
    · exfalso
      obtain ⟨v', hx⟩ := hy rfl
      have := (Sl.has_iff H4.out.rise lab).2 ⟨v', H4.out.tbl.of_yes hx⟩
      rw [HY.out] at this
      cases this
  · exfalso
    obtain ⟨v', hx⟩ := hy rfl
    have := (Sl.has_iff H2.out.rise lab).2 ⟨v', H2.out.tbl.of_yes hx⟩
    rw [HY.out] at this
    cases this
end Go.Proofs.Ytcioiiobjfblbaa
