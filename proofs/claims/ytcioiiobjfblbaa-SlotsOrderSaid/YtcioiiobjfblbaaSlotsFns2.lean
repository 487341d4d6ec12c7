/- slots.Table: Delete, New, All. -/
import Derived.Test.YtcioiiobjfblbaaSlotsFns
namespace Go.Proofs.Ytcioiiobjfblbaa
set_option linter.unusedVariables false
set_option linter.unusedSimpArgs false
open Go.RowKit Go.Shelf Go.Proofs

theorem flat_set3 {s : List Sl.Slt} {p : Nat} (hp : p < s.length) (y : Sl.Slt) :
    flat encSlt (s.set p y) = (((flat encSlt s).set (p * 3) (.int .i64 y.1)).set (p * 3 + 1) (.int .i64 y.2.1)).set (p * 3 + 2) (.int .i64 y.2.2) := by
  induction s generalizing p with
  | nil => simp at hp
  | cons a r ih =>
    cases p with
    | zero => simp [flat, encSlt]
    | succ p =>
      have hp' : p < r.length := by simpa using hp
      have := ih hp'
      simp only [flat, List.set_cons_succ, List.flatMap_cons] at this ⊢
      rw [this, List.set_append, if_neg (by simp [encSlt]; omega), List.set_append, if_neg (by simp [encSlt]; omega), List.set_append, if_neg (by simp [encSlt]; omega)]
      simp only [encSlt_len]
      congr 2
      · congr 1
        · congr 1; omega
        · omega
      · omega
theorem Blk.set3 {w : World} {g : Nat} {s : List Sl.Slt} (h : Blk w g 74 (flat encSlt s).toArray) {p : Nat} (hp : p < s.length) (a b c : Int) :
    Blk (((w.setCell ⟨g, p * 3, none⟩ (.int .i64 a)).setCell ⟨g, p * 3 + 1, none⟩ (.int .i64 b)).setCell ⟨g, p * 3 + 2, none⟩ (.int .i64 c)) g 74 (flat encSlt (s.set p (a, b, c))).toArray := by
  rw [flat_set3 hp]
  simpa using ((h.set _ _).set _ _).set _ _

/-- one slot is written -/
abbrev set3 (w : World) (g p : Nat) (a b c : Int) : World := ((w.setCell ⟨g, p * 3, none⟩ (.int .i64 a)).setCell ⟨g, p * 3 + 1, none⟩ (.int .i64 b)).setCell ⟨g, p * 3 + 2, none⟩ (.int .i64 c)
theorem TabW.put {w : World} {Bt : Nat} {room count used : Int} {Bs cap : Nat} {s : List Sl.Slt} (h : TabW w Bt room count used Bs cap s) {p : Nat} (hp : p < s.length) (a b c : Int) : TabW (set3 w Bs p a b c) Bt room count used Bs cap (s.set p (a, b, c)) := by
  refine ⟨?_, h.rows.set3 hp a b c, by rw [List.length_set]; exact h.cap, h.ne⟩
  rw [List.length_set]
  exact ((h.head.other ⟨Bs, _, none⟩ _ h.ne).other ⟨Bs, _, none⟩ _ h.ne).other ⟨Bs, _, none⟩ _ h.ne
theorem TabW.count {w : World} {Bt : Nat} {room count used : Int} {Bs cap : Nat} {s : List Sl.Slt} (h : TabW w Bt room count used Bs cap s) (c : Int) : TabW (w.setCell ⟨Bt, 1, none⟩ (.int .i64 c)) Bt room c used Bs cap s :=
  ⟨h.head.set 1 _, h.rows.other ⟨Bt, _, none⟩ _ (Ne.symm h.ne), h.cap, h.ne⟩
theorem TabW.used {w : World} {Bt : Nat} {room count used : Int} {Bs cap : Nat} {s : List Sl.Slt} (h : TabW w Bt room count used Bs cap s) (c : Int) : TabW (w.setCell ⟨Bt, 2, none⟩ (.int .i64 c)) Bt room count c Bs cap s :=
  ⟨h.head.set 2 _, h.rows.other ⟨Bt, _, none⟩ _ (Ne.symm h.ne), h.cap, h.ne⟩
theorem KeepT.set3 {A B : World} (h : KeepT A B) {g : Nat} {cs : Array Value} (hb : Blk B g 74 cs) (p : Nat) (a b c : Int) : KeepT A (Go.Proofs.Ytcioiiobjfblbaa.set3 B g p a b c) :=
  ((h.setS hb _ _).setS (hb.set _ _) _ _).setS ((hb.set _ _).set _ _) _ _
theorem below_set3 {B : Nat} {A W : World} (h : Below B A W) {g : Nat} (hg : B ≤ g) (p : Nat) (a b c : Int) : Below B A (Go.Proofs.Ytcioiiobjfblbaa.set3 W g p a b c) :=
  ((h.setCell (p := ⟨g, p * 3, none⟩) hg _).setCell (p := ⟨g, p * 3 + 1, none⟩) hg _).setCell (p := ⟨g, p * 3 + 2, none⟩) hg _

theorem after_del {B Bt : Nat} {room : Int} {M : List Sl.It} {Bs cap k0 : Nat} {s : List Sl.Slt} {w w2 : World} (h2 : TabS Bt room M Bs cap k0 s w) (hb : Below w.heap.size w w2) (h0 : B ≤ Bt) (h1 : B ≤ Bs) (hB : B ≤ w.heap.size)
    {lab v : Int} {p : Nat} (hx : s[p]? = some (2, lab, v)) :
    TabI B Bt room (Sl.del M lab) ((set3 w2 Bs p 1 0 0).setCell ⟨Bt, 1, none⟩ (.int .i64 ((M.length : Int) - 1))) ∧ KeepT w ((set3 w2 Bs p 1 0 0).setCell ⟨Bt, 1, none⟩ (.int .i64 ((M.length : Int) - 1))) ∧
      Below B w ((set3 w2 Bs p 1 0 0).setCell ⟨Bt, 1, none⟩ (.int .i64 ((M.length : Int) - 1))) := by
  have hp : p < s.length := (List.getElem?_eq_some_iff.1 hx).1
  have hT := h2.mem.below hb (Nat.le_refl _)
  have hin := h2.tbl.of_yes hx
  have hyes : Sl.hasB M lab = true := (Sl.has_iff h2.rise lab).2 ⟨v, hin⟩
  have hl := Sl.length_del hyes
  have hT2 := (hT.put hp 1 0 0).count ((M.length : Int) - 1)
  have e1 : ((M.length : Int) - 1) = ((Sl.del M lab).length : Int) := by omega
  have hu := Sl.countP_set (fun x : Sl.Slt => decide (x.1 ≠ 0)) hx (1, 0, 0)
  have ht := Sl.countP_set (fun x : Sl.Slt => decide (x.1 = 2)) hx (1, 0, 0)
  simp at hu ht
  refine ⟨⟨h0, Bs, cap, k0, s.set p (1, 0, 0), h1, ?_⟩, ((KeepT.of_below hb).set3 hT.rows p 1 0 0).setT (hT.put hp 1 0 0).head 1 _, (below_set3 (hb.mono hB) h1 p 1 0 0).setCell (p := ⟨Bt, 1, none⟩) h0 _⟩
  have hus : Sl.usedN (s.set p (1, 0, 0)) = Sl.usedN s := by unfold Sl.usedN; simpa using hu
  refine ⟨by rw [hus, ← e1]; exact hT2, by rw [List.length_set]; exact h2.pow, by rw [List.length_set]; exact h2.lo, by rw [List.length_set]; exact h2.hi, (h2.tbl.del hx).congr fun x => (Sl.mem_del h2.rise hyes x).symm, Sl.rise_del h2.rise lab, fun x hx' => h2.lab x ((Sl.mem_del h2.rise hyes x).1 hx').1,
    by rw [hus, List.length_set]; exact h2.half, ?_, h2.room1, h2.room2, by have := h2.fits; omega⟩
  have := h2.cnt
  have hts : Sl.thereN (s.set p (1, 0, 0)) + 1 = Sl.thereN s := by unfold Sl.thereN; simpa using ht
  omega

set_option maxRecDepth 100000 in
set_option maxHeartbeats 2000000 in
theorem slots_Delete_there (B Bt : Nat) (room : Int) (M : List Sl.It) (lab : Int) (w : World) (hT : TabI B Bt room M w) (hB : B ≤ w.heap.size) (hl0 : 0 ≤ lab) (hl1 : lab ≤ 1048575) (hyes : Sl.hasB M lab = true) :
    Calls Try.prog 35 #[.pointer (some ⟨Bt, 0, none⟩), .int .i64 lab] w fun e w' => e = .returned (.int .i64 0) ∧ TabI B Bt room (Sl.del M lab) w' ∧ KeepT w w' ∧ Below B w w' := by
  obtain ⟨h0, Bs, cap, k0, s, h1, h2⟩ := hT
  have HO : Hid (okLab lab = true) := Lib.hid (okLab_iff.2 ⟨hl0, hl1⟩)
  have hcall := Lib.hid (h2.use lab hl0 hl1)
  have H2 := Lib.hid h2
  have HY := Lib.hid hyes
  clear h2 hyes
  go_enter Try.func35, Try.ntmps35
  go_wp2_with (go_at_call 50; refine (slots_right lab _).mono ?_; rw [HO.out]; rintro e w1 ⟨rfl, rfl⟩)
  refine hcall.out.mono ?_
  rintro e w2 ⟨p, b, rfl, hy, hn, hb⟩
  cases b
  · exfalso
    obtain ⟨v, hv⟩ := (Sl.has_iff H2.out.rise lab).1 HY.out
    exact H2.out.tbl.not_there (hn rfl) v hv
  · obtain ⟨v, hx⟩ := hy rfl
    have hT := H2.out.mem.below hb (Nat.le_refl _)
    obtain ⟨c0, c1, c2⟩ := hT.slot hx
    have ch := hT.head.cell 3
    have cn := hT.head.cell 1
    have fh := hT.head.frozen' 1
    have f0 := hT.rows.frozen' (p * 3)
    have f1 := hT.rows.frozen' (p * 3 + 1)
    have f2 := hT.rows.frozen' (p * 3 + 2)
    have hne := hT.ne
    simp at ch cn
    have hp : p < s.length := (List.getElem?_eq_some_iff.1 hx).1
    have hs := H2.out.hi
    have hMl : 1 ≤ M.length ∧ M.length ≤ 65536 := by
      have h3 := Sl.length_del HY.out
      have h4 := H2.out.fits
      have h5 := H2.out.room2
      omega
    have HXx := Lib.hid hx
    have HT := Lib.hid hT
    clear hy hn hT hx
    go_wp2
    go_ret
    exact ⟨rfl, after_del H2.out hb h0 h1 hB HXx.out⟩

set_option maxHeartbeats 2000000 in
theorem slots_Delete_none (B Bt : Nat) (room : Int) (M : List Sl.It) (lab : Int) (w : World) (hT : TabI B Bt room M w) (hB : B ≤ w.heap.size) (hl0 : 0 ≤ lab) (hl1 : lab ≤ 1048575) (hno : Sl.hasB M lab = false) :
    Calls Try.prog 35 #[.pointer (some ⟨Bt, 0, none⟩), .int .i64 lab] w fun e w' => e = .returned (.int .i64 31) ∧ Below w.heap.size w w' := by
  obtain ⟨h0, Bs, cap, k0, s, h1, h2⟩ := hT
  have HO : Hid (okLab lab = true) := Lib.hid (okLab_iff.2 ⟨hl0, hl1⟩)
  have hcall := Lib.hid (h2.use lab hl0 hl1)
  have H2 := Lib.hid h2
  have HY := Lib.hid hno
  clear h2 hno
  go_enter Try.func35, Try.ntmps35
  go_wp2_with (go_at_call 50; refine (slots_right lab _).mono ?_; rw [HO.out]; rintro e w1 ⟨rfl, rfl⟩)
  refine hcall.out.mono ?_
  rintro e w2 ⟨p, b, rfl, hy, hn, hb⟩
  cases b
  · clear hy hn
    go_wp2
    go_ret
    exact ⟨rfl, hb⟩
  · exfalso
    obtain ⟨v, hx⟩ := hy rfl
    have := (Sl.has_iff H2.out.rise lab).2 ⟨v, H2.out.tbl.of_yes hx⟩
    rw [HY.out] at this
    cases this
set_option maxHeartbeats 2000000 in
theorem slots_Delete_bad (p : Addr) (lab : Int) (w : World) (ho : okLab lab = false) :
    Calls Try.prog 35 #[.pointer (some p), .int .i64 lab] w fun e w' => e = .returned (.int .i64 40) ∧ w = w' := by
  have HO := Lib.hid ho
  clear ho
  go_enter Try.func35, Try.ntmps35
  go_wp2_with (go_at_call 50; refine (slots_right lab _).mono ?_; rw [HO.out]; rintro e w1 ⟨rfl, rfl⟩)
  go_ret
  exact ⟨rfl, rfl⟩
set_option maxHeartbeats 2000000 in
theorem slots_Delete_nil (lab : Int) (w : World) :
    Calls Try.prog 35 #[.pointer none, .int .i64 lab] w fun e w' => e = .returned (.int .i64 1) ∧ w = w' := by
  go_enter Try.func35, Try.ntmps35
  go_wp2
  go_ret
  exact ⟨rfl, rfl⟩
end Go.Proofs.Ytcioiiobjfblbaa
