/- SlotsRuns. -/
import Derived.Test.YtcioiiobjfblbaaSlotsLaw2
namespace Go.Proofs.Ytcioiiobjfblbaa
set_option linter.unusedVariables false
set_option linter.unusedSimpArgs false
open Go.RowKit Go.Shelf Go.Proofs

/-- both sides between two steps -/
structure RS (w0 : World) (B Bw : Nat) (p : Value) (is : Bool) (R : Int) (M : List Sl.It) (vL : Value) (wr : World) : Prop where
  tab : TS B p is R M wr
  box : Blk wr Bw 40 #[.bool is, .int .i64 R, vL]
  row : SlR wr 2 encIt vL M
  ty : TyI wr vL
  below : Below w0.heap.size w0 wr
  hb : w0.heap.size ≤ B
  hB : B ≤ wr.heap.size
  hbw : w0.heap.size ≤ Bw
theorem RS.next {w0 : World} {B Bw : Nat} {p : Value} {is : Bool} {R : Int} {M : List Sl.It} {vL : Value} {wr w1 : World} (h : RS w0 B Bw p is R M vL wr) (hb : Below wr.heap.size wr w1) : RS w0 B Bw p is R M vL w1 :=
  ⟨h.tab.below hb, (hb.block _ h.box.lt).trans h.box, h.row.below hb (Nat.le_refl _), h.ty.below hb (Nat.le_refl _), h.below.trans (hb.mono h.below.size), h.hb, Nat.le_trans h.hB hb.size, h.hbw⟩
theorem slr_keep {w w1 : World} {v : Value} {L : List Sl.It} (h : SlR w 2 encIt v L) (ht : TyI w v) (k : KeepT w w1) : SlR w1 2 encIt v L ∧ TyI w1 v := by
  obtain ⟨p, c, rfl, h1, h2, hR⟩ := h
  have hsame : ∀ a, p = some a → ∃ cs f, w.heap[a.block]? = some (.cells cs 58 f) ∧ w1.heap[a.block]? = some (.cells cs 58 f) := fun a ha => by
    subst ha
    obtain ⟨cs, f, hh⟩ := ht a _ _ rfl
    exact ⟨cs, f, hh, k.same _ _ _ _ hh (by decide) (by decide)⟩
  refine ⟨⟨p, c, rfl, h1, h2, hR.1, fun a ha => ?_⟩, fun a n c' e => ?_⟩
  · obtain ⟨h6, h7, h8⟩ := hR.2 a ha
    obtain ⟨cs, f, e1, e2⟩ := hsame a ha
    refine ⟨h6, Nat.lt_of_lt_of_le h7 k.size, fun i x hx j u hu => ?_⟩
    have hc := h8 i x hx j u hu
    rw [← hc]
    simp only [World.cell?, e1, e2]
  · cases e
    obtain ⟨cs, f, _, e2⟩ := hsame a rfl
    exact ⟨cs, f, e2⟩
/-- behind a step of the table -/
theorem RS.step {w0 : World} {B Bw : Nat} {p : Value} {is : Bool} {R : Int} {M M' : List Sl.It} {vL : Value} {wr w1 : World} (h : RS w0 B Bw p is R M vL wr) (ht : TS B p is R M' w1) (k : KeepT wr w1) (hb : Below B wr w1) :
    TS B p is R M' w1 ∧ Blk w1 Bw 40 #[.bool is, .int .i64 R, vL] ∧ SlR w1 2 encIt vL M ∧ TyI w1 vL ∧ Below w0.heap.size w0 w1 ∧ B ≤ w1.heap.size :=
  ⟨ht, h.box.keepT k (by decide) (by decide), (slr_keep h.row h.ty k).1, (slr_keep h.row h.ty k).2, h.below.trans (hb.mono h.hb), Nat.le_trans h.hB hb.size⟩

/-- three cells are written over -/
theorem Blk.over {w : World} {g : Nat} {t : TypeId} {x y z : Value} (h : Blk w g t #[x, y, z]) (x' y' z' : Value) : Blk (((w.setCell ⟨g, 0, none⟩ x').setCell ⟨g, 1, none⟩ y').setCell ⟨g, 2, none⟩ z') g t #[x', y', z'] := ((h.set 0 x').set 1 y').set 2 z'
theorem KeepB.row {w : World} {v : Value} {L : List Sl.It} (h : SlR w 2 encIt v L) (ht : TyI w v) {g : Nat} {cs : Array Value} (hb : Blk w g 40 cs) (i : Nat) (u : Value) : SlR (w.setCell ⟨g, i, none⟩ u) 2 encIt v L ∧ TyI (w.setCell ⟨g, i, none⟩ u) v := by
  refine ⟨?_, ht.set _ _⟩
  obtain ⟨p, c, rfl, h1, h2, hR⟩ := h
  refine ⟨p, c, rfl, h1, h2, hR.1, fun a ha => ?_⟩
  obtain ⟨h6, h7, h8⟩ := hR.2 a ha
  refine ⟨h6, by simpa [World.setCell] using h7, fun i' x hx j u' hu => ?_⟩
  rw [World.cell?_setCell_other _ _ _ _ (by
    intro e
    have e2 := congrArg Addr.block e
    simp only at e2
    subst ha
    obtain ⟨cs', f, hh⟩ := ht a _ _ rfl
    have e3 : a.block = g := by omega
    rw [e3, show w.heap[g]? = _ from hb] at hh
    cases hh)]
  exact h8 i' x hx j u' hu
theorem KeepT.box {w : World} {g : Nat} {cs : Array Value} (hb : Blk w g 40 cs) (B : Nat) {p : Value} {is : Bool} {R : Int} {M : List Sl.It} (h : TS B p is R M w) (i : Nat) (u : Value) : TS B p is R M (w.setCell ⟨g, i, none⟩ u) := by
  rcases h with ⟨h1, Bt, h2, h3⟩ | h
  · refine .inl ⟨h1, Bt, h2, ?_⟩
    obtain ⟨k0, Bs, cap, k1, s, k2, k3⟩ := h3
    refine ⟨k0, Bs, cap, k1, s, k2, { k3 with mem := ⟨k3.mem.head.other _ _ ?_, k3.mem.rows.other _ _ ?_, k3.mem.cap, k3.mem.ne⟩ }⟩
    · rintro rfl
      have := (show w.heap[_]? = _ from hb).symm.trans k3.mem.head
      cases this
    · rintro rfl
      have := (show w.heap[_]? = _ from hb).symm.trans k3.mem.rows
      cases this
  · exact .inr h

/-- the next state's value goes into its box -/
theorem RS.store {w0 : World} {B Bw : Nat} {p : Value} {is : Bool} {R : Int} {M : List Sl.It} {vO vL : Value} {w : World} (ht : TS B p is R M w) (hb : Blk w Bw 40 #[.bool is, .int .i64 R, vO]) (hr : SlR w 2 encIt vL M) (hy : TyI w vL) (hbl : Below w0.heap.size w0 w) (h1 : w0.heap.size ≤ B) (h2 : B ≤ w.heap.size) (h3 : w0.heap.size ≤ Bw) :
    RS w0 B Bw p is R M vL (((w.setCell ⟨Bw, 0, none⟩ (.bool is)).setCell ⟨Bw, 1, none⟩ (.int .i64 R)).setCell ⟨Bw, 2, none⟩ vL) := by
  have b1 := hb.set 0 (.bool is)
  have b2 := b1.set 1 (.int .i64 R)
  have r1 := KeepB.row hr hy hb 0 (.bool is)
  have r2 := KeepB.row r1.1 r1.2 b1 1 (.int .i64 R)
  have r3 := KeepB.row r2.1 r2.2 b2 2 vL
  exact ⟨KeepT.box b2 B (KeepT.box b1 B (KeepT.box hb B ht 0 _) 1 _) 2 _, hb.over _ _ _, r3.1, r3.2, ((hbl.setCell (p := ⟨Bw, 0, none⟩) h3 _).setCell (p := ⟨Bw, 1, none⟩) h3 _).setCell (p := ⟨Bw, 2, none⟩) h3 _, h1, by simpa [World.setCell] using h2, h3⟩

set_option maxRecDepth 1000000 in
set_option maxHeartbeats 16000000 in
theorem law_runs (room : Int) (script : List Sl.Slt) (v : Value) (w : World) (hv : SlR w 3 encSlt v script) :
    Calls Try.prog 8 #[.int .i64 room, v] w fun e w' => e = .returned (.bool true) ∧ Below w.heap.size w w' := by
  obtain ⟨p, cap, rfl, hq1, hq2, hR⟩ := hv
  by_cases hlen : script.length ≤ 80
  · have e1 : decide (80 < (script.length : Int)) = false := by simp; omega
    have HR := Lib.hid hR
    clear hR hq1
    go_enter Try.func8, Try.ntmps8
    go_wp2_with fail
    refine (law13_awake _).mono ?_
    rintro e w1 ⟨rfl, hb1⟩
    go_wp2_with fail
    obtain ⟨is, R, his, hRr, hN, hM⟩ := new_any room w1
    have HIS := Lib.hid his
    have HRR := Lib.hid hRr
    have HMM := Lib.hid hM
    clear his hRr hM e1
    refine hN.mono ?_
    rintro e w2 ⟨t, rfl, hts, ⟨ta, rfl, hta⟩, hb2⟩
    go_wp2_with fail
    refine (HMM.out _).mono ?_
    rintro e w3 ⟨rfl, hb3⟩
    have hrs : RS w w1.heap.size w3.heap.size (.pointer ta) is R [] (.slice none 0 0) (w3.alloc (.cells #[.bool is, .int .i64 R, .slice none 0 0] 40)) := by
      have hba : Below w3.heap.size w3 (w3.alloc (.cells #[.bool is, .int .i64 R, .slice none 0 0] 40)) := (Below.refl _ _).alloc (Nat.le_refl _) _
      have hb13 : Below w1.heap.size w1 w3 := hb2.trans (hb3.mono hb2.size)
      have hz := hb1.size
      have hz2 := hb13.size
      refine ⟨(hts.below hb3).below hba, Blk.new w3 _ _, ⟨none, 0, rfl, Nat.le_refl _, by omega, fun _ => rfl, fun a ha => by cases ha⟩, fun a n c e => (by cases e), (hb1.trans (hb13.mono hz)).trans (hba.mono (by omega)), hz, by simp; omega, by omega⟩
    clear hb1 hb2 hb3 hts HMM HIS HRR
    have hbx := hrs.box
    have HRS := Lib.hid hrs
    have d0 := hbx.cell 0
    simp at d0
    have hbB : w3.heap.size < (w3.alloc (.cells #[.bool is, .int .i64 R, .slice none 0 0] 40)).heap.size := by simp
    clear hrs hbx
    go_wp2_with fail
    clear d0 hta
    have hR0 := HRS.out
    generalize w3.alloc (.cells #[.bool is, .int .i64 R, .slice none 0 0] 40) = W3 at hR0 hbB HRS ⊢
    generalize w3.heap.size = Bw at hR0 hbB HRS ⊢
    go_loopw [8] (fun i wr => ∃ (k : Nat) (M : List Sl.It) (vL : Value), i = .int .i64 k ∧ k ≤ script.length ∧ RS w w1.heap.size Bw (.pointer ta) is R M vL wr) (fun i _ => script.length - (intOf i).toNat)
    case atStart => exact ⟨0, [], _, rfl, Nat.zero_le _, hR0⟩
    case round =>
      clear hR0 HRS hbB
      obtain ⟨k, M, vL, rfl, hk, hrs⟩ := hrel
      obtain ⟨pL, cL, rfl, hl1, hl2, hRL⟩ := hrs.row
      have HL := Lib.hid hrs.tab.len
      by_cases hlt : k < script.length
      · obtain ⟨b, off, rfl, hbs, h3⟩ := (HR.out.below hrs.below (Nat.le_refl _)).at hlt
        obtain ⟨⟨kd, lab, va⟩, hx⟩ : ∃ x, x = script[k] := ⟨_, rfl⟩
        rw [← hx] at h3
        have x0 : wr.cell? ⟨b, off + k * 3, none⟩ = some (.int .i64 kd) := h3 0 _ rfl
        have x1 : wr.cell? ⟨b, off + k * 3 + 1, none⟩ = some (.int .i64 lab) := h3 1 _ rfl
        have x2 : wr.cell? ⟨b, off + k * 3 + 2, none⟩ = some (.int .i64 va) := h3 2 _ rfl
        have hba : Below wr.heap.size wr (wr.alloc (.cells #[.int .i64 kd, .int .i64 lab, .int .i64 va] 43)) := (Below.refl _ _).alloc (Nat.le_refl _) _
        have HN := Lib.hid (hrs.next hba)
        have HSB := Lib.hid (Blk.new wr 43 #[.int .i64 kd, .int .i64 lab, .int .i64 va])
        have hnb : wr.heap.size ≠ Bw := Nat.ne_of_gt hrs.box.lt
        clear hx h3 hrs hba hRL hl1 hl2
        by_cases hk0 : kd = 0
        · subst hk0
          obtain ⟨c, M2, hput⟩ : ∃ c M2, putS is R M lab va = (c, M2) := ⟨_, _, rfl⟩
          have HPa : Hid (∀ W, TS w1.heap.size (.pointer ta) is R M W → w1.heap.size ≤ W.heap.size → Calls Try.prog 33 #[.pointer ta, .int .i64 lab, .int .i64 va] W (StepRet w1.heap.size (.pointer ta) is R c M2 W)) := Lib.hid fun W h1 h2 => by
            have := put_any w1.heap.size (.pointer ta) is R M lab va W h1 h2
            rw [hput] at this; exact this
          have HRp : Hid (∀ v W, SlR W 2 encIt v M → TyI W v → Calls Try.prog 34 #[.agg #[.bool is, .int .i64 R, v], .int .i64 lab, .int .i64 va] W (RetTE is R c M2 W)) := Lib.hid fun v W h1 h2 => by
            have := rput_any is R M (by have := HL.out; omega) lab va v W h1 h2
            rw [hput] at this; exact this
          clear hput
          go_wp2_with fail
          refine (HPa.out _ HN.out.tab HN.out.hB).mono ?_
          rintro e w4 ⟨rfl, h4t, hk4, hb4⟩
          obtain ⟨t4, b4, r4, y4, bl4, z4⟩ := HN.out.step h4t hk4 hb4
          have sb4 : Blk w4 wr.heap.size _ _ := HSB.out.keepT hk4 (by decide) (by decide)
          have c1 := sb4.cell 1
          have c2 := sb4.cell 2
          have q0 := b4.cell 0
          have q1 := b4.cell 1
          have q2 := b4.cell 2
          simp at c1 c2 q0 q1 q2
          have T4 := Lib.hid t4
          have BX4 := Lib.hid b4
          have BL4 := Lib.hid bl4
          have SB4 := Lib.hid sb4
          have HC := Lib.hid (HRp.out _ _ r4 y4)
          clear h4t hk4 hb4 t4 b4 r4 y4 bl4 sb4
          go_wp2_with fail
          refine HC.out.mono ?_
          rintro e w5 ⟨v5, rfl, hr5, hy5, hb5⟩
          have T5 := Lib.hid (T4.out.below hb5)
          have BX5 : Hid (Blk w5 Bw _ _) := Lib.hid ((hb5.block _ BX4.out.lt).trans BX4.out)
          have BL5 := Lib.hid (BL4.out.trans (hb5.mono BL4.out.size))
          have SB5 : Hid (Blk w5 wr.heap.size _ _) := Lib.hid ((hb5.block _ SB4.out.lt).trans SB4.out)
          have z5 : w1.heap.size ≤ w5.heap.size := Nat.le_trans z4 hb5.size
          have HR5 := Lib.hid hr5
          have HY5 := Lib.hid hy5
          obtain ⟨p5, c5, rfl, hd1, hd2, hR5⟩ := hr5
          have a0 := fun o => (BX5.out.alloc o).cell 0
          have a1 := fun o => (BX5.out.alloc o).cell 1
          have a2 := fun o => (BX5.out.alloc o).cell 2
          have g0 := fun o => (BX5.out.alloc o).frozen' 0
          have g1 := fun o => (BX5.out.alloc o).frozen' 1
          have g2 := fun o => (BX5.out.alloc o).frozen' 2
          have e1' := fun o => (SB5.out.alloc o).cell 1
          simp at a0 a1 a2 e1'
          have hba5 : ∀ o, Below w5.heap.size w5 (w5.alloc o) := fun o => (Below.refl _ _).alloc (Nat.le_refl _) _
          have HBA5 := Lib.hid hba5
          clear c1 c2 q0 q1 q2 hb5 hy5 hR5 hd1 hd2 hba5
          go_wp2_with fail
          clear a0 a1 a2 g0 g1 g2 e1'
          have h6 := RS.store (w0 := w) (B := w1.heap.size) (T5.out.below (HBA5.out (.cells #[.bool is, .int .i64 R, .slice p5 M2.length c5] 40))) (BX5.out.alloc _) (HR5.out.below (HBA5.out _) (Nat.le_refl _)) (HY5.out.below (HBA5.out _) (Nat.le_refl _)) (BL5.out.trans ((HBA5.out _).mono BL5.out.size)) HN.out.hb (by simp; omega) HN.out.hbw
          have sb6 : Blk ((((w5.alloc (.cells #[.bool is, .int .i64 R, .slice p5 M2.length c5] 40)).setCell ⟨Bw, 0, none⟩ (.bool is)).setCell ⟨Bw, 1, none⟩ (.int .i64 R)).setCell ⟨Bw, 2, none⟩ (.slice p5 M2.length c5)) wr.heap.size _ _ := (((SB5.out.alloc _).other ⟨Bw, 0, none⟩ _ hnb).other ⟨Bw, 1, none⟩ _ hnb).other ⟨Bw, 2, none⟩ _ hnb
          -- h6: both sides; sb6: the step's box
          have HL6 := Lib.hid (h6.tab.len)
          have H6 := Lib.hid h6
          have c1 := sb6.cell 1
          simp at c1
          have HG6 := Lib.hid (get_any _ _ is R M2 lab _ h6.tab)
          have HSB6 := Lib.hid sb6
          clear h6 sb6
          generalize hgv : getW M2 lab = gv at HG6
          generalize hgb : Sl.hasB M2 lab = gb at HG6
          have HGV := Lib.hid hgv
          have HGB := Lib.hid hgb
          clear hgv hgb
          refine HG6.out.mono ?_
          rintro e w7 ⟨rfl, hb7⟩
          have h7 := H6.out.next hb7
          have sb7 : Blk w7 wr.heap.size _ _ := (hb7.block _ HSB6.out.lt).trans HSB6.out
          clear c1 hb7
          have c1 := sb7.cell 1
          have q0 := h7.box.cell 0
          have q1 := h7.box.cell 1
          have q2 := h7.box.cell 2
          simp at c1 q0 q1 q2
          have H7 := Lib.hid h7
          have HSB7 := Lib.hid sb7
          have HR7 := Lib.hid (ref13_Get is R M2 (by have := HL6.out; omega) lab _ _ h7.row)
          rw [HGV.out, HGB.out] at HR7
          clear h7 sb7
          go_wp2_with fail
          refine HR7.out.mono ?_
          rintro e w8 ⟨rfl, hb8⟩
          have h8 := H7.out.next hb8
          clear c1 q0 q1 q2 hb8
          have q2 := h8.box.cell 2
          simp at q2
          have H8 := Lib.hid h8
          have hlen8 : M2.length ≤ 65536 := HL6.out
          have HLn : Hid (∀ n, Calls Try.prog 39 #[.pointer ta] (w8.drewN n) fun e w' => e = .returned (.int .i64 (M2.length : Int)) ∧ w' = w8.drewN n) := Lib.hid fun n => (len_any _ _ is R M2 _ (h8.next (below_drewN (Below.refl _ _) n)).tab).mono fun e w' h => ⟨h.1, h.2.symm⟩
          clear h8
          go_wp2_with fail
          go_quiet ((go_at_call 39; exact Calls.quiet_of_same (HLn.out _)))
          go_wp2
          exact ⟨⟨k + 1, M2, _, by simp, by omega, H8.out.next (below_drewN (Below.refl _ _) nq)⟩, by simp [intOf]; omega⟩
        · by_cases hk1 : kd = 1
          · subst hk1
            obtain ⟨c, M2, hput⟩ : ∃ c M2, delS is M lab = (c, M2) := ⟨_, _, rfl⟩
            have HPa : Hid (∀ W, TS w1.heap.size (.pointer ta) is R M W → w1.heap.size ≤ W.heap.size → Calls Try.prog 35 #[.pointer ta, .int .i64 lab] W (StepRet w1.heap.size (.pointer ta) is R c M2 W)) := Lib.hid fun W h1 h2 => by
              have := del_any w1.heap.size (.pointer ta) is R M lab W h1 h2
              rw [hput] at this; exact this
            have HRp : Hid (∀ v W, SlR W 2 encIt v M → TyI W v → Calls Try.prog 36 #[.agg #[.bool is, .int .i64 R, v], .int .i64 lab] W (RetTE is R c M2 W)) := Lib.hid fun v W h1 h2 => by
              have := rdel_any is R M (by have := HL.out; omega) lab v W h1 h2
              rw [hput] at this; exact this
            clear hput
            go_wp2_with fail
            refine (HPa.out _ HN.out.tab HN.out.hB).mono ?_
            rintro e w4 ⟨rfl, h4t, hk4, hb4⟩
            obtain ⟨t4, b4, r4, y4, bl4, z4⟩ := HN.out.step h4t hk4 hb4
            have sb4 : Blk w4 wr.heap.size _ _ := HSB.out.keepT hk4 (by decide) (by decide)
            have c1 := sb4.cell 1
            have q0 := b4.cell 0
            have q1 := b4.cell 1
            have q2 := b4.cell 2
            simp at c1 q0 q1 q2
            have T4 := Lib.hid t4
            have BX4 := Lib.hid b4
            have BL4 := Lib.hid bl4
            have SB4 := Lib.hid sb4
            have HC := Lib.hid (HRp.out _ _ r4 y4)
            clear h4t hk4 hb4 t4 b4 r4 y4 bl4 sb4
            go_wp2_with fail
            refine HC.out.mono ?_
            rintro e w5 ⟨v5, rfl, hr5, hy5, hb5⟩
            have T5 := Lib.hid (T4.out.below hb5)
            have BX5 : Hid (Blk w5 Bw _ _) := Lib.hid ((hb5.block _ BX4.out.lt).trans BX4.out)
            have BL5 := Lib.hid (BL4.out.trans (hb5.mono BL4.out.size))
            have SB5 : Hid (Blk w5 wr.heap.size _ _) := Lib.hid ((hb5.block _ SB4.out.lt).trans SB4.out)
            have z5 : w1.heap.size ≤ w5.heap.size := Nat.le_trans z4 hb5.size
            have HR5 := Lib.hid hr5
            have HY5 := Lib.hid hy5
            obtain ⟨p5, c5, rfl, hd1, hd2, hR5⟩ := hr5
            have a0 := fun o => (BX5.out.alloc o).cell 0
            have a1 := fun o => (BX5.out.alloc o).cell 1
            have a2 := fun o => (BX5.out.alloc o).cell 2
            have g0 := fun o => (BX5.out.alloc o).frozen' 0
            have g1 := fun o => (BX5.out.alloc o).frozen' 1
            have g2 := fun o => (BX5.out.alloc o).frozen' 2
            have e1' := fun o => (SB5.out.alloc o).cell 1
            simp at a0 a1 a2 e1'
            have hba5 : ∀ o, Below w5.heap.size w5 (w5.alloc o) := fun o => (Below.refl _ _).alloc (Nat.le_refl _) _
            have HBA5 := Lib.hid hba5
            clear c1 q0 q1 q2 hb5 hy5 hR5 hd1 hd2 hba5
            go_wp2_with fail
            clear a0 a1 a2 g0 g1 g2 e1'
            have h6 := RS.store (w0 := w) (B := w1.heap.size) (T5.out.below (HBA5.out (.cells #[.bool is, .int .i64 R, .slice p5 M2.length c5] 40))) (BX5.out.alloc _) (HR5.out.below (HBA5.out _) (Nat.le_refl _)) (HY5.out.below (HBA5.out _) (Nat.le_refl _)) (BL5.out.trans ((HBA5.out _).mono BL5.out.size)) HN.out.hb (by simp; omega) HN.out.hbw
            have sb6 : Blk ((((w5.alloc (.cells #[.bool is, .int .i64 R, .slice p5 M2.length c5] 40)).setCell ⟨Bw, 0, none⟩ (.bool is)).setCell ⟨Bw, 1, none⟩ (.int .i64 R)).setCell ⟨Bw, 2, none⟩ (.slice p5 M2.length c5)) wr.heap.size _ _ := (((SB5.out.alloc _).other ⟨Bw, 0, none⟩ _ hnb).other ⟨Bw, 1, none⟩ _ hnb).other ⟨Bw, 2, none⟩ _ hnb
            -- h6: both sides; sb6: the step's box
            have HL6 := Lib.hid (h6.tab.len)
            have H6 := Lib.hid h6
            have c1 := sb6.cell 1
            simp at c1
            have HG6 := Lib.hid (get_any _ _ is R M2 lab _ h6.tab)
            have HSB6 := Lib.hid sb6
            clear h6 sb6
            generalize hgv : getW M2 lab = gv at HG6
            generalize hgb : Sl.hasB M2 lab = gb at HG6
            have HGV := Lib.hid hgv
            have HGB := Lib.hid hgb
            clear hgv hgb
            refine HG6.out.mono ?_
            rintro e w7 ⟨rfl, hb7⟩
            have h7 := H6.out.next hb7
            have sb7 : Blk w7 wr.heap.size _ _ := (hb7.block _ HSB6.out.lt).trans HSB6.out
            clear c1 hb7
            have c1 := sb7.cell 1
            have q0 := h7.box.cell 0
            have q1 := h7.box.cell 1
            have q2 := h7.box.cell 2
            simp at c1 q0 q1 q2
            have H7 := Lib.hid h7
            have HSB7 := Lib.hid sb7
            have HR7 := Lib.hid (ref13_Get is R M2 (by have := HL6.out; omega) lab _ _ h7.row)
            rw [HGV.out, HGB.out] at HR7
            clear h7 sb7
            go_wp2_with fail
            refine HR7.out.mono ?_
            rintro e w8 ⟨rfl, hb8⟩
            have h8 := H7.out.next hb8
            clear c1 q0 q1 q2 hb8
            have q2 := h8.box.cell 2
            simp at q2
            have H8 := Lib.hid h8
            have hlen8 : M2.length ≤ 65536 := HL6.out
            have HLn : Hid (∀ n, Calls Try.prog 39 #[.pointer ta] (w8.drewN n) fun e w' => e = .returned (.int .i64 (M2.length : Int)) ∧ w' = w8.drewN n) := Lib.hid fun n => (len_any _ _ is R M2 _ (h8.next (below_drewN (Below.refl _ _) n)).tab).mono fun e w' h => ⟨h.1, h.2.symm⟩
            clear h8
            go_wp2_with fail
            go_quiet ((go_at_call 39; exact Calls.quiet_of_same (HLn.out _)))
            go_wp2
            exact ⟨⟨k + 1, M2, _, by simp, by omega, H8.out.next (below_drewN (Below.refl _ _) nq)⟩, by simp [intOf]; omega⟩
          · have n0 : (kd == 0) = false := by simpa using hk0
            have n1 : (kd == 1) = false := by simpa using hk1
            have h6 := HN.out
            have sb6 := HSB.out
            go_wp2_with fail
            clear x0 x1 x2 n0 n1
            -- h6: both sides; sb6: the step's box
            have HL6 := Lib.hid (h6.tab.len)
            have H6 := Lib.hid h6
            have c1 := sb6.cell 1
            simp at c1
            have HG6 := Lib.hid (get_any _ _ is R M lab _ h6.tab)
            have HSB6 := Lib.hid sb6
            clear h6 sb6
            generalize hgv : getW M lab = gv at HG6
            generalize hgb : Sl.hasB M lab = gb at HG6
            have HGV := Lib.hid hgv
            have HGB := Lib.hid hgb
            clear hgv hgb
            refine HG6.out.mono ?_
            rintro e w7 ⟨rfl, hb7⟩
            have h7 := H6.out.next hb7
            have sb7 : Blk w7 wr.heap.size _ _ := (hb7.block _ HSB6.out.lt).trans HSB6.out
            clear c1 hb7
            have c1 := sb7.cell 1
            have q0 := h7.box.cell 0
            have q1 := h7.box.cell 1
            have q2 := h7.box.cell 2
            simp at c1 q0 q1 q2
            have H7 := Lib.hid h7
            have HSB7 := Lib.hid sb7
            have HR7 := Lib.hid (ref13_Get is R M (by have := HL6.out; omega) lab _ _ h7.row)
            rw [HGV.out, HGB.out] at HR7
            clear h7 sb7
            go_wp2_with fail
            refine HR7.out.mono ?_
            rintro e w8 ⟨rfl, hb8⟩
            have h8 := H7.out.next hb8
            clear c1 q0 q1 q2 hb8
            have q2 := h8.box.cell 2
            simp at q2
            have H8 := Lib.hid h8
            have hlen8 : M.length ≤ 65536 := HL6.out
            have HLn : Hid (∀ n, Calls Try.prog 39 #[.pointer ta] (w8.drewN n) fun e w' => e = .returned (.int .i64 (M.length : Int)) ∧ w' = w8.drewN n) := Lib.hid fun n => (len_any _ _ is R M _ (h8.next (below_drewN (Below.refl _ _) n)).tab).mono fun e w' h => ⟨h.1, h.2.symm⟩
            clear h8
            go_wp2_with fail
            go_quiet ((go_at_call 39; exact Calls.quiet_of_same (HLn.out _)))
            go_wp2
            exact ⟨⟨k + 1, M, _, by simp, by omega, H8.out.next (below_drewN (Below.refl _ _) nq)⟩, by simp [intOf]; omega⟩
      · have HRS2 := Lib.hid hrs
        have q2 := hrs.box.cell 2
        simp at q2
        have HAl := Lib.hid (all_any _ _ is R M _ hrs.tab)
        clear hrs hRL
        go_wp2_with fail
        clear q2
        refine HAl.out.mono ?_
        rintro e w7 ⟨v7, rfl, ho, hb7⟩
        obtain ⟨p7, c7, rfl, hd1, hd2, hR7⟩ := SlR.of_owns encIt_len ho
        have h7 := HRS2.out.next hb7
        have q2 := h7.box.cell 2
        simp at q2
        have hbx := h7.box
        obtain ⟨pL', cL', heq, _, _, hRL⟩ := h7.row
        injection heq with g1 g2 g3
        subst g1
        clear g2 g3
        have H7 := Lib.hid h7
        have hML := HL.out
        clear ho hb7 h7 hd1 hd2
        go_wp2_with fail
        clear q2
        go_loopw [21] (fun i wr => ∃ k : Nat, i = .int .i64 k ∧ k ≤ M.length ∧ Below w7.heap.size w7 wr) (fun i _ => M.length - (intOf i).toNat)
        case atStart => exact ⟨0, rfl, Nat.zero_le _, Below.refl _ _⟩
        case round =>
          obtain ⟨j, rfl, hj, hbl⟩ := hrel
          by_cases hjl : j < M.length
          · obtain ⟨b1, o1, rfl, _, y3⟩ := (hR7.below hbl (Nat.le_refl _)).at hjl
            obtain ⟨b2, o2, rfl, _, z3⟩ := (hRL.below hbl (Nat.le_refl _)).at hjl
            obtain ⟨⟨m1, m2⟩, hm⟩ : ∃ m, m = M[j] := ⟨_, rfl⟩
            rw [← hm] at y3 z3
            have y0 : _ = some (Value.int .i64 m1) := y3 0 _ rfl
            have y1 : _ = some (Value.int .i64 m2) := y3 1 _ rfl
            have z0 : _ = some (Value.int .i64 m1) := z3 0 _ rfl
            have z1 : _ = some (Value.int .i64 m2) := z3 1 _ rfl
            have hbxr : Blk wr Bw _ _ := (hbl.block _ hbx.lt).trans hbx
            have q2 := hbxr.cell 2
            simp at q2
            simp only [Nat.add_zero] at y0 z0
            clear y3 z3 hm hR7 hRL hbx hbxr
            go_wp2_with fail
            go_quiet (fail)
            go_wp2
            exact ⟨⟨j + 1, by simp, by omega, below_drewN hbl _⟩, by simp [intOf]; omega⟩
          · clear hR7 hRL hbx
            go_wp2
            go_ret
            exact ⟨rfl, H7.out.below.trans (hbl.mono H7.out.below.size)⟩
  · have e1 : decide (80 < (script.length : Int)) = true := by simp; omega
    clear hR hq1
    go_enter Try.func8, Try.ntmps8
    go_wp2_with fail
    refine (law13_awake _).mono ?_
    rintro e w1 ⟨rfl, hb1⟩
    go_wp2_with fail
    go_ret
    exact ⟨rfl, hb1⟩
end Go.Proofs.Ytcioiiobjfblbaa
