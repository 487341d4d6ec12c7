/- Same hops: the hop package's, the document's; Guarded. -/
import Derived.Test.YtilahcnpjbnjiaaDoorHopCheck
import Derived.Test.YtilahcnpjbnjiaaDoorHopRd
namespace Go.Proofs.YtilahcnpjbnjiaaDoor
set_option linter.unusedVariables false
set_option linter.unusedSimpArgs false
open Go.RowKit Go.Shelf Go.Proofs Go.OctetPlain

theorem slr_ints {w : World} {L : List Int} {b off : Nat} (h : RdP w 1 encI (some ⟨b, off, none⟩) L) : ∀ j, j < L.length → w.cell? ⟨b, off + j, none⟩ = some (.int .i64 (L.getD j 0)) := fun j hj => by
  have := h.in hj 0 (.int .i64 L[j]) rfl
  simp only [Nat.mul_one, Nat.add_zero] at this
  rw [this]
  simp [List.getD, List.getElem?_eq_getElem hj]
/-- 'slices.Equal' -/
theorem equalI_any (a b : List Int) (ha : a.length ≤ 1073741824) (hb : b.length ≤ 1073741824) (va vb : Value) (w : World) (hva : SlR w 1 encI va a) (hvb : SlR w 1 encI vb b) :
    Calls Tryd.prog 20 #[va, vb] w fun e w' => e = .returned (.bool (decide (a = b))) ∧ Below w.heap.size w w' := by
  obtain ⟨p1, c1, rfl, h1, h2, R1⟩ := hva
  obtain ⟨p2, c2, rfl, g1, g2, R2⟩ := hvb
  by_cases hl : a.length = b.length
  · cases p1 with
    | none =>
      have h0 := R1.1 rfl
      have ha0 : a = [] := List.eq_nil_of_length_eq_zero h0
      have hb0 : b = [] := List.eq_nil_of_length_eq_zero (by omega)
      subst ha0; subst hb0
      have hcon := Any.slices_Equal_int_empty Tryd.equalI none p2 c1 0 c2 w (by omega)
      change Calls Tryd.prog 20 _ _ _ at hcon
      exact hcon.mono fun e w' ⟨he, hw⟩ => ⟨by rw [he]; simp, by rw [hw]; exact Below.refl _ _⟩
    | some a1 =>
      obtain ⟨s1, _, _⟩ := R1.2 a1 rfl
      cases p2 with
      | none =>
        have h0 := R2.1 rfl
        have hb0 : b = [] := List.eq_nil_of_length_eq_zero h0
        have ha0 : a = [] := List.eq_nil_of_length_eq_zero (by omega)
        subst ha0; subst hb0
        have hcon := Any.slices_Equal_int_empty Tryd.equalI (some a1) none c1 0 c2 w (by omega)
        change Calls Tryd.prog 20 _ _ _ at hcon
        exact hcon.mono fun e w' ⟨he, hw⟩ => ⟨by rw [he]; simp, by rw [hw]; exact Below.refl _ _⟩
      | some a2 =>
        obtain ⟨s2, _, _⟩ := R2.2 a2 rfl
        have e1 : a1 = ⟨a1.block, a1.off, none⟩ := by cases a1; simp only at s1; subst s1; rfl
        have e2 : a2 = ⟨a2.block, a2.off, none⟩ := by cases a2; simp only at s2; subst s2; rfl
        rw [e1] at R1 ⊢
        rw [e2] at R2 ⊢
        have hcon := Any.slices_Equal_int Tryd.equalI a1.block a1.off a.length c1 a2.block a2.off b.length c2 a b w (Nat.le_refl _) (Nat.le_refl _) (by omega) (by omega) (slr_ints R1) (slr_ints R2)
        change Calls Tryd.prog 20 _ _ _ at hcon
        refine hcon.mono ?_
        rintro e w' ⟨rfl, q, rfl⟩
        refine ⟨?_, below_drewN (Below.refl _ _) q⟩
        rw [List.take_length, List.take_length]
        congr 1; congr 1
        rw [Bool.eq_iff_iff]; simp
  · have hcon := Any.slices_Equal_int_lens Tryd.equalI p1 p2 a.length c1 b.length c2 w hl
    change Calls Tryd.prog 20 _ _ _ at hcon
    refine hcon.mono ?_
    rintro e w' ⟨rfl, rfl⟩
    exact ⟨by rw [decide_eq_false (fun h => hl (by rw [h]))], Below.refl _ _⟩
theorem RdP.cellsI {w : World} {a : Addr} {xs : List Int} (h : RdP w 1 encI (some a) xs) : ∀ j u, (flat encI xs)[j]? = some u → w.cell? ⟨a.block, a.off + j, none⟩ = some u := by
  intro j u hu
  obtain ⟨_, _, hcell⟩ := h.2 _ rfl
  have hjl : j < (flat encI xs).length := (List.getElem?_eq_some_iff.1 hu).1
  rw [flat_length encI_len] at hjl
  have hx := List.getElem?_eq_getElem (show j < xs.length by omega)
  have hf := flat_at encI_len hx (j := 0) (u := .int .i64 xs[j]) rfl
  have e : j * 1 + 0 = j := by omega
  rw [e, hu] at hf
  cases hf
  have := hcell j xs[j] hx 0 _ rfl
  rw [← this]
  congr 2
  omega
theorem cloneI_any (l : List Int) (hl : l.length ≤ 1073741824) (v : Value) (w : World) (hv : SlR w 1 encI v l) :
    Calls Tryd.prog 27 #[v] w (RetRow w.heap.size 3 1 l.length (flat encI l) w) := by
  obtain ⟨p, cap, rfl, hc1, hc2, hR⟩ := hv
  cases p with
  | none =>
    have h0 := hR.1 rfl
    have hl0 : l = [] := List.eq_nil_of_length_eq_zero h0
    subst hl0
    have hcon := AnyE.slices_Clone_nil Tryd.cloneI 0 cap w
    change Calls Tryd.prog 27 _ _ _ at hcon
    refine hcon.mono ?_
    rintro e w' ⟨rfl, rfl⟩
    exact ⟨_, rfl, World.ownsRow_nil _ _ _ _, Below.refl _ _⟩
  | some a =>
    obtain ⟨hsp, _, _⟩ := hR.2 a rfl
    obtain ⟨_, _, _, i0, z, hi, hz, hsz, hby, hzs⟩ := elemI
    have hcon := AnyE.slices_Clone Tryd.cloneI i0 z 1 8 hi hz hsz hby hzs (by omega) Tryd.sizeOf3 a.block a.off l.length cap (flat encI l) w (flat_length encI_len l) (by unfold maxLen; omega) (by omega) (RdP.cellsI hR) (flat_oneI encI_one l)
    change Calls Tryd.prog 27 _ _ _ at hcon
    have ha : a = ⟨a.block, a.off, none⟩ := by cases a; simp_all
    rw [ha]
    refine hcon.mono ?_
    rintro e w' ⟨v', rfl, ho, _, hb⟩
    exact ⟨v', rfl, ho, hb⟩
theorem infoHop : (Tryd.prog.info? 24).map (·.size) = some 6 := by kernel_rfl
theorem oneHop (a c d : Int) (p1 p2 : Option Addr) (n1 c1 n2 c2 : Nat) (b : Bool) : (#[Value.int .i64 a, .slice p1 n1 c1, .int .i64 c, .int .i64 d, .slice p2 n2 c2, .bool b] : Array Value).all (·.oneCell') = true := by simp [Value.oneCell']
theorem grown_setRow (w : World) (g : Nat) (cs : Array Value) : w.grownBy (w.setRow g cs) (some g) := by
  refine ⟨rfl, rfl, rfl, ?_, fun k hk hne => setRow_other w g k cs (fun e => hne (by rw [e]))⟩
  show w.heap.size ≤ (w.heap.modify g _).size
  rw [Array.size_modify]; exact Nat.le_refl _
theorem below_setRowH {B : Nat} {w w' : World} (h : Below B w w') {g : Nat} (hg : B ≤ g) (cs : Array Value) : Below B w (w'.setRow g cs) :=
  h.trans ⟨rfl, rfl, rfl, (grown_setRow w' g cs).size, fun k hk => setRow_other w' g k cs (by omega)⟩
/-- a hop lies at v -/
structure HopIs (w : World) (h : Hp.Hop) (l r : Value) : Prop where
  n1 : h.labels.length ≤ 1073741824
  n2 : h.repair.length ≤ 1073741824
  sl : SlR w 1 encI l h.labels
  sr : SlR w 1 encI r h.repair
theorem HopIs.below {w w' : World} {h : Hp.Hop} {l r : Value} (H : HopIs w h l r) {B : Nat} (hb : Below B w w') (hB : w.heap.size ≤ B) : HopIs w' h l r := ⟨H.n1, H.n2, H.sl.below hb hB, H.sr.below hb hB⟩
theorem hop_eq (a b : Hp.Hop) : decide (a = b) = (decide (a.op = b.op) && decide (a.port = b.port) && decide (a.backup = b.backup) && decide (a.pipe = b.pipe) && decide (a.labels = b.labels) && decide (a.repair = b.repair)) := by
  obtain ⟨a1, a2, a3, a4, a5, a6⟩ := a
  obtain ⟨b1, b2, b3, b4, b5, b6⟩ := b
  rw [Bool.eq_iff_iff]
  simp only [decide_eq_true_eq, Bool.and_eq_true, Hp.Hop.mk.injEq]
  constructor
  · rintro ⟨h1, h2, h3, h4, h5, h6⟩; exact ⟨⟨⟨⟨⟨h1, h3⟩, h4⟩, h6⟩, h2⟩, h5⟩
  · rintro ⟨⟨⟨⟨⟨h1, h3⟩, h4⟩, h6⟩, h2⟩, h5⟩; exact ⟨h1, h2, h3, h4, h5, h6⟩

set_option maxRecDepth 100000 in
set_option maxHeartbeats 2000000 in
theorem hop_Same (a b : Hp.Hop) (l1 r1 l2 r2 : Value) (w : World) (A : HopIs w a l1 r1) (B : HopIs w b l2 r2) :
    Calls Tryd.prog 10 #[.agg (hopA a l1 r1), .agg (hopA b l2 r2)] w fun e w' => e = .returned (.bool (decide (a = b))) ∧ Below w.heap.size w w' := by
  rw [hop_eq]
  have H1 : Hid (∀ W, Below w.heap.size w W → Calls Tryd.prog 20 #[l1, l2] W fun e w' => e = .returned (.bool (decide (a.labels = b.labels))) ∧ Below W.heap.size W w') := Lib.hid fun W hW => equalI_any _ _ A.n1 B.n1 l1 l2 W (A.sl.below hW (Nat.le_refl _)) (B.sl.below hW (Nat.le_refl _))
  have H2 : Hid (∀ W, Below w.heap.size w W → Calls Tryd.prog 20 #[r1, r2] W fun e w' => e = .returned (.bool (decide (a.repair = b.repair))) ∧ Below W.heap.size W w') := Lib.hid fun W hW => equalI_any _ _ A.n2 B.n2 r1 r2 W (A.sr.below hW (Nat.le_refl _)) (B.sr.below hW (Nat.le_refl _))
  obtain ⟨-, -, ⟨p1, c1, rfl, -, -, -⟩, ⟨p2, c2, rfl, -, -, -⟩⟩ := A
  obtain ⟨-, -, ⟨p3, c3, rfl, -, -, -⟩, ⟨p4, c4, rfl, -, -, -⟩⟩ := B
  obtain ⟨o1, L1, q1, k1, R1, s1⟩ := a
  obtain ⟨o2, L2, q2, k2, R2, s2⟩ := b
  unfold hopA
  simp only at *
  have hb0 : ∀ o o', Below w.heap.size w ((w.alloc o).alloc o') := fun o o' => (belowA w o).alloc (by simp) _
  have HB0 := Lib.hid hb0
  clear hb0
  generalize decide (L1 = L2) = e1 at *
  generalize decide (R1 = R2) = e2 at *
  by_cases x1 : o1 = o2
  rotate_left
  · have d : (o1 == o2) = false := by simpa using x1
    rw [decide_eq_false x1]
    simp only [Bool.false_and]
    clear x1
    go_enter Tryd.func10, Tryd.ntmps10
    go_wp2_with fail
    go_ret
    exact ⟨rfl, HB0.out _ _⟩
  subst x1
  by_cases x2 : q1 = q2
  rotate_left
  · have d : (q1 == q2) = false := by simpa using x2
    rw [decide_eq_false x2]
    simp only [Bool.false_and, Bool.and_false]
    clear x2
    go_enter Tryd.func10, Tryd.ntmps10
    go_wp2_with fail
    go_ret
    exact ⟨rfl, HB0.out _ _⟩
  subst x2
  by_cases x3 : k1 = k2
  rotate_left
  · have d : (k1 == k2) = false := by simpa using x3
    rw [decide_eq_false x3]
    simp only [Bool.false_and, Bool.and_false]
    clear x3
    go_enter Tryd.func10, Tryd.ntmps10
    go_wp2_with fail
    go_ret
    exact ⟨rfl, HB0.out _ _⟩
  subst x3
  by_cases x4 : s1 = s2
  rotate_left
  · have d : (s1 == s2) = false := by simpa using x4
    rw [decide_eq_false x4]
    simp only [Bool.false_and, Bool.and_false]
    clear x4
    go_enter Tryd.func10, Tryd.ntmps10
    go_wp2_with fail
    go_ret
    exact ⟨rfl, HB0.out _ _⟩
  subst x4
  simp only [decide_true, Bool.true_and]
  go_enter Tryd.func10, Tryd.ntmps10
  go_wp2_with fail
  refine (H1.out _ (HB0.out _ _)).mono ?_
  rintro e w1 ⟨rfl, hb1⟩
  obtain ⟨hcc, hcf⟩ := bcell hb1
  have hz1 := hb1.size
  have B1 := Lib.hid ((HB0.out (.cells #[.int .i64 o1, .slice p1 L1.length c1, .int .i64 q1, .int .i64 k1, .slice p2 R1.length c2, .bool s1] 24) (.cells #[.int .i64 o1, .slice p3 L2.length c3, .int .i64 q1, .int .i64 k1, .slice p4 R2.length c4, .bool s1] 24)).trans (hb1.mono (by simp; omega)))
  cases e1
  · go_wp2_with fail
    go_ret
    exact ⟨rfl, B1.out⟩
  go_wp2_with fail
  refine (H2.out _ B1.out).mono ?_
  rintro e w2 ⟨rfl, hb2⟩
  have B2 := Lib.hid (B1.out.trans (hb2.mono B1.out.size))
  go_wp2_with fail
  go_ret
  exact ⟨rfl, B2.out⟩

set_option maxRecDepth 100000 in
set_option maxHeartbeats 1000000 in
/-- a hop with a backup: its cells are new -/
theorem hop_GuardedN (h : Hp.Hop) (k : Int) (R : List Int) (hR : R.length ≤ 1073741824) (l r vr : Value) (w : World) (H : HopIs w h l r) (hvr : SlR w 1 encI vr R) :
    Calls Tryd.prog 14 #[.agg (hopA h l r), .int .i64 k, vr] w fun e w' => ∃ l' r', e = .returned (.agg (hopA (Hp.guarded h k R) l' r')) ∧ HopIs w' (Hp.guarded h k R) l' r' ∧ Below w.heap.size w w' ∧ SlP (w.heap.size ≤ ·) w' 1 encI l' h.labels ∧ SlP (w.heap.size ≤ ·) w' 1 encI r' R := by
  have HC : Hid (∀ W, Below w.heap.size w W → Calls Tryd.prog 27 #[l] W (RetRow W.heap.size 3 1 h.labels.length (flat encI h.labels) W)) := Lib.hid fun W hW => cloneI_any _ H.n1 l W (H.sl.below hW (Nat.le_refl _))
  have HD : Hid (∀ W, Below w.heap.size w W → Calls Tryd.prog 27 #[vr] W (RetRow W.heap.size 3 1 R.length (flat encI R) W)) := Lib.hid fun W hW => cloneI_any _ hR vr W (hvr.below hW (Nat.le_refl _))
  have HN := H.n1
  obtain ⟨-, -, ⟨p1, c1, rfl, -, -, -⟩, ⟨p2, c2, rfl, -, -, -⟩⟩ := H
  obtain ⟨p3, c3, rfl, -, -, -⟩ := hvr
  obtain ⟨o, L, q, k0, R0, s⟩ := h
  have HG : Hid (∀ l' r', hopA (Hp.guarded ⟨o, L, q, k0, R0, s⟩ k R) l' r' = #[.int .i64 o, l', .int .i64 q, .int .i64 k, r', .bool s]) := Lib.hid fun _ _ => rfl
  unfold hopA
  simp only at *
  have hb0 : ∀ o o', Below w.heap.size w ((w.alloc o).alloc o') := fun o o' => (belowA w o).alloc (by simp) _
  have HB0 := Lib.hid hb0
  clear hb0
  go_enter Tryd.func14, Tryd.ntmps14
  go_wp2_with fail
  refine (HC.out _ (HB0.out _ _)).mono ?_
  rintro e w1 ⟨v1, rfl, ho1, hb1⟩
  obtain ⟨hcc, hcf⟩ := bcell hb1
  obtain ⟨p4, c4, rfl, g1, g2, g3⟩ := SlR.of_owns encI_len ho1
  have hz : w.heap.size + 1 < w1.heap.size := by have := hb1.size; simp at this; omega
  have HK1 : Hid (Blk w1 w.heap.size 24 #[.int .i64 o, .slice p1 L.length c1, .int .i64 q, .int .i64 k0, .slice p2 R0.length c2, .bool s] ∧ Blk w1 (w.heap.size + 1) 24 #[.int .i64 0, .slice none 0 0, .int .i64 0, .int .i64 0, .slice none 0 0, .bool false]) := Lib.hid ⟨((Blk.new w _ _).alloc _).below hb1 (by simp; omega), by
    have h := Blk.new (w.alloc (.cells #[.int .i64 o, .slice p1 L.length c1, .int .i64 q, .int .i64 k0, .slice p2 R0.length c2, .bool s] 24)) 24 #[.int .i64 0, .slice none 0 0, .int .i64 0, .int .i64 0, .slice none 0 0, .bool false]
    rw [World.size_alloc] at h
    exact h.below hb1 (by simp)⟩
  have HB1 := Lib.hid ((HB0.out (.cells #[.int .i64 o, .slice p1 L.length c1, .int .i64 q, .int .i64 k0, .slice p2 R0.length c2, .bool s] 24) (.cells #[.int .i64 0, .slice none 0 0, .int .i64 0, .int .i64 0, .slice none 0 0, .bool false] 24)).trans (hb1.mono (by simp; omega)))
  have HO1 := Lib.hid (SlP.of_owns encI_len ho1)
  clear ho1 g1 g2 g3
  go_wp2_with fail
  refine (HD.out _ ((HB1.out.setCell (by simp) _).setCell (by simp) _)).mono ?_
  rintro e w2 ⟨v2, rfl, ho2, hb2⟩
  have hz2 : w.heap.size + 1 < w2.heap.size := by have := hb2.size; simp at this; omega
  have HO2 := Lib.hid (SlP.of_owns encI_len ho2)
  obtain ⟨p5, c5, rfl, g1, g2, g3⟩ := SlR.of_owns encI_len ho2
  have HK2 : Hid (Blk w2 w.heap.size 24 #[.int .i64 o, .slice p4 L.length c4, .int .i64 q, .int .i64 k, .slice p2 R0.length c2, .bool s] ∧ Blk w2 (w.heap.size + 1) 24 #[.int .i64 0, .slice none 0 0, .int .i64 0, .int .i64 0, .slice none 0 0, .bool false]) :=
    Lib.hid ⟨((HK1.out.1.set 1 _).set 3 _).below hb2 (by simp; omega), ((HK1.out.2.other _ _ (by simp)).other _ _ (by simp)).below hb2 (by simp; omega)⟩
  have HB2 := Lib.hid (((HB1.out.setCell (p := ⟨w.heap.size, 1, none⟩) (by simp) (.slice p4 L.length c4)).setCell (p := ⟨w.heap.size, 3, none⟩) (by simp) (.int .i64 k)).trans (hb2.mono (by simp; omega)))
  have HO3 : Hid (SlP (w.heap.size + 2 ≤ ·) w2 1 encI (.slice p4 L.length c4) L) := Lib.hid (by
    have h := (HO1.out.grown (grown_set w1 w.heap.size 1 (.slice p4 L.length c4)) (fun b hb => by simp at hb ⊢; omega))
    have h := h.grown (grown_set _ w.heap.size 3 (.int .i64 k)) (fun b hb => by simp at hb ⊢; omega)
    exact (h.below hb2 (Nat.le_refl _)).imp (fun b hb => by simpa using hb))
  have HO4 : Hid (SlP (w.heap.size + 2 ≤ ·) w2 1 encI (.slice p5 R.length c5) R) := Lib.hid (HO2.out.imp (fun b hb => by have := hz; simp at hb; omega))
  have HF := Lib.hid (And.intro (HK2.out.1.frozen' 4) (HK2.out.1.cell 4))
  clear ho2 g1 g2 g3 hb1 hb2 HO1 HO2
  have hf4 := HF.out.1
  have hc4 := HF.out.2
  simp only [List.getElem?_toArray, List.getElem?_cons_succ, List.getElem?_cons_zero] at hc4
  clear hcc hcf
  go_wp2_with (first
    | (refine wpList_load_row rfl _ _ rfl w.heap.size rfl _ #[.int .i64 o, .slice p4 L.length c4, .int .i64 q, .int .i64 k, .slice p5 R.length c5, .bool s] (0, 0) _ (HK2.out.1.set 4 _) Tryd.underlying24 rfl infoHop ?_)
    | (refine wpList_store_row rfl _ _ _ rfl (w.heap.size + 1) #[.int .i64 o, .slice p4 L.length c4, .int .i64 q, .int .i64 k, .slice p5 R.length c5, .bool s] rfl rfl _ #[.int .i64 0, .slice none 0 0, .int .i64 0, .int .i64 0, .slice none 0 0, .bool false] (HK2.out.2.other _ _ (by simp)) infoHop rfl (oneHop _ _ _ _ _ _ _ _ _ _) ?_))
  refine bodyPost_ret (results_cell_row rfl _ _ (w.heap.size + 1) _ _ _ _ rfl ((HK2.out.2.other _ _ (by simp)).setRow _) Tryd.underlying24 rfl infoHop) rfl ⟨.slice p4 L.length c4, .slice p5 R.length c5, rfl, ?_⟩
  have h3 := (HO3.out.grown (grown_set w2 w.heap.size 4 (.slice p5 R.length c5)) (fun b hb => by simp at hb ⊢; omega)).grown (grown_setRow _ (w.heap.size + 1) #[.int .i64 o, .slice p4 L.length c4, .int .i64 q, .int .i64 k, .slice p5 R.length c5, .bool s]) (fun b hb => by simp at hb ⊢; omega)
  have h4 := (HO4.out.grown (grown_set w2 w.heap.size 4 (.slice p5 R.length c5)) (fun b hb => by simp at hb ⊢; omega)).grown (grown_setRow _ (w.heap.size + 1) #[.int .i64 o, .slice p4 L.length c4, .int .i64 q, .int .i64 k, .slice p5 R.length c5, .bool s]) (fun b hb => by simp at hb ⊢; omega)
  exact ⟨⟨HN, hR, h3.sl, h4.sl⟩, below_setRowH (HB2.out.setCell (by simp) _) (by omega) _, h3.imp (fun b hb => by omega), h4.imp (fun b hb => by omega)⟩
theorem hop_Guarded (h : Hp.Hop) (k : Int) (R : List Int) (hR : R.length ≤ 1073741824) (l r vr : Value) (w : World) (H : HopIs w h l r) (hvr : SlR w 1 encI vr R) :
    Calls Tryd.prog 14 #[.agg (hopA h l r), .int .i64 k, vr] w fun e w' => ∃ l' r', e = .returned (.agg (hopA (Hp.guarded h k R) l' r')) ∧ HopIs w' (Hp.guarded h k R) l' r' ∧ Below w.heap.size w w' :=
  (hop_GuardedN h k R hR l r vr w H hvr).mono fun _ _ ⟨l', r', h1, h2, h3, _⟩ => ⟨l', r', h1, h2, h3⟩
end Go.Proofs.YtilahcnpjbnjiaaDoor
