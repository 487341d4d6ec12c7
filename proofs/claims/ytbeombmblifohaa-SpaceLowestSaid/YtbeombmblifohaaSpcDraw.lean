/- The space package: Draw. -/
import Derived.Test.YtbeombmblifohaaSpcTake
namespace Go.Proofs.Ytbeombmblifohaa
set_option linter.unusedVariables false
set_option linter.unusedSimpArgs false
open Go.RowKit Go.Shelf Go.Proofs

def RetD (g : Nat) (r : Option Nat) (q : Sp.Spc × Sp.S × Int) (W : World) (e : Ending) (w' : World) : Prop := e = .returned (.tuple #[.agg #[.int .i64 q.2.1.1, .int .i64 q.2.1.2], .int .i64 q.2.2]) ∧ Left g r q.1 W w'
theorem spc_Area' (g : Nat) (k : Int) (m : Sp.Spc) (hm : Sp.WF m) (r : Option Nat) (w : World) (h : SpcR w g r m) :
    Calls Try.prog 16 #[.pointer (some ⟨g, 0, none⟩), .int .i64 k] w (RetSB (Sp.areaR m k) w) := by
  obtain ⟨v0, v1, v2, vb, h⟩ := h
  exact spc_Area g k v0 v1 v2 vb m hm w h.1
/-- a call that only reads leaves the space and the result's cell -/
structure DU (w W : World) (g : Nat) (r : Option Nat) (m : Sp.Spc) : Prop where
  sp : SpcR W g r m
  res : Blk W w.heap.size 27 #[.int .i64 0, .int .i64 0]
  below : Below w.heap.size w W
theorem DU.next {w W W' : World} {g : Nat} {r : Option Nat} {m : Sp.Spc} (h : DU w W g r m) (hb : Below W.heap.size W W') : DU w W' g r m := ⟨h.sp.below hb, h.res.below hb h.res.lt, h.below.trans (hb.mono h.below.size)⟩
theorem SpcR.slt {W : World} {g : Nat} {r : Option Nat} {m : Sp.Spc} (h : SpcR W g r m) : ∀ k : Nat, k ≤ 2 → ∀ a n c, W.cell? ⟨g, k, none⟩ = some (.slice (some a) n c) → a.block < W.heap.size := by
  obtain ⟨V, vb, G⟩ := SpcG.of h
  intro k hk a n c hc
  have h1 := G.cell (k := (k : Int)) (by omega) (by omega)
  rw [Int.toNat_natCast, hc] at h1
  obtain ⟨p, cap, hv, _, _, hR⟩ := (G.left k (by omega) (by omega)).1
  rw [← Option.some.inj h1] at hv
  cases hv
  exact hR.lt
theorem Frm.setNew {g : Nat} {r : Option Nat} {W W1 : World} (h : Frm g r W W1) {b0 : Nat} (hb : W.heap.size ≤ b0) (i : Nat) (v : Value) : Frm g r W (W1.setCell ⟨b0, i, none⟩ v) :=
  ⟨h.os, h.tape, h.output, Nat.le_trans h.size (by simp), fun k hk hg hr => (Below.heap_setCell W1 _ v k (by show k ≠ b0; omega)).trans (h.block k hk hg hr)⟩
theorem Old.setNew {g : Nat} {W W1 : World} (h : Old g W W1) {b0 : Nat} (hb : g ≠ b0) (i : Nat) (v : Value) : Old g W (W1.setCell ⟨b0, i, none⟩ v) := fun k hk a n c hc =>
  h k hk a n c (by rw [← hc]; exact (World.cell?_of_block (a := ⟨g, k, none⟩) (Below.heap_setCell W1 _ v g hb)).symm)
theorem infoSp : (Try.prog.info? 27).map (·.size) = some 2 := by kernel_rfl
theorem results_cell2 {P : Program} {fn : Func} {p q : Tmp} {ty : TypeId} (h : fn.results = #[.cell p ty, .tmp q]) (tmps : Array Value) (w : World) (g : Nat) (t : TypeId) (cs : Array Value) (fr : Nat × Nat) (d : TypeDesc)
    (hp : tmps.getD p undef = .pointer (some ⟨g, 0, none⟩)) (hg : w.heap[g]? = some (.cells cs t fr))
    (hu : P.underlying ty = some d) (hd : (match d with | .struct _ | .array _ _ => true | _ => false) = true) (hi : (P.info? ty).map (·.size) = some cs.size) :
    (results fn tmps).run P w = .ok (.tuple #[.agg cs, tmps.getD q undef]) w := by
  have hp' : tmps[p]?.getD undef = .pointer (some ⟨g, 0, none⟩) := by simpa using hp
  simp [results, h, hp', asAddr, run_loadVar_row w g t ty cs fr d hg hu hd hi]
theorem Blk.two {w : World} {g : Nat} {t : TypeId} {x0 x1 : Value} (h : Blk w g t #[x0, x1]) (y0 y1 : Value) : Blk ((w.setCell ⟨g, 0, none⟩ y0).setCell ⟨g, 1, none⟩ y1) g t #[y0, y1] := by
  simpa using (h.set 0 y0).set 1 y1
set_option maxRecDepth 100000 in
set_option maxHeartbeats 4000000 in
theorem spc_Draw (g : Nat) (r : Option Nat) (m : Sp.Spc) (hm : Sp.WF m) (hl : m.L.length ≤ 1000) (o k z : Int) (hz1 : -9223372036854775808 ≤ z) (hz2 : z ≤ 9223372036854775807) (w : World) (h : SpcR w g r m) :
    Calls Try.prog 21 #[.pointer (some ⟨g, 0, none⟩), .int .i64 o, .int .i64 k, .int .i64 z] w (RetD g r (Sp.drawR m o k z) w) := by
  have P0 : Hid (DU w (w.alloc (.cells #[.int .i64 0, .int .i64 0] 27)) g r m) := Lib.hid ⟨h.below (belowA w _), Blk.new _ _ _, belowA w _⟩
  have HS := Lib.hid h
  have hgl := h.lt
  by_cases hbad : o < 1 ∨ k < 0 ∨ 2 < k ∨ z < 1
  · have hr : Sp.drawR m o k z = (m, (0, 0), 1) := by unfold Sp.drawR; rw [if_pos hbad]
    rw [hr]
    clear hr
    have hb4 : o < 1 ∨ (¬ o < 1 ∧ k < 0) ∨ (¬ o < 1 ∧ ¬ k < 0 ∧ 3 ≤ k) ∨ (¬ o < 1 ∧ ¬ k < 0 ∧ ¬ 3 ≤ k ∧ z < 1) := by omega
    clear hbad
    rcases hb4 with h1 | ⟨h1, h2⟩ | ⟨h1, h2, h3⟩ | ⟨h1, h2, h3, h4⟩
    all_goals
      go_enter Try.func21, Try.ntmps21
      go_wp2_with fail
      exact bodyPost_ret (v := .tuple #[.agg #[.int .i64 0, .int .i64 0], .int .i64 1]) (by simp [results, Try.results21, go_sem]) rfl ⟨rfl, Left.same HS.out (belowA w _)⟩
  · have g1 : ¬ o < 1 := by omega
    have g2 : ¬ k < 0 := by omega
    have g3 : ¬ 3 ≤ k := by omega
    have g4 : ¬ z < 1 := by omega
    have AR := Lib.hid fun W h => spc_Area' g k m hm r W h
    have hkk := hm.at_pos k
    by_cases hka : 0 < k ∧ (m.at k).1 = 0
    · have hr : Sp.drawR m o k z = (m, (0, 0), 31) := by unfold Sp.drawR; rw [if_neg hbad, if_pos hka]
      have ha : Sp.areaR m k = ((0, 0), false) := by unfold Sp.areaR; rw [if_pos (by omega)]
      rw [hr]
      rw [ha] at AR
      have hk0 : ((k : Int) != 0) = true := by rw [bne_iff_ne]; omega
      clear hr ha hbad hkk hka
      go_enter Try.func21, Try.ntmps21
      go_wp2_with fail
      refine (AR.out _ P0.out.sp).mono ?_
      rintro e w1 ⟨rfl, hb1⟩
      have P1 := P0.out.next hb1
      have c0 := P1.res.cell 0
      have c1 := P1.res.cell 1
      have f0 := P1.res.frozen' 0
      have f1 := P1.res.frozen' 1
      have hlt := P1.res.lt
      have HP1 := Lib.hid P1
      clear hb1 P1
      go_wp2_with fail
      exact bodyPost_ret (results_cell2 rfl _ _ _ _ _ _ _ rfl ((HP1.out.res.two _ _).alloc _) Try.underlying27 rfl infoSp) rfl ⟨rfl, Left.same HS.out (((HP1.out.below.setCell (Nat.le_refl _) _).setCell (Nat.le_refl _) _).alloc (by simp; omega) _)⟩
    · have hd : Sp.drawR m o k z = if (Sp.first (Sp.leftR m k) z).2 = true then (Sp.putR m ⟨(Sp.first (Sp.leftR m k) z).1, o, k⟩, (Sp.first (Sp.leftR m k) z).1, 0) else (m, (0, 0), 43) := by unfold Sp.drawR; rw [if_neg hbad, if_neg hka]
      have har : (k = 0 ∧ Sp.areaR m k = ((0, 0), false)) ∨ (¬ k = 0 ∧ ∃ x y, Sp.areaR m k = ((x, y), true)) := by
        by_cases hk0 : k = 0
        · left; exact ⟨hk0, by unfold Sp.areaR; rw [if_pos (by omega)]⟩
        · right; exact ⟨hk0, (m.at k).1, (m.at k).2, by unfold Sp.areaR; rw [if_neg (by omega)]⟩
      have hll := Sp.left_len hm k
      have FI := Lib.hid fun (W : World) (v : Value) (h : SlR W 2 encSp v (Sp.leftR m k)) => spans_First (Sp.leftR m k) (by omega) z hz1 hz2 v W h
      have hfo := Sp.first_ok (l := Sp.leftR m k) (z := z)
      rw [hd]
      generalize hf : Sp.first (Sp.leftR m k) z = f at FI hfo ⊢
      obtain ⟨⟨fa, fb⟩, fi⟩ := f
      have hk3 : k < 3 := by omega
      have hkl : 0 ≤ k := by omega
      have hk2 : k ≤ 2 := by omega
      clear hd hbad hkk hka hll hf
      obtain ⟨ax, ay, ai, har, hand⟩ : ∃ ax ay ai, Sp.areaR m k = ((ax, ay), ai) ∧ (((k : Int) != 0) = false ∨ ((k : Int) != 0) = true ∧ ai = true) := by
        rcases har with ⟨h1, h2⟩ | ⟨h1, x, y, h2⟩
        · exact ⟨0, 0, false, h2, Or.inl (by subst h1; rfl)⟩
        · exact ⟨x, y, true, h2, Or.inr ⟨by rw [bne_iff_ne]; exact h1, rfl⟩⟩
      rw [har] at AR
      clear har
      cases fi
      · have hn : Hid ((if ((fa, fb), false).2 = true then (Sp.putR m ⟨((fa, fb), false).1, o, k⟩, ((fa, fb), false).1, (0 : Int)) else (m, (0, 0), 43)) = (m, ((0, 0) : Sp.S), 43)) := Lib.hid rfl
        rw [hn.out]
        clear hfo hn
        rcases hand with h1 | ⟨h1, rfl⟩
        all_goals
          go_enter Try.func21, Try.ntmps21
          go_wp2_with fail
          refine (AR.out _ P0.out.sp).mono ?_
          rintro e w1 ⟨rfl, hb1⟩
          have HP1 := Lib.hid (P0.out.next hb1)
          obtain ⟨V, vb, G⟩ := SpcG.of HP1.out.sp
          have ck := fun o => (G.below (belowA w1 o)).cell hkl hk2
          have sl := Lib.hid fun o => ((G.below (belowA w1 o)).left k hkl hk2).1
          clear hb1 G
          go_wp2_with fail
          refine (FI.out _ _ (sl.out _)).mono ?_
          rintro e w2 ⟨rfl, hb2⟩
          have P2 := (HP1.out.next (belowA _ _)).next hb2
          have c0 := P2.res.cell 0
          have c1 := P2.res.cell 1
          have f0 := P2.res.frozen' 0
          have f1 := P2.res.frozen' 1
          have hlt := P2.res.lt
          have HP2 := Lib.hid P2
          clear hb2 P2
          go_wp2_with fail
          exact bodyPost_ret (results_cell2 rfl _ _ _ _ _ _ _ rfl ((HP2.out.res.two _ _).alloc _) Try.underlying27 rfl infoSp) rfl ⟨rfl, Left.same HS.out (((HP2.out.below.setCell (Nat.le_refl _) _).setCell (Nat.le_refl _) _).alloc (by simp; omega) _)⟩
      · have hn : Hid ((if ((fa, fb), true).2 = true then (Sp.putR m ⟨((fa, fb), true).1, o, k⟩, ((fa, fb), true).1, (0 : Int)) else (m, (0, 0), 43)) = (Sp.putR m ⟨(fa, fb), o, k⟩, (fa, fb), 0)) := Lib.hid rfl
        rw [hn.out]
        have PC := Lib.hid fun W h => spc_put g r m hm hl (fa, fb) o k hkl hk2 (by omega) (hfo rfl).1 W h
        simp only [encBk] at PC
        clear hfo hn
        rcases hand with h1 | ⟨h1, rfl⟩
        all_goals
          go_enter Try.func21, Try.ntmps21
          go_wp2_with fail
          refine (AR.out _ P0.out.sp).mono ?_
          rintro e w1 ⟨rfl, hb1⟩
          have HP1 := Lib.hid (P0.out.next hb1)
          obtain ⟨V, vb, G⟩ := SpcG.of HP1.out.sp
          have ck := fun o => (G.below (belowA w1 o)).cell hkl hk2
          have sl := Lib.hid fun o => ((G.below (belowA w1 o)).left k hkl hk2).1
          clear hb1 G
          go_wp2_with fail
          refine (FI.out _ _ (sl.out _)).mono ?_
          rintro e w2 ⟨rfl, hb2⟩
          have P2 := ((HP1.out.next (belowA _ _)).next hb2).next (belowA _ (.cells #[.int .i64 fa, .int .i64 fb] 27))
          have BX := Lib.hid (Blk.new w2 27 #[.int .i64 fa, .int .i64 fb])
          have HP2 := Lib.hid P2
          clear hb2 P2
          go_wp2_with fail
          refine (PC.out _ HP2.out.sp).mono ?_
          rintro e w3 ⟨rfl, r', s1, s2, s3, s4⟩
          have hz := HP2.out.res.lt
          simp only [World.size_alloc] at hz
          have R3 : Blk w3 w.heap.size 27 #[.int .i64 0, .int .i64 0] := s3.blk HP2.out.res (by omega) (fun e => by have := HS.out.row _ e.symm; omega)
          have X3 : Blk w3 w2.heap.size 27 #[.int .i64 fa, .int .i64 fb] := s3.blk BX.out (by omega) (fun e => by have := HS.out.row _ e.symm; omega)
          have c0 := R3.cell 0
          have c1 := R3.cell 1
          have f0 := R3.frozen' 0
          have f1 := R3.frozen' 1
          have x0 := X3.cell 0
          have x1 := X3.cell 1
          have HR3 := Lib.hid R3
          have hs3 := s1.lt
          have FR : Hid (Frm g r w w3) := Lib.hid ((Frm.of_below HP2.out.below).trans s3 (NewRow.refl _ _))
          have hsl : ∀ k : Nat, k ≤ 2 → ∀ a n c, w3.cell? ⟨g, k, none⟩ = some (.slice (some a) n c) → a.block ≠ w.heap.size := fun j hj a n c hc => by
            rcases s4 j hj a n c hc with h5 | ⟨j', a', n', c', hj', h5, h6⟩
            · simp only [World.size_alloc] at h5; omega
            · rw [HP2.out.below.cell (p := ⟨g, j', none⟩) hgl] at h5
              have := HS.out.slt j' hj' a' n' c' h5
              omega
          have hne : w.heap.size ≠ g := by omega
          have hner : some w.heap.size ≠ r' := by
            rcases s2 with e | ⟨b, e, hb⟩
            · rw [e]; intro e2; have := HS.out.row _ e2.symm; omega
            · rw [e]; intro e2; have := Option.some.inj e2; simp only [World.size_alloc] at hb; omega
          have S4 := s1.other w.heap.size 0 (.int .i64 fa) hne hner hsl
          have hsl2 : ∀ k : Nat, k ≤ 2 → ∀ a n c, (w3.setCell ⟨w.heap.size, 0, none⟩ (.int .i64 fa)).cell? ⟨g, k, none⟩ = some (.slice (some a) n c) → a.block ≠ w.heap.size := fun j hj a n c hc =>
            hsl j hj a n c (by rw [← hc]; exact (World.cell?_of_block (a := ⟨g, j, none⟩) (Below.heap_setCell w3 _ _ g (show g ≠ w.heap.size by omega))).symm)
          have S5 := S4.other w.heap.size 1 (.int .i64 fb) hne hner hsl2
          have HS3 := Lib.hid (And.intro S5 (And.intro s2 ((Old.of_below HS.out.lt HP2.out.below).trans s4 HP2.out.below.size)))
          clear R3 X3 s1 s2 s3 s4 S4 S5 hsl hsl2 hner
          go_wp2_with fail
          refine bodyPost_ret (results_cell2 rfl _ _ _ _ _ _ _ rfl (HR3.out.two _ _) Try.underlying27 rfl infoSp) rfl ⟨rfl, r', HS3.out.1, ?_, ?_, ?_⟩
          · exact (NewRow.refl w r).trans HS3.out.2.1 HP2.out.below.size
          · exact (FR.out.setNew (Nat.le_refl _) _ _).setNew (Nat.le_refl _) _ _
          · exact (HS3.out.2.2.setNew (by omega) _ _).setNew (by omega) _ _
end Go.Proofs.Ytbeombmblifohaa
