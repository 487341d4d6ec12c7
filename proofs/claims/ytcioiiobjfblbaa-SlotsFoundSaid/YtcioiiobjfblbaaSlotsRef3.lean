/- footplateref13: what is refused; Delete. -/
import Derived.Test.YtcioiiobjfblbaaSlotsRef2
namespace Go.Proofs.Ytcioiiobjfblbaa
set_option linter.unusedVariables false
set_option linter.unusedSimpArgs false
open Go.RowKit Go.Shelf Go.Proofs

theorem blk2 (w : World) (t : TypeId) (c d : Array Value) : Blk ((w.alloc (.cells c t)).alloc (.cells d t)) w.heap.size t c ∧ Blk ((w.alloc (.cells c t)).alloc (.cells d t)) (w.heap.size + 1) t d ∧ Below w.heap.size w ((w.alloc (.cells c t)).alloc (.cells d t)) := by
  refine ⟨(Blk.new w t c).alloc _, ?_, ((Below.refl _ _).alloc (Nat.le_refl _) _).alloc (by simp) _⟩
  have := Blk.new (w.alloc (.cells c t)) t d
  rw [World.size_alloc] at this
  exact this

set_option maxHeartbeats 1000000 in
theorem ref13_Put_not (room : Int) (L : List Sl.It) (lab x : Int) (v : Value) (w : World) (hv : SlR w 2 encIt v L) (hty : TyI w v) :
    Calls Try.prog 34 #[.agg #[.bool false, .int .i64 room, v], .int .i64 lab, .int .i64 x] w (RetTE false room 1 L w) := by
  have HV := Lib.hid hv
  have HTy := Lib.hid hty
  clear hty
  obtain ⟨p, cap, rfl, hc1, hc2, hR⟩ := hv
  have hb : ∀ c d, Below w.heap.size w ((w.alloc (.cells c 40)).alloc (.cells d 40)) := fun c d => (blk2 w 40 c d).2.2
  have HB := Lib.hid hb
  clear hR hb
  go_enter Try.func34, Try.ntmps34
  go_wp2
  exact bodyPost_ret (v := .tuple #[.agg #[.bool false, .int .i64 room, .slice p L.length cap], .int .i64 1]) (by simp [results, Try.results34, go_sem]) rfl ⟨_, rfl, HV.out.below (HB.out _ _) (Nat.le_refl _), HTy.out.below (HB.out _ _) (Nat.le_refl _), HB.out _ _⟩

set_option maxHeartbeats 1000000 in
theorem ref13_Put_bad (room : Int) (L : List Sl.It) (lab x : Int) (v : Value) (w : World) (hv : SlR w 2 encIt v L) (hty : TyI w v) (hbad : lab < 0 ∨ 1048575 < lab) :
    Calls Try.prog 34 #[.agg #[.bool true, .int .i64 room, v], .int .i64 lab, .int .i64 x] w (RetTE true room 40 L w) := by
  have HV := Lib.hid hv
  have HTy := Lib.hid hty
  clear hty
  obtain ⟨p, cap, rfl, hc1, hc2, hR⟩ := hv
  have hb : ∀ c d, Below w.heap.size w ((w.alloc (.cells c 40)).alloc (.cells d 40)) := fun c d => (blk2 w 40 c d).2.2
  have HB := Lib.hid hb
  clear hR hb
  rcases hbad with h | h
  · go_enter Try.func34, Try.ntmps34
    go_wp2
    exact bodyPost_ret (v := .tuple #[.agg #[.bool true, .int .i64 room, .slice p L.length cap], .int .i64 40]) (by simp [results, Try.results34, go_sem]) rfl ⟨_, rfl, HV.out.below (HB.out _ _) (Nat.le_refl _), HTy.out.below (HB.out _ _) (Nat.le_refl _), HB.out _ _⟩
  · have h2 : ¬ lab < 0 := by omega
    go_enter Try.func34, Try.ntmps34
    go_wp2
    exact bodyPost_ret (v := .tuple #[.agg #[.bool true, .int .i64 room, .slice p L.length cap], .int .i64 40]) (by simp [results, Try.results34, go_sem]) rfl ⟨_, rfl, HV.out.below (HB.out _ _) (Nat.le_refl _), HTy.out.below (HB.out _ _) (Nat.le_refl _), HB.out _ _⟩

set_option maxHeartbeats 1000000 in
theorem ref13_Delete_not (room : Int) (L : List Sl.It) (lab : Int) (v : Value) (w : World) (hv : SlR w 2 encIt v L) (hty : TyI w v) :
    Calls Try.prog 36 #[.agg #[.bool false, .int .i64 room, v], .int .i64 lab] w (RetTE false room 1 L w) := by
  have HV := Lib.hid hv
  have HTy := Lib.hid hty
  clear hty
  obtain ⟨p, cap, rfl, hc1, hc2, hR⟩ := hv
  have hb : ∀ c d, Below w.heap.size w ((w.alloc (.cells c 40)).alloc (.cells d 40)) := fun c d => (blk2 w 40 c d).2.2
  have HB := Lib.hid hb
  clear hR hb
  go_enter Try.func36, Try.ntmps36
  go_wp2
  exact bodyPost_ret (v := .tuple #[.agg #[.bool false, .int .i64 room, .slice p L.length cap], .int .i64 1]) (by simp [results, Try.results36, go_sem]) rfl ⟨_, rfl, HV.out.below (HB.out _ _) (Nat.le_refl _), HTy.out.below (HB.out _ _) (Nat.le_refl _), HB.out _ _⟩

set_option maxHeartbeats 1000000 in
theorem ref13_Delete_bad (room : Int) (L : List Sl.It) (lab : Int) (v : Value) (w : World) (hv : SlR w 2 encIt v L) (hty : TyI w v) (hbad : lab < 0 ∨ 1048575 < lab) :
    Calls Try.prog 36 #[.agg #[.bool true, .int .i64 room, v], .int .i64 lab] w (RetTE true room 40 L w) := by
  have HV := Lib.hid hv
  have HTy := Lib.hid hty
  clear hty
  obtain ⟨p, cap, rfl, hc1, hc2, hR⟩ := hv
  have hb : ∀ c d, Below w.heap.size w ((w.alloc (.cells c 40)).alloc (.cells d 40)) := fun c d => (blk2 w 40 c d).2.2
  have HB := Lib.hid hb
  clear hR hb
  rcases hbad with h | h
  · go_enter Try.func36, Try.ntmps36
    go_wp2
    exact bodyPost_ret (v := .tuple #[.agg #[.bool true, .int .i64 room, .slice p L.length cap], .int .i64 40]) (by simp [results, Try.results36, go_sem]) rfl ⟨_, rfl, HV.out.below (HB.out _ _) (Nat.le_refl _), HTy.out.below (HB.out _ _) (Nat.le_refl _), HB.out _ _⟩
  · have h2 : ¬ lab < 0 := by omega
    go_enter Try.func36, Try.ntmps36
    go_wp2
    exact bodyPost_ret (v := .tuple #[.agg #[.bool true, .int .i64 room, .slice p L.length cap], .int .i64 40]) (by simp [results, Try.results36, go_sem]) rfl ⟨_, rfl, HV.out.below (HB.out _ _) (Nat.le_refl _), HTy.out.below (HB.out _ _) (Nat.le_refl _), HB.out _ _⟩

set_option maxRecDepth 100000 in
set_option maxHeartbeats 2000000 in
theorem ref13_Put_full (room : Int) (L : List Sl.It) (hl : L.length ≤ 536870912) (lab x : Int) (v : Value) (w : World) (hv : SlR w 2 encIt v L) (hty : TyI w v) (h0 : 0 ≤ lab) (h1 : lab ≤ 1048575) (hh : Sl.hasB L lab = false) (hfull : (L.length : Int) = room) :
    Calls Try.prog 34 #[.agg #[.bool true, .int .i64 room, v], .int .i64 lab, .int .i64 x] w (RetTE true room 30 L w) := by
  have HV := Lib.hid hv
  have HTy := Lib.hid hty
  clear hty
  obtain ⟨k1, k2, hba⟩ := blk2 w 40 #[.bool true, .int .i64 room, v] #[.bool false, .int .i64 0, .slice none 0 0]
  have HF := Lib.hid (ref13_find L (by omega) lab v _ (hv.below hba (Nat.le_refl _)))
  obtain ⟨p, cap, rfl, hc1, hc2, hR⟩ := hv
  have HBA := Lib.hid hba
  have HK1 := Lib.hid k1
  have HK2 := Lib.hid k2
  unfold FindIs at HF
  rw [hh] at HF
  have ef : ((L.length : Int) == room) = true := by simpa using hfull
  clear hfull
  clear hh hba hR k1 k2
  go_enter Try.func34, Try.ntmps34
  go_wp2_with fail
  refine HF.out.mono ?_
  rintro e w2 ⟨rfl, hb2⟩
  have B2 : Blk w2 w.heap.size _ _ := (hb2.block _ HK1.out.lt).trans HK1.out
  have R2 : Blk w2 (w.heap.size + 1) _ _ := (hb2.block _ HK2.out.lt).trans HK2.out
  have s0 := B2.cell 0
  have s1 := B2.cell 1
  have s2 := B2.cell 2
  have t0 := R2.cell 0
  have t1 := R2.cell 1
  have t2 := R2.cell 2
  have g0 := R2.frozen' 0
  have g1 := R2.frozen' 1
  have g2 := R2.frozen' 2
  simp at s0 s1 s2 t0 t1 t2
  have HBw : Hid (Below w.heap.size w w2) := Lib.hid (HBA.out.trans (hb2.mono (by simp; omega)))
  clear B2 R2 hb2
  go_wp2
  have hb := below_sets HBw.out [(⟨w.heap.size + 1, 0, none⟩, .bool true), (⟨w.heap.size + 1, 1, none⟩, .int .i64 room), (⟨w.heap.size + 1, 2, none⟩, .slice p L.length cap)] (by simp)
  exact bodyPost_ret (v := .tuple #[.agg #[.bool true, .int .i64 room, .slice p L.length cap], .int .i64 30]) (by simp [results, Try.results34, go_sem, t0, t1, t2]) rfl ⟨_, rfl, HV.out.below hb (Nat.le_refl _), HTy.out.below hb (Nat.le_refl _), hb⟩

set_option maxRecDepth 100000 in
set_option maxHeartbeats 2000000 in
theorem ref13_Delete_none (room : Int) (L : List Sl.It) (hl : L.length ≤ 536870912) (lab : Int) (v : Value) (w : World) (hv : SlR w 2 encIt v L) (hty : TyI w v) (h0 : 0 ≤ lab) (h1 : lab ≤ 1048575) (hh : Sl.hasB L lab = false) :
    Calls Try.prog 36 #[.agg #[.bool true, .int .i64 room, v], .int .i64 lab] w (RetTE true room 31 L w) := by
  have HV := Lib.hid hv
  have HTy := Lib.hid hty
  clear hty
  obtain ⟨k1, k2, hba⟩ := blk2 w 40 #[.bool true, .int .i64 room, v] #[.bool false, .int .i64 0, .slice none 0 0]
  have HF := Lib.hid (ref13_find L (by omega) lab v _ (hv.below hba (Nat.le_refl _)))
  obtain ⟨p, cap, rfl, hc1, hc2, hR⟩ := hv
  have HBA := Lib.hid hba
  have HK1 := Lib.hid k1
  have HK2 := Lib.hid k2
  unfold FindIs at HF
  rw [hh] at HF
  clear hh hba hR k1 k2
  go_enter Try.func36, Try.ntmps36
  go_wp2_with fail
  refine HF.out.mono ?_
  rintro e w2 ⟨rfl, hb2⟩
  have B2 : Blk w2 w.heap.size _ _ := (hb2.block _ HK1.out.lt).trans HK1.out
  have R2 : Blk w2 (w.heap.size + 1) _ _ := (hb2.block _ HK2.out.lt).trans HK2.out
  have s0 := B2.cell 0
  have s1 := B2.cell 1
  have s2 := B2.cell 2
  have t0 := R2.cell 0
  have t1 := R2.cell 1
  have t2 := R2.cell 2
  have g0 := R2.frozen' 0
  have g1 := R2.frozen' 1
  have g2 := R2.frozen' 2
  simp at s0 s1 s2 t0 t1 t2
  have HBw : Hid (Below w.heap.size w w2) := Lib.hid (HBA.out.trans (hb2.mono (by simp; omega)))
  clear B2 R2 hb2
  go_wp2
  have hb := below_sets HBw.out [(⟨w.heap.size + 1, 0, none⟩, .bool true), (⟨w.heap.size + 1, 1, none⟩, .int .i64 room), (⟨w.heap.size + 1, 2, none⟩, .slice p L.length cap)] (by simp)
  exact bodyPost_ret (v := .tuple #[.agg #[.bool true, .int .i64 room, .slice p L.length cap], .int .i64 31]) (by simp [results, Try.results36, go_sem, t0, t1, t2]) rfl ⟨_, rfl, HV.out.below hb (Nat.le_refl _), HTy.out.below hb (Nat.le_refl _), hb⟩

set_option maxRecDepth 100000 in
set_option maxHeartbeats 4000000 in
theorem ref13_Delete_ok (room : Int) (L : List Sl.It) (hl : L.length ≤ 536870912) (lab : Int) (v : Value) (w : World) (hv : SlR w 2 encIt v L) (h0 : 0 ≤ lab) (h1 : lab ≤ 1048575) (hh : Sl.hasB L lab = true) :
    Calls Try.prog 36 #[.agg #[.bool true, .int .i64 room, v], .int .i64 lab] w (RetTE true room 0 (Sl.del L lab) w) := by
  obtain ⟨k1, k2, hba⟩ := blk2 w 40 #[.bool true, .int .i64 room, v] #[.bool false, .int .i64 0, .slice none 0 0]
  have HF := Lib.hid (ref13_find L (by omega) lab v _ (hv.below hba (Nat.le_refl _)))
  obtain ⟨p, cap, rfl, hc1, hc2, hR⟩ := hv
  have HBA := Lib.hid hba
  have HK1 := Lib.hid k1
  have HK2 := Lib.hid k2
  have hkl := (gotten L lab hh).1
  have HPut : Hid (Sl.del L lab = L.take (Sl.pos L lab) ++ L.drop (Sl.pos L lab + 1)) := Lib.hid rfl
  have HRd := Lib.hid hR
  unfold FindIs at HF
  rw [hh] at HF
  generalize Sl.pos L lab = k at HF HPut hkl
  generalize Sl.del L lab = L' at HPut
  clear hh hba hR k1 k2
  go_enter Try.func36, Try.ntmps36
  go_wp2_with fail
  refine HF.out.mono ?_
  rintro e w2 ⟨rfl, hb2⟩
  have B2 : Blk w2 w.heap.size _ _ := (hb2.block _ HK1.out.lt).trans HK1.out
  have R2 : Blk w2 (w.heap.size + 1) _ _ := (hb2.block _ HK2.out.lt).trans HK2.out
  have b2 := B2.cell 2
  simp at b2
  have HB2 := Lib.hid B2
  have HR2 := Lib.hid R2
  have HBw : Hid (Below w.heap.size w w2) := Lib.hid (HBA.out.trans (hb2.mono (by simp; omega)))
  have hsz : w.heap.size < w2.heap.size := B2.lt
  have hsz2 : w.heap.size + 1 < w2.heap.size := R2.lt
  clear B2 R2 hb2
  have HTk := Lib.hid (show k = (L.take k).length by rw [List.length_take]; omega)
  have HDk := Lib.hid (show L.length - (k + 1) = (L.drop (k + 1)).length by rw [List.length_drop])
  have HE1 := Lib.hid (show L'.length = 0 + (L.take k).length + (L.drop (k + 1)).length by rw [HPut.out]; simp)
  have HE2 := Lib.hid (show flat encIt L' = [] ++ flat encIt (L.take k) ++ flat encIt (L.drop (k + 1)) by rw [HPut.out]; simp [flat, encIt])
  have HT := Lib.hid ((HRd.out.below HBw.out (Nat.le_refl _)).take k)
  cases p with
  | none =>
    have hL : L.length = 0 := HRd.out.1 rfl
    omega
  | some ad =>
    obtain ⟨b, off, spot⟩ := ad
    obtain rfl : spot = none := (HRd.out.2 _ rfl).1
    by_cases hck : cap = k + 1
    · have HD : Hid (RdP w2 2 encIt (some ⟨b, off, none⟩) (L.drop (k + 1))) := Lib.hid (by rw [show L.drop (k + 1) = L.take 0 by rw [List.drop_of_length_le (by omega)]; rfl]; exact (HRd.out.below HBw.out (Nat.le_refl _)).take 0)
      have HDk := Lib.hid (show 0 = (L.drop (k + 1)).length by rw [List.length_drop]; omega)
      subst hck
      go_wp2_with (first
        | (at_builtin; refine wpList_app_sl' elemI rfl (.tmp 30) (.tmp 34) rfl w2.heap.size (.slice none 0 0) 0 [] rfl (World.ownsRow_nil _ _ _ _) encIt encIt_len (some ⟨b, off, none⟩) _ _ (L.take k) HTk.out rfl HT.out encIt_one (by rw [← HTk.out]; omega) (Nat.le_refl _) ?_; intro v3 w3 hown3 _ _ hb3; have q4 : Blk w3 _ _ _ := (hb3.block _ HB2.out.lt).trans HB2.out; have q42 := q4.cell 2; simp at q42)
        | (at_builtin; refine wpList_app_sl' elemI rfl (.tmp 36) (.tmp 41) rfl w2.heap.size v3 _ _ rfl hown3 encIt encIt_len _ _ _ (L.drop (k + 1)) HDk.out rfl (HD.out.below hb3 (Nat.le_refl _)) encIt_one (by rw [← HTk.out, ← HDk.out]; omega) hb3.size ?_; intro v5 w5 hown5 _ _ hb5; rw [← HE1.out, ← HE2.out] at hown5; obtain ⟨p5, c5, rfl, hd1, hd2, hR5⟩ := SlR.of_owns encIt_len hown5; have HO5 := Lib.hid hown5; clear hown5 hR5 hd1 hd2; have hb5w : Below w2.heap.size w2 w5 := hb3.trans hb5; have Q5 : Blk w5 _ _ _ := (hb5w.block _ HB2.out.lt).trans HB2.out; have P5 : Blk w5 _ _ _ := (hb5w.block _ HR2.out.lt).trans HR2.out; have s0 := Q5.cell 0; have s1 := Q5.cell 1; have s2 := Q5.cell 2; have t0 := P5.cell 0; have t1 := P5.cell 1; have t2 := P5.cell 2; have f2 := Q5.frozen' 2; have g0 := P5.frozen' 0; have g1 := P5.frozen' 1; have g2 := P5.frozen' 2; simp at s0 s1 s2 t0 t1 t2))
      refine bodyPost_ret (v := .tuple #[.agg #[.bool true, .int .i64 room, .slice p5 L'.length c5], .int .i64 0]) (by simp [results, Try.results36, go_sem, t0, t1, t2]) rfl ⟨_, rfl, ?_, (TyI.owns HO5.out).sets [(⟨w.heap.size, 2, none⟩, _), (⟨w.heap.size + 1, 0, none⟩, _), (⟨w.heap.size + 1, 1, none⟩, _), (⟨w.heap.size + 1, 2, none⟩, _)], ?_⟩
      · exact slr_sets HO5.out [(⟨w.heap.size, 2, none⟩, _), (⟨w.heap.size + 1, 0, none⟩, _), (⟨w.heap.size + 1, 1, none⟩, _), (⟨w.heap.size + 1, 2, none⟩, _)] (by simp; omega)
      · exact below_sets (HBw.out.trans (hb5w.mono (by omega))) [(⟨w.heap.size, 2, none⟩, _), (⟨w.heap.size + 1, 0, none⟩, _), (⟨w.heap.size + 1, 1, none⟩, _), (⟨w.heap.size + 1, 2, none⟩, _)] (by simp)
    · have HD : Hid (RdP w2 2 encIt (some ⟨b, off + (k + 1) * 2, none⟩) (L.drop (k + 1))) := Lib.hid ((HRd.out.below HBw.out (Nat.le_refl _)).drop (k + 1))
      have hck' : k + 1 < cap := by omega
      go_wp2_with (first
        | (at_builtin; refine wpList_app_sl' elemI rfl (.tmp 30) (.tmp 34) rfl w2.heap.size (.slice none 0 0) 0 [] rfl (World.ownsRow_nil _ _ _ _) encIt encIt_len (some ⟨b, off, none⟩) _ _ (L.take k) HTk.out rfl HT.out encIt_one (by rw [← HTk.out]; omega) (Nat.le_refl _) ?_; intro v3 w3 hown3 _ _ hb3; have q4 : Blk w3 _ _ _ := (hb3.block _ HB2.out.lt).trans HB2.out; have q42 := q4.cell 2; simp at q42)
        | (at_builtin; refine wpList_app_sl' elemI rfl (.tmp 36) (.tmp 41) rfl w2.heap.size v3 _ _ rfl hown3 encIt encIt_len _ _ _ (L.drop (k + 1)) HDk.out rfl (HD.out.below hb3 (Nat.le_refl _)) encIt_one (by rw [← HTk.out, ← HDk.out]; omega) hb3.size ?_; intro v5 w5 hown5 _ _ hb5; rw [← HE1.out, ← HE2.out] at hown5; obtain ⟨p5, c5, rfl, hd1, hd2, hR5⟩ := SlR.of_owns encIt_len hown5; have HO5 := Lib.hid hown5; clear hown5 hR5 hd1 hd2; have hb5w : Below w2.heap.size w2 w5 := hb3.trans hb5; have Q5 : Blk w5 _ _ _ := (hb5w.block _ HB2.out.lt).trans HB2.out; have P5 : Blk w5 _ _ _ := (hb5w.block _ HR2.out.lt).trans HR2.out; have s0 := Q5.cell 0; have s1 := Q5.cell 1; have s2 := Q5.cell 2; have t0 := P5.cell 0; have t1 := P5.cell 1; have t2 := P5.cell 2; have f2 := Q5.frozen' 2; have g0 := P5.frozen' 0; have g1 := P5.frozen' 1; have g2 := P5.frozen' 2; simp at s0 s1 s2 t0 t1 t2))
      refine bodyPost_ret (v := .tuple #[.agg #[.bool true, .int .i64 room, .slice p5 L'.length c5], .int .i64 0]) (by simp [results, Try.results36, go_sem, t0, t1, t2]) rfl ⟨_, rfl, ?_, (TyI.owns HO5.out).sets [(⟨w.heap.size, 2, none⟩, _), (⟨w.heap.size + 1, 0, none⟩, _), (⟨w.heap.size + 1, 1, none⟩, _), (⟨w.heap.size + 1, 2, none⟩, _)], ?_⟩
      · exact slr_sets HO5.out [(⟨w.heap.size, 2, none⟩, _), (⟨w.heap.size + 1, 0, none⟩, _), (⟨w.heap.size + 1, 1, none⟩, _), (⟨w.heap.size + 1, 2, none⟩, _)] (by simp; omega)
      · exact below_sets (HBw.out.trans (hb5w.mono (by omega))) [(⟨w.heap.size, 2, none⟩, _), (⟨w.heap.size + 1, 0, none⟩, _), (⟨w.heap.size + 1, 1, none⟩, _), (⟨w.heap.size + 1, 2, none⟩, _)] (by simp)
end Go.Proofs.Ytcioiiobjfblbaa
