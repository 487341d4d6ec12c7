/- colon.Show, Multi, Plain. -/
import Derived.Test.YtjbolphfelakeaaGreatDoorColonJoin
import Derived.Deep.RegionWith
namespace Go.Proofs.YtjbolphfelakeaaGreatDoor
set_option linter.unusedVariables false
set_option linter.unusedSimpArgs false
open Go.RowKit Go.Shelf Go.Proofs Go.OctetPlain Go.ColonPlain

/-- a window of an array of groups, as a slice -/
theorem slr_win {W : World} {g : Nat} {t : TypeId} {G : List Nat} (h : Blk W g t (arrI (ints G))) (k n cap : Nat) (hn : k + n ≤ G.length) (hc : n ≤ cap) (hc2 : cap ≤ 9223372036854775807) : SlR W 1 encN (.slice (some ⟨g, k, none⟩) n cap) ((G.drop k).take n) := by
  have hl : ((G.drop k).take n).length = n := by rw [List.length_take, List.length_drop]; omega
  refine ⟨_, cap, by rw [hl], by omega, hc2, (fun e => by cases e), fun a ha => ?_⟩
  cases ha
  refine ⟨rfl, h.lt, fun i x hx j u hu => ?_⟩
  have hj : j = 0 := by have := (List.getElem?_eq_some_iff.1 hu).1; simpa [encN] using this
  subst hj
  simp only [encN, List.getElem?_cons_zero, Option.some.injEq] at hu
  subst hu
  simp only [Nat.mul_one, Nat.add_zero]
  rw [h.cell (k + i)]
  apply arrI_get
  apply ints_get
  rw [List.getElem?_take] at hx
  split at hx
  · rw [List.getElem?_drop] at hx; exact hx
  · cases hx
structure TJ (w : World) (B : Nat) (G : List Nat) (W : World) : Prop where
  ct : CT W
  blk : Blk W B 64 (arrI (ints G))
  below : Below w.heap.size w W
theorem TJ.next {w : World} {B : Nat} {G : List Nat} {W W' : World} (h : TJ w B G W) (hb : Below W.heap.size W W') : TJ w B G W' :=
  ⟨h.ct.below hb, h.blk.below hb h.blk.lt, h.below.trans (hb.mono h.below.size)⟩
theorem TJ.drew {w : World} {B : Nat} {G : List Nat} {W : World} (h : TJ w B G W) : TJ w B G W.drew := h.next (Below.refl _ _).drew

set_option maxRecDepth 100000 in
set_option maxHeartbeats 800000 in
theorem colon_Show (l : List UInt8) (hl : l.length = 16) (w : World) (ht : CT w) :
    Calls Tryz.prog 29 #[.agg (arrB l)] w fun e w' => e = .returned (.string (str (show_ l))) ∧ Below w.heap.size w w' := by
  obtain ⟨y0, y1, y2, y3, y4, y5, y6, y7, y8, y9, y10, y11, y12, y13, y14, y15, hy⟩ := list16 hl
  have hgl : (groupsOf l).length = 8 := groups_length 8 l (by omega)
  obtain ⟨g0, g1, g2, g3, g4, g5, g6, g7, hg⟩ := list8 hgl
  have hX : arrB l = #[.int .u8 (y0.toNat : Int), .int .u8 (y1.toNat : Int), .int .u8 (y2.toNat : Int), .int .u8 (y3.toNat : Int), .int .u8 (y4.toNat : Int), .int .u8 (y5.toNat : Int), .int .u8 (y6.toNat : Int), .int .u8 (y7.toNat : Int), .int .u8 (y8.toNat : Int), .int .u8 (y9.toNat : Int), .int .u8 (y10.toNat : Int), .int .u8 (y11.toNat : Int), .int .u8 (y12.toNat : Int), .int .u8 (y13.toNat : Int), .int .u8 (y14.toNat : Int), .int .u8 (y15.toNat : Int)] := by rw [hy]; rfl
  have hGr := fun W => colon_Groups l hl W
  have hGI : arrI (ints (groupsOf l)) = #[.int .i64 (g0 : Int), .int .i64 (g1 : Int), .int .i64 (g2 : Int), .int .i64 (g3 : Int), .int .i64 (g4 : Int), .int .i64 (g5 : Int), .int .i64 (g6 : Int), .int .i64 (g7 : Int)] := by rw [hg]; rfl
  have hRn := fun W => colon_run (groupsOf l) hgl W
  rw [hX] at hGr ⊢
  rw [hGI] at hGr hRn
  have HGr := Lib.hid hGr
  have HRn := Lib.hid hRn
  have HX := Lib.hid hX
  have HT := Lib.hid ht
  have HG := Lib.hid hg
  clear hX hy hg hGI hGr hRn ht
  go_enter Tryz.func29, Tryz.ntmps29
  go_wp2_with fail
  refine (HGr.out _).mono ?_
  rintro e w1 ⟨rfl, hb1⟩
  go_wp2_with fail
  have T1 : Hid (TJ w w1.heap.size (groupsOf l) (w1.alloc (.cells #[.int .i64 (g0 : Int), .int .i64 (g1 : Int), .int .i64 (g2 : Int), .int .i64 (g3 : Int), .int .i64 (g4 : Int), .int .i64 (g5 : Int), .int .i64 (g6 : Int), .int .i64 (g7 : Int)] 64))) := by
    have hB := Blk.new w1 64 #[.int .i64 (g0 : Int), .int .i64 (g1 : Int), .int .i64 (g2 : Int), .int .i64 (g3 : Int), .int .i64 (g4 : Int), .int .i64 (g5 : Int), .int .i64 (g6 : Int), .int .i64 (g7 : Int)]
    refine Lib.hid ⟨(HT.out.below (belowA2 hb1)).below (belowA w1 _), by rw [HG.out]; exact hB, (belowA2 hb1).trans ((belowA w1 _).mono (by have := (belowA2 hb1).size; exact this))⟩
  refine (HRn.out _).mono ?_
  rintro e w2 ⟨rfl, hb2⟩
  have T2 := T1.out.next hb2
  have hlt := groups_lt l
  have HLT := Lib.hid hlt
  have hzl : (zs (groupsOf l)).length = 8 := by rw [zs_length, hgl]
  obtain ⟨r1, r2, r3, r4⟩ := runFrom_spec (zs (groupsOf l)) (zs (groupsOf l)) 0 0 0 0 rfl (by omega) (Nat.le_refl _) (fun j _ hj => by omega) (Nat.le_refl _) (Nat.le_refl _) (Or.inl rfl) (fun j _ hj => by omega)
  have er : runFrom 0 0 0 0 (zs (groupsOf l)) = run (groupsOf l) := rfl
  rw [er] at r1 r2
  have HS : Hid (show_ l = if (run (groupsOf l)).1 = (run (groupsOf l)).2 then joinF hexN (groupsOf l) else joinF hexN ((groupsOf l).take (run (groupsOf l)).1) ++ 58 :: 58 :: joinF hexN ((groupsOf l).drop (run (groupsOf l)).2)) := rfl
  clear hb1 hb2 r3 r4 er hlt
  generalize run (groupsOf l) = rr at r1 r2 HS ⊢
  obtain ⟨f, t⟩ := rr
  simp only at r1 r2 HS ⊢
  rw [hzl] at r2
  clear hzl T1
  have hal : Tryz.prog.arrayLen 64 = 8 := by kernel_rfl
  by_cases hft : f = t
  · subst hft
    have HS1 : Hid (show_ l = joinF hexN (groupsOf l)) := by rw [HS.out, if_pos rfl]; exact Lib.hid rfl
    have hw := slr_win T2.blk 0 8 8 (by omega) (by omega) (by omega)
    rw [List.drop_zero, List.take_of_length_le (by omega)] at hw
    have HC := Lib.hid (colon_joined (groupsOf l) (by omega) HLT.out _ w2 T2.ct hw)
    have HB2 := Lib.hid T2.below
    clear hw T2 HS
    go_wp2_with fail
    refine HC.out.mono ?_
    rintro e w3 ⟨rfl, hb3⟩
    go_wp2_with fail
    go_ret
    exact ⟨by rw [HS1.out]; rfl, HB2.out.trans (hb3.mono HB2.out.size)⟩
  · have HS1 : Hid (show_ l = joinF hexN ((groupsOf l).take f) ++ 58 :: 58 :: joinF hexN ((groupsOf l).drop t)) := by rw [HS.out, if_neg hft]; exact Lib.hid rfl
    have hf8 : (f : Int) ≤ 8 := by omega
    have ht8 : (t : Int) ≤ 8 := by omega
    have hfi : ¬ (f : Int) = t := by omega
    have hl1 := joinF_le hexN_length ((groupsOf l).take f)
    have hl2 := joinF_le hexN_length ((groupsOf l).drop t)
    rw [List.length_take] at hl1
    rw [List.length_drop] at hl2
    have s1 : (str (joinF hexN ((groupsOf l).take f))).size = (joinF hexN ((groupsOf l).take f)).length := str_size _
    have s2 : (str (joinF hexN ((groupsOf l).drop t))).size = (joinF hexN ((groupsOf l).drop t)).length := str_size _
    have n1 : (joinF hexN ((groupsOf l).take f)).length ≤ 1000 := by omega
    have n2 : (joinF hexN ((groupsOf l).drop t)).length ≤ 1000 := by omega
    have JA : Hid (∀ W, TJ w w1.heap.size (groupsOf l) W → Calls Tryz.prog 47 #[.slice (some ⟨w1.heap.size, 0, none⟩) f 8] W fun e w' => e = .returned (.string (str (joinF hexN ((groupsOf l).take f)))) ∧ Below W.heap.size W w') := by
      refine Lib.hid fun W h => colon_joined _ (by rw [List.length_take]; omega) (fun n hn => HLT.out n (List.mem_of_mem_take hn)) _ W h.ct ?_
      have := slr_win h.blk 0 f 8 (by omega) (by omega) (by omega)
      rw [List.drop_zero] at this
      exact this
    have T2d := T2.drew
    by_cases ht : t = 8
    · have hd8 : (groupsOf l).drop t = [] := List.drop_eq_nil_of_le (by omega)
      have JB : Hid (∀ W, TJ w w1.heap.size (groupsOf l) W → Calls Tryz.prog 47 #[.slice (some ⟨w1.heap.size, 0, none⟩) 0 0] W fun e w' => e = .returned (.string (str (joinF hexN ((groupsOf l).drop t)))) ∧ Below W.heap.size W w') := by
        refine Lib.hid fun W h => colon_joined _ (by rw [List.length_drop]; omega) (fun n hn => HLT.out n (List.mem_of_mem_drop hn)) _ W h.ct ?_
        have := slr_win h.blk 0 0 0 (by omega) (by omega) (by omega)
        rw [hd8]
        exact this
      clear hl1 hl2 hd8
      generalize joinF hexN ((groupsOf l).take f) = A at *
      generalize joinF hexN ((groupsOf l).drop t) = Z at *
      have hz : ByteArray.size ⟨#[58, 58]⟩ = 2 := rfl
      have hcat : str A ++ ⟨#[58, 58]⟩ ++ str Z = str (A ++ 58 :: 58 :: Z) := by
        show str A ++ str [58, 58] ++ str Z = _
        rw [str_app, str_app]; simp
      have hcs : (str A ++ ⟨#[58, 58]⟩ : ByteArray).size = A.length + 2 := by rw [ByteArray.size_append, s1]; rfl
      have HCAT := Lib.hid hcat
      clear T2 hcat
      go_wp2_with fail
      go_region_with (first
        | (go_at_call_of 47 f; refine (JA.out _ (by assumption)).mono ?_; rintro e wa ⟨rfl, hba⟩; have hTa := TJ.next (w := w) (B := w1.heap.size) (G := groupsOf l) (by assumption) hba; clear hba)
        | (go_at_call 47; go_loud (refine (JB.out _ (by assumption)).mono ?_; rintro e wb ⟨rfl, hbb⟩; have hTb := TJ.next (w := w) (B := w1.heap.size) (G := groupsOf l) (by assumption) hbb; clear hbb)))
      all_goals go_wp2_with fail
      all_goals
        refine bodyPost_ret (v := .string (str A ++ ⟨#[58, 58]⟩ ++ str Z)) ?_ rfl ⟨by rw [HCAT.out, ← HS1.out], ?_⟩
        · simp [results, Tryz.results29, go_sem]
        · first | exact hTb.below | exact hTa.below
    · have hne8 : ¬ 8 = t := by omega
      have JB : Hid (∀ W, TJ w w1.heap.size (groupsOf l) W → Calls Tryz.prog 47 #[.slice (some ⟨w1.heap.size, t, none⟩) (8 - t) (8 - t)] W fun e w' => e = .returned (.string (str (joinF hexN ((groupsOf l).drop t)))) ∧ Below W.heap.size W w') := by
        refine Lib.hid fun W h => colon_joined _ (by rw [List.length_drop]; omega) (fun n hn => HLT.out n (List.mem_of_mem_drop hn)) _ W h.ct ?_
        have := slr_win h.blk t (8 - t) (8 - t) (by omega) (by omega) (by omega)
        rw [List.take_of_length_le (by rw [List.length_drop]; omega)] at this
        exact this
      clear hl1 hl2
      generalize joinF hexN ((groupsOf l).take f) = A at *
      generalize joinF hexN ((groupsOf l).drop t) = Z at *
      have hz : ByteArray.size ⟨#[58, 58]⟩ = 2 := rfl
      have hcat : str A ++ ⟨#[58, 58]⟩ ++ str Z = str (A ++ 58 :: 58 :: Z) := by
        show str A ++ str [58, 58] ++ str Z = _
        rw [str_app, str_app]; simp
      have hcs : (str A ++ ⟨#[58, 58]⟩ : ByteArray).size = A.length + 2 := by rw [ByteArray.size_append, s1]; rfl
      have HCAT := Lib.hid hcat
      clear T2 hcat
      go_wp2_with fail
      go_region_with (first
        | (go_at_call_of 47 f; refine (JA.out _ (by assumption)).mono ?_; rintro e wa ⟨rfl, hba⟩; have hTa := TJ.next (w := w) (B := w1.heap.size) (G := groupsOf l) (by assumption) hba; clear hba)
        | (go_at_call 47; go_loud (refine (JB.out _ (by assumption)).mono ?_; rintro e wb ⟨rfl, hbb⟩; have hTb := TJ.next (w := w) (B := w1.heap.size) (G := groupsOf l) (by assumption) hbb; clear hbb)))
      all_goals go_wp2_with fail
      all_goals
        refine bodyPost_ret (v := .string (str A ++ ⟨#[58, 58]⟩ ++ str Z)) ?_ rfl ⟨by rw [HCAT.out, ← HS1.out], ?_⟩
        · simp [results, Tryz.results29, go_sem]
        · first | exact hTb.below | exact hTa.below
end Go.Proofs.YtjbolphfelakeaaGreatDoor
