/- Layer 26's laws: SegmentShort. -/
import Derived.Test.YtilahcnpjbnjiaaGreatDoorSegAwake
namespace Go.Proofs.YtilahcnpjbnjiaaGreatDoor
set_option linter.unusedVariables false
set_option linter.unusedSimpArgs false
open Go.RowKit Go.Shelf Go.Proofs Go.OctetPlain

theorem SlR.some_of {w : World} {v : Value} {xs : List Sg.Seg} (h : SlR w 2 encG v xs) (hn : 0 < xs.length) : ∃ b o c, v = .slice (some ⟨b, o, none⟩) xs.length c := by
  obtain ⟨p, c, rfl, -, -, hR⟩ := h
  cases p with
  | none => have := hR.1 rfl; omega
  | some a =>
    obtain ⟨hs, -, -⟩ := hR.2 a rfl
    cases a
    simp only at hs
    subst hs
    exact ⟨_, _, _, rfl⟩
theorem SlR.cellG {w : World} {b o n c : Nat} {xs : List Sg.Seg} (h : SlR w 2 encG (.slice (some ⟨b, o, none⟩) n c) xs) {i : Nat} (hi : i < xs.length) : w.cell? ⟨b, o + i * 2, none⟩ = some (.bool xs[i].link) ∧ w.cell? ⟨b, o + i * 2 + 1, none⟩ = some (.int .i64 xs[i].n) := by
  obtain ⟨p, k, hv, -, -, hR⟩ := h
  injection hv with h1 h2 h3
  subst h1
  obtain ⟨b', o', h1, -, h2, h3⟩ := hR.atG hi
  simp only [Option.some.injEq, Addr.mk.injEq, and_true] at h1
  obtain ⟨rfl, rfl⟩ := h1
  exact ⟨h2, h3⟩
/-- both rows -/
structure SH (w : World) (v : Value) (l : List Sg.Seg) (vs : Value) (sh : List Sg.Seg) (W : World) : Prop where
  hv : SlR W 2 encG v l
  hs : SlR W 2 encG vs sh
  bel : Below w.heap.size w W
theorem SH.next {w : World} {v : Value} {l : List Sg.Seg} {vs : Value} {sh : List Sg.Seg} {W W' : World} (h : SH w v l vs sh W) (hb : Below W.heap.size W W') : SH w v l vs sh W' := ⟨h.hv.below hb (Nat.le_refl _), h.hs.below hb (Nat.le_refl _), h.bel.trans (hb.mono h.bel.size)⟩
theorem SH.drewN {w : World} {v : Value} {l : List Sg.Seg} {vs : Value} {sh : List Sg.Seg} {W : World} (h : SH w v l vs sh W) (n : Nat) : SH w v l vs sh (W.drewN n) := h.next (below_drewN (Below.refl _ _) n)
set_option maxRecDepth 100000 in
set_option maxHeartbeats 8000000 in
theorem law_short (l : List Sg.Seg) (hl : l.length ≤ 40) (v : Value) (w : World) (ht : Tabs w) (hv : SlR w 2 encG v l) :
    Calls Tryz.prog 6 #[v] w fun e w' => e = .returned (.bool true) ∧ Below w.heap.size w w' := by
  have HAW := Lib.hid (law_awake w ht)
  have hshl := shortR_le l
  have HSH := Lib.hid fun v W h => seg_Short l (by omega) v W h
  have HSS := Lib.hid fun v W h => seg_Short (Sg.shortR l) (by omega) v W h
  rw [Sg.short_short] at HSS
  have HPL := Lib.hid fun v W h => law_plain (Sg.shortR l) (by omega) v W h
  have HSM : Hid (∀ va vb W, SlR W 2 encG va (Sg.shortR l) → SlR W 2 encG vb (Sg.shortR l) → Calls Tryz.prog 10 #[va, vb] W fun e w' => e = .returned (.bool true) ∧ Below W.heap.size W w') := Lib.hid fun va vb W h1 h2 => by
    have := r26_Same (Sg.shortR l) (Sg.shortR l) va vb W (by omega) h1 h2
    rw [decide_eq_true rfl] at this
    exact this
  have HSC := Lib.hid (Sg.scan_short l)
  have HAD := Lib.hid (Sg.short_adj l)
  have HLA := Lib.hid (Sg.short_last l)
  have HHE := Lib.hid (Sg.short_head l)
  generalize Sg.shortR l = sh at *
  have hvb := hv
  clear ht
  by_cases h0 : l = []
  · subst h0
    obtain ⟨p, cap, rfl, -⟩ := hv
    have hs0 : sh = [] := List.eq_nil_of_length_eq_zero (by simpa using hshl)
    subst hs0
    go_enter Tryz.func6, Tryz.ntmps6
    go_wp2_with fail
    refine HAW.out.mono ?_
    rintro e w1 ⟨rfl, b1⟩
    have HB1 := Lib.hid b1
    clear b1
    go_wp2_with fail
    refine (HSH.out _ _ (hvb.below HB1.out (Nat.le_refl _))).mono ?_
    rintro e w2 ⟨vs, rfl, hs, b2⟩
    have HB2 := Lib.hid (HB1.out.trans (b2.mono HB1.out.size))
    obtain ⟨ps, cs, rfl, -⟩ := hs
    clear b2
    go_wp2_with fail
    go_loopw [5, 6] (fun vk vi wr => vk = .int .i64 0 ∧ vi = .int .i64 0 ∧ wr = w2) (fun _ _ _ => 0)
    case atStart => exact ⟨rfl, rfl, rfl⟩
    case round =>
      obtain ⟨rfl, rfl, rfl⟩ := hrel
      go_wp2_with fail
      go_loopw [7] (fun vi w3 => vi = .int .i64 1 ∧ w3 = wr) (fun _ _ => 0)
      case atStart => exact ⟨rfl, rfl⟩
      case round =>
        obtain ⟨rfl, rfl⟩ := hrel
        go_wp2_with fail
        go_ret
        exact ⟨by simp, HB2.out⟩
  · have hlp : 0 < l.length := by
      rcases l with _ | ⟨a, r⟩
      · exact absurd rfl h0
      · simp
    have hsp : 0 < sh.length := by
      rcases sh with _ | ⟨a, r⟩
      · have h := HHE.out
        rcases l with _ | ⟨b, r⟩
        · exact absurd rfl h0
        · simp at h
      · simp
    obtain ⟨b, o, cap, rfl⟩ := hv.some_of hlp
    have HE0 : Hid (sh[0] = l[0]) := Lib.hid (by
      have h := HHE.out
      rw [List.head?_eq_getElem?, List.head?_eq_getElem?, List.getElem?_eq_getElem hsp, List.getElem?_eq_getElem hlp] at h
      exact Option.some.inj h)
    have HEL : Hid (sh[sh.length - 1]'(by omega) = l[l.length - 1]'(by omega)) := Lib.hid (by
      have h := HLA.out
      rw [List.getLast?_eq_getElem?, List.getLast?_eq_getElem?, List.getElem?_eq_getElem (by omega), List.getElem?_eq_getElem (by omega)] at h
      exact Option.some.inj h)
    clear hv h0
    go_enter Tryz.func6, Tryz.ntmps6
    go_wp2_with fail
    refine HAW.out.mono ?_
    rintro e w1 ⟨rfl, b1⟩
    have HB1 := Lib.hid b1
    clear b1
    go_wp2_with fail
    refine (HSH.out _ _ (hvb.below HB1.out (Nat.le_refl _))).mono ?_
    rintro e w2 ⟨vs, rfl, hs, b2⟩
    obtain ⟨bs, os, cs, rfl⟩ := hs.some_of hsp
    have HS2 : Hid (SH w (.slice (some ⟨b, o, none⟩) l.length cap) l (.slice (some ⟨bs, os, none⟩) sh.length cs) sh w2) := Lib.hid ⟨hvb.below (HB1.out.trans (b2.mono HB1.out.size)) (Nat.le_refl _), hs, HB1.out.trans (b2.mono HB1.out.size)⟩
    clear b2 hs
    go_wp2_with fail
    go_loopw [5, 6] (fun vk vi wr => ∃ k i : Nat, vk = .int .i64 k ∧ vi = .int .i64 i ∧ k ≤ sh.length ∧ i ≤ l.length ∧ Hid (Sg.scanL sh (l.take i) = sh.drop k) ∧ Hid (SH w (.slice (some ⟨b, o, none⟩) l.length cap) l (.slice (some ⟨bs, os, none⟩) sh.length cs) sh wr)) (fun _ vi _ => l.length - (intOf vi).toNat)
    case atStart => exact ⟨0, 0, rfl, rfl, Nat.zero_le _, Nat.zero_le _, Lib.hid (by simp; cases sh <;> rfl), HS2⟩
    case round =>
      clear HS2
      obtain ⟨k, i, rfl, rfl, hk, hi, HK, HS⟩ := hrel
      by_cases hlt : i < l.length
      · have HN := Lib.hid (Sg.scan_snoc (l.take i) sh l[i])
        rw [← List.take_succ_eq_append_getElem hlt, HK.out] at HN
        obtain ⟨hx0, hx1⟩ := HS.out.hv.cellG hlt
        by_cases hks : k < sh.length
        · obtain ⟨hy0, hy1⟩ := HS.out.hs.cellG hks
          have heql := run_eql_sm sh[k] l[i]
          rw [List.drop_eq_getElem_cons hks] at HN
          by_cases hab : sh[k] = l[i]
          · have HM : Hid (Sg.scanL sh (l.take (i + 1)) = sh.drop (k + 1)) := Lib.hid (by rw [HN.out]; simp only; rw [if_pos hab])
            rw [decide_eq_true hab] at heql
            clear HN
            generalize sh[k] = y at *
            generalize l[i] = x at *
            clear hab
            obtain ⟨lk, n⟩ := x
            obtain ⟨lk', n'⟩ := y
            simp only at hx0 hx1 hy0 hy1 heql
            go_wp2_with fail
            go_quiet (fail)
            go_wp2_with fail
            exact ⟨⟨k + 1, i + 1, by go_num, by go_num, by omega, by omega, HM, Lib.hid (HS.out.drewN _)⟩, by simp [intOf]; omega⟩
          · have HM : Hid (Sg.scanL sh (l.take (i + 1)) = sh.drop k) := Lib.hid (by rw [HN.out]; simp only; rw [if_neg hab, ← List.drop_eq_getElem_cons hks])
            rw [decide_eq_false hab] at heql
            clear HN
            generalize sh[k] = y at *
            generalize l[i] = x at *
            clear hab
            obtain ⟨lk, n⟩ := x
            obtain ⟨lk', n'⟩ := y
            simp only at hx0 hx1 hy0 hy1 heql
            go_wp2_with fail
            go_quiet (fail)
            go_wp2_with fail
            exact ⟨⟨k, i + 1, rfl, by go_num, hk, by omega, HM, Lib.hid (HS.out.drewN _)⟩, by simp [intOf]; omega⟩
        · have HM : Hid (Sg.scanL sh (l.take (i + 1)) = sh.drop k) := Lib.hid (by rw [HN.out, List.drop_eq_nil_of_le (by omega)])
          clear HN
          have hd : decide ((k : Int) < (sh.length : Int)) = false := decide_eq_false (by omega)
          generalize l[i] = x at *
          obtain ⟨lk, n⟩ := x
          simp only at hx0 hx1
          go_wp2_with fail
          go_quiet (fail)
          go_wp2_with fail
          exact ⟨⟨k, i + 1, rfl, by go_num, hk, by omega, HM, Lib.hid (HS.out.drewN _)⟩, by simp [intOf]; omega⟩
      · obtain rfl : i = l.length := by omega
        have hkk : k = sh.length := by
          have h := HK.out
          rw [List.take_length, HSC.out] at h
          have := congrArg List.length h
          simp at this
          omega
        subst hkk
        clear HK
        go_wp2_with fail
        go_loopw [7] (fun vi w3 => ∃ i : Nat, vi = .int .i64 i ∧ 1 ≤ i ∧ i ≤ sh.length ∧ Hid (SH w (.slice (some ⟨b, o, none⟩) l.length cap) l (.slice (some ⟨bs, os, none⟩) sh.length cs) sh w3)) (fun vi _ => sh.length - (intOf vi).toNat)
        case atStart => exact ⟨1, rfl, Nat.le_refl _, hsp, HS⟩
        case round =>
          clear HS
          obtain ⟨i, rfl, hi1, hi, HS⟩ := hrel
          by_cases hlt : i < sh.length
          · obtain ⟨hx0, hx1⟩ := HS.out.hs.cellG hlt
            obtain ⟨hy0, hy1⟩ := HS.out.hs.cellG (i := i - 1) (by omega)
            have hne := HAD.out (i - 1) sh[i - 1] sh[i] (List.getElem?_eq_getElem (by omega)) (by rw [show i - 1 + 1 = i by omega]; exact List.getElem?_eq_getElem hlt)
            have heql := run_eql_sm sh[i] sh[i - 1]
            rw [decide_eq_false (fun e => hne e.symm)] at heql
            have hm : ((i : Int) - 1).toNat = i - 1 := by omega
            have hm0 : (0 : Int) ≤ (i : Int) - 1 := by omega
            have hm1 : (i : Int) - 1 < (sh.length : Int) := by omega
            clear hne
            generalize sh[i - 1] = y at *
            generalize sh[i] = x at *
            obtain ⟨lk, n⟩ := x
            obtain ⟨lk', n'⟩ := y
            simp only at hx0 hx1 hy0 hy1 heql
            go_wp2_with fail
            go_quiet (fail)
            go_wp2_with fail
            exact ⟨⟨i + 1, by go_num, by omega, by omega, Lib.hid (HS.out.drewN _)⟩, by simp [intOf]; omega⟩
          · obtain rfl : i = sh.length := by omega
            have hm : ((sh.length : Int) - 1).toNat = sh.length - 1 := by omega
            have hm0 : (0 : Int) ≤ (sh.length : Int) - 1 := by omega
            have hm1 : (sh.length : Int) - 1 < (sh.length : Int) := by omega
            have hn : ((l.length : Int) - 1).toNat = l.length - 1 := by omega
            have hn0 : (0 : Int) ≤ (l.length : Int) - 1 := by omega
            have hn1 : (l.length : Int) - 1 < (l.length : Int) := by omega
            have hw1 : IntKind.i64.wrap ((sh.length : Int) - 1) = (sh.length : Int) - 1 := IntWalk.i64_in _ (by omega)
            have hw2 : IntKind.i64.wrap ((l.length : Int) - 1) = (l.length : Int) - 1 := IntWalk.i64_in _ (by omega)
            have hs1 : (1 : Int) ≤ (sh.length : Int) := by omega
            have hl1 : (1 : Int) ≤ (l.length : Int) := by omega
            have hlz : ((l.length : Int) == 0) = false := by rw [beq_eq_false_iff_ne]; omega
            have HC : Hid (∀ W, SH w (.slice (some ⟨b, o, none⟩) l.length cap) l (.slice (some ⟨bs, os, none⟩) sh.length cs) sh W →
                (W.cell? ⟨bs, os, none⟩ = some (.bool l[0].link) ∧ W.cell? ⟨bs, os + 1, none⟩ = some (.int .i64 l[0].n) ∧ W.cell? ⟨b, o, none⟩ = some (.bool l[0].link) ∧ W.cell? ⟨b, o + 1, none⟩ = some (.int .i64 l[0].n)) ∧
                (W.cell? ⟨bs, os + (sh.length - 1) * 2, none⟩ = some (.bool (l[l.length - 1]'(by omega)).link) ∧ W.cell? ⟨bs, os + (sh.length - 1) * 2 + 1, none⟩ = some (.int .i64 (l[l.length - 1]'(by omega)).n) ∧
                 W.cell? ⟨b, o + (l.length - 1) * 2, none⟩ = some (.bool (l[l.length - 1]'(by omega)).link) ∧ W.cell? ⟨b, o + (l.length - 1) * 2 + 1, none⟩ = some (.int .i64 (l[l.length - 1]'(by omega)).n))) := Lib.hid fun W h => by
              have a1 := h.hs.cellG hsp
              have a2 := h.hv.cellG hlp
              have a3 := h.hs.cellG (i := sh.length - 1) (by omega)
              have a4 := h.hv.cellG (i := l.length - 1) (by omega)
              rw [HE0.out] at a1
              rw [HEL.out] at a3
              simp only [Nat.zero_mul, Nat.add_zero] at a1 a2
              exact ⟨⟨a1.1, a1.2, a2.1, a2.2⟩, a3.1, a3.2, a4.1, a4.2⟩
            have he1 := run_eql_sm l[0] l[0]
            have he2 := run_eql_sm (l[l.length - 1]'(by omega)) (l[l.length - 1]'(by omega))
            rw [decide_eq_true rfl] at he1 he2
            generalize l[0] = x at *
            generalize l[l.length - 1]'(by omega) = y at *
            obtain ⟨lk, n⟩ := x
            obtain ⟨lk', n'⟩ := y
            simp only at HC he1 he2
            have HC := Lib.hid HC.out
            clear HSC HAD HLA HHE HE0 HEL
            go_wp2_with fail
            refine wp_region_held_drew (S := fun W => SH w (.slice (some ⟨b, o, none⟩) l.length cap) l (.slice (some ⟨bs, os, none⟩) sh.length cs) sh W) (by kernel_rfl) (HS.out.next (Below.refl _ _).drew) (fun hHeld => ?_)
            refine wpAnyH_take (i := 0) (v := ?_) rfl (by kernel_rfl) (by kernel_rfl) (by kernel_rfl) (fun _ _ _ h => h) (Or.inl ⟨by rfl, ?_⟩) (by assumption) ?_
            rotate_left
            · intro w hSw; go_simp; try with_reducible rfl
            simp only [Act.put, List.setIfInBounds_toArray, List.set_cons_zero, List.set_cons_succ, List.getElem_toArray, List.getElem_cons_zero, List.getElem_cons_succ]
            refine wpAnyH_take (i := 1) (v := ?_) rfl (by kernel_rfl) (by kernel_rfl) (by kernel_rfl) (fun _ _ _ h => h) (Or.inl ⟨by rfl, ?_⟩) (by assumption) ?_
            rotate_left
            · intro w hSw; go_simp; try with_reducible rfl
            simp only [Act.put, List.setIfInBounds_toArray, List.set_cons_zero, List.set_cons_succ, List.getElem_toArray, List.getElem_cons_zero, List.getElem_cons_succ]
            refine wpAnyH_take (i := 2) (v := ?_) rfl (by kernel_rfl) (by kernel_rfl) (by kernel_rfl) (fun _ _ _ h => h) (Or.inl ⟨by rfl, ?_⟩) (by assumption) ?_
            rotate_left
            · intro w hSw; go_simp; try with_reducible rfl
            simp only [Act.put, List.setIfInBounds_toArray, List.set_cons_zero, List.set_cons_succ, List.getElem_toArray, List.getElem_cons_zero, List.getElem_cons_succ]
            refine wpAnyH_take (i := 3) (v := ?_) rfl (by kernel_rfl) (by kernel_rfl) (by kernel_rfl) (fun _ _ _ h => h) (Or.inl ⟨by rfl, ?_⟩) (by assumption) ?_
            rotate_left
            · intro w hSw; go_simp; try with_reducible rfl
            simp only [Act.put, List.setIfInBounds_toArray, List.set_cons_zero, List.set_cons_succ, List.getElem_toArray, List.getElem_cons_zero, List.getElem_cons_succ]
            refine wpAnyH_take (i := 4) (v := ?_) rfl (by kernel_rfl) (by kernel_rfl) (by kernel_rfl) (fun _ _ _ h => h) (Or.inl ⟨by rfl, ?_⟩) (by assumption) ?_
            rotate_left
            · intro w hSw; go_simp; try with_reducible rfl
            simp only [Act.put, List.setIfInBounds_toArray, List.set_cons_zero, List.set_cons_succ, List.getElem_toArray, List.getElem_cons_zero, List.getElem_cons_succ]
            refine wpAnyH_take (i := 5) (v := ?_) rfl (by kernel_rfl) (by kernel_rfl) (by kernel_rfl) (fun _ _ _ h => h) (Or.inl ⟨by rfl, ?_⟩) (by assumption) ?_
            rotate_left
            · intro w hSw; go_simp; try with_reducible rfl
            simp only [Act.put, List.setIfInBounds_toArray, List.set_cons_zero, List.set_cons_succ, List.getElem_toArray, List.getElem_cons_zero, List.getElem_cons_succ]
            refine wpAnyH_take (i := 8) (v := ?_) rfl (by kernel_rfl) (by kernel_rfl) (by kernel_rfl) (fun _ _ _ h => h) (Or.inl ⟨by rfl, ?_⟩) (by assumption) ?_
            rotate_left
            · intro w hSw; go_simp; try with_reducible rfl
            simp only [Act.put, List.setIfInBounds_toArray, List.set_cons_zero, List.set_cons_succ, List.getElem_toArray, List.getElem_cons_zero, List.getElem_cons_succ]
            refine held_step (i := 6) rfl (by kernel_rfl) (by rfl) (fun K hK => ?_)
            go_simp
            refine (HSS.out _ _ hHeld.hs).mono ?_; rintro e v1 ⟨vt, rfl, ht1, d1⟩; have HV1 := hHeld.next d1
            go_wp2_with fail
            refine hK.out _ _ (HV1) (fun hHeld => ?_)
            clear hK K
            try simp only [Act.put, List.setIfInBounds_toArray, List.set_cons_zero, List.set_cons_succ, List.getElem_toArray, List.getElem_cons_zero, List.getElem_cons_succ]
            refine held_step (i := 7) rfl (by kernel_rfl) (by rfl) (fun K hK => ?_)
            go_simp
            refine (HPL.out _ _ ht1).mono ?_; rintro e v2 ⟨vp, rfl, hp2, d2⟩; have HV2 := hHeld.next d2
            go_wp2_with fail
            refine hK.out _ _ (HV2) (fun hHeld => ?_)
            clear hK K
            try simp only [Act.put, List.setIfInBounds_toArray, List.set_cons_zero, List.set_cons_succ, List.getElem_toArray, List.getElem_cons_zero, List.getElem_cons_succ]
            refine held_step (i := 9) rfl (by kernel_rfl) (by rfl) (fun K hK => ?_)
            go_simp
            refine (HPL.out _ _ hHeld.hs).mono ?_; rintro e v3 ⟨vq, rfl, hq3, d3⟩; have HV3 := hHeld.next d3; have hp3 := hp2.below d3 (Nat.le_refl _)
            go_wp2_with fail
            refine hK.out _ _ (HV3) (fun hHeld => ?_)
            clear hK K
            try simp only [Act.put, List.setIfInBounds_toArray, List.set_cons_zero, List.set_cons_succ, List.getElem_toArray, List.getElem_cons_zero, List.getElem_cons_succ]
            refine held_step (i := 10) rfl (by kernel_rfl) (by rfl) (fun K hK => ?_)
            go_simp
            refine (HSM.out _ _ _ hp3 hq3).mono ?_; rintro e v4 ⟨rfl, d4⟩; have HV4 := hHeld.next d4
            go_wp2_with fail
            refine hK.out _ _ (HV4) (fun hHeld => ?_)
            clear hK K
            try simp only [Act.put, List.setIfInBounds_toArray, List.set_cons_zero, List.set_cons_succ, List.getElem_toArray, List.getElem_cons_zero, List.getElem_cons_succ]
            refine wpAnyH_take (i := 11) (v := ?_) rfl (by kernel_rfl) (by kernel_rfl) (by kernel_rfl) (fun _ _ _ h => h) (Or.inl ⟨by rfl, ?_⟩) (by assumption) ?_
            rotate_left
            · intro w hSw; go_simp; try with_reducible rfl
            simp only [Act.put, List.setIfInBounds_toArray, List.set_cons_zero, List.set_cons_succ, List.getElem_toArray, List.getElem_cons_zero, List.getElem_cons_succ]
            refine wpAnyH_take (i := 12) (v := ?_) rfl (by kernel_rfl) (by kernel_rfl) (by kernel_rfl) (fun _ _ _ h => h) (Or.inl ⟨by rfl, ?_⟩) (by assumption) ?_
            rotate_left
            · intro w hSw; go_simp; try with_reducible rfl
            simp only [Act.put, List.setIfInBounds_toArray, List.set_cons_zero, List.set_cons_succ, List.getElem_toArray, List.getElem_cons_zero, List.getElem_cons_succ]
            refine wpAnyH_take (i := 13) (v := ?_) rfl (by kernel_rfl) (by kernel_rfl) (by kernel_rfl) (fun _ _ _ h => h) (Or.inl ⟨by rfl, ?_⟩) (by assumption) ?_
            rotate_left
            · intro w hSw; go_simp; try with_reducible rfl
            simp only [Act.put, List.setIfInBounds_toArray, List.set_cons_zero, List.set_cons_succ, List.getElem_toArray, List.getElem_cons_zero, List.getElem_cons_succ]
            refine wpAnyH_take (i := 14) (v := ?_) rfl (by kernel_rfl) (by kernel_rfl) (by kernel_rfl) (fun _ _ _ h => h) (Or.inl ⟨by rfl, ?_⟩) (by assumption) ?_
            rotate_left
            · intro w hSw; go_simp; try with_reducible rfl
            simp only [Act.put, List.setIfInBounds_toArray, List.set_cons_zero, List.set_cons_succ, List.getElem_toArray, List.getElem_cons_zero, List.getElem_cons_succ]
            refine wpAnyH_take (i := 15) (v := ?_) rfl (by kernel_rfl) (by kernel_rfl) (by kernel_rfl) (fun _ _ _ h => h) (Or.inl ⟨by rfl, ?_⟩) (by assumption) ?_
            rotate_left
            · intro w h; obtain ⟨⟨k1, k2, k3, k4⟩, k5, k6, k7, k8⟩ := HC.out _ h; go_simp; try with_reducible rfl
            simp only [Act.put, List.setIfInBounds_toArray, List.set_cons_zero, List.set_cons_succ, List.getElem_toArray, List.getElem_cons_zero, List.getElem_cons_succ]
            refine wpAnyH_take (i := 16) (v := ?_) rfl (by kernel_rfl) (by kernel_rfl) (by kernel_rfl) (fun _ _ _ h => h) (Or.inl ⟨by rfl, ?_⟩) (by assumption) ?_
            rotate_left
            · intro w hSw; go_simp; try with_reducible rfl
            simp only [Act.put, List.setIfInBounds_toArray, List.set_cons_zero, List.set_cons_succ, List.getElem_toArray, List.getElem_cons_zero, List.getElem_cons_succ]
            refine wpAnyH_take (i := 17) (v := ?_) rfl (by kernel_rfl) (by kernel_rfl) (by kernel_rfl) (fun _ _ _ h => h) (Or.inl ⟨by rfl, ?_⟩) (by assumption) ?_
            rotate_left
            · intro w hSw; go_simp; try with_reducible rfl
            simp only [Act.put, List.setIfInBounds_toArray, List.set_cons_zero, List.set_cons_succ, List.getElem_toArray, List.getElem_cons_zero, List.getElem_cons_succ]
            refine wpAnyH_take (i := 18) (v := ?_) rfl (by kernel_rfl) (by kernel_rfl) (by kernel_rfl) (fun _ _ _ h => h) (Or.inl ⟨by rfl, ?_⟩) (by assumption) ?_
            rotate_left
            · intro w h; obtain ⟨⟨k1, k2, k3, k4⟩, k5, k6, k7, k8⟩ := HC.out _ h; go_simp; try with_reducible rfl
            simp only [Act.put, List.setIfInBounds_toArray, List.set_cons_zero, List.set_cons_succ, List.getElem_toArray, List.getElem_cons_zero, List.getElem_cons_succ]
            refine wpAnyH_take (i := 19) (v := ?_) rfl (by kernel_rfl) (by kernel_rfl) (by kernel_rfl) (fun _ _ _ h => h) (Or.inl ⟨by rfl, ?_⟩) (by assumption) ?_
            rotate_left
            · intro w hSw; go_simp; try with_reducible rfl
            simp only [Act.put, List.setIfInBounds_toArray, List.set_cons_zero, List.set_cons_succ, List.getElem_toArray, List.getElem_cons_zero, List.getElem_cons_succ]
            refine wpAnyH_take (i := 20) (v := ?_) rfl (by kernel_rfl) (by kernel_rfl) (by kernel_rfl) (fun _ _ _ h => h) (Or.inl ⟨by rfl, ?_⟩) (by assumption) ?_
            rotate_left
            · intro w hSw; go_simp; try with_reducible rfl
            simp only [Act.put, List.setIfInBounds_toArray, List.set_cons_zero, List.set_cons_succ, List.getElem_toArray, List.getElem_cons_zero, List.getElem_cons_succ]
            refine wpAnyH_take (i := 21) (v := ?_) rfl (by kernel_rfl) (by kernel_rfl) (by kernel_rfl) (fun _ _ _ h => h) (Or.inl ⟨by rfl, ?_⟩) (by assumption) ?_
            rotate_left
            · intro w hSw; go_simp; try with_reducible rfl
            simp only [Act.put, List.setIfInBounds_toArray, List.set_cons_zero, List.set_cons_succ, List.getElem_toArray, List.getElem_cons_zero, List.getElem_cons_succ]
            refine wpAnyH_take (i := 22) (v := ?_) rfl (by kernel_rfl) (by kernel_rfl) (by kernel_rfl) (fun _ _ _ h => h) (Or.inl ⟨by rfl, ?_⟩) (by assumption) ?_
            rotate_left
            · intro w hSw; go_simp; try with_reducible rfl
            simp only [Act.put, List.setIfInBounds_toArray, List.set_cons_zero, List.set_cons_succ, List.getElem_toArray, List.getElem_cons_zero, List.getElem_cons_succ]
            refine wpAnyH_take (i := 23) (v := ?_) rfl (by kernel_rfl) (by kernel_rfl) (by kernel_rfl) (fun _ _ _ h => h) (Or.inl ⟨by rfl, ?_⟩) (by assumption) ?_
            rotate_left
            · intro w hSw; go_simp; try with_reducible rfl
            simp only [Act.put, List.setIfInBounds_toArray, List.set_cons_zero, List.set_cons_succ, List.getElem_toArray, List.getElem_cons_zero, List.getElem_cons_succ]
            refine wpAnyH_take (i := 24) (v := ?_) rfl (by kernel_rfl) (by kernel_rfl) (by kernel_rfl) (fun _ _ _ h => h) (Or.inl ⟨by rfl, ?_⟩) (by assumption) ?_
            rotate_left
            · intro w hSw; go_simp; try with_reducible rfl
            simp only [Act.put, List.setIfInBounds_toArray, List.set_cons_zero, List.set_cons_succ, List.getElem_toArray, List.getElem_cons_zero, List.getElem_cons_succ]
            refine wpAnyH_take (i := 25) (v := ?_) rfl (by kernel_rfl) (by kernel_rfl) (by kernel_rfl) (fun _ _ _ h => h) (Or.inl ⟨by rfl, ?_⟩) (by assumption) ?_
            rotate_left
            · intro w hSw; go_simp; try with_reducible rfl
            simp only [Act.put, List.setIfInBounds_toArray, List.set_cons_zero, List.set_cons_succ, List.getElem_toArray, List.getElem_cons_zero, List.getElem_cons_succ]
            refine wpAnyH_take (i := 26) (v := ?_) rfl (by kernel_rfl) (by kernel_rfl) (by kernel_rfl) (fun _ _ _ h => h) (Or.inl ⟨by rfl, ?_⟩) (by assumption) ?_
            rotate_left
            · intro w hSw; go_simp; try with_reducible rfl
            simp only [Act.put, List.setIfInBounds_toArray, List.set_cons_zero, List.set_cons_succ, List.getElem_toArray, List.getElem_cons_zero, List.getElem_cons_succ]
            refine wpAnyH_take (i := 27) (v := ?_) rfl (by kernel_rfl) (by kernel_rfl) (by kernel_rfl) (fun _ _ _ h => h) (Or.inl ⟨by rfl, ?_⟩) (by assumption) ?_
            rotate_left
            · intro w h; obtain ⟨⟨k1, k2, k3, k4⟩, k5, k6, k7, k8⟩ := HC.out _ h; go_simp; try with_reducible rfl
            simp only [Act.put, List.setIfInBounds_toArray, List.set_cons_zero, List.set_cons_succ, List.getElem_toArray, List.getElem_cons_zero, List.getElem_cons_succ]
            refine wpAnyH_take (i := 28) (v := ?_) rfl (by kernel_rfl) (by kernel_rfl) (by kernel_rfl) (fun _ _ _ h => h) (Or.inl ⟨by rfl, ?_⟩) (by assumption) ?_
            rotate_left
            · intro w hSw; go_simp; try with_reducible rfl
            simp only [Act.put, List.setIfInBounds_toArray, List.set_cons_zero, List.set_cons_succ, List.getElem_toArray, List.getElem_cons_zero, List.getElem_cons_succ]
            refine wpAnyH_take (i := 29) (v := ?_) rfl (by kernel_rfl) (by kernel_rfl) (by kernel_rfl) (fun _ _ _ h => h) (Or.inl ⟨by rfl, ?_⟩) (by assumption) ?_
            rotate_left
            · intro w hSw; go_simp; try with_reducible rfl
            simp only [Act.put, List.setIfInBounds_toArray, List.set_cons_zero, List.set_cons_succ, List.getElem_toArray, List.getElem_cons_zero, List.getElem_cons_succ]
            refine wpAnyH_take (i := 30) (v := ?_) rfl (by kernel_rfl) (by kernel_rfl) (by kernel_rfl) (fun _ _ _ h => h) (Or.inl ⟨by rfl, ?_⟩) (by assumption) ?_
            rotate_left
            · intro w hSw; go_simp; try with_reducible rfl
            simp only [Act.put, List.setIfInBounds_toArray, List.set_cons_zero, List.set_cons_succ, List.getElem_toArray, List.getElem_cons_zero, List.getElem_cons_succ]
            refine wpAnyH_take (i := 31) (v := ?_) rfl (by kernel_rfl) (by kernel_rfl) (by kernel_rfl) (fun _ _ _ h => h) (Or.inl ⟨by rfl, ?_⟩) (by assumption) ?_
            rotate_left
            · intro w hSw; go_simp; try with_reducible rfl
            simp only [Act.put, List.setIfInBounds_toArray, List.set_cons_zero, List.set_cons_succ, List.getElem_toArray, List.getElem_cons_zero, List.getElem_cons_succ]
            refine wpAnyH_take (i := 32) (v := ?_) rfl (by kernel_rfl) (by kernel_rfl) (by kernel_rfl) (fun _ _ _ h => h) (Or.inl ⟨by rfl, ?_⟩) (by assumption) ?_
            rotate_left
            · intro w hSw; go_simp; try with_reducible rfl
            simp only [Act.put, List.setIfInBounds_toArray, List.set_cons_zero, List.set_cons_succ, List.getElem_toArray, List.getElem_cons_zero, List.getElem_cons_succ]
            refine wpAnyH_take (i := 33) (v := ?_) rfl (by kernel_rfl) (by kernel_rfl) (by kernel_rfl) (fun _ _ _ h => h) (Or.inl ⟨by rfl, ?_⟩) (by assumption) ?_
            rotate_left
            · intro w h; obtain ⟨⟨k1, k2, k3, k4⟩, k5, k6, k7, k8⟩ := HC.out _ h; go_simp; try with_reducible rfl
            simp only [Act.put, List.setIfInBounds_toArray, List.set_cons_zero, List.set_cons_succ, List.getElem_toArray, List.getElem_cons_zero, List.getElem_cons_succ]
            refine wpAnyH_take (i := 34) (v := ?_) rfl (by kernel_rfl) (by kernel_rfl) (by kernel_rfl) (fun _ _ _ h => h) (Or.inl ⟨by rfl, ?_⟩) (by assumption) ?_
            rotate_left
            · intro w hSw; go_simp; try with_reducible rfl
            simp only [Act.put, List.setIfInBounds_toArray, List.set_cons_zero, List.set_cons_succ, List.getElem_toArray, List.getElem_cons_zero, List.getElem_cons_succ]
            refine wpAnyH_take (i := 35) (v := ?_) rfl (by kernel_rfl) (by kernel_rfl) (by kernel_rfl) (fun _ _ _ h => h) (Or.inl ⟨by rfl, ?_⟩) (by assumption) ?_
            rotate_left
            · intro w hSw; go_simp; try with_reducible rfl
            simp only [Act.put, List.setIfInBounds_toArray, List.set_cons_zero, List.set_cons_succ, List.getElem_toArray, List.getElem_cons_zero, List.getElem_cons_succ]
            refine wpAnyH_take (i := 36) (v := ?_) rfl (by kernel_rfl) (by kernel_rfl) (by kernel_rfl) (fun _ _ _ h => h) (Or.inl ⟨by rfl, ?_⟩) (by assumption) ?_
            rotate_left
            · intro w hSw; go_simp; try with_reducible rfl
            simp only [Act.put, List.setIfInBounds_toArray, List.set_cons_zero, List.set_cons_succ, List.getElem_toArray, List.getElem_cons_zero, List.getElem_cons_succ]
            refine wpAnyH_done (by kernel_rfl) ?_ _
            go_wp2_with fail
            go_ret
            exact ⟨by simp, hHeld.bel⟩
end Go.Proofs.YtilahcnpjbnjiaaGreatDoor
