/- The laws of layer 8: Apart. -/
import Derived.Test.YtjbolphfelakeaaDoorPfxLaw
import Derived.Deep.Cut
import Derived.Deep.CutRange
namespace Go.Proofs.YtjbolphfelakeaaDoor
set_option linter.unusedVariables false
set_option linter.unusedSimpArgs false
open Go.RowKit Go.Shelf Go.Proofs Go.OctetPlain Go.ColonPlain Go.PrefixPlain

/-- Apart's state: two prefixes and an address -/
structure XS (w W : World) (p q : Pf) (a : List UInt8) : Prop where
  pt : PT W
  bp : Blk W w.heap.size 24 (pfA p)
  bq : Blk W (w.heap.size + 1) 24 (pfA q)
  ba : Blk W (w.heap.size + 1 + 1) 22 (arrB a)
  below : Below w.heap.size w W
theorem XS.next {w W W' : World} {p q : Pf} {a : List UInt8} (h : XS w W p q a) (hb : Below W.heap.size W W') : XS w W' p q a :=
  ⟨h.pt.below hb, h.bp.below hb h.bp.lt, h.bq.below hb h.bq.lt, h.ba.below hb h.ba.lt, h.below.trans (hb.mono h.below.size)⟩
theorem XS.init (w : World) (ht : PT w) (p q : Pf) (a : List UInt8) : XS w (((w.alloc (.cells (pfA p) 24)).alloc (.cells (pfA q) 24)).alloc (.cells (arrB a) 22)) p q a := by
  have h0 := PP.init w p q
  have hA : A0 w w := ⟨ht, Below.refl _ _⟩
  have hB := ((hA.next (belowA w (.cells (pfA p) 24))).next (belowA _ (.cells (pfA q) 24))).next (belowA _ (.cells (arrB a) 22))
  refine ⟨hB.pt, h0.bp.alloc _, h0.bq.alloc _, ?_, hB.below⟩
  have h := Blk.new ((w.alloc (.cells (pfA p) 24)).alloc (.cells (pfA q) 24)) 22 (arrB a)
  simp only [World.size_alloc] at h
  exact h
/-- with the common one, and a longer one -/
structure YS (w W : World) (g1 g2 : Nat) (p q c d : Pf) (a : List UInt8) : Prop where
  x : XS w W p q a
  bc : Blk W g1 24 (pfA c)
  bd : Blk W g2 24 (pfA d)
theorem YS.next {w W W' : World} {g1 g2 : Nat} {p q c d : Pf} {a : List UInt8} (h : YS w W g1 g2 p q c d a) (hb : Below W.heap.size W W') : YS w W' g1 g2 p q c d a := ⟨h.x.next hb, h.bc.below hb h.bc.lt, h.bd.below hb h.bd.lt⟩
theorem ofP_len64y (six : Bool) (a : List UInt8) (n : Int) : Len64 (ofP six a n) := by
  have := most_pos six
  unfold Len64
  show _ ≤ min (max n 0) (most six) ∧ min (max n 0) (most six) ≤ _
  omega
set_option maxRecDepth 100000 in
set_option maxHeartbeats 8000000 in
theorem law_apart (p q : Pf) (hp : p.addr.length = 16) (hq : q.addr.length = 16) (lp : Len64 p) (lq : Len64 q) (a : List UInt8) (ha : a.length = 16) (w : World) (ht : PT w) :
    Calls Tryd.prog 3 #[.agg (pfA p), .agg (pfA q), .agg (arrB a)] w fun e w' => e = .returned (.bool true) ∧ Below w.heap.size w w' := by
  have huP := Tryd.underlying24
  have hu16 := Tryd.underlying22
  have KA := A16.of ha
  have XP := PX.of hp
  have XQ := PX.of hq
  have H0 := Lib.hid (XS.init w ht p q a)
  clear ht
  have KP := Lib.hid fun W => pfx_Check p hp lp W
  have KQ := Lib.hid fun W => pfx_Check q hq lq W
  have CPQ := Lib.hid fun W => pfx_Covers p q hp hq lp lq W
  have CQP := Lib.hid fun W => pfx_Covers q p hq hp lq lp W
  have HPA := Lib.hid fun W => pfx_Has p hp lp a ha W
  have HQA := Lib.hid fun W => pfx_Has q hq lq a ha W
  have CM := Lib.hid fun W => pfx_Common p q hp hq lp lq W
  have EPQ := fun W => eq_pf (p := p) (q := q) hp hq W
  have hdata : Hid ((ok p → okN p = 0) ∧ (¬ ok p → okN p = 1) ∧ (ok q → okN q = 0) ∧ (¬ ok q → okN q = 1)) := by
    refine Lib.hid ⟨fun h => ?_, fun h => ?_, fun h => ?_, fun h => ?_⟩ <;> unfold okN
    · rw [if_pos h]
    · rw [if_neg h]
    · rw [if_pos h]
    · rw [if_neg h]
  by_cases hgood : ok p ∧ ok q ∧ p.six = q.six
  · obtain ⟨h1, h2, hs⟩ := hgood
    obtain ⟨k1, k2, k3, k4⟩ := common_ok h1 h2 hp hq hs
    rw [hdata.out.1 h1] at KP
    rw [hdata.out.2.2.1 h2] at KQ
    rw [if_pos hs, decide_eq_true hs] at CM
    have hc6 : (common p q).addr.length = 16 := ofP_len _ hp _
    have lc : Len64 (common p q) := ofP_len64y _ _ _
    have hcl : 0 ≤ (common p q).len ∧ (common p q).len ≤ 128 := by
      have := most_pos (common p q).six
      exact ⟨k1.1, by have := k1.2.1; omega⟩
    have hd6 : (ofP p.six p.addr ((common p q).len + 1)).addr.length = 16 := ofP_len _ hp _
    have ld : Len64 (ofP p.six p.addr ((common p q).len + 1)) := ofP_len64y _ _ _
    have KC := Lib.hid fun W => pfx_Check (common p q) hc6 lc W
    rw [show okN (common p q) = 0 by unfold okN; rw [if_pos k1]] at KC
    have OD := Lib.hid fun W => pfx_Of p.six p.addr hp ((common p q).len + 1) (by omega) W
    have CCP := Lib.hid fun W => pfx_Covers (common p q) p hc6 hp lc lp W
    rw [k2] at CCP
    have CCQ := Lib.hid fun W => pfx_Covers (common p q) q hc6 hq lc lq W
    rw [k3] at CCQ
    have CDP := Lib.hid fun W => pfx_Covers (ofP p.six p.addr ((common p q).len + 1)) p hd6 hp ld lp W
    have CDQ := Lib.hid fun W => pfx_Covers (ofP p.six p.addr ((common p q).len + 1)) q hd6 hq ld lq W
    have EDC := fun W => eq_pf (p := ofP p.six p.addr ((common p q).len + 1)) (q := common p q) hd6 hc6 W
    -- what the three tests say
    have hF : Hid ((covers p q = false → covers q p = false → has p a = true → has q a = false) ∧ (covers p q = true → has q a = true → has p a = true) ∧ (covers p q = true → covers q p = true → decide (p = q) = true)) := by
      refine Lib.hid ⟨fun o t hpa => ?_, fun o hqa => ?_, fun o t => decide_eq_true (covers_eq h1 h2 o t)⟩
      · rw [← Bool.not_eq_true]
        intro hqa
        rcases Int.le_total p.len q.len with hl | hl
        · rw [has_both hp hq ha hs hl hpa hqa] at o; cases o
        · rw [has_both hq hp ha hs.symm hl hqa hpa] at t; cases t
      · have o' := (covers_iff p q).1 o
        exact has_trans hp hq ha o'.2.1 o'.2.2 hqa
    have HK4 : Hid (decide (ofP p.six p.addr ((common p q).len + 1) = common p q) = true ∨ (covers (ofP p.six p.addr ((common p q).len + 1)) p && covers (ofP p.six p.addr ((common p q).len + 1)) q) = false) := by
      refine Lib.hid ?_
      rcases k4 with h | h
      · exact Or.inl (decide_eq_true h)
      · right
        rw [← Bool.not_eq_true, Bool.and_eq_true]
        exact h
    have hs' : (p.six == q.six) = true := by simpa using hs
    have XC := PX.of hc6
    have XD := PX.of hd6
    have HS6 := Lib.hid hs
    clear h1 h2 k1 k2 k3 k4 hdata hs
    generalize ofP p.six p.addr ((common p q).len + 1) = d at *
    generalize hcc : common p q = c at *
    clear hcc
    generalize covers p q = one at *
    generalize covers q p = two at *
    generalize has p a = hpa at *
    generalize has q a = hqa at *
    generalize decide (p = q) = eqq at *
    generalize covers d p = x at *
    generalize covers d q = y at *
    generalize decide (d = c) = z at *
    go_enter Tryd.func3, Tryd.ntmps3
    go_wp2_with fail
    refine (law08_awake _ H0.out.pt).mono ?_
    rintro e w1 ⟨rfl, hb1⟩
    have H1 := Lib.hid (H0.out.next hb1)
    clear hb1
    go_wp2_with (refine wpList_load_want rfl _ _ rfl w.heap.size rfl _ (pfA p) (0, 0) _ H1.out.bp huP rfl XP.info ?_)
    refine (KP.out _).mono ?_
    rintro e w2 ⟨rfl, hb2⟩
    have H2 := Lib.hid (H1.out.next hb2)
    clear hb2
    go_wp2_with (refine wpList_load_want rfl _ _ rfl (w.heap.size + 1) rfl _ (pfA q) (0, 0) _ H2.out.bq huP rfl XQ.info ?_)
    refine (KQ.out _).mono ?_
    rintro e w3 ⟨rfl, hb3⟩
    have H3 := Lib.hid (H2.out.next hb3)
    have c0 := H3.out.bp.p0
    have d0 := H3.out.bq.p0
    clear hb3
    go_wp2_with (first
      | (refine wpList_load_want rfl _ _ rfl w.heap.size rfl _ (pfA p) (0, 0) _ H3.out.bp huP rfl XP.info ?_)
      | (refine wpList_load_want rfl _ _ rfl (w.heap.size + 1) rfl _ (pfA q) (0, 0) _ H3.out.bq huP rfl XQ.info ?_))
    refine (CPQ.out _).mono ?_
    rintro e w4 ⟨rfl, hb4⟩
    have H4 := Lib.hid (H3.out.next hb4)
    clear hb4 c0 d0 hs'
    go_wp2_with (first
      | (refine wpList_load_want rfl _ _ rfl w.heap.size rfl _ (pfA p) (0, 0) _ H4.out.bp huP rfl XP.info ?_)
      | (refine wpList_load_want rfl _ _ rfl (w.heap.size + 1) rfl _ (pfA q) (0, 0) _ H4.out.bq huP rfl XQ.info ?_))
    refine (CQP.out _).mono ?_
    rintro e w5 ⟨rfl, hb5⟩
    have H5 := Lib.hid (H4.out.next hb5)
    clear hb5
    go_upto_region 8 with fail
    go_cut [78] from 38 to 78 (fun s78 wx => s78 = .bool false ∧ Hid (XS w wx p q a))
    case first =>
      cases one
      · cases two
        · cases hpa
          · go_wp2_with (first
              | (refine wpList_load_want rfl _ _ rfl w.heap.size rfl _ (pfA p) (0, 0) _ H5.out.bp huP rfl XP.info ?_)
              | (refine wpList_load_want rfl _ _ rfl (w.heap.size + 1) rfl _ (pfA q) (0, 0) _ H5.out.bq huP rfl XQ.info ?_)
              | (refine wpList_load_want rfl _ _ rfl (w.heap.size + 1 + 1) rfl _ (arrB a) (0, 0) _ H5.out.ba hu16 rfl KA.info ?_))
            refine (HPA.out _).mono ?_
            rintro e w6 ⟨rfl, hb6⟩
            have H6 := Lib.hid (H5.out.next hb6)
            clear hb6
            go_wp2_with (first
              | (refine wpList_load_want rfl _ _ rfl w.heap.size rfl _ (pfA p) (0, 0) _ H6.out.bp huP rfl XP.info ?_)
              | (refine wpList_load_want rfl _ _ rfl (w.heap.size + 1) rfl _ (pfA q) (0, 0) _ H6.out.bq huP rfl XQ.info ?_)
              | (refine wpList_load_want rfl _ _ rfl (w.heap.size + 1 + 1) rfl _ (arrB a) (0, 0) _ H6.out.ba hu16 rfl KA.info ?_))
            go_meet
            exact ⟨rfl, H6⟩
          · have hqf := hF.out.1 rfl rfl rfl
            subst hqf
            go_wp2_with (first
              | (refine wpList_load_want rfl _ _ rfl w.heap.size rfl _ (pfA p) (0, 0) _ H5.out.bp huP rfl XP.info ?_)
              | (refine wpList_load_want rfl _ _ rfl (w.heap.size + 1) rfl _ (pfA q) (0, 0) _ H5.out.bq huP rfl XQ.info ?_)
              | (refine wpList_load_want rfl _ _ rfl (w.heap.size + 1 + 1) rfl _ (arrB a) (0, 0) _ H5.out.ba hu16 rfl KA.info ?_))
            refine (HPA.out _).mono ?_
            rintro e w6 ⟨rfl, hb6⟩
            have H6 := Lib.hid (H5.out.next hb6)
            clear hb6
            go_wp2_with (first
              | (refine wpList_load_want rfl _ _ rfl w.heap.size rfl _ (pfA p) (0, 0) _ H6.out.bp huP rfl XP.info ?_)
              | (refine wpList_load_want rfl _ _ rfl (w.heap.size + 1) rfl _ (pfA q) (0, 0) _ H6.out.bq huP rfl XQ.info ?_)
              | (refine wpList_load_want rfl _ _ rfl (w.heap.size + 1 + 1) rfl _ (arrB a) (0, 0) _ H6.out.ba hu16 rfl KA.info ?_))
            refine (HQA.out _).mono ?_
            rintro e w7 ⟨rfl, hb7⟩
            have H7 := Lib.hid (H6.out.next hb7)
            clear hb7
            go_wp2_with (first
              | (refine wpList_load_want rfl _ _ rfl w.heap.size rfl _ (pfA p) (0, 0) _ H7.out.bp huP rfl XP.info ?_)
              | (refine wpList_load_want rfl _ _ rfl (w.heap.size + 1) rfl _ (pfA q) (0, 0) _ H7.out.bq huP rfl XQ.info ?_)
              | (refine wpList_load_want rfl _ _ rfl (w.heap.size + 1 + 1) rfl _ (arrB a) (0, 0) _ H7.out.ba hu16 rfl KA.info ?_))
            go_meet
            exact ⟨rfl, H7⟩
        · go_wp2_with (first
            | (refine wpList_load_want rfl _ _ rfl w.heap.size rfl _ (pfA p) (0, 0) _ H5.out.bp huP rfl XP.info ?_)
            | (refine wpList_load_want rfl _ _ rfl (w.heap.size + 1) rfl _ (pfA q) (0, 0) _ H5.out.bq huP rfl XQ.info ?_)
            | (refine wpList_load_want rfl _ _ rfl (w.heap.size + 1 + 1) rfl _ (arrB a) (0, 0) _ H5.out.ba hu16 rfl KA.info ?_))
          go_meet
          exact ⟨rfl, H5⟩
      · cases two
        · cases hqa
          · go_wp2_with (first
              | (refine wpList_load_want rfl _ _ rfl w.heap.size rfl _ (pfA p) (0, 0) _ H5.out.bp huP rfl XP.info ?_)
              | (refine wpList_load_want rfl _ _ rfl (w.heap.size + 1) rfl _ (pfA q) (0, 0) _ H5.out.bq huP rfl XQ.info ?_)
              | (refine wpList_load_want rfl _ _ rfl (w.heap.size + 1 + 1) rfl _ (arrB a) (0, 0) _ H5.out.ba hu16 rfl KA.info ?_))
            refine (HQA.out _).mono ?_
            rintro e w6 ⟨rfl, hb6⟩
            have H6 := Lib.hid (H5.out.next hb6)
            clear hb6
            go_wp2_with (first
              | (refine wpList_load_want rfl _ _ rfl w.heap.size rfl _ (pfA p) (0, 0) _ H6.out.bp huP rfl XP.info ?_)
              | (refine wpList_load_want rfl _ _ rfl (w.heap.size + 1) rfl _ (pfA q) (0, 0) _ H6.out.bq huP rfl XQ.info ?_)
              | (refine wpList_load_want rfl _ _ rfl (w.heap.size + 1 + 1) rfl _ (arrB a) (0, 0) _ H6.out.ba hu16 rfl KA.info ?_))
            go_meet
            exact ⟨rfl, H6⟩
          · have hpt := hF.out.2.1 rfl rfl
            subst hpt
            go_wp2_with (first
              | (refine wpList_load_want rfl _ _ rfl w.heap.size rfl _ (pfA p) (0, 0) _ H5.out.bp huP rfl XP.info ?_)
              | (refine wpList_load_want rfl _ _ rfl (w.heap.size + 1) rfl _ (pfA q) (0, 0) _ H5.out.bq huP rfl XQ.info ?_)
              | (refine wpList_load_want rfl _ _ rfl (w.heap.size + 1 + 1) rfl _ (arrB a) (0, 0) _ H5.out.ba hu16 rfl KA.info ?_))
            refine (HQA.out _).mono ?_
            rintro e w6 ⟨rfl, hb6⟩
            have H6 := Lib.hid (H5.out.next hb6)
            clear hb6
            go_wp2_with (first
              | (refine wpList_load_want rfl _ _ rfl w.heap.size rfl _ (pfA p) (0, 0) _ H6.out.bp huP rfl XP.info ?_)
              | (refine wpList_load_want rfl _ _ rfl (w.heap.size + 1) rfl _ (pfA q) (0, 0) _ H6.out.bq huP rfl XQ.info ?_)
              | (refine wpList_load_want rfl _ _ rfl (w.heap.size + 1 + 1) rfl _ (arrB a) (0, 0) _ H6.out.ba hu16 rfl KA.info ?_))
            refine (HPA.out _).mono ?_
            rintro e w7 ⟨rfl, hb7⟩
            have H7 := Lib.hid (H6.out.next hb7)
            clear hb7
            go_wp2_with (first
              | (refine wpList_load_want rfl _ _ rfl w.heap.size rfl _ (pfA p) (0, 0) _ H7.out.bp huP rfl XP.info ?_)
              | (refine wpList_load_want rfl _ _ rfl (w.heap.size + 1) rfl _ (pfA q) (0, 0) _ H7.out.bq huP rfl XQ.info ?_)
              | (refine wpList_load_want rfl _ _ rfl (w.heap.size + 1 + 1) rfl _ (arrB a) (0, 0) _ H7.out.ba hu16 rfl KA.info ?_))
            go_meet
            exact ⟨rfl, H7⟩
        · have het := hF.out.2.2 rfl rfl
          subst het
          cases hqa
          · go_wp2_with (first
              | (refine wpList_load_want rfl _ _ rfl w.heap.size rfl _ (pfA p) (0, 0) _ H5.out.bp huP rfl XP.info ?_)
              | (refine wpList_load_want rfl _ _ rfl (w.heap.size + 1) rfl _ (pfA q) (0, 0) _ H5.out.bq huP rfl XQ.info ?_)
              | (refine wpList_load_want rfl _ _ rfl (w.heap.size + 1 + 1) rfl _ (arrB a) (0, 0) _ H5.out.ba hu16 rfl KA.info ?_))
            refine (HQA.out _).mono ?_
            rintro e w6 ⟨rfl, hb6⟩
            have H6 := Lib.hid (H5.out.next hb6)
            clear hb6
            go_wp2_with (first
              | (refine wpList_load_want rfl _ _ rfl w.heap.size rfl _ (pfA p) (0, 0) _ H6.out.bp huP rfl XP.info ?_)
              | (refine wpList_load_want rfl _ _ rfl (w.heap.size + 1) rfl _ (pfA q) (0, 0) _ H6.out.bq huP rfl XQ.info ?_)
              | (refine wpList_load_want rfl _ _ rfl (w.heap.size + 1 + 1) rfl _ (arrB a) (0, 0) _ H6.out.ba hu16 rfl KA.info ?_))
            go_meet
            exact ⟨rfl, H6⟩
          · have hpt := hF.out.2.1 rfl rfl
            subst hpt
            go_wp2_with (first
              | (refine wpList_load_want rfl _ _ rfl w.heap.size rfl _ (pfA p) (0, 0) _ H5.out.bp huP rfl XP.info ?_)
              | (refine wpList_load_want rfl _ _ rfl (w.heap.size + 1) rfl _ (pfA q) (0, 0) _ H5.out.bq huP rfl XQ.info ?_)
              | (refine wpList_load_want rfl _ _ rfl (w.heap.size + 1 + 1) rfl _ (arrB a) (0, 0) _ H5.out.ba hu16 rfl KA.info ?_))
            refine (HQA.out _).mono ?_
            rintro e w6 ⟨rfl, hb6⟩
            have H6 := Lib.hid (H5.out.next hb6)
            clear hb6
            go_wp2_with (first
              | (refine wpList_load_want rfl _ _ rfl w.heap.size rfl _ (pfA p) (0, 0) _ H6.out.bp huP rfl XP.info ?_)
              | (refine wpList_load_want rfl _ _ rfl (w.heap.size + 1) rfl _ (pfA q) (0, 0) _ H6.out.bq huP rfl XQ.info ?_)
              | (refine wpList_load_want rfl _ _ rfl (w.heap.size + 1 + 1) rfl _ (arrB a) (0, 0) _ H6.out.ba hu16 rfl KA.info ?_))
            refine (HPA.out _).mono ?_
            rintro e w7 ⟨rfl, hb7⟩
            have H7 := Lib.hid (H6.out.next hb7)
            clear hb7
            go_wp2_with (first
              | (refine wpList_load_want rfl _ _ rfl w.heap.size rfl _ (pfA p) (0, 0) _ H7.out.bp huP rfl XP.info ?_)
              | (refine wpList_load_want rfl _ _ rfl (w.heap.size + 1) rfl _ (pfA q) (0, 0) _ H7.out.bq huP rfl XQ.info ?_)
              | (refine wpList_load_want rfl _ _ rfl (w.heap.size + 1 + 1) rfl _ (arrB a) (0, 0) _ H7.out.ba hu16 rfl KA.info ?_))
            go_meet
            exact ⟨rfl, H7⟩
    case rest =>
      obtain ⟨rfl, HX⟩ := hcut
      go_wp2_with (first
        | (refine wpList_load_want rfl _ _ rfl w.heap.size rfl _ (pfA p) (0, 0) _ HX.out.bp huP rfl XP.info ?_)
        | (refine wpList_load_want rfl _ _ rfl (w.heap.size + 1) rfl _ (pfA q) (0, 0) _ HX.out.bq huP rfl XQ.info ?_)
        | (refine wpList_load_want rfl _ _ rfl (w.heap.size + 1 + 1) rfl _ (arrB a) (0, 0) _ HX.out.ba hu16 rfl KA.info ?_))
      refine (CM.out _).mono ?_
      rintro e w6 ⟨rfl, hb6⟩
      have h6 := (HX.out.next hb6).next (belowA w6 (.cells (pfA c) 24))
      have H6 := Lib.hid h6
      have KC6 := Lib.hid (Blk.new w6 24 (pfA c))
      have c0 := h6.bp.p0
      have c17 := KC6.out.p17 hc6
      have w17 : IntKind.i64.wrap (c.len + 1) = c.len + 1 := IntWalk.i64_in _ (by omega)
      clear hb6 h6
      go_wp2_with (first
        | (refine wpList_store_new rfl _ _ _ rfl (pfA c) rfl rfl _ _ XC.info XC.size.symm XC.one ?_)
        | (refine wpList_load_addr rfl _ rfl w.heap.size 1 rfl p.addr hp H6.out.bp.pA ?_))
      refine (OD.out _).mono ?_
      rintro e w7 ⟨rfl, hb7⟩
      have H7 : Hid (YS w (w7.alloc (.cells (pfA d) 24)) w6.heap.size w7.heap.size p q c d a) :=
        Lib.hid ⟨(H6.out.next hb7).next (belowA w7 (.cells (pfA d) 24)), (KC6.out.below hb7 KC6.out.lt).alloc _, Blk.new _ _ _⟩
      clear hb7 c0 c17 w17
      generalize w6.heap.size = g1 at *
      go_wp2_with (first
        | (refine wpList_store_new rfl _ _ _ rfl (pfA d) rfl rfl _ _ XD.info XD.size.symm XD.one ?_)
        | (refine wpList_load_want rfl _ _ rfl w7.heap.size rfl _ (pfA d) (0, 0) _ H7.out.bd huP rfl XD.info ?_)
        | (refine wpList_load_want rfl _ _ rfl w.heap.size rfl _ (pfA p) (0, 0) _ H7.out.x.bp huP rfl XP.info ?_))
      refine (CDP.out _).mono ?_
      rintro e w8 ⟨rfl, hb8⟩
      have H8 := Lib.hid (H7.out.next hb8)
      clear hb8
      have hk4 := HK4.out
      clear HK4
      cases x
      · cases z
        all_goals
          go_wp2_with (first
            | (refine wpList_load_want rfl _ _ rfl w7.heap.size rfl _ (pfA d) (0, 0) _ H8.out.bd huP rfl XD.info ?_)
            | (refine wpList_load_want rfl _ _ rfl g1 rfl _ (pfA c) (0, 0) _ H8.out.bc huP rfl XC.info ?_)
            | (refine wpList_load_want rfl _ _ rfl w.heap.size rfl _ (pfA p) (0, 0) _ H8.out.x.bp huP rfl XP.info ?_)
            | (refine wpList_load_want rfl _ _ rfl (w.heap.size + 1) rfl _ (pfA q) (0, 0) _ H8.out.x.bq huP rfl XQ.info ?_))
          refine (KC.out _).mono ?_
          rintro e w9 ⟨rfl, hb9⟩
          have H9 := Lib.hid (H8.out.next hb9)
          clear hb9
          go_wp2_with (first
            | (refine wpList_load_want rfl _ _ rfl w7.heap.size rfl _ (pfA d) (0, 0) _ H9.out.bd huP rfl XD.info ?_)
            | (refine wpList_load_want rfl _ _ rfl g1 rfl _ (pfA c) (0, 0) _ H9.out.bc huP rfl XC.info ?_)
            | (refine wpList_load_want rfl _ _ rfl w.heap.size rfl _ (pfA p) (0, 0) _ H9.out.x.bp huP rfl XP.info ?_)
            | (refine wpList_load_want rfl _ _ rfl (w.heap.size + 1) rfl _ (pfA q) (0, 0) _ H9.out.x.bq huP rfl XQ.info ?_))
          refine (CCP.out _).mono ?_
          rintro e w10 ⟨rfl, hb10⟩
          have H10 := Lib.hid (H9.out.next hb10)
          clear hb10
          go_wp2_with (first
            | (refine wpList_load_want rfl _ _ rfl w7.heap.size rfl _ (pfA d) (0, 0) _ H10.out.bd huP rfl XD.info ?_)
            | (refine wpList_load_want rfl _ _ rfl g1 rfl _ (pfA c) (0, 0) _ H10.out.bc huP rfl XC.info ?_)
            | (refine wpList_load_want rfl _ _ rfl w.heap.size rfl _ (pfA p) (0, 0) _ H10.out.x.bp huP rfl XP.info ?_)
            | (refine wpList_load_want rfl _ _ rfl (w.heap.size + 1) rfl _ (pfA q) (0, 0) _ H10.out.x.bq huP rfl XQ.info ?_))
          refine (CCQ.out _).mono ?_
          rintro e w11 ⟨rfl, hb11⟩
          have H11 := Lib.hid (H10.out.next hb11)
          clear hb11
          go_wp2_with (first
            | (refine wpList_load_want rfl _ _ rfl w7.heap.size rfl _ (pfA d) (0, 0) _ H11.out.bd huP rfl XD.info ?_)
            | (refine wpList_load_want rfl _ _ rfl g1 rfl _ (pfA c) (0, 0) _ H11.out.bc huP rfl XC.info ?_)
            | (refine wpList_load_want rfl _ _ rfl w.heap.size rfl _ (pfA p) (0, 0) _ H11.out.x.bp huP rfl XP.info ?_)
            | (refine wpList_load_want rfl _ _ rfl (w.heap.size + 1) rfl _ (pfA q) (0, 0) _ H11.out.x.bq huP rfl XQ.info ?_))
          go_ret
          exact ⟨rfl, H11.out.x.below⟩
      · go_wp2_with (first
          | (refine wpList_load_want rfl _ _ rfl w7.heap.size rfl _ (pfA d) (0, 0) _ H8.out.bd huP rfl XD.info ?_)
          | (refine wpList_load_want rfl _ _ rfl g1 rfl _ (pfA c) (0, 0) _ H8.out.bc huP rfl XC.info ?_)
          | (refine wpList_load_want rfl _ _ rfl w.heap.size rfl _ (pfA p) (0, 0) _ H8.out.x.bp huP rfl XP.info ?_)
          | (refine wpList_load_want rfl _ _ rfl (w.heap.size + 1) rfl _ (pfA q) (0, 0) _ H8.out.x.bq huP rfl XQ.info ?_))
        refine (CDQ.out _).mono ?_
        rintro e w9 ⟨rfl, hb9⟩
        have H9 := Lib.hid (H8.out.next hb9)
        clear hb9
        cases y
        · cases z
          all_goals
            go_wp2_with (first
              | (refine wpList_load_want rfl _ _ rfl w7.heap.size rfl _ (pfA d) (0, 0) _ H9.out.bd huP rfl XD.info ?_)
              | (refine wpList_load_want rfl _ _ rfl g1 rfl _ (pfA c) (0, 0) _ H9.out.bc huP rfl XC.info ?_)
              | (refine wpList_load_want rfl _ _ rfl w.heap.size rfl _ (pfA p) (0, 0) _ H9.out.x.bp huP rfl XP.info ?_)
              | (refine wpList_load_want rfl _ _ rfl (w.heap.size + 1) rfl _ (pfA q) (0, 0) _ H9.out.x.bq huP rfl XQ.info ?_))
            refine (KC.out _).mono ?_
            rintro e w10 ⟨rfl, hb10⟩
            have H10 := Lib.hid (H9.out.next hb10)
            clear hb10
            go_wp2_with (first
              | (refine wpList_load_want rfl _ _ rfl w7.heap.size rfl _ (pfA d) (0, 0) _ H10.out.bd huP rfl XD.info ?_)
              | (refine wpList_load_want rfl _ _ rfl g1 rfl _ (pfA c) (0, 0) _ H10.out.bc huP rfl XC.info ?_)
              | (refine wpList_load_want rfl _ _ rfl w.heap.size rfl _ (pfA p) (0, 0) _ H10.out.x.bp huP rfl XP.info ?_)
              | (refine wpList_load_want rfl _ _ rfl (w.heap.size + 1) rfl _ (pfA q) (0, 0) _ H10.out.x.bq huP rfl XQ.info ?_))
            refine (CCP.out _).mono ?_
            rintro e w11 ⟨rfl, hb11⟩
            have H11 := Lib.hid (H10.out.next hb11)
            clear hb11
            go_wp2_with (first
              | (refine wpList_load_want rfl _ _ rfl w7.heap.size rfl _ (pfA d) (0, 0) _ H11.out.bd huP rfl XD.info ?_)
              | (refine wpList_load_want rfl _ _ rfl g1 rfl _ (pfA c) (0, 0) _ H11.out.bc huP rfl XC.info ?_)
              | (refine wpList_load_want rfl _ _ rfl w.heap.size rfl _ (pfA p) (0, 0) _ H11.out.x.bp huP rfl XP.info ?_)
              | (refine wpList_load_want rfl _ _ rfl (w.heap.size + 1) rfl _ (pfA q) (0, 0) _ H11.out.x.bq huP rfl XQ.info ?_))
            refine (CCQ.out _).mono ?_
            rintro e w12 ⟨rfl, hb12⟩
            have H12 := Lib.hid (H11.out.next hb12)
            clear hb12
            go_wp2_with (first
              | (refine wpList_load_want rfl _ _ rfl w7.heap.size rfl _ (pfA d) (0, 0) _ H12.out.bd huP rfl XD.info ?_)
              | (refine wpList_load_want rfl _ _ rfl g1 rfl _ (pfA c) (0, 0) _ H12.out.bc huP rfl XC.info ?_)
              | (refine wpList_load_want rfl _ _ rfl w.heap.size rfl _ (pfA p) (0, 0) _ H12.out.x.bp huP rfl XP.info ?_)
              | (refine wpList_load_want rfl _ _ rfl (w.heap.size + 1) rfl _ (pfA q) (0, 0) _ H12.out.x.bq huP rfl XQ.info ?_))
            go_ret
            exact ⟨rfl, H12.out.x.below⟩
        · have hz : z = true := by
            rcases hk4 with h | h
            · exact h
            · cases h
          subst hz
          go_wp2_with (first
            | (refine wpList_load_want rfl _ _ rfl w7.heap.size rfl _ (pfA d) (0, 0) _ H9.out.bd huP rfl XD.info ?_)
            | (refine wpList_load_want rfl _ _ rfl g1 rfl _ (pfA c) (0, 0) _ H9.out.bc huP rfl XC.info ?_)
            | (refine wpList_load_want rfl _ _ rfl w.heap.size rfl _ (pfA p) (0, 0) _ H9.out.x.bp huP rfl XP.info ?_)
            | (refine wpList_load_want rfl _ _ rfl (w.heap.size + 1) rfl _ (pfA q) (0, 0) _ H9.out.x.bq huP rfl XQ.info ?_))
          refine (KC.out _).mono ?_
          rintro e w10 ⟨rfl, hb10⟩
          have H10 := Lib.hid (H9.out.next hb10)
          clear hb10
          go_wp2_with (first
            | (refine wpList_load_want rfl _ _ rfl w7.heap.size rfl _ (pfA d) (0, 0) _ H10.out.bd huP rfl XD.info ?_)
            | (refine wpList_load_want rfl _ _ rfl g1 rfl _ (pfA c) (0, 0) _ H10.out.bc huP rfl XC.info ?_)
            | (refine wpList_load_want rfl _ _ rfl w.heap.size rfl _ (pfA p) (0, 0) _ H10.out.x.bp huP rfl XP.info ?_)
            | (refine wpList_load_want rfl _ _ rfl (w.heap.size + 1) rfl _ (pfA q) (0, 0) _ H10.out.x.bq huP rfl XQ.info ?_))
          refine (CCP.out _).mono ?_
          rintro e w11 ⟨rfl, hb11⟩
          have H11 := Lib.hid (H10.out.next hb11)
          clear hb11
          go_wp2_with (first
            | (refine wpList_load_want rfl _ _ rfl w7.heap.size rfl _ (pfA d) (0, 0) _ H11.out.bd huP rfl XD.info ?_)
            | (refine wpList_load_want rfl _ _ rfl g1 rfl _ (pfA c) (0, 0) _ H11.out.bc huP rfl XC.info ?_)
            | (refine wpList_load_want rfl _ _ rfl w.heap.size rfl _ (pfA p) (0, 0) _ H11.out.x.bp huP rfl XP.info ?_)
            | (refine wpList_load_want rfl _ _ rfl (w.heap.size + 1) rfl _ (pfA q) (0, 0) _ H11.out.x.bq huP rfl XQ.info ?_))
          refine (CCQ.out _).mono ?_
          rintro e w12 ⟨rfl, hb12⟩
          have H12 := Lib.hid (H11.out.next hb12)
          clear hb12
          go_wp2_with (first
            | (refine wpList_load_want rfl _ _ rfl w7.heap.size rfl _ (pfA d) (0, 0) _ H12.out.bd huP rfl XD.info ?_)
            | (refine wpList_load_want rfl _ _ rfl g1 rfl _ (pfA c) (0, 0) _ H12.out.bc huP rfl XC.info ?_)
            | (refine wpList_load_want rfl _ _ rfl w.heap.size rfl _ (pfA p) (0, 0) _ H12.out.x.bp huP rfl XP.info ?_)
            | (refine wpList_load_want rfl _ _ rfl (w.heap.size + 1) rfl _ (pfA q) (0, 0) _ H12.out.x.bq huP rfl XQ.info ?_))
          go_ret
          exact ⟨rfl, H12.out.x.below⟩
  · -- one of them may not be, or they are of two kinds
    have hr : okN p = 1 ∨ (okN p = 0 ∧ okN q = 1) ∨ (okN p = 0 ∧ okN q = 0 ∧ (p.six == q.six) = false) := by
      by_cases h1 : ok p
      · by_cases h2 : ok q
        · refine Or.inr (Or.inr ⟨hdata.out.1 h1, hdata.out.2.2.1 h2, ?_⟩)
          rw [beq_eq_false_iff_ne]
          exact fun h3 => hgood ⟨h1, h2, h3⟩
        · exact Or.inr (Or.inl ⟨hdata.out.1 h1, hdata.out.2.2.2 h2⟩)
      · exact Or.inl (hdata.out.2.1 h1)
    clear hgood hdata
    rcases hr with hk | ⟨hk, hk2⟩ | ⟨hk, hk2, hs'⟩
    · rw [hk] at KP
      clear hk
      go_enter Tryd.func3, Tryd.ntmps3
      go_wp2_with fail
      refine (law08_awake _ H0.out.pt).mono ?_
      rintro e w1 ⟨rfl, hb1⟩
      have H1 := Lib.hid (H0.out.next hb1)
      clear hb1
      go_wp2_with (refine wpList_load_want rfl _ _ rfl w.heap.size rfl _ (pfA p) (0, 0) _ H1.out.bp huP rfl XP.info ?_)
      refine (KP.out _).mono ?_
      rintro e w2 ⟨rfl, hb2⟩
      have H2 := Lib.hid (H1.out.next hb2)
      clear hb2
      go_wp2_with fail
      go_ret
      exact ⟨rfl, H2.out.below⟩
    · rw [hk] at KP
      rw [hk2] at KQ
      clear hk hk2
      go_enter Tryd.func3, Tryd.ntmps3
      go_wp2_with fail
      refine (law08_awake _ H0.out.pt).mono ?_
      rintro e w1 ⟨rfl, hb1⟩
      have H1 := Lib.hid (H0.out.next hb1)
      clear hb1
      go_wp2_with (refine wpList_load_want rfl _ _ rfl w.heap.size rfl _ (pfA p) (0, 0) _ H1.out.bp huP rfl XP.info ?_)
      refine (KP.out _).mono ?_
      rintro e w2 ⟨rfl, hb2⟩
      have H2 := Lib.hid (H1.out.next hb2)
      clear hb2
      go_wp2_with (refine wpList_load_want rfl _ _ rfl (w.heap.size + 1) rfl _ (pfA q) (0, 0) _ H2.out.bq huP rfl XQ.info ?_)
      refine (KQ.out _).mono ?_
      rintro e w3 ⟨rfl, hb3⟩
      have H3 := Lib.hid (H2.out.next hb3)
      clear hb3
      go_wp2_with fail
      go_ret
      exact ⟨rfl, H3.out.below⟩
    · rw [hk] at KP
      rw [hk2] at KQ
      clear hk hk2
      go_enter Tryd.func3, Tryd.ntmps3
      go_wp2_with fail
      refine (law08_awake _ H0.out.pt).mono ?_
      rintro e w1 ⟨rfl, hb1⟩
      have H1 := Lib.hid (H0.out.next hb1)
      clear hb1
      go_wp2_with (refine wpList_load_want rfl _ _ rfl w.heap.size rfl _ (pfA p) (0, 0) _ H1.out.bp huP rfl XP.info ?_)
      refine (KP.out _).mono ?_
      rintro e w2 ⟨rfl, hb2⟩
      have H2 := Lib.hid (H1.out.next hb2)
      clear hb2
      go_wp2_with (refine wpList_load_want rfl _ _ rfl (w.heap.size + 1) rfl _ (pfA q) (0, 0) _ H2.out.bq huP rfl XQ.info ?_)
      refine (KQ.out _).mono ?_
      rintro e w3 ⟨rfl, hb3⟩
      have H3 := Lib.hid (H2.out.next hb3)
      have c0 := H3.out.bp.p0
      have d0 := H3.out.bq.p0
      clear hb3
      go_wp2_with fail
      go_ret
      exact ⟨rfl, H3.out.below⟩
end Go.Proofs.YtjbolphfelakeaaDoor
