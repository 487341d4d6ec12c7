/- The laws of layer 8: Back. -/
import Derived.Test.YtjbolphfelakeaaDoorPfxLaw
namespace Go.Proofs.YtjbolphfelakeaaDoor
set_option linter.unusedVariables false
set_option linter.unusedSimpArgs false
open Go.RowKit Go.Shelf Go.Proofs Go.OctetPlain Go.ColonPlain Go.PrefixPlain

theorem ofP_len64x (six : Bool) (a : List UInt8) (n : Int) : Len64 (ofP six a n) := by
  have := most_pos six
  unfold Len64
  show _ ≤ min (max n 0) (most six) ∧ min (max n 0) (most six) ≤ _
  omega
theorem parseP_len (l : List UInt8) : ((parseP l).getD zP).addr.length = 16 := by
  rw [parseP_eq]
  split
  · exact adA_len _
  · rfl
/-- Back's state: the prefix and the address; what was parsed -/
structure BS (w W : World) (g1 : Nat) (p q : Pf) (a : List UInt8) : Prop where
  pt : PT W
  h : HS w W p a
  bq : Blk W g1 24 (pfA q)
theorem BS.next {w W W' : World} {g1 : Nat} {p q : Pf} {a : List UInt8} (h : BS w W g1 p q a) (hb : Below W.heap.size W W') : BS w W' g1 p q a := ⟨h.pt.below hb, h.h.next hb, h.bq.below hb h.bq.lt⟩
set_option maxRecDepth 100000 in
set_option maxHeartbeats 6000000 in
theorem law_back8 (p : Pf) (hp : p.addr.length = 16) (lp : Len64 p) (a : List UInt8) (ha : a.length = 16) (n : Int) (hn : -9223372036854775808 ≤ n ∧ n ≤ 9223372036854775807) (w : World) (ht : PT w) :
    Calls Tryd.prog 4 #[.agg (pfA p), .agg (arrB a), .int .i64 n] w fun e w' => e = .returned (.bool true) ∧ Below w.heap.size w w' := by
  have huP := Tryd.underlying24
  have hu16 := Tryd.underlying22
  have KA := A16.of ha
  have XP := PX.of hp
  have SW := Lib.hid fun W h => pfx_Show p hp lp W h
  have hsl : (showP p).length ≤ 1000000 := by
    unfold showP
    have h1 := text_len hp
    have h2 := itoa_len (n := p.len) lp
    rw [List.length_append, List.length_cons]; omega
  have PS0 := Lib.hid fun W h => pfx_Parse (showP p) hsl W h
  have hq := parseP_len (showP p)
  have hcond : ok p → (parseP (showP p)).getD zP = p ∧ (parseP (showP p)).isSome = true := fun h => by rw [parse_show_p hp h]; exact ⟨rfl, rfl⟩
  have hr := ofP_len p.six ha n
  have lr := ofP_len64x p.six a n
  have XR := PX.of hr
  have OF := Lib.hid fun W => pfx_Of p.six a ha n hn W
  have hro : okN (ofP p.six a n) = 0 := by unfold okN; rw [if_pos (ofP_ok _ ha _)]
  have CR := Lib.hid fun W => pfx_Check (ofP p.six a n) hr lr W
  rw [hro] at CR
  have HA := Lib.hid fun W => pfx_Has (ofP p.six a n) hr lr a ha W
  rw [ofP_has _ ha _] at HA
  have C1 := Lib.hid fun W => pfx_Compare p (ofP p.six a n) hp hr W
  have C2 := Lib.hid fun W => pfx_Compare (ofP p.six a n) p hr hp W
  have hneg := cmpP_neg p (ofP p.six a n)
  have hzero := cmpP_zero p (ofP p.six a n)
  have EQ := fun W => eq_pf (p := p) (q := ofP p.six a n) hp hr W
  have QE := fun W => eq_pf (p := p) (q := p) hp hp W
  rw [decide_eq_true rfl] at QE
  have CK := Lib.hid fun W => pfx_Check p hp lp W
  have hbd : -1 ≤ cmpP p (ofP p.six a n) ∧ cmpP p (ofP p.six a n) ≤ 1 := by
    have hB : ∀ a b : List UInt8, -1 ≤ cmpB a b ∧ cmpB a b ≤ 1 := by
      intro a
      induction a with
      | nil => intro b; cases b <;> simp [cmpB]
      | cons x l ih => intro b; cases b with
        | nil => simp [cmpB]
        | cons y m => simp only [cmpB]; split <;> (try split) <;> first | omega | exact ih m
    have h1 := hB p.addr (ofP p.six a n).addr
    unfold cmpP cmpI
    split <;> (try split) <;> (try split) <;> (try split) <;> omega
  rw [hneg] at C2
  clear hneg hro hsl
  generalize hrr : ofP p.six a n = r at *
  clear hrr
  generalize (parseP (showP p)).getD zP = q at *
  generalize (parseP (showP p)).isSome = is at *
  obtain ⟨b, hb, hcz⟩ : ∃ b : Bool, decide (p = r) = b ∧ (cmpP p r == 0) = b := by
    refine ⟨_, rfl, ?_⟩
    rw [Bool.eq_iff_iff, beq_iff_eq, decide_eq_true_iff]
    exact hzero
  rw [hb] at EQ
  clear hb hzero
  generalize cmpP p r = c at *
  have XQ := PX.of hq
  have w0 : IntKind.i64.wrap (0 - c) = 0 - c := IntWalk.i64_in _ (by omega)
  have h0 : HS w ((w.alloc (.cells (pfA p) 24)).alloc (.cells (arrB a) 22)) p a := by
    refine ⟨(Blk.new _ _ _).alloc _, ?_, (belowA w _).alloc (by simp) _⟩
    have h := Blk.new (w.alloc (.cells (pfA p) 24)) 22 (arrB a)
    rw [World.size_alloc] at h
    exact h
  have hA0 : A0 w ((w.alloc (.cells (pfA p) 24)).alloc (.cells (arrB a) 22)) := by
    have hA : A0 w w := ⟨ht, Below.refl _ _⟩
    exact (hA.next (belowA w _)).next (belowA _ _)
  have H0 := Lib.hid h0
  have HA0 := Lib.hid hA0
  clear h0 hA0 ht
  have hsplit : (okN p = 0 ∧ q = p ∧ is = true) ∨ okN p = 1 := by
    by_cases hok : ok p
    · exact Or.inl ⟨by unfold okN; rw [if_pos hok], hcond hok⟩
    · exact Or.inr (by unfold okN; rw [if_neg hok])
  clear hcond
  rcases hsplit with ⟨hk, hqp, hit⟩ | hk
  · have hh := hqp.symm
    subst hh
    subst hit
    rw [hk] at CK
    clear hk
    go_enter Tryd.func4, Tryd.ntmps4
    go_wp2_with fail
    refine (law08_awake _ HA0.out.pt).mono ?_
    rintro e w1 ⟨rfl, hb1⟩
    have H1 := Lib.hid (H0.out.next hb1)
    have A1 := Lib.hid (HA0.out.next hb1)
    clear hb1
    go_wp2_with (refine wpList_load_want rfl _ _ rfl w.heap.size rfl _ (pfA p) (0, 0) _ H1.out.bp huP rfl XP.info ?_)
    refine (SW.out _ A1.out.pt).mono ?_
    rintro e w2 ⟨rfl, hb2⟩
    have H2 := Lib.hid (H1.out.next hb2)
    have A2 := Lib.hid (A1.out.next hb2)
    clear hb2
    go_wp2_with fail
    refine (PS0.out _ A2.out.pt).mono ?_
    rintro e w3 ⟨rfl, hb3⟩
    have B3 : BS w (w3.alloc (.cells (pfA p) 24)) w3.heap.size p p a := by
      have hA := (A2.out.next hb3).next (belowA w3 (.cells (pfA p) 24))
      exact ⟨hA.pt, (H2.out.next hb3).next (belowA _ _), Blk.new _ _ _⟩
    have H3 := Lib.hid B3
    clear hb3 B3
    go_wp2_with (first
      | (refine wpList_store_new rfl _ _ _ rfl (pfA p) rfl rfl _ _ XQ.info XQ.size.symm XQ.one ?_)
      | (refine wpList_load_want rfl _ _ rfl w.heap.size rfl _ (pfA p) (0, 0) _ H3.out.h.bp huP rfl XP.info ?_))
    refine (CK.out _).mono ?_
    rintro e w4 ⟨rfl, hb4⟩
    have H4 := Lib.hid (H3.out.next hb4)
    have c0 := H4.out.h.bp.p0
    clear hb4
    go_wp2_with (first
      | (refine wpList_load_want rfl _ _ rfl w3.heap.size rfl _ (pfA p) (0, 0) _ H4.out.bq huP rfl XQ.info ?_)
      | (refine wpList_load_want rfl _ _ rfl w.heap.size rfl _ (pfA p) (0, 0) _ H4.out.h.bp huP rfl XP.info ?_)
      | (refine wpList_load_want rfl _ _ rfl (w.heap.size + 1) rfl _ (arrB a) (0, 0) _ H4.out.h.ba hu16 rfl KA.info ?_))
    refine (OF.out _).mono ?_
    rintro e w5 ⟨rfl, hb5⟩
    have H5 := Lib.hid ((H4.out.next hb5).next (belowA w5 (.cells (pfA r) 24)))
    have R5 := Lib.hid (Blk.new w5 24 (pfA r))
    clear hb5 c0
    go_wp2_with (first
      | (refine wpList_store_new rfl _ _ _ rfl (pfA r) rfl rfl _ _ XR.info XR.size.symm XR.one ?_)
      | (refine wpList_load_want rfl _ _ rfl w5.heap.size rfl _ (pfA r) (0, 0) _ R5.out huP rfl XR.info ?_)
      | (refine wpList_load_want rfl _ _ rfl w.heap.size rfl _ (pfA p) (0, 0) _ H5.out.h.bp huP rfl XP.info ?_))
    refine (C1.out _).mono ?_
    rintro e w6 ⟨rfl, hb6⟩
    have H6 := Lib.hid (H5.out.next hb6)
    have R6 := Lib.hid (R5.out.below hb6 R5.out.lt)
    clear hb6
    go_wp2_with (refine wpList_load_want rfl _ _ rfl w5.heap.size rfl _ (pfA r) (0, 0) _ R6.out huP rfl XR.info ?_)
    refine (CR.out _).mono ?_
    rintro e w7 ⟨rfl, hb7⟩
    have H7 := Lib.hid (H6.out.next hb7)
    have R7 := Lib.hid (R6.out.below hb7 R6.out.lt)
    clear hb7
    go_wp2_with (first
      | (refine wpList_load_want rfl _ _ rfl w5.heap.size rfl _ (pfA r) (0, 0) _ R7.out huP rfl XR.info ?_)
      | (refine wpList_load_want rfl _ _ rfl (w.heap.size + 1) rfl _ (arrB a) (0, 0) _ H7.out.h.ba hu16 rfl KA.info ?_))
    refine (HA.out _).mono ?_
    rintro e w8 ⟨rfl, hb8⟩
    have H8 := Lib.hid (H7.out.next hb8)
    have R8 := Lib.hid (R7.out.below hb8 R7.out.lt)
    clear hb8
    go_wp2_with (first
      | (refine wpList_load_want rfl _ _ rfl w5.heap.size rfl _ (pfA r) (0, 0) _ R8.out huP rfl XR.info ?_)
      | (refine wpList_load_want rfl _ _ rfl w.heap.size rfl _ (pfA p) (0, 0) _ H8.out.h.bp huP rfl XP.info ?_))
    refine (C2.out _).mono ?_
    rintro e w9 ⟨rfl, hb9⟩
    have H9 := Lib.hid (H8.out.next hb9)
    have R9 := Lib.hid (R8.out.below hb9 R8.out.lt)
    clear hb9
    go_wp2_with (first
      | (refine wpList_load_want rfl _ _ rfl w5.heap.size rfl _ (pfA r) (0, 0) _ R9.out huP rfl XR.info ?_)
      | (refine wpList_load_want rfl _ _ rfl w.heap.size rfl _ (pfA p) (0, 0) _ H9.out.h.bp huP rfl XP.info ?_))
    go_ret
    exact ⟨rfl, H9.out.h.below⟩
  · rw [hk] at CK
    clear hk
    go_enter Tryd.func4, Tryd.ntmps4
    go_wp2_with fail
    refine (law08_awake _ HA0.out.pt).mono ?_
    rintro e w1 ⟨rfl, hb1⟩
    have H1 := Lib.hid (H0.out.next hb1)
    have A1 := Lib.hid (HA0.out.next hb1)
    clear hb1
    go_wp2_with (refine wpList_load_want rfl _ _ rfl w.heap.size rfl _ (pfA p) (0, 0) _ H1.out.bp huP rfl XP.info ?_)
    refine (SW.out _ A1.out.pt).mono ?_
    rintro e w2 ⟨rfl, hb2⟩
    have H2 := Lib.hid (H1.out.next hb2)
    have A2 := Lib.hid (A1.out.next hb2)
    clear hb2
    go_wp2_with fail
    refine (PS0.out _ A2.out.pt).mono ?_
    rintro e w3 ⟨rfl, hb3⟩
    have B3 : BS w (w3.alloc (.cells (pfA q) 24)) w3.heap.size p q a := by
      have hA := (A2.out.next hb3).next (belowA w3 (.cells (pfA q) 24))
      exact ⟨hA.pt, (H2.out.next hb3).next (belowA _ _), Blk.new _ _ _⟩
    have H3 := Lib.hid B3
    clear hb3 B3
    go_wp2_with (first
      | (refine wpList_store_new rfl _ _ _ rfl (pfA q) rfl rfl _ _ XQ.info XQ.size.symm XQ.one ?_)
      | (refine wpList_load_want rfl _ _ rfl w.heap.size rfl _ (pfA p) (0, 0) _ H3.out.h.bp huP rfl XP.info ?_))
    refine (CK.out _).mono ?_
    rintro e w4 ⟨rfl, hb4⟩
    have H4 := Lib.hid (H3.out.next hb4)
    have c0 := H4.out.h.bp.p0
    clear hb4
    go_wp2_with (first
      | (refine wpList_load_want rfl _ _ rfl w3.heap.size rfl _ (pfA q) (0, 0) _ H4.out.bq huP rfl XQ.info ?_)
      | (refine wpList_load_want rfl _ _ rfl w.heap.size rfl _ (pfA p) (0, 0) _ H4.out.h.bp huP rfl XP.info ?_)
      | (refine wpList_load_want rfl _ _ rfl (w.heap.size + 1) rfl _ (arrB a) (0, 0) _ H4.out.h.ba hu16 rfl KA.info ?_))
    refine (OF.out _).mono ?_
    rintro e w5 ⟨rfl, hb5⟩
    have H5 := Lib.hid ((H4.out.next hb5).next (belowA w5 (.cells (pfA r) 24)))
    have R5 := Lib.hid (Blk.new w5 24 (pfA r))
    clear hb5 c0
    go_wp2_with (first
      | (refine wpList_store_new rfl _ _ _ rfl (pfA r) rfl rfl _ _ XR.info XR.size.symm XR.one ?_)
      | (refine wpList_load_want rfl _ _ rfl w5.heap.size rfl _ (pfA r) (0, 0) _ R5.out huP rfl XR.info ?_)
      | (refine wpList_load_want rfl _ _ rfl w.heap.size rfl _ (pfA p) (0, 0) _ H5.out.h.bp huP rfl XP.info ?_))
    refine (C1.out _).mono ?_
    rintro e w6 ⟨rfl, hb6⟩
    have H6 := Lib.hid (H5.out.next hb6)
    have R6 := Lib.hid (R5.out.below hb6 R5.out.lt)
    clear hb6
    go_wp2_with (refine wpList_load_want rfl _ _ rfl w5.heap.size rfl _ (pfA r) (0, 0) _ R6.out huP rfl XR.info ?_)
    refine (CR.out _).mono ?_
    rintro e w7 ⟨rfl, hb7⟩
    have H7 := Lib.hid (H6.out.next hb7)
    have R7 := Lib.hid (R6.out.below hb7 R6.out.lt)
    clear hb7
    go_wp2_with (first
      | (refine wpList_load_want rfl _ _ rfl w5.heap.size rfl _ (pfA r) (0, 0) _ R7.out huP rfl XR.info ?_)
      | (refine wpList_load_want rfl _ _ rfl (w.heap.size + 1) rfl _ (arrB a) (0, 0) _ H7.out.h.ba hu16 rfl KA.info ?_))
    refine (HA.out _).mono ?_
    rintro e w8 ⟨rfl, hb8⟩
    have H8 := Lib.hid (H7.out.next hb8)
    have R8 := Lib.hid (R7.out.below hb8 R7.out.lt)
    clear hb8
    go_wp2_with (first
      | (refine wpList_load_want rfl _ _ rfl w5.heap.size rfl _ (pfA r) (0, 0) _ R8.out huP rfl XR.info ?_)
      | (refine wpList_load_want rfl _ _ rfl w.heap.size rfl _ (pfA p) (0, 0) _ H8.out.h.bp huP rfl XP.info ?_))
    refine (C2.out _).mono ?_
    rintro e w9 ⟨rfl, hb9⟩
    have H9 := Lib.hid (H8.out.next hb9)
    have R9 := Lib.hid (R8.out.below hb9 R8.out.lt)
    clear hb9
    go_wp2_with (first
      | (refine wpList_load_want rfl _ _ rfl w5.heap.size rfl _ (pfA r) (0, 0) _ R9.out huP rfl XR.info ?_)
      | (refine wpList_load_want rfl _ _ rfl w.heap.size rfl _ (pfA p) (0, 0) _ H9.out.h.bp huP rfl XP.info ?_))
    go_ret
    exact ⟨rfl, H9.out.h.below⟩

end Go.Proofs.YtjbolphfelakeaaDoor
