/- The laws of layer 1: Back. -/
import Derived.Test.YtlefkmgcahpobaaDoorOctetLaw4
namespace Go.Proofs.YtlefkmgcahpobaaDoor
set_option linter.unusedVariables false
set_option linter.unusedSimpArgs false
open Go.RowKit Go.Shelf Go.Proofs Go.OctetPlain

theorem shl_mod (x : Nat) (q : Int) (h0 : 0 ≤ q) (h7 : q < 7) : ¬ IntKind.u64.wrap (2 ^ (8 * (q + 1)).toNat) = 0 ∧ (x : Int) % IntKind.u64.wrap (2 ^ (8 * (q + 1)).toNat) = ((x % 256 ^ (q + 1).toNat : Nat) : Int) := by
  have e : (2 : Int) ^ (8 * (q + 1)).toNat = ((256 ^ (q + 1).toNat : Nat) : Int) := by
    rw [show (8 * (q + 1)).toNat = 8 * (q + 1).toNat by omega, pow_8]
  have hb : 256 ^ (q + 1).toNat ≤ 256 ^ 7 := Nat.pow_le_pow_right (by omega) (by omega)
  have hp : 0 < 256 ^ (q + 1).toNat := Nat.pow_pos (by omega)
  have hw : IntKind.u64.wrap (((256 ^ (q + 1).toNat : Nat) : Int)) = ((256 ^ (q + 1).toNat : Nat) : Int) := IntWalk.u64_in _ (by omega)
  rw [e, hw]
  exact ⟨by omega, (Int.natCast_emod _ _).symm⟩
theorem takeB {W : World} {p : Option Addr} {l : List UInt8} (h : RdP W 1 encB p l) {k cap : Nat} (hk : k ≤ l.length) (hc : l.length ≤ cap) (hm : cap ≤ 9223372036854775807) : SlR W 1 encB (.slice p k cap) (l.take k) := by
  have e : (l.take k).length = k := by rw [List.length_take]; omega
  refine ⟨p, cap, by rw [e], by omega, hm, ?_, fun a ha => ?_⟩
  · intro hp
    have := h.1 hp
    omega
  · obtain ⟨h1, h2, h3⟩ := h.2 a ha
    refine ⟨h1, h2, fun i x hx j u hu => h3 i x ?_ j u hu⟩
    rw [List.getElem?_take] at hx
    split at hx
    · exact hx
    · cases hx
theorem dropB {W : World} {p : Option Addr} {l : List UInt8} (h : RdP W 1 encB p l) {k cap : Nat} (hk : k ≤ l.length) (hc : l.length ≤ cap) (hm : cap ≤ 9223372036854775807) : SlR W 1 encB (.slice (if cap = k then p else p.map (fun x => x.add k)) (l.length - k) (cap - k)) (l.drop k) := by
  have e : (l.drop k).length = l.length - k := List.length_drop
  refine ⟨if cap = k then p else p.map (fun x => x.add k), cap - k, by rw [e], by omega, by omega, ?_⟩
  by_cases hck : cap = k
  · rw [if_pos hck]
    have h0 : l.drop k = [] := List.eq_nil_of_length_eq_zero (by omega)
    rw [h0]
    exact ⟨fun _ => rfl, fun a ha => ⟨(h.2 a ha).1, (h.2 a ha).2.1, fun i x hx => by simp at hx⟩⟩
  · rw [if_neg hck]
    cases p with
    | none => exact ⟨fun _ => by have := h.1 rfl; omega, fun a ha => by cases ha⟩
    | some a =>
      refine ⟨(fun e => by cases e), fun b hb => ?_⟩
      obtain ⟨h1, h2, h3⟩ := h.2 a rfl
      simp only [Option.map_some, Option.some.injEq] at hb
      have hadd : a.add k = ⟨a.block, a.off + k, none⟩ := by cases a; simp only at h1; subst h1; unfold Addr.add; split <;> simp_all
      rw [hadd] at hb
      subst hb
      refine ⟨rfl, h2, fun i x hx j u hu => ?_⟩
      rw [List.getElem?_drop] at hx
      have := h3 (k + i) x hx j u hu
      rw [← this]
      congr 2
      simp only [Nat.mul_one]; omega
theorem num_half (m : Int) (h0 : 0 ≤ m) (h : m ≤ 9223372036854775807) : number (Lib.itoa m) m = some m := by
  unfold Lib.itoa
  rw [if_neg (by omega)]
  exact number_some.2 ⟨by omega, by omega, Int.le_refl _, by congr 1⟩
theorem itoa_le (m : Int) (h0 : 0 ≤ m) (h : m ≤ 9223372036854775807) : (Lib.itoa m).length ≤ 1000 := by
  unfold Lib.itoa
  rw [if_neg (by omega), Lib.decDigits_length]
  have := nDigits_le19 m.toNat (by omega)
  omega
/-- three slices of bytes, and nothing older turned -/
structure TB (w : World) (v : Value) (l : List UInt8) (vx : Value) (x : List UInt8) (W : World) : Prop where
  v : SlR W 1 encB v l
  x : SlR W 1 encB vx x
  tabs : Tabs W
  below : Below w.heap.size w W
theorem TB.next {w : World} {v vx : Value} {l x : List UInt8} {W W' : World} (h : TB w v l vx x W) (hb : Below W.heap.size W W') : TB w v l vx x W' :=
  ⟨h.v.below hb (Nat.le_refl _), h.x.below hb (Nat.le_refl _), h.tabs.below hb, h.below.trans (hb.mono h.below.size)⟩

set_option maxRecDepth 100000 in
set_option maxHeartbeats 800000 in
theorem law_back (l : List UInt8) (a z : Int) (x : Nat) (ha : 0 ≤ a ∧ a ≤ 255) (hz : 0 ≤ z ∧ z ≤ 255) (hx : x < 18446744073709551616) (v : Value) (w : World) (ht : Tabs w) (hv : SlR w 1 encB v l) :
    Calls Tryd.prog 7 #[.agg #[v, .int .u8 a, .int .u8 z, .int .u64 x]] w fun e w' => e = .returned (.bool true) ∧ Below w.heap.size w w' := by
  have HT := Lib.hid (ht.below (belowA w (.cells #[v, .int .u8 a, .int .u8 z, .int .u64 x] 46)))
  have HV := Lib.hid (hv.below (belowA w (.cells #[v, .int .u8 a, .int .u8 z, .int .u64 x] 46)) (Nat.le_refl _))
  obtain ⟨p, cap, rfl, hc1, hc2, hR⟩ := hv
  clear ht
  go_enter Tryd.func7, Tryd.ntmps7
  go_wp2_with fail
  refine (law01_awake _ HT.out).mono ?_
  rintro e w1 ⟨rfl, hb1⟩
  have V1 := Lib.hid (HV.out.below hb1 (Nat.le_refl _))
  have B1 := Lib.hid (belowA2 hb1)
  have T1 := Lib.hid (HT.out.below hb1)
  have c1 : w1.cell? ⟨w.heap.size, 1, none⟩ = some (.int .u8 a) := by
    rw [(bcell hb1).1 _ _ (by simp)]; simp [World.cell?_alloc_at]
  have c2 : w1.cell? ⟨w.heap.size, 2, none⟩ = some (.int .u8 z) := by
    rw [(bcell hb1).1 _ _ (by simp)]; simp [World.cell?_alloc_at]
  clear hb1
  by_cases hl : 200 < (l.length : Int)
  · go_wp2_with fail
    go_ret
    exact ⟨rfl, B1.out⟩
  · obtain ⟨q, hq⟩ : ∃ q : Int, z % 8 = q := ⟨_, rfl⟩
    have hq0 : 0 ≤ q ∧ q ≤ 7 := by omega
    have e1 : IntKind.i64.wrap (a + (q + 1)) = a + (q + 1) := IntWalk.i64_in _ (by omega)
    obtain ⟨N, hN⟩ : ∃ N : Nat, x % 256 ^ (q + 1).toNat = N := ⟨_, rfl⟩
    have hNlt : N < 256 ^ (q + 1).toNat := by rw [← hN]; exact Nat.mod_lt _ (Nat.pow_pos (by omega))
    have hNx : N ≤ x := by rw [← hN]; exact Nat.mod_le _ _
    have HNL := Lib.hid hNlt
    have hok : putOk l.length a (q + 1) N ↔ a + (q + 1) ≤ l.length := by
      unfold putOk getOk there
      constructor
      · intro h; omega
      · intro h; exact ⟨⟨by omega, by omega⟩, hNlt⟩
    have HD : Hid (decide (putOk l.length a (q + 1) N) = decide (a + (q + 1) ≤ l.length)) := decide_eq_decide.2 hok
    have HU := Lib.hid (unhex_hex l [])
    have HM := Lib.hid (num_half ((N : Int) / 2) (by omega) (by omega))
    have HML := Lib.hid (itoa_le ((N : Int) / 2) (by omega) (by omega))
    by_cases hq7 : q < 7
    · obtain ⟨hne, hmod⟩ := shl_mod x q (by omega) hq7
      rw [hN] at hmod
      clear hNlt hN
      go_wp2_with fail
      refine (octet_Put l (by omega) a (q + 1) (by omega) (by omega) N (by omega) _ _ V1.out).mono ?_
      rintro e w2 ⟨v2, rfl, ho2, hb2⟩
      rw [HD.out]
      try simp only [hmod]
      have R2 : TB w (.slice p l.length cap) l v2 (putL l a (q + 1) N) w2 := ⟨V1.out.below hb2 (Nat.le_refl _), SlR.ofB ho2, T1.out.below hb2, B1.out.trans (hb2.mono B1.out.size)⟩
      clear hb2 ho2 c1 c2 hmod hne
      go_wp2_with fail
      refine (octet_Hex l (by omega) _ _ R2.v).mono ?_
      rintro e w3 ⟨rfl, hb3⟩
      have R3 := R2.next hb3
      clear hb3 R2
      have hhl : (hex l).length ≤ 1073741824 := by rw [hex_length]; omega
      go_wp2_with fail
      refine (octet_Unhex (hex l) hhl _).mono ?_
      rintro e w4 ⟨v4, rfl, ho4, hb4⟩
      rw [HU.out] at ho4 ⊢
      have R4 := R3.next hb4
      have U4 : SlR w4 1 encB v4 l := SlR.ofB ho4
      clear hb4 R3 ho4
      go_wp2_with fail
      refine (octet_Digits _ (by omega) _ R4.tabs).mono ?_
      rintro e w5 ⟨rfl, hb5⟩
      have R5 := R4.next hb5
      have U5 := U4.below hb5 (Nat.le_refl _)
      clear hb5 R4 U4
      go_wp2_with fail
      refine (octet_Number _ (by have := HML.out; omega) _ _ R5.tabs).mono ?_
      rintro e w6 ⟨rfl, hb6⟩
      rw [HM.out]
      have R6 := R5.next hb6
      have cu := str_conv (U5.below hb6 (Nat.le_refl _))
      have cv := str_conv R6.v
      clear hb6 R5 U5
      by_cases hin : a + (q + 1) ≤ (l.length : Int)
      · have hok' := hok.2 hin
        have HG := Lib.hid (put_get hok')
        have HF := Lib.hid (put_front hok')
        have HK := Lib.hid (put_back hok')
        have HL := Lib.hid (putL_length hok')
        rw [decide_eq_true hin]
        go_wp2_with fail
        have hgo : getOk l.length a (q + 1) := hok'.1
        generalize putL l a (q + 1) N = m at R6 HG HF HK HL
        have hml := HL.out
        have hgd := decide_eq_true (show getOk m.length a (q + 1) by rw [hml]; exact hgo)
        have HGD := Lib.hid hgd
        clear hgd hgo
        refine (octet_Get m (by omega) a (q + 1) (by omega) (by omega) _ _ R6.x).mono ?_
        rintro e w7 ⟨rfl, hb7⟩
        rw [HG.out, HGD.out]
        have R7 := R6.next hb7
        clear hb7 R6 cu cv
        obtain ⟨p2, cap2, rfl, hd1, hd2, hR2⟩ := R7.x
        have at2 : a.toNat ≤ l.length := by omega
        have cx1 := fun n => str_conv ((takeB hR2 (k := a.toNat) (by omega) hd1 hd2).below (below_drewN (Below.refl w7.heap.size w7) n) (Nat.le_refl _))
        have hRv : RdP w7 1 encB p l := by
          obtain ⟨p', c', e, _, _, h⟩ := R7.v
          cases e; exact h
        have cx2 := fun n => str_conv ((takeB hRv (k := a.toNat) (by omega) hc1 hc2).below (below_drewN (Below.refl w7.heap.size w7) n) (Nat.le_refl _))
        rw [HF.out] at cx1
        have cx3 := fun n => str_conv ((dropB hR2 (k := (a + (q + 1)).toNat) (by omega) hd1 hd2).below (below_drewN (Below.refl w7.heap.size w7) n) (Nat.le_refl _))
        have cx4 := fun n => str_conv ((dropB hRv (k := (a + (q + 1)).toNat) (by omega) hc1 hc2).below (below_drewN (Below.refl w7.heap.size w7) n) (Nat.le_refl _))
        rw [HK.out, hml] at cx3
        go_wp2_with fail
        go_quiet (fail)
        go_wp2_with fail
        all_goals
          go_ret
          exact ⟨rfl, below_drewN R7.below _⟩
      · have hno : putL l a (q + 1) N = [] := by unfold putL; rw [if_neg (fun h => hin (hok.1 h))]
        rw [hno] at R6
        obtain ⟨p2, cap2, rfl, _, _, _⟩ := R6.x
        rw [decide_eq_false hin]
        go_wp2_with fail
        go_ret
        exact ⟨rfl, R6.below⟩
    · obtain rfl : x = N := by
        rw [← hN]
        have : (q + 1).toNat = 8 := by omega
        rw [this, Nat.mod_eq_of_lt (by omega)]
      clear hNlt hN
      go_wp2_with fail
      refine (octet_Put l (by omega) a (q + 1) (by omega) (by omega) x (by omega) _ _ V1.out).mono ?_
      rintro e w2 ⟨v2, rfl, ho2, hb2⟩
      rw [HD.out]
      have R2 : TB w (.slice p l.length cap) l v2 (putL l a (q + 1) x) w2 := ⟨V1.out.below hb2 (Nat.le_refl _), SlR.ofB ho2, T1.out.below hb2, B1.out.trans (hb2.mono B1.out.size)⟩
      clear hb2 ho2 c1 c2
      go_wp2_with fail
      refine (octet_Hex l (by omega) _ _ R2.v).mono ?_
      rintro e w3 ⟨rfl, hb3⟩
      have R3 := R2.next hb3
      clear hb3 R2
      have hhl : (hex l).length ≤ 1073741824 := by rw [hex_length]; omega
      go_wp2_with fail
      refine (octet_Unhex (hex l) hhl _).mono ?_
      rintro e w4 ⟨v4, rfl, ho4, hb4⟩
      rw [HU.out] at ho4 ⊢
      have R4 := R3.next hb4
      have U4 : SlR w4 1 encB v4 l := SlR.ofB ho4
      clear hb4 R3 ho4
      go_wp2_with fail
      refine (octet_Digits _ (by omega) _ R4.tabs).mono ?_
      rintro e w5 ⟨rfl, hb5⟩
      have R5 := R4.next hb5
      have U5 := U4.below hb5 (Nat.le_refl _)
      clear hb5 R4 U4
      go_wp2_with fail
      refine (octet_Number _ (by have := HML.out; omega) _ _ R5.tabs).mono ?_
      rintro e w6 ⟨rfl, hb6⟩
      rw [HM.out]
      have R6 := R5.next hb6
      have cu := str_conv (U5.below hb6 (Nat.le_refl _))
      have cv := str_conv R6.v
      clear hb6 R5 U5
      by_cases hin : a + (q + 1) ≤ (l.length : Int)
      · have hok' := hok.2 hin
        have HG := Lib.hid (put_get hok')
        have HF := Lib.hid (put_front hok')
        have HK := Lib.hid (put_back hok')
        have HL := Lib.hid (putL_length hok')
        rw [decide_eq_true hin]
        go_wp2_with fail
        have hgo : getOk l.length a (q + 1) := hok'.1
        generalize putL l a (q + 1) x = m at R6 HG HF HK HL
        have hml := HL.out
        have hgd := decide_eq_true (show getOk m.length a (q + 1) by rw [hml]; exact hgo)
        have HGD := Lib.hid hgd
        clear hgd hgo
        refine (octet_Get m (by omega) a (q + 1) (by omega) (by omega) _ _ R6.x).mono ?_
        rintro e w7 ⟨rfl, hb7⟩
        rw [HG.out, HGD.out]
        have R7 := R6.next hb7
        clear hb7 R6 cu cv
        obtain ⟨p2, cap2, rfl, hd1, hd2, hR2⟩ := R7.x
        have at2 : a.toNat ≤ l.length := by omega
        have cx1 := fun n => str_conv ((takeB hR2 (k := a.toNat) (by omega) hd1 hd2).below (below_drewN (Below.refl w7.heap.size w7) n) (Nat.le_refl _))
        have hRv : RdP w7 1 encB p l := by
          obtain ⟨p', c', e, _, _, h⟩ := R7.v
          cases e; exact h
        have cx2 := fun n => str_conv ((takeB hRv (k := a.toNat) (by omega) hc1 hc2).below (below_drewN (Below.refl w7.heap.size w7) n) (Nat.le_refl _))
        rw [HF.out] at cx1
        have cx3 := fun n => str_conv ((dropB hR2 (k := (a + (q + 1)).toNat) (by omega) hd1 hd2).below (below_drewN (Below.refl w7.heap.size w7) n) (Nat.le_refl _))
        have cx4 := fun n => str_conv ((dropB hRv (k := (a + (q + 1)).toNat) (by omega) hc1 hc2).below (below_drewN (Below.refl w7.heap.size w7) n) (Nat.le_refl _))
        rw [HK.out, hml] at cx3
        go_wp2_with fail
        go_quiet (fail)
        go_wp2_with fail
        all_goals
          go_ret
          exact ⟨rfl, below_drewN R7.below _⟩
      · have hno : putL l a (q + 1) x = [] := by unfold putL; rw [if_neg (fun h => hin (hok.1 h))]
        rw [hno] at R6
        obtain ⟨p2, cap2, rfl, _, _, _⟩ := R6.x
        rw [decide_eq_false hin]
        go_wp2_with fail
        go_ret
        exact ⟨rfl, R6.below⟩
end Go.Proofs.YtlefkmgcahpobaaDoor
