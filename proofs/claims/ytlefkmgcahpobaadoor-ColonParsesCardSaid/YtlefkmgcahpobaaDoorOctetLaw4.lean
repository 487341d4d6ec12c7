/- The laws of layer 1: Cuts. -/
import Derived.Test.YtlefkmgcahpobaaDoorOctetLaw2
namespace Go.Proofs.YtlefkmgcahpobaaDoor
set_option linter.unusedVariables false
set_option linter.unusedSimpArgs false
open Go.RowKit Go.Shelf Go.Proofs Go.OctetPlain

theorem cut_front (l : List UInt8) (k : Nat) (h : k ≤ l.length) : cutL l 0 (k : Int) = l.take k := by
  rw [cutL_of (by unfold there; omega)]
  simp
theorem cut_rest (l : List UInt8) (k : Nat) (h : k ≤ l.length) : cutL l (k : Int) ((l.length : Int) - k) = l.drop k := by
  rw [cutL_of (by unfold there; omega)]
  rw [List.take_of_length_le (by rw [List.length_drop]; omega)]
  simp
theorem cut_last (l : List UInt8) (n : Nat) (h : n ≤ l.length) : cutL l ((l.length : Int) - n) (n : Int) = l.drop (l.length - n) := by
  rw [cutL_of (by unfold there; omega)]
  rw [List.take_of_length_le (by rw [List.length_drop]; omega)]
  congr 1
  omega

structure TC (w : World) (v : Value) (l : List UInt8) (vx : Value) (x : List UInt8) (vy : Value) (y : List UInt8) (W : World) : Prop where
  v : SlR W 1 encB v l
  x : SlR W 1 encB vx x
  y : SlR W 1 encB vy y
  below : Below w.heap.size w W
theorem TC.next {w : World} {v vx vy : Value} {l x y : List UInt8} {W W' : World} (h : TC w v l vx x vy y W) (hb : Below W.heap.size W W') : TC w v l vx x vy y W' :=
  ⟨h.v.below hb (Nat.le_refl _), h.x.below hb (Nat.le_refl _), h.y.below hb (Nat.le_refl _), h.below.trans (hb.mono h.below.size)⟩

set_option maxRecDepth 100000 in
set_option maxHeartbeats 800000 in
theorem law_cuts (l : List UInt8) (a n : Int) (ha : 0 ≤ a ∧ a ≤ 255) (hn : 0 ≤ n ∧ n ≤ 255) (v : Value) (w : World) (ht : Tabs w) (hv : SlR w 1 encB v l) :
    Calls Tryd.prog 8 #[v, .int .u8 a, .int .u8 n] w fun e w' => e = .returned (.bool true) ∧ Below w.heap.size w w' := by
  have HT := Lib.hid ht
  have HV := Lib.hid hv
  obtain ⟨p, cap, rfl, hc1, hc2, hR⟩ := hv
  clear ht
  go_enter Tryd.func8, Tryd.ntmps8
  go_wp2_with fail
  refine (law01_awake _ HT.out).mono ?_
  rintro e w1 ⟨rfl, hb1⟩
  have V1 := Lib.hid (HV.out.below hb1 (Nat.le_refl _))
  have B1 := Lib.hid hb1
  clear hb1
  by_cases hl : 200 < (l.length : Int)
  · go_wp2_with fail
    go_ret
    exact ⟨rfl, B1.out⟩
  · obtain ⟨kk, hkk, hkl⟩ : ∃ kk : Nat, min a (l.length : Int) = (kk : Int) ∧ kk ≤ l.length := ⟨(min a (l.length : Int)).toNat, by omega, by omega⟩
    have F1 := Lib.hid (cut_front l kk hkl)
    have F2 := Lib.hid (cut_rest l kk hkl)
    have D1 := Lib.hid (decide_eq_true (show there l.length 0 (kk : Int) by unfold there; omega))
    have D2 := Lib.hid (decide_eq_true (show there l.length (kk : Int) ((l.length : Int) - kk) by unfold there; omega))
    have D5 := Lib.hid (decide_eq_false (show ¬ there l.length (kk : Int) ((l.length : Int) - kk + 1) by unfold there; omega))
    have e1 : IntKind.i64.wrap ((l.length : Int) - kk) = (l.length : Int) - kk := IntWalk.i64_in _ (by omega)
    have e2 : IntKind.i64.wrap ((l.length : Int) - kk + 1) = (l.length : Int) - kk + 1 := IntWalk.i64_in _ (by omega)
    go_wp2_with fail
    refine (octet_Cut l (by omega) 0 kk (by omega) (by omega) _ _ V1.out).mono ?_
    rintro e w2 ⟨v2, rfl, ho2, hb2⟩
    rw [D1.out]
    rw [F1.out] at ho2
    have V2 := Lib.hid (V1.out.below hb2 (Nat.le_refl _))
    have X2 := Lib.hid (SlR.ofB ho2)
    have B2 := Lib.hid (B1.out.trans (hb2.mono B1.out.size))
    clear hb2 V1 B1 ho2
    go_wp2_with fail
    refine (octet_Cut l (by omega) kk ((l.length : Int) - kk) (by omega) (by omega) _ _ V2.out).mono ?_
    rintro e w3 ⟨v3, rfl, ho3, hb3⟩
    rw [D2.out]
    rw [F2.out] at ho3
    have T3 : TC w (.slice p l.length cap) l v2 (l.take kk) v3 (l.drop kk) w3 := ⟨V2.out.below hb3 (Nat.le_refl _), X2.out.below hb3 (Nat.le_refl _), SlR.ofB ho3, B2.out.trans (hb3.mono B2.out.size)⟩
    clear hb3 V2 B2 X2
    obtain ⟨p3, cap3, rfl, _, _, _⟩ := owns_b ho3
    clear ho3
    have hyl : (l.drop kk).length = l.length - kk := List.length_drop
    have hY : Hid ((l.drop kk).length = l.length - kk) := hyl
    generalize hy : l.drop kk = y at T3 F2 hyl hY ⊢
    obtain ⟨m, hm, hml⟩ : ∃ m : Nat, min n (y.length : Int) = (m : Int) ∧ m ≤ y.length := ⟨(min n (y.length : Int)).toNat, by omega, by omega⟩
    have G1 := Lib.hid (cut_last y m hml)
    have G2 := Lib.hid (cut_last l m (by omega))
    have HYY := Lib.hid hy
    have hdd : Hid (y.drop (y.length - m) = l.drop (l.length - m)) := by
      rw [← hy, List.drop_drop]
      have : kk + ((l.drop kk).length - m) = l.length - m := by rw [List.length_drop]; rw [hyl] at hml; omega
      rw [this]; exact Lib.hid rfl
    have D3 := Lib.hid (decide_eq_true (show there y.length ((y.length : Int) - m) (m : Int) by unfold there; omega))
    have D4 := Lib.hid (decide_eq_true (show there l.length ((l.length : Int) - m) (m : Int) by unfold there; omega))
    have e3 : IntKind.i64.wrap ((y.length : Int) - m) = (y.length : Int) - m := IntWalk.i64_in _ (by omega)
    have e4 : IntKind.i64.wrap ((l.length : Int) - m) = (l.length : Int) - m := IntWalk.i64_in _ (by omega)
    clear hy hyl
    have hyb : y.length ≤ 200 := by have := hY.out; omega
    go_wp2_with fail
    refine (octet_Cut y (by omega) ((y.length : Int) - m) m (by omega) (by omega) _ _ T3.y).mono ?_
    rintro e w4 ⟨v4, rfl, ho4, hb4⟩
    rw [D3.out]
    rw [G1.out, hdd.out] at ho4
    have Z4 := SlR.ofB ho4
    have T4 := T3.next hb4
    clear hb4 T3 ho4
    go_wp2_with fail
    refine (octet_Cut l (by omega) ((l.length : Int) - m) m (by omega) (by omega) _ _ T4.v).mono ?_
    rintro e w5 ⟨v5, rfl, ho5, hb5⟩
    rw [D4.out]
    rw [G2.out] at ho5
    have T5 := T4.next hb5
    have Z5 := Z4.below hb5 (Nat.le_refl _)
    have Y5 := SlR.ofB ho5
    clear hb5 T4 ho5 Z4
    go_wp2_with fail
    refine (octet_Cut l (by omega) kk ((l.length : Int) - kk + 1) (by omega) (by omega) _ _ T5.v).mono ?_
    rintro e w6 ⟨v6, rfl, _, hb6⟩
    rw [D5.out]
    have T6 := T5.next hb6
    have cv := str_conv T6.v
    have cx := str_conv T6.x
    have cy := str_conv T6.y
    have cz := str_conv (Z5.below hb6 (Nat.le_refl _))
    have cw := str_conv (Y5.below hb6 (Nat.le_refl _))
    have B6 := Lib.hid T6.below
    clear hb6 T5 Z5 Y5 T6
    have s1 : (str (l.take kk)).size = kk := by rw [str_size, List.length_take]; omega
    have s2 : (str y).size = y.length := str_size y
    have s3 : str (l.take kk) ++ str y = str l := by rw [str_app, ← HYY.out, List.take_append_drop]
    go_wp2_with fail
    trace_state
    go_ret
    exact ⟨rfl, B6.out⟩
end Go.Proofs.YtlefkmgcahpobaaDoor
