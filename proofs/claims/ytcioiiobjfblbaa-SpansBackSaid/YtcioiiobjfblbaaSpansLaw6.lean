/- SpansBack. -/
import Derived.Test.YtcioiiobjfblbaaSpansLaw5
namespace Go.Proofs.Ytcioiiobjfblbaa
set_option linter.unusedVariables false
set_option linter.unusedSimpArgs false
open Go.RowKit Go.Shelf Go.Proofs

/-- rows, their box, and a row of the call's own -/
structure StM (w : World) (v : Value) (l : List Sp.S) (b : Nat) (s : Sp.S) (vm : Value) (m : List Sp.S) (W : World) : Prop where
  st : St w v l b s W
  row : SlR W 2 encSp vm m
theorem StM.next {w : World} {v : Value} {l : List Sp.S} {b : Nat} {s : Sp.S} {vm : Value} {m : List Sp.S} {W W' : World} (h : StM w v l b s vm m W) (hb : Below W.heap.size W W') : StM w v l b s vm m W' :=
  ⟨h.st.next hb, h.row.below hb (Nat.le_refl _)⟩
theorem StM.drew {w : World} {v : Value} {l : List Sp.S} {b : Nat} {s : Sp.S} {vm : Value} {m : List Sp.S} {W : World} (h : StM w v l b s vm m W) : StM w v l b s vm m W.drew := h.next (Below.refl _ _).drew
abbrev SSM (w : World) (v : Value) (l : List Sp.S) (b : Nat) (s : Sp.S) (vm : Value) (m : List Sp.S) (W : World) : Prop :=
  W.cell? ⟨b, 0, none⟩ = some (.int .i64 s.1) ∧ W.cell? ⟨b, 1, none⟩ = some (.int .i64 s.2) ∧ StM w v l b s vm m W
theorem StM.ss {w : World} {v : Value} {l : List Sp.S} {b : Nat} {s : Sp.S} {vm : Value} {m : List Sp.S} {W : World} (h : StM w v l b s vm m W) : SSM w v l b s vm m W := ⟨h.st.lo, h.st.hi, h⟩

set_option maxRecDepth 100000 in
set_option maxHeartbeats 8000000 in
theorem law_back_no (l : List Sp.S) (s : Sp.S) (size : Int) (hmin : -9223372036854775808 ≤ size) (hmax : size ≤ 9223372036854775807) (v : Value) (w : World) (hv : SlR w 2 encSp v l) (hms : Sp.meets l s = false) (hlen : l.length ≤ 30) :
    Calls Try.prog 6 #[v, .agg #[.int .i64 s.1, .int .i64 s.2], .int .i64 size] w fun e w' => e = .returned (.bool true) ∧ Below w.heap.size w w' := by
  have hv0 := hv
  obtain ⟨p, cap, rfl, hq1, hq2, hq3⟩ := hv0
  obtain ⟨a, b⟩ := s
  clear hq3
  have HMn := Lib.hid hmin
  have HMx := Lib.hid hmax
  clear hmin hmax
  · have e1 : decide (30 < (l.length : Int)) = false := by simp; omega
    have hl : l.length ≤ 536870912 := by omega
    have hl' : l.length ≤ 1073741824 := by omega
    have HL := Lib.hid hlen
    have HQ := Lib.hid hq1
    have HQ2 := Lib.hid hq2
    have HE := Lib.hid hl
    have HE' := Lib.hid hl'
    have HA := Lib.hid (add_len2 l (a, b))
    clear hlen hq1 hq2 hl hl'
    have HF := Lib.hid (fun v W h => spans_First l HE'.out size HMn.out HMx.out v W h)
    have HFn := Lib.hid (fun h => Sp.first_no (l := l) (many := size) h)
    have HFy := Lib.hid (fun f h => Sp.first_yes (l := l) (many := size) (f := f) h)
    generalize Sp.first l size = r at HF HFn HFy
    obtain ⟨⟨x, y⟩, ok⟩ := r
    have HCb := Lib.hid (Sp.cut_add_back hms)
    have HMs := Lib.hid hms
    clear hms
    go_enter Try.func6, Try.ntmps6
    go_wp2_with fail
    refine (law11_awake _).mono ?_
    rintro e w1 ⟨rfl, hb1⟩
    obtain ⟨hc0, hc1, hz, hbA⟩ := box2 hb1
    have h1 : St w (.slice p l.length cap) l w.heap.size (a, b) w1 := ⟨hv.below hbA (Nat.le_refl _), hc0, hc1, hz, hbA⟩
    clear hb1 hbA hz hc0 hc1
    go_wp2_with fail
    refine (spans_Norm l HE'.out _ _ h1.row).mono ?_
    rintro e w2 ⟨vm, rfl, hom, hbm⟩
    have h2 : StM w (.slice p l.length cap) l w.heap.size (a, b) vm (Sp.norm l) w2 := ⟨h1.next hbm, SlR.of_owns encSp_len hom⟩
    clear h1 hbm hom
    go_wp2_with fail
    have hss := h2.ss
    clear h2
    go_region_held3 (fun W => SSM w (.slice p l.length cap) l w.heap.size (a, b) vm (Sp.norm l) W)
      (first
        | exact StM.ss (by assumption)
        | (go_split_ands; exact StM.ss (by assumption))
        | (go_split_ands; exact StM.ss (StM.drew (by assumption))))
      (first
        | (go_at_call 12; go_split_ands; refine (same_self (Sp.norm l) v4 vm _ (norm_len' l HE.out) (by rw [← HCb.out]; first | exact hn4 | exact hn4.drew) (StM.row (w := w) (v := .slice p l.length cap) (l := l) (b := w.heap.size) (s := (a, b)) (by assumption))).mono ?_; rintro e w5 ⟨rfl, hb5⟩; have hst5 := StM.next (w := w) (v := .slice p l.length cap) (l := l) (b := w.heap.size) (s := (a, b)) (vm := vm) (m := Sp.norm l) (by assumption) hb5)
        | (go_at_call 17; go_split_ands; refine (spans_Cut (Sp.add l (a, b)) (a, b) _ _ (by have := HA.out; have := HL.out; omega) (by first | exact hn3 | exact hn3.drew)).mono ?_; rintro e w4 ⟨v4, rfl, ho4, hb4⟩; have hst4 := StM.next (w := w) (v := .slice p l.length cap) (l := l) (b := w.heap.size) (s := (a, b)) (vm := vm) (m := Sp.norm l) (by assumption) hb4; have hn4 := SlR.of_owns encSp_len ho4)
        | (go_at_call 15; go_split_ands; refine (spans_Add l HE.out (a, b) _ _ (StM.st (by assumption)).row).mono ?_; rintro e w3 ⟨v3, rfl, ho3, hb3⟩; have hst3 := StM.next (w := w) (v := .slice p l.length cap) (l := l) (b := w.heap.size) (s := (a, b)) (vm := vm) (m := Sp.norm l) (by assumption) hb3; have hn3 := SlR.of_owns encSp_len ho3)
        | (go_at_call 23; go_split_ands; refine (spans_Meets l HE'.out (a, b) _ _ (StM.st (by assumption)).row).mono ?_; rw [HMs.out]; rintro e w2a ⟨rfl, hb2a⟩; have hst2 := StM.next (w := w) (v := .slice p l.length cap) (l := l) (b := w.heap.size) (s := (a, b)) (vm := vm) (m := Sp.norm l) (by assumption) hb2a))
    all_goals go_wp2_with fail
    all_goals
      have h5 : StM w (.slice p l.length cap) l w.heap.size (a, b) vm (Sp.norm l) w5 := hst5
      refine (HF.out _ _ h5.st.row).mono ?_
      rintro e w6 ⟨rfl, hb6⟩
      have h6 := h5.next hb6
      clear h5 hb6
      simp only
      have h7 := h6.next (belowA w6 (.cells #[.int .i64 x, .int .i64 y] 24))
      have x7 := Bx.new w6 x y 24
      have hle7 : w6.heap.size < (w6.alloc (.cells #[.int .i64 x, .int .i64 y] 24)).heap.size := by simp
      clear h6
      cases ok
      · obtain ⟨h0, hs⟩ := HFn.out rfl
        obtain ⟨rfl, rfl⟩ : x = 0 ∧ y = 0 := by simpa using h0
        clear h0
        clear HF HFn HFy
        have hc0 := x7.lo
        have hc1 := x7.hi
        have ht := h7.st.below
        by_cases h1 : size < 1
        · clear hs
          go_wp2_with fail
          go_ret
          exact ⟨rfl, by first | exact ht | exact ht.trans (belowA _ _)⟩
        · have hs' : Hid (Sp.longest l < size) := Lib.hid (by omega)
          clear hs
          go_wp2_with fail
          clear hc0 hc1
          refine (spans_Longest l HE'.out _ _ h7.st.row).mono ?_
          rintro e w8 ⟨rfl, hb8⟩
          have hh := hs'.out
          have h8 := h7.next hb8
          clear h7 x7 hb8 ht
          go_wp2_with fail
          go_ret
          exact ⟨rfl, h8.st.below⟩
      · obtain ⟨hhas, hsz, hmay⟩ := HFy.out (x, y) rfl
        have HH := Lib.hid hhas
        have HZ := Lib.hid hsz
        obtain ⟨hx0, hxy, hy1⟩ := Sp.mayB_iff.1 hmay
        simp only [Sp.size] at hsz hx0 hxy hy1
        have HCn : Hid (Sp.count (Sp.cut l (x, y)) = Sp.count l - size) := Lib.hid (by rw [Sp.count_cut hhas, HZ.out])
        have HAb := Lib.hid (Sp.add_cut_back hhas)
        have HMc := Lib.hid (Sp.meets_cut l (x, y))
        have HCl := Lib.hid (cut_len2 l (x, y))
        have e5 : (y - x + 1 == size) = true := by simpa using hsz
        have HB1 := Lib.hid (count_bd (Sp.cut l (x, y)) (by have := HCl.out; have := HL.out; omega))
        have HB2 := Lib.hid (count_bd l (by have := HL.out; omega))
        have hsb : 1 ≤ size ∧ size ≤ 1048576 := by omega
        have HSz := Lib.hid hsz
        clear hhas hsz hmay HF HFn HFy
        have hc0 := x7.lo
        have hc1 := x7.hi
        go_wp2_with fail
        clear hc0 hc1
        refine (spans_Cut l (x, y) _ _ HE.out h7.st.row).mono ?_
        rintro e w8 ⟨v8, rfl, ho8, hb8⟩
        have h8 := h7.next hb8
        have x8 := x7.next hb8
        have c8 := SlR.of_owns encSp_len ho8
        clear h7 x7 ho8 hb8 hle7
        have hc0 := x8.lo
        have hc1 := x8.hi
        go_wp2_with fail
        clear hc0 hc1
        refine (spans_Has l HE'.out (x, y) _ _ h8.st.row).mono ?_
        rintro e w9 ⟨rfl, hb9⟩
        have h9 := h8.next hb9
        have x9 := x8.next hb9
        have c9 := c8.below hb9 (Nat.le_refl _)
        clear h8 x8 c8 hb9
        rw [HH.out]
        have hc0 := x9.lo
        have hc1 := x9.hi
        go_wp2_with fail
        clear hc0 hc1
        refine (spans_Meets (Sp.cut l (x, y)) (by have := HCl.out; have := HL.out; omega) (x, y) _ _ c9).mono ?_
        rintro e w10 ⟨rfl, hb10⟩
        have h10 := h9.next hb10
        have x10 := x9.next hb10
        have c10 := c9.below hb10 (Nat.le_refl _)
        clear h9 x9 c9 hb10
        rw [HMc.out]
        go_wp2_with fail
        refine (spans_Count (Sp.cut l (x, y)) (by have := HCl.out; have := HL.out; omega) _ _ c10).mono ?_
        rintro e w11 ⟨rfl, hb11⟩
        have h11 := h10.next hb11
        have x11 := x10.next hb11
        have c11 := c10.below hb11 (Nat.le_refl _)
        clear h10 x10 c10 hb11
        go_wp2_with fail
        refine (spans_Count l HE'.out _ _ h11.st.row).mono ?_
        rintro e w12 ⟨rfl, hb12⟩
        have h12 := h11.next hb12
        have x12 := x11.next hb12
        have c12 := c11.below hb12 (Nat.le_refl _)
        clear h11 x11 c11 hb12
        have e6 : (Sp.count (Sp.cut l (x, y)) == wrap64 (Sp.count l - size)) = true := by
          have h1 := HB1.out
          have h2 := HB2.out
          rw [IntWalk.wrap64_in (Sp.count l - size) (by omega), HCn.out]
          simp
        have hc0 := x12.lo
        have hc1 := x12.hi
        go_wp2_with fail
        clear hc0 hc1 e6
        refine (spans_Add (Sp.cut l (x, y)) (by have := HCl.out; have := HL.out; omega) (x, y) _ _ c12).mono ?_
        rintro e w13 ⟨v13, rfl, ho13, hb13⟩
        have h13 := h12.next hb13
        have n13 := SlR.of_owns encSp_len ho13
        rw [HAb.out] at n13
        clear h12 x12 c12 ho13 hb13
        go_wp2_with fail
        refine (same_self (Sp.norm l) _ vm _ (norm_len' l HE.out) n13 h13.row).mono ?_
        rintro e w14 ⟨rfl, hb14⟩
        have h14 := h13.next hb14
        clear h13 n13 hb14
        go_wp2_with fail
        go_ret
        exact ⟨rfl, h14.st.below⟩
end Go.Proofs.Ytcioiiobjfblbaa
