/- The document's Address and Of. -/
import Derived.Test.YtjbolphfelakeaaGreatDoorColonOf
namespace Go.Proofs.YtjbolphfelakeaaGreatDoor
set_option linter.unusedVariables false
set_option linter.unusedSimpArgs false
open Go.RowKit Go.Shelf Go.Proofs Go.OctetPlain Go.ColonPlain

set_option maxRecDepth 100000 in
set_option maxHeartbeats 800000 in
theorem ref_Address (l : List UInt8) (hl : l.length = 16) (w : World) :
    Calls Tryz.prog 74 #[.string (str l)] w fun e w' => e = .returned (.agg (arrB l)) ∧ Below w.heap.size w w' := by
  have hsz : (str l).size = l.length := str_size l
  go_enter Tryz.func74, Tryz.ntmps74
  go_wp2_with fail
  go_loopw [4] (fun vi wr => ∃ k : Nat, k ≤ 16 ∧ vi = .int .i64 k ∧ Hid (Blk wr w.heap.size 22 (arrB z16)) ∧ Hid (Blk wr (w.heap.size + 1) 22 (arrB (uptoB l k))) ∧ Hid (Below w.heap.size w wr)) (fun i _ => 16 - (intOf i).toNat)
  case atStart =>
    refine ⟨0, by omega, rfl, Lib.hid ((Blk.new _ _ _).alloc _), Lib.hid ?_, Lib.hid ((belowA w _).alloc (by simp) _)⟩
    have h := Blk.new (w.alloc (.cells (arrB z16) 22)) 22 (arrB (uptoB l 0))
    have e : arrB (uptoB l 0) = arrB z16 := by unfold uptoB; rw [hl]; rfl
    rw [e] at h ⊢
    simp only [World.size_alloc] at h
    exact h
  case round =>
    obtain ⟨k, hk, rfl, H1, H2, HB⟩ := hrel
    by_cases hlt : k < 16
    · obtain ⟨n, hn⟩ : ∃ n, l[k]? = some n := ⟨l[k], List.getElem?_eq_getElem (by omega)⟩
      have hg' : ∀ h, (str l)[k]'h = n := fun h => (str_get l k h).trans (by obtain ⟨h1, h2⟩ := List.getElem?_eq_some_iff.1 hn; exact h2)
      have HS := Lib.hid (uptoB_set hn)
      have hl2 : (uptoB l k).length = 16 := by rw [uptoB_len _ _ (by omega), hl]
      have p0 : k < (uptoB l k).length := by omega
      have ce0 : wr.cell? ⟨w.heap.size + 1, k, none⟩ = some (.int .u8 ((uptoB l k)[k].toNat : Int)) := (H2.out.cell k).trans (arrB_get (List.getElem?_eq_getElem p0))
      have f0 := H2.out.frozen' k
      generalize (uptoB l k)[k].toNat = o0 at ce0
      clear p0 hl2 hn
      have hkl : k < l.length := by omega
      go_wp2_with fail
      refine ⟨⟨k + 1, by omega, by go_num, Lib.hid (H1.out.other _ _ (by simp)), Lib.hid ?_, Lib.hid (HB.out.setCell (by simp) _)⟩, by simp [intOf]; omega⟩
      rw [← HS.out, ← arrB_set]
      exact H2.out.set _ _
    · obtain rfl : k = 16 := by omega
      have HL : Hid (uptoB l 16 = l) := by
        have := uptoB_all l; rw [hl] at this; rw [this]; exact Lib.hid rfl
      rw [HL.out] at H2
      obtain ⟨y0, y1, y2, y3, y4, y5, y6, y7, y8, y9, y10, y11, y12, y13, y14, y15, hy⟩ := list16 hl
      rw [hy] at H2
      obtain ⟨d0, d1, d2, d3, d4, d5, d6, d7, d8, d9, d10, d11, d12, d13, d14, d15⟩ := H2.out.cells16
      obtain ⟨e0, e1, e2, e3, e4, e5, e6, e7, e8, e9, e10, e11, e12, e13, e14, e15⟩ := H1.out.cells16
      have hf := H1.out.frozen'
      have HY := Lib.hid hy
      clear hy HL
      go_wp2_with fail
      have hr := Blk.setV16 (x0 := .int .u8 (y0.toNat : Int)) (x1 := .int .u8 (y1.toNat : Int)) (x2 := .int .u8 (y2.toNat : Int)) (x3 := .int .u8 (y3.toNat : Int)) (x4 := .int .u8 (y4.toNat : Int)) (x5 := .int .u8 (y5.toNat : Int)) (x6 := .int .u8 (y6.toNat : Int)) (x7 := .int .u8 (y7.toNat : Int)) (x8 := .int .u8 (y8.toNat : Int)) (x9 := .int .u8 (y9.toNat : Int)) (x10 := .int .u8 (y10.toNat : Int)) (x11 := .int .u8 (y11.toNat : Int)) (x12 := .int .u8 (y12.toNat : Int)) (x13 := .int .u8 (y13.toNat : Int)) (x14 := .int .u8 (y14.toNat : Int)) (x15 := .int .u8 (y15.toNat : Int)) (show Blk wr w.heap.size _ #[.int .u8 0, .int .u8 0, .int .u8 0, .int .u8 0, .int .u8 0, .int .u8 0, .int .u8 0, .int .u8 0, .int .u8 0, .int .u8 0, .int .u8 0, .int .u8 0, .int .u8 0, .int .u8 0, .int .u8 0, .int .u8 0] from H1.out)
      refine bodyPost_ret (results_cell_row rfl _ _ _ _ _ _ _ rfl hr Tryz.underlying22 rfl info16) rfl ⟨by rw [HY.out]; rfl, below_setV16 HB.out (by omega)⟩

set_option maxRecDepth 100000 in
set_option maxHeartbeats 800000 in
theorem ref_Of (L : List Int) (hL : L.length = 8) (hb : ∀ (k : Nat) (n : Int), L[k]? = some n → -9223372036854775808 ≤ n ∧ n ≤ 9223372036854775807) (w : World) :
    Calls Tryz.prog 59 #[.agg (arrI L)] w fun e w' => e = .returned (.tuple #[.agg (arrB ((of L).getD z16)), .bool (of L).isSome]) ∧ Below w.heap.size w w' := by
  have hBl : (ofB L).length = 16 := by rw [ofB_length, hL]
  have AD := Lib.hid fun W => ref_Address (ofB L) hBl W
  go_enter Tryz.func59, Tryz.ntmps59
  go_wp2_with fail
  go_loopw [4, 5] (fun vs vi wr => ∃ k : Nat, k ≤ 8 ∧ vi = .int .i64 k ∧ vs = .string (str (ofB (L.take k))) ∧ Hid (Blk wr w.heap.size 64 (arrI L)) ∧ Hid (Blk wr (w.heap.size + 1) 22 (arrB z16)) ∧ Hid (∀ (j : Nat) (n : Int), j < k → L[j]? = some n → 0 ≤ n ∧ n ≤ 65535) ∧ Hid (Below w.heap.size w wr)) (fun _ i _ => 8 - (intOf i).toNat)
  case atStart =>
    refine ⟨0, by omega, rfl, rfl, Lib.hid ((Blk.new _ _ _).alloc _), Lib.hid ?_, Lib.hid (fun j n h => by omega), Lib.hid ((belowA w _).alloc (by simp) _)⟩
    have h := Blk.new (w.alloc (.cells (arrI L) 64)) 22 (arrB z16)
    simp only [World.size_alloc] at h
    exact h
  case round =>
    obtain ⟨k, hk, rfl, rfl, H1, H2, HN, HB⟩ := hrel
    by_cases hlt : k < 8
    · obtain ⟨n, hn⟩ : ∃ n, L[k]? = some n := ⟨L[k], List.getElem?_eq_getElem (by omega)⟩
      have hcell : wr.cell? ⟨w.heap.size, k, none⟩ = some (.int .i64 n) := (H1.out.cell k).trans (arrI_get hn)
      obtain ⟨hn0, hn1⟩ := hb k n hn
      have HNN := Lib.hid hn
      clear hn hb
      by_cases hbad : n < 0 ∨ 65535 < n
      · have HOF := Lib.hid (of_bad HNN.out hbad)
        obtain ⟨e0, e1, e2, e3, e4, e5, e6, e7, e8, e9, e10, e11, e12, e13, e14, e15⟩ := H2.out.cells16
        have hf := H2.out.frozen'
        rcases hbad with h | h
        all_goals
          go_wp2_with fail
          have hr := Blk.setV16 (x0 := .int .u8 0) (x1 := .int .u8 0) (x2 := .int .u8 0) (x3 := .int .u8 0) (x4 := .int .u8 0) (x5 := .int .u8 0) (x6 := .int .u8 0) (x7 := .int .u8 0) (x8 := .int .u8 0) (x9 := .int .u8 0) (x10 := .int .u8 0) (x11 := .int .u8 0) (x12 := .int .u8 0) (x13 := .int .u8 0) (x14 := .int .u8 0) (x15 := .int .u8 0) (show Blk wr (w.heap.size + 1) _ #[.int .u8 0, .int .u8 0, .int .u8 0, .int .u8 0, .int .u8 0, .int .u8 0, .int .u8 0, .int .u8 0, .int .u8 0, .int .u8 0, .int .u8 0, .int .u8 0, .int .u8 0, .int .u8 0, .int .u8 0, .int .u8 0] from H2.out)
          refine bodyPost_ret (results_cell_tmp rfl _ _ _ _ _ _ _ rfl hr Tryz.underlying22 rfl info16) rfl ⟨by rw [HOF.out]; rfl, below_setV16 HB.out (by omega)⟩
      · obtain ⟨hq0, hq1⟩ : 0 ≤ n ∧ n ≤ 65535 := by omega
        clear hbad
        have HQ : Hid (0 ≤ n ∧ n ≤ 65535) := Lib.hid ⟨hq0, hq1⟩
        have wn : IntKind.u64.wrap n = n := IntWalk.u64_in _ (by omega)
        obtain ⟨x, rfl⟩ : ∃ x : Nat, n = x := ⟨n.toNat, by omega⟩
        have RB := Lib.hid fun W => ref_Bytes x (by omega) 2 (by omega) W
        have e2 : (2 : Int).toNat = 2 := rfl
        rw [e2, bytes_two x (by omega)] at RB
        have HT := Lib.hid (ofB_take L k _ HNN.out)
        rw [Int.toNat_natCast] at HT
        have h1 : (str (ofB (L.take k))).size = 2 * k := by rw [str_size, ofB_length, List.length_take]; omega
        have h2 : ∀ a b, (str [a, b]).size = 2 := fun a b => str_size _
        go_wp2_with fail
        refine (RB.out _).mono ?_
        rintro e w1 ⟨rfl, hb1⟩
        have H1' := Lib.hid (H1.out.below hb1 H1.out.lt)
        have H2' := Lib.hid (H2.out.below hb1 H2.out.lt)
        have HB' := Lib.hid (HB.out.trans (hb1.mono HB.out.size))
        clear hb1
        go_wp2_with fail
        refine ⟨⟨k + 1, by omega, by go_num, by rw [HT.out, str_app], H1', H2', Lib.hid ?_, HB'⟩, by simp [intOf]; omega⟩
        intro j x hj hx
        rcases Nat.lt_or_ge j k with h | h
        · exact HN.out j x h hx
        · obtain rfl : j = k := by omega
          have := HNN.out.symm.trans hx
          cases this
          exact HQ.out
    · obtain rfl : k = 8 := by omega
      rw [List.take_of_length_le (by omega)]
      have hof : of L = some (ofB L) := of_good fun j n hj => HN.out j n (by have := (List.getElem?_eq_some_iff.1 hj).1; omega) hj
      obtain ⟨y0, y1, y2, y3, y4, y5, y6, y7, y8, y9, y10, y11, y12, y13, y14, y15, hy⟩ := list16 hBl
      have HOF := Lib.hid hof
      rw [hy] at AD
      have HY := Lib.hid hy
      clear hof hy hb
      go_wp2_with fail
      rw [HY.out]
      refine (AD.out _).mono ?_
      rintro e w1 ⟨rfl, hb1⟩
      have H2' := Lib.hid (H2.out.below hb1 H2.out.lt)
      have HB' := Lib.hid (HB.out.trans (hb1.mono HB.out.size))
      clear hb1
      obtain ⟨e0, e1, e2, e3, e4, e5, e6, e7, e8, e9, e10, e11, e12, e13, e14, e15⟩ := H2'.out.cells16
      have hf := H2'.out.frozen'
      have hA : arrB [y0, y1, y2, y3, y4, y5, y6, y7, y8, y9, y10, y11, y12, y13, y14, y15] = #[.int .u8 (y0.toNat : Int), .int .u8 (y1.toNat : Int), .int .u8 (y2.toNat : Int), .int .u8 (y3.toNat : Int), .int .u8 (y4.toNat : Int), .int .u8 (y5.toNat : Int), .int .u8 (y6.toNat : Int), .int .u8 (y7.toNat : Int), .int .u8 (y8.toNat : Int), .int .u8 (y9.toNat : Int), .int .u8 (y10.toNat : Int), .int .u8 (y11.toNat : Int), .int .u8 (y12.toNat : Int), .int .u8 (y13.toNat : Int), .int .u8 (y14.toNat : Int), .int .u8 (y15.toNat : Int)] := rfl
      rw [hA]
      go_wp2_with fail
      have hr := Blk.setV16 (x0 := .int .u8 (y0.toNat : Int)) (x1 := .int .u8 (y1.toNat : Int)) (x2 := .int .u8 (y2.toNat : Int)) (x3 := .int .u8 (y3.toNat : Int)) (x4 := .int .u8 (y4.toNat : Int)) (x5 := .int .u8 (y5.toNat : Int)) (x6 := .int .u8 (y6.toNat : Int)) (x7 := .int .u8 (y7.toNat : Int)) (x8 := .int .u8 (y8.toNat : Int)) (x9 := .int .u8 (y9.toNat : Int)) (x10 := .int .u8 (y10.toNat : Int)) (x11 := .int .u8 (y11.toNat : Int)) (x12 := .int .u8 (y12.toNat : Int)) (x13 := .int .u8 (y13.toNat : Int)) (x14 := .int .u8 (y14.toNat : Int)) (x15 := .int .u8 (y15.toNat : Int)) (show Blk w1 (w.heap.size + 1) _ #[.int .u8 0, .int .u8 0, .int .u8 0, .int .u8 0, .int .u8 0, .int .u8 0, .int .u8 0, .int .u8 0, .int .u8 0, .int .u8 0, .int .u8 0, .int .u8 0, .int .u8 0, .int .u8 0, .int .u8 0, .int .u8 0] from H2'.out)
      refine bodyPost_ret (results_cell_tmp rfl _ _ _ _ _ _ _ rfl hr Tryz.underlying22 rfl info16) rfl ⟨by rw [HOF.out]; simp only [Option.getD_some, Option.isSome_some]; rw [HY.out]; rfl, below_setV16 HB'.out (by omega)⟩
end Go.Proofs.YtjbolphfelakeaaGreatDoor
