/- Part of the proof: ScriptLines, ScriptParses, ScriptShows. -/
import Derived.Test.YtdbgeobolongmaaGreatDoorSA04
set_option linter.unusedVariables false
set_option linter.unusedSimpArgs false
set_option maxRecDepth 100000
set_option maxHeartbeats 800000
namespace Go.Proofs.YtdbgeobolongmaaGreatDoor
open Go.RowKit Go.Shelf Go.Proofs Go.OctetPlain Go.ColonPlain Go.Proofs.Tryz
theorem ref_Address (l : List UInt8) (hl : l.length = 16) (w : World) :
  zCB 163 #[.string (str l)] w (.agg (arrB l)) := by
 have hsz : (str l).size = l.length := zZ l
 go_enter func163, ntmps163
 go_wp2_with fail
 go_loopw [4] (fun vi wr => ∃ k : Nat, k <= 16 /\ vi = .int .i64 k /\ Hid (Blk wr w.heap.size 24 (arrB z16)) /\ Hid (Blk wr (w.heap.size + 1) 24 (arrB (bC l k))) /\ Hid (zW w wr)) (fun i _ => 16 - (intOf i).toNat)
 case atStart =>
  refine ⟨0, om, rfl, qh ((Blk.new _ _ _).alloc _), qh ?_, qh ((yD w _).alloc zi _)⟩; have h := Blk.new (w.alloc (.cells (arrB z16) 24)) 24 (arrB (bC l 0)); have e : arrB (bC l 0) = arrB z16 := by unfold bC; rw [hl]; rfl
  rw [e] at h ⊢; simp only [xG] at h; exact h
 case round =>
  obtain ⟨k, hk, rfl, H1, H2, HB⟩ := hrel
  by_cases hlt : k < 16
  ·obtain ⟨n, hn⟩ : ∃ n, l[k]? = some n := ⟨l[k], zA om⟩
   have hg' : ∀ h, (str l)[k]'h = n := fun h => (jS l k h).trans (by obtain ⟨h1, h2⟩ := zL.1 hn; exact h2); have HS := qh (zDq hn); have hl2 : (bC l k).length = 16 := by rw [uptoB_len _ _ om, hl]
   have p0 : k < (bC l k).length := om; have ce0 : wr.cell? ⟨w.heap.size + 1, k, none⟩ = some (.int .u8 ((bC l k)[k].toNat : Int)) := (H2.o.cell k).trans (kQ (zA p0)); have f0 := H2.o.frozen' k; generalize (bC l k)[k].toNat = o0 at ce0; clear p0 hl2 hn; have hkl : k < l.length := om
   go_wp2
   refine ⟨⟨k + 1, om, by go_num, qh (H1.o.other _ _ zi), qh ?_, qh (HB.o.setCell zi _)⟩, by simp [intOf]; omega⟩; rw [← HS.o, ← wF]; exact H2.o.set _ _
  ·obtain rfl : k = 16 := om
   have HL : Hid (bC l 16 = l) := by
    have := uptoB_all l; rw [hl] at this; rw [this]; exact qh rfl
   rw [HL.o] at H2; obtain ⟨y0, y1, y2, y3, y4, y5, y6, y7, y8, y9, y10, y11, y12, y13, y14, y15, hy⟩ := aJ hl; rw [hy] at H2; obtain ⟨d0, d1, d2, d3, d4, d5, d6, d7, d8, d9, d10, d11, d12, d13, d14, d15⟩ := H2.o.cells16; obtain ⟨e0, e1, e2, e3, e4, e5, e6, e7, e8, e9, e10, e11, e12, e13, e14, e15⟩ := H1.o.cells16; have hf := H1.o.frozen'; have HY := qh hy; clear hy HL
   go_wp2
   refine zC (mV rfl _ _ _ _ _ _ _ rfl (Blk.setV16 (Blk.z16 (H1.o))) underlying24 rfl rH) rfl ⟨by rw [HY.o]; rfl, kN HB.o om⟩
theorem ref_Of (L : List Int) (hL : L.length = 8) (hb : ∀ (k : Nat) (n : Int), L[k]? = some n -> -9223372036854775808 <= n /\ n <= 9223372036854775807) (w : World) :
  zCB 130 #[.agg (arrI L)] w (.tuple #[.agg (arrB ((of L).getD z16)), .bool (of L).isSome]) := by
 have hBl : (ofB L).length = 16 := by rw [oN, hL]
 have AD := qh fun W => ref_Address (ofB L) hBl W
 go_enter func130, ntmps130
 go_wp2_with fail
 go_loopw [4, 5] (fun vs vi wr => ∃ k : Nat, k <= 8 /\ vi = .int .i64 k /\ vs = .string (str (ofB (L.take k))) /\ Hid (Blk wr w.heap.size 155 (arrI L)) /\ Hid (Blk wr (w.heap.size + 1) 24 (arrB z16)) /\ Hid (∀ (j : Nat) (n : Int), j < k -> L[j]? = some n -> 0 <= n /\ n <= 65535) /\ Hid (zW w wr)) (fun _ i _ => 8 - (intOf i).toNat)
 case atStart =>
  refine ⟨0, om, rfl, rfl, qh ((Blk.new _ _ _).alloc _), qh ?_, qh (fun j n h => om), qh ((yD w _).alloc zi _)⟩; have h := Blk.new (w.alloc (.cells (arrI L) 155)) 24 (arrB z16); simp only [xG] at h; exact h
 case round =>
  obtain ⟨k, hk, rfl, rfl, H1, H2, HN, HB⟩ := hrel
  by_cases hlt : k < 8
  ·obtain ⟨n, hn⟩ : ∃ n, L[k]? = some n := ⟨L[k], zA om⟩
   have hcell : wr.cell? ⟨w.heap.size, k, none⟩ = some (.int .i64 n) := (H1.o.cell k).trans (sF hn); obtain ⟨hn0, hn1⟩ := hb k n hn; have HNN := qh hn; clear hn hb
   by_cases hbad : n < 0 ∨ 65535 < n
   ·have HOF := qh (of_bad HNN.o hbad)
    obtain ⟨e0, e1, e2, e3, e4, e5, e6, e7, e8, e9, e10, e11, e12, e13, e14, e15⟩ := H2.o.cells16; have hf := H2.o.frozen'
    rcases hbad with h | h
    all_goals
     go_wp2
     refine zC (results_cell_tmp rfl _ _ _ _ _ _ _ rfl (Blk.setV16 (Blk.z16 (H2.o))) underlying24 rfl rH) rfl ⟨by rw [HOF.o]; rfl, kN HB.o om⟩
   ·obtain ⟨hq0, hq1⟩ : 0 <= n /\ n <= 65535 := om
    clear hbad; have HQ : Hid (0 <= n /\ n <= 65535) := qh ⟨hq0, hq1⟩; have wn : IntKind.u64.wrap n = n := IntWalk.u64_in _ om; obtain ⟨x, rfl⟩ : ∃ x : Nat, n = x := ⟨n.toNat, om⟩; have RB := qh fun W => ref_Bytes x om 2 om W; have e2 : (2 : Int).toNat = 2 := rfl; rw [e2, bytes_two x om] at RB; have HT := qh (ofB_take L k _ HNN.o); rw [bE] at HT; have h1 : (str (ofB (L.take k))).size = 2 * k := by rw [zZ, oN, yV]; omega
    have h2 : ∀ a b, (str [a, b]).size = 2 := fun a b => zZ _; go_wp2_with fail
    refine zT (RB.o _) fun w1 hb1 => ?_; have H1' := qh (H1.o.below hb1 H1.o.lt); have H2' := qh (H2.o.below hb1 H2.o.lt); have HB' := qh (HB.o.trans (hb1.mono HB.o.size)); clear hb1
    go_wp2
    refine ⟨⟨k + 1, om, by go_num, by rw [HT.o, xJ], H1', H2', qh ?_, HB'⟩, by simp [intOf]; omega⟩; intro j x hj hx
    rcases jQ j k with h | h
    ·exact HN.o j x h hx
    ·obtain rfl : j = k := om
     have := HNN.o.symm.trans hx
     cases this; exact HQ.o
  ·obtain rfl : k = 8 := om
   rw [xY om]; have hof : of L = some (ofB L) := of_good fun j n hj => HN.o j n (by have := (zL.1 hj).1; omega) hj; obtain ⟨y0, y1, y2, y3, y4, y5, y6, y7, y8, y9, y10, y11, y12, y13, y14, y15, hy⟩ := aJ hBl; have HOF := qh hof; rw [hy] at AD; have HY := qh hy; clear hof hy hb; go_wp2_with fail
   rw [HY.o]; refine zT (AD.o _) fun w1 hb1 => ?_; have H2' := qh (H2.o.below hb1 H2.o.lt); have HB' := qh (HB.o.trans (hb1.mono HB.o.size)); clear hb1; obtain ⟨e0, e1, e2, e3, e4, e5, e6, e7, e8, e9, e10, e11, e12, e13, e14, e15⟩ := H2'.o.cells16; have hf := H2'.o.frozen'; have hA : arrB [y0, y1, y2, y3, y4, y5, y6, y7, y8, y9, y10, y11, y12, y13, y14, y15] = #[.int .u8 (y0.toNat : Int), .int .u8 (y1.toNat : Int), .int .u8 (y2.toNat : Int), .int .u8 (y3.toNat : Int), .int .u8 (y4.toNat : Int), .int .u8 (y5.toNat : Int), .int .u8 (y6.toNat : Int), .int .u8 (y7.toNat : Int), .int .u8 (y8.toNat : Int), .int .u8 (y9.toNat : Int), .int .u8 (y10.toNat : Int), .int .u8 (y11.toNat : Int), .int .u8 (y12.toNat : Int), .int .u8 (y13.toNat : Int), .int .u8 (y14.toNat : Int), .int .u8 (y15.toNat : Int)] := rfl; rw [hA]
   go_wp2
   refine zC (results_cell_tmp rfl _ _ _ _ _ _ _ rfl (Blk.setV16 (Blk.z16 (H2'.o))) underlying24 rfl rH) rfl ⟨by rw [HOF.o]; simp only [vI, aA]; rw [HY.o]; rfl, kN HB'.o om⟩
end Go.Proofs.YtdbgeobolongmaaGreatDoor
