/- Part of the proof: ScriptLines, ScriptParses, ScriptShows. -/
import Derived.Test.YtdbgeobolongmaaGreatDoorSA02
set_option linter.unusedVariables false
set_option linter.unusedSimpArgs false
set_option maxRecDepth 100000
set_option maxHeartbeats 800000
namespace Go.Proofs.YtdbgeobolongmaaGreatDoor
open Go.RowKit Go.Shelf Go.Proofs Go.OctetPlain Go.ColonPlain Go.Proofs.Tryz
theorem zFg : (prog.info? 155).map (·.size) = some 8 := kf
theorem rH : (prog.info? 24).map (·.size) = some 16 := kf
structure A16 (X : Array Value) : Prop where
 info : (prog.info? 24).map (·.size) = some X.size
 size : X.size = 16
 one : X.all (·.oneCell') = true
theorem A16.of {l : List UInt8} (h : l.length = 16) : A16 (arrB l) := ⟨by rw [arrB_size, h]; exact rH, by rw [arrB_size, h], zCu l⟩
theorem A16.st {X old : Array Value} {ops : Array Oper} {rest : List Oper} {o : Oper} {a : Act} {W : World} {Q : Exit -> Act -> World -> Prop} {x y : Operand} {g : Nat}
  (K : A16 X) (B : Blk W g 24 old) (h : wpList prog ops Q rest (a.put o.dst undef) (W.setRow g X)) (hu : o.guard = none := by rfl) (ho : o.op = .store 24 x y := by rfl)
  (hx : a.eval x = .pointer (some ⟨g, 0, none⟩) := by rfl) (hy : a.eval y = .agg X := by rfl) (hs : old.size = 16 := by rfl) : wpList prog ops Q (o :: rest) a W :=
 uZ hu _ _ _ ho g X hx hy _ _ B K.info (hs.trans K.size.symm) K.one h
theorem zCb : ∀ (l : List UInt8) (k : Nat) (a b : UInt8), l[2 * k]? = some a -> l[2 * k + 1]? = some b -> (ints (yL l))[k]? = some ((256 * a.toNat + b.toNat : Nat) : Int)
 |a :: b :: r, 0, x, y, h1, h2 => by
  simp at h1 h2; subst h1 h2
  rfl
 |a :: b :: r, k + 1, x, y, h1, h2 => by
  have e1 : 2 * (k + 1) = 2 * k + 2 := om; rw [e1] at h1 h2; have := zCb r k x y (by simpa using h1) (by simpa [mX] using h2)
  simpa [yL, ints] using this
 | [], k, x, y, h1, h2 => by simp at h1
 | [a], k, x, y, h1, h2 => by simp at h2
def upto (L : List Int) (k : Nat) : List Int := L.take k ++ List.replicate (L.length - k) 0
theorem zCo {L : List Int} {k : Nat} {n : Int} (h : L[k]? = some n) : (upto L k).set k n = upto L (k + 1) := by
 obtain ⟨hk, e⟩ := zL.1 h; unfold upto; have hl : (L.take k).length = k := by rw [yV]; omega
 rw [tK _ _ om, hl, Nat.sub_self, yA hk, e, show L.length - k = (L.length - (k + 1)) + 1 from om, List.replicate_succ, zDl]; simp
theorem zAc (L : List Int) (k : Nat) (h : k <= L.length) : (upto L k).length = L.length := by
 unfold upto; rw [zG, yV, vM]; omega
theorem zCz (L : List Int) : upto L L.length = L := by simp [upto]
theorem colon_Groups (l : List UInt8) (hl : l.length = 16) (w : World) :
  zCB 85 #[.agg (arrB l)] w (.agg (arrI (ints (yL l)))) := by
 have hgl : (ints (yL l)).length = 8 := by unfold ints; rw [yX]; exact qW 8 l om
 go_enter func85, ntmps85
 go_wp2_with fail
 go_loopw [4, 5] (fun _ vi wr => ∃ k : Nat, k <= 8 /\ vi = .int .i64 k /\ Hid (Blk wr w.heap.size 24 (arrB l)) /\ Hid (Blk wr (w.heap.size + 1) 155 (arrI [0, 0, 0, 0, 0, 0, 0, 0])) /\ Hid (Blk wr (w.heap.size + 1 + 1) 155 (arrI (upto (ints (yL l)) k))) /\ Hid (zW w wr)) (fun _ i _ => 8 - (intOf i).toNat)
 case atStart =>
  refine ⟨0, om, rfl, qh (((Blk.new _ _ _).alloc _).alloc _), qh ?_, qh ?_, qh (((yD w _).alloc zi _).alloc zo _)⟩
  ·have h := Blk.new (w.alloc (.cells (arrB l) 24)) 155 (arrI [0, 0, 0, 0, 0, 0, 0, 0])
   simp only [xG] at h; exact h.alloc _
  ·have h := Blk.new ((w.alloc (.cells (arrB l) 24)).alloc (.cells (arrI [0, 0, 0, 0, 0, 0, 0, 0]) 155)) 155 (arrI (upto (ints (yL l)) 0))
   have e : arrI (upto (ints (yL l)) 0) = arrI [0, 0, 0, 0, 0, 0, 0, 0] := by unfold upto; rw [hgl]; rfl
   rw [e] at h ⊢; simp only [xG] at h; exact h
 case round =>
  obtain ⟨k, hk, rfl, H1, H2, H3, HB⟩ := hrel
  by_cases hlt : k < 8
  ·have q0 : 2 * k < l.length := om
   have q1 : 2 * k + 1 < l.length := om; obtain ⟨a, ha⟩ : ∃ a, l[2 * k]? = some a := ⟨l[2 * k], zA q0⟩; obtain ⟨b, hb⟩ : ∃ b, l[2 * k + 1]? = some b := ⟨l[2 * k + 1], zA q1⟩; obtain ⟨m, hm⟩ : ∃ m : Nat, 2 * (k : Int) = (m : Int) := ⟨2 * k, om⟩; have hmk : m = 2 * k := om; have hg := zCb l k a b ha hb; have w1 : IntKind.i64.wrap (m : Int) = (m : Int) := yT _ om; have w2 : IntKind.i64.wrap ((m : Int) + 1) = (m : Int) + 1 := yT _ om; have b0 : (m : Int) < 16 := om; have b1 : (m : Int) + 1 < 16 := om; have c0 : wr.cell? ⟨w.heap.size, m, none⟩ = some (.int .u8 (a.toNat : Int)) := (H1.o.cell m).trans (by rw [hmk]; exact kQ ha); have c1 : wr.cell? ⟨w.heap.size, m + 1, none⟩ = some (.int .u8 (b.toNat : Int)) := (H1.o.cell (m + 1)).trans (by rw [hmk]; exact kQ hb); have f3 := H3.o.frozen' k; have ce := (H3.o.cell k).trans (sF (n := (upto (ints (yL l)) k)[k]'(by rw [zAc _ _ om]; omega)) (zA _)); have hor := or_256 a.toNat b.toNat (by have := a.toNat_lt; omega) b.toNat_lt; have ha2 : a.toNat < 256 := a.toNat_lt; have hb2 : b.toNat < 256 := b.toNat_lt; have b3 : 0 <= (m : Int) + 1 := om; have HS := qh (zCo hg); clear hg ha hb hmk q0 q1; generalize a.toNat = x at c0 hor ha2 HS; generalize b.toNat = y at c1 hor hb2 HS; have w3 : IntKind.i64.wrap (x : Int) = x := yT _ om; have w4 : IntKind.i64.wrap (y : Int) = y := yT _ om; have w5 : IntKind.i64.wrap ((x : Int) * 256) = (x : Int) * 256 := yT _ om; go_wp2_with fail
   go_still_tail 15, kf
   change wpList _ _ _ _ _ wr.drew
   go_wp2
   refine ⟨⟨k + 1, om, by go_num, qh (H1.o.drew.other _ _ zo), qh (H2.o.drew.other _ _ zi), qh ?_, qh ((HB.o.trans zb.drew).setCell zo _)⟩, by simp [intOf]; omega⟩; rw [← HS.o, ← arrI_set]; exact H3.o.drew.set _ _
  ·obtain rfl : k = 8 := om
   have HL : Hid (upto (ints (yL l)) 8 = ints (yL l)) := by
    have := zCz (ints (yL l)); rw [hgl] at this; rw [this]; exact qh rfl
   rw [HL.o] at H3; obtain ⟨x0, x1, x2, x3, x4, x5, x6, x7, hx⟩ := list8 hgl; rw [hx] at H3; obtain ⟨c0, c1, c2, c3, c4, c5, c6, c7⟩ := H3.o.cells8; have hf := H2.o.frozen'; obtain ⟨e0, e1, e2, e3, e4, e5, e6, e7⟩ := H2.o.cells8; go_wp2_with fail
   have hr := H2.o.set8 (x0 := x0) (x1 := x1) (x2 := x2) (x3 := x3) (x4 := x4) (x5 := x5) (x6 := x6) (x7 := x7); refine zC (mV rfl _ _ _ _ _ _ _ rfl hr underlying155 rfl zFg) rfl ⟨by rw [hx], below_set8 HB.o om⟩
theorem ref_Groups (l : List UInt8) (hl : l.length = 16) (w : World) :
  zCB 89 #[.agg (arrB l)] w (.agg (arrI (ints (yL l)))) := by
 have hgl : (ints (yL l)).length = 8 := by unfold ints; rw [yX]; exact qW 8 l om
 go_enter func89, ntmps89
 go_wp2_with fail
 go_loopw [4] (fun vi wr => ∃ k : Nat, k <= 8 /\ vi = .int .i64 k /\ Hid (Blk wr w.heap.size 24 (arrB l)) /\ Hid (Blk wr (w.heap.size + 1) 155 (arrI [0, 0, 0, 0, 0, 0, 0, 0])) /\ Hid (Blk wr (w.heap.size + 1 + 1) 155 (arrI (upto (ints (yL l)) k))) /\ Hid (zW w wr)) (fun i _ => 8 - (intOf i).toNat)
 case atStart =>
  refine ⟨0, om, rfl, qh (((Blk.new _ _ _).alloc _).alloc _), qh ?_, qh ?_, qh (((yD w _).alloc zi _).alloc zo _)⟩
  ·have h := Blk.new (w.alloc (.cells (arrB l) 24)) 155 (arrI [0, 0, 0, 0, 0, 0, 0, 0])
   simp only [xG] at h; exact h.alloc _
  ·have h := Blk.new ((w.alloc (.cells (arrB l) 24)).alloc (.cells (arrI [0, 0, 0, 0, 0, 0, 0, 0]) 155)) 155 (arrI (upto (ints (yL l)) 0))
   have e : arrI (upto (ints (yL l)) 0) = arrI [0, 0, 0, 0, 0, 0, 0, 0] := by unfold upto; rw [hgl]; rfl
   rw [e] at h ⊢; simp only [xG] at h; exact h
 case round =>
  obtain ⟨k, hk, rfl, H1, H2, H3, HB⟩ := hrel
  by_cases hlt : k < 8
  ·have q0 : 2 * k < l.length := om
   have q1 : 2 * k + 1 < l.length := om; obtain ⟨a, ha⟩ : ∃ a, l[2 * k]? = some a := ⟨l[2 * k], zA q0⟩; obtain ⟨b, hb⟩ : ∃ b, l[2 * k + 1]? = some b := ⟨l[2 * k + 1], zA q1⟩; obtain ⟨m, hm⟩ : ∃ m : Nat, 2 * (k : Int) = (m : Int) := ⟨2 * k, om⟩; have hmk : m = 2 * k := om; have hg := zCb l k a b ha hb; have w1 : IntKind.i64.wrap (m : Int) = (m : Int) := yT _ om; have w2 : IntKind.i64.wrap ((m : Int) + 1) = (m : Int) + 1 := yT _ om; have b0 : (m : Int) < 16 := om; have b1 : (m : Int) + 1 < 16 := om; have c0 : wr.cell? ⟨w.heap.size, m, none⟩ = some (.int .u8 (a.toNat : Int)) := (H1.o.cell m).trans (by rw [hmk]; exact kQ ha); have c1 : wr.cell? ⟨w.heap.size, m + 1, none⟩ = some (.int .u8 (b.toNat : Int)) := (H1.o.cell (m + 1)).trans (by rw [hmk]; exact kQ hb); have f3 := H3.o.frozen' k; have ce := (H3.o.cell k).trans (sF (n := (upto (ints (yL l)) k)[k]'(by rw [zAc _ _ om]; omega)) (zA _)); have ha2 : a.toNat < 256 := a.toNat_lt; have hb2 : b.toNat < 256 := b.toNat_lt; have b3 : 0 <= (m : Int) + 1 := om; have HS := qh (zCo hg); clear hg ha hb hmk q0 q1; generalize a.toNat = x at c0 ha2 HS; generalize b.toNat = y at c1 hb2 HS; have w3 : IntKind.i64.wrap (x : Int) = x := yT _ om; have w4 : IntKind.i64.wrap (y : Int) = y := yT _ om; have w5 : IntKind.i64.wrap (256 * (x : Int)) = 256 * (x : Int) := yT _ om; have w6 : IntKind.i64.wrap (256 * (x : Int) + y) = ((256 * x + y : Nat) : Int) := by rw [yT _ om]; omega
   go_wp2_with fail
   go_still_tail 15, kf
   change wpList _ _ _ _ _ wr.drew
   go_wp2
   refine ⟨⟨k + 1, om, by go_num, qh (H1.o.drew.other _ _ zo), qh (H2.o.drew.other _ _ zi), qh ?_, qh ((HB.o.trans zb.drew).setCell zo _)⟩, by simp [intOf]; omega⟩; rw [← HS.o, ← arrI_set]; exact H3.o.drew.set _ _
  ·obtain rfl : k = 8 := om
   have HL : Hid (upto (ints (yL l)) 8 = ints (yL l)) := by
    have := zCz (ints (yL l)); rw [hgl] at this; rw [this]; exact qh rfl
   rw [HL.o] at H3; obtain ⟨x0, x1, x2, x3, x4, x5, x6, x7, hx⟩ := list8 hgl; rw [hx] at H3; obtain ⟨c0, c1, c2, c3, c4, c5, c6, c7⟩ := H3.o.cells8; have hf := H2.o.frozen'; obtain ⟨e0, e1, e2, e3, e4, e5, e6, e7⟩ := H2.o.cells8; go_wp2_with fail
   have hr := H2.o.set8 (x0 := x0) (x1 := x1) (x2 := x2) (x3 := x3) (x4 := x4) (x5 := x5) (x6 := x6) (x7 := x7); refine zC (mV rfl _ _ _ _ _ _ _ rfl hr underlying155 rfl zFg) rfl ⟨by rw [hx], below_set8 HB.o om⟩
def bC (L : List UInt8) (k : Nat) : List UInt8 := L.take k ++ List.replicate (L.length - k) 0
theorem zDq {L : List UInt8} {k : Nat} {n : UInt8} (h : L[k]? = some n) : (bC L k).set k n = bC L (k + 1) := by
 obtain ⟨hk, e⟩ := zL.1 h; unfold bC; have hl : (L.take k).length = k := by rw [yV]; omega
 rw [tK _ _ om, hl, Nat.sub_self, yA hk, e, show L.length - k = (L.length - (k + 1)) + 1 from om, List.replicate_succ, zDl]; simp
theorem uptoB_len (L : List UInt8) (k : Nat) (h : k <= L.length) : (bC L k).length = L.length := by
 unfold bC; rw [zG, yV, vM]; omega
theorem uptoB_all (L : List UInt8) : bC L L.length = L := by simp [bC]
abbrev z16 : List UInt8 := [0, 0, 0, 0, 0, 0, 0, 0, 0, 0, 0, 0, 0, 0, 0, 0]
theorem colon_Of (L : List Int) (hL : L.length = 8) (hb : ∀ (k : Nat) (n : Int), L[k]? = some n -> -9223372036854775808 <= n /\ n <= 9223372036854775807) (w : World) :
  zCB 160 #[.agg (arrI L)] w (.tuple #[.agg (arrB ((of L).getD z16)), .bool (of L).isSome]) := by
 have hBl : (ofB L).length = 16 := by rw [oN, hL]
 obtain ⟨x0, x1, x2, x3, x4, x5, x6, x7, hx⟩ := list8 hL; have hX : arrI L = #[.int .i64 x0, .int .i64 x1, .int .i64 x2, .int .i64 x3, .int .i64 x4, .int .i64 x5, .int .i64 x6, .int .i64 x7] := by rw [hx]; rfl
 rw [hX]; have HX := qh hX; clear hX hx
 go_enter func160, ntmps160
 go_wp2_with fail
 go_loopw [5, 6, 8] (fun _ _ vi wr => ∃ k : Nat, k <= 8 /\ vi = .int .i64 k /\ Hid (Blk wr (w.heap.size + 1) 24 (arrB z16)) /\ Hid (Blk wr (w.heap.size + 1 + 1) 24 (arrB (bC (ofB L) (2 * k)))) /\ Hid (∀ (j : Nat) (n : Int), j < k -> L[j]? = some n -> 0 <= n /\ n <= 65535) /\ Hid (zW w wr)) (fun _ _ i _ => 8 - (intOf i).toNat)
 case atStart =>
  refine ⟨0, om, rfl, qh ?_, qh ?_, qh (fun j n h => om), qh (((yD w _).alloc zi _).alloc zo _)⟩
  ·have h := Blk.new (w.alloc (.cells #[.int .i64 x0, .int .i64 x1, .int .i64 x2, .int .i64 x3, .int .i64 x4, .int .i64 x5, .int .i64 x6, .int .i64 x7] 155)) 24 (arrB z16)
   simp only [xG] at h; exact h.alloc _
  ·have h := Blk.new ((w.alloc (.cells #[.int .i64 x0, .int .i64 x1, .int .i64 x2, .int .i64 x3, .int .i64 x4, .int .i64 x5, .int .i64 x6, .int .i64 x7] 155)).alloc (.cells (arrB z16) 24)) 24 (arrB (bC (ofB L) (2 * 0)))
   have e : arrB (bC (ofB L) (2 * 0)) = arrB z16 := by unfold bC; rw [hBl]; rfl
   rw [e] at h ⊢; simp only [xG] at h; exact h
 case round =>
  obtain ⟨k, hk, rfl, H1, H2, HN, HB⟩ := hrel
  by_cases hlt : k < 8
  ·obtain ⟨n, hn⟩ : ∃ n, L[k]? = some n := ⟨L[k], zA om⟩
   have hidx := sF hn; rw [HX.o] at hidx; have hix := fun W => zAh (w := W) _ k n hlt hidx; clear hidx; obtain ⟨hn0, hn1⟩ := hb k n hn; have HNN := qh hn; clear hn hb
   by_cases hbad : n < 0 ∨ 65535 < n
   ·have HOF := qh (of_bad HNN.o hbad)
    obtain ⟨e0, e1, e2, e3, e4, e5, e6, e7, e8, e9, e10, e11, e12, e13, e14, e15⟩ := H1.o.cells16; have hf := H1.o.frozen'
    rcases hbad with h | h
    all_goals
     go_wp2
     refine zC (results_cell_tmp rfl _ _ _ _ _ _ _ rfl (Blk.setV16 (Blk.z16 (H1.o))) underlying24 rfl rH) rfl ⟨by rw [HOF.o]; rfl, kN HB.o om⟩
   ·obtain ⟨m, hm⟩ : ∃ m : Nat, 2 * (k : Int) = (m : Int) := ⟨2 * k, om⟩
    have hmk : m = 2 * k := om; obtain ⟨g0, g1⟩ := ofB_get L k n HNN.o; have s1 := zDq g0; have hl2 : (bC (ofB L) (2 * k)).length = 16 := by rw [uptoB_len _ _ om, hBl]
    have s2 := zDq g1; rw [← s1] at s2; rw [← hmk] at s2 hl2 H2; have HS := qh s2; clear s1 s2 g0 g1; have p0 : m < (bC (ofB L) m).length := om; have p1 : m + 1 < (bC (ofB L) m).length := om; have ce0 : wr.cell? ⟨w.heap.size + 1 + 1, m, none⟩ = some (.int .u8 ((bC (ofB L) m)[m].toNat : Int)) := (H2.o.cell m).trans (kQ (zA p0)); have ce1 : wr.cell? ⟨w.heap.size + 1 + 1, m + 1, none⟩ = some (.int .u8 ((bC (ofB L) m)[m + 1].toNat : Int)) := (H2.o.cell (m + 1)).trans (kQ (zA p1)); have f0 := H2.o.frozen' m; have f1 := H2.o.frozen' (m + 1); have w1 : IntKind.i64.wrap (m : Int) = (m : Int) := yT _ om; have w2 : IntKind.i64.wrap ((m : Int) + 1) = (m : Int) + 1 := yT _ om; have b0 : (m : Int) < 16 := om; have b1 : (m : Int) + 1 < 16 := om; have b3 : 0 <= (m : Int) + 1 := om; have HMK := qh hmk; generalize (bC (ofB L) m)[m].toNat = o0 at ce0; generalize (bC (ofB L) m)[m + 1].toNat = o1 at ce1; clear p0 p1 hl2 hmk; obtain ⟨hq0, hq1⟩ : 0 <= n /\ n <= 65535 := om; clear hbad
    go_wp2
    refine ⟨⟨k + 1, om, by go_num, qh ((H1.o.other _ _ zi).other _ _ zi), qh ?_, qh ?_, qh ((HB.o.setCell zo _).setCell zo _)⟩, by simp [intOf]; omega⟩
    ·have e : 2 * (k + 1) = m + 1 + 1 := by have := HMK.o; omega
     rw [e, ← HS.o, ← wF, ← wF]; have q0 : ((UInt8.ofNat (n.toNat / 256)).toNat : Int) = n / 256 := by rw [xM]; omega
     have q1 : ((UInt8.ofNat (n.toNat % 256)).toNat : Int) = n % 256 := by rw [xM]; omega
     rw [q0, q1]; exact (H2.o.set _ _).set _ _
    ·intro j x hj hx
     rcases jQ j k with h | h
     ·exact HN.o j x h hx
     ·obtain rfl : j = k := om
      have := HNN.o.symm.trans hx
      cases this; exact ⟨hq0, hq1⟩
  ·obtain rfl : k = 8 := om
   have HL : Hid (bC (ofB L) (2 * 8) = ofB L) := by
    have := uptoB_all (ofB L); rw [hBl] at this; rw [this]; exact qh rfl
   rw [HL.o] at H2; have hof : of L = some (ofB L) := of_good fun j n hj => HN.o j n (by have := (zL.1 hj).1; omega) hj; obtain ⟨y0, y1, y2, y3, y4, y5, y6, y7, y8, y9, y10, y11, y12, y13, y14, y15, hy⟩ := aJ hBl; rw [hy] at H2; obtain ⟨d0, d1, d2, d3, d4, d5, d6, d7, d8, d9, d10, d11, d12, d13, d14, d15⟩ := H2.o.cells16; obtain ⟨e0, e1, e2, e3, e4, e5, e6, e7, e8, e9, e10, e11, e12, e13, e14, e15⟩ := H1.o.cells16; have hf := H1.o.frozen'; have HOF := qh hof; have HY := qh hy; clear hof hy HL hb
   go_wp2
   refine zC (results_cell_tmp rfl _ _ _ _ _ _ _ rfl (Blk.setV16 (Blk.z16 (H1.o))) underlying24 rfl rH) rfl ⟨by rw [HOF.o]; simp only [vI, aA]; rw [HY.o]; rfl, kN HB.o om⟩
end Go.Proofs.YtdbgeobolongmaaGreatDoor
