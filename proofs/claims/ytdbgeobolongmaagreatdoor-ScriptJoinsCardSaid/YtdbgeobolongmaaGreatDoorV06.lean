/- Part of the proof: contracts of the functions that the statements of layer 32 reach. -/
import Derived.Maps.OwnSet
import Derived.Test.YtdbgeobolongmaaGreatDoorV01
import Derived.Test.YtdbgeobolongmaaGreatDoorV02
import Derived.Test.YtdbgeobolongmaaGreatDoorV03
import Derived.Test.YtdbgeobolongmaaGreatDoorV04
import Derived.Test.YtdbgeobolongmaaGreatDoorV05
set_option linter.unusedVariables false
set_option linter.unusedSimpArgs false
set_option maxRecDepth 100000
set_option maxHeartbeats 800000
namespace Go.Proofs.YtdbgeobolongmaaGreatDoor
open Go.RowKit Go.Shelf Go.Proofs Go.OctetPlain Go.ColonPlain
theorem info8 : (Tryz.prog.info? 155).map (·.size) = some 8 := by kernel_rfl
theorem info16 : (Tryz.prog.info? 24).map (·.size) = some 16 := by kernel_rfl
structure A16 (X : Array Value) : Prop where
 info : (Tryz.prog.info? 24).map (·.size) = some X.size
 size : X.size = 16
 one : X.all (·.oneCell') = true
theorem A16.of {l : List UInt8} (h : l.length = 16) : A16 (arrB l) := ⟨by rw [arrB_size, h]; exact info16, by rw [arrB_size, h], arrB_one l⟩
theorem groups_get : ∀ (l : List UInt8) (k : Nat) (a b : UInt8), l[2 * k]? = some a → l[2 * k + 1]? = some b → (ints (groupsOf l))[k]? = some ((256 * a.toNat + b.toNat : Nat) : Int)
 | a :: b :: r, 0, x, y, h1, h2 => by
  simp at h1 h2
  subst h1 h2
  rfl
 | a :: b :: r, k + 1, x, y, h1, h2 => by
  have e1 : 2 * (k + 1) = 2 * k + 2 := by omega
  rw [e1] at h1 h2
  have := groups_get r k x y (by simpa using h1) (by simpa [Nat.add_assoc] using h2)
  simpa [groupsOf, ints] using this
 | [], k, x, y, h1, h2 => by simp at h1
 | [a], k, x, y, h1, h2 => by simp at h2
def upto (L : List Int) (k : Nat) : List Int := L.take k ++ List.replicate (L.length - k) 0
theorem upto_set {L : List Int} {k : Nat} {n : Int} (h : L[k]? = some n) : (upto L k).set k n = upto L (k + 1) := by
 obtain ⟨hk, e⟩ := List.getElem?_eq_some_iff.1 h
 unfold upto
 have hl : (L.take k).length = k := by rw [List.length_take]; omega
 rw [List.set_append_right _ _ (by omega), hl, Nat.sub_self, List.take_succ_eq_append_getElem hk, e, show L.length - k = (L.length - (k + 1)) + 1 by omega, List.replicate_succ, List.set_cons_zero]
 simp
theorem upto_len (L : List Int) (k : Nat) (h : k ≤ L.length) : (upto L k).length = L.length := by
 unfold upto; rw [List.length_append, List.length_take, List.length_replicate]; omega
theorem upto_all (L : List Int) : upto L L.length = L := by simp [upto]
theorem colon_Groups (l : List UInt8) (hl : l.length = 16) (w : World) :
  Calls Tryz.prog 85 #[.agg (arrB l)] w fun e w' => e = .returned (.agg (arrI (ints (groupsOf l)))) ∧ Below w.heap.size w w' := by
 have hgl : (ints (groupsOf l)).length = 8 := by unfold ints; rw [List.length_map]; exact groups_length 8 l (by omega)
 go_enter Tryz.func85, Tryz.ntmps85
 go_wp2_with fail
 go_loopw [4, 5] (fun _ vi wr => ∃ k : Nat, k ≤ 8 ∧ vi = .int .i64 k ∧ Hid (Blk wr w.heap.size 24 (arrB l)) ∧ Hid (Blk wr (w.heap.size + 1) 155 (arrI [0, 0, 0, 0, 0, 0, 0, 0])) ∧ Hid (Blk wr (w.heap.size + 1 + 1) 155 (arrI (upto (ints (groupsOf l)) k))) ∧ Hid (Below w.heap.size w wr)) (fun _ i _ => 8 - (intOf i).toNat)
 case atStart =>
  refine ⟨0, by omega, rfl, qh (((Blk.new _ _ _).alloc _).alloc _), qh ?_, qh ?_, qh (((belowA w _).alloc (by simp) _).alloc (by simp; omega) _)⟩
  ·have h := Blk.new (w.alloc (.cells (arrB l) 24)) 155 (arrI [0, 0, 0, 0, 0, 0, 0, 0])
   simp only [World.size_alloc] at h
   exact h.alloc _
  ·have h := Blk.new ((w.alloc (.cells (arrB l) 24)).alloc (.cells (arrI [0, 0, 0, 0, 0, 0, 0, 0]) 155)) 155 (arrI (upto (ints (groupsOf l)) 0))
   have e : arrI (upto (ints (groupsOf l)) 0) = arrI [0, 0, 0, 0, 0, 0, 0, 0] := by unfold upto; rw [hgl]; rfl
   rw [e] at h ⊢
   simp only [World.size_alloc] at h
   exact h
 case round =>
  obtain ⟨k, hk, rfl, H1, H2, H3, HB⟩ := hrel
  by_cases hlt : k < 8
  ·have q0 : 2 * k < l.length := by omega
   have q1 : 2 * k + 1 < l.length := by omega
   obtain ⟨a, ha⟩ : ∃ a, l[2 * k]? = some a := ⟨l[2 * k], List.getElem?_eq_getElem q0⟩
   obtain ⟨b, hb⟩ : ∃ b, l[2 * k + 1]? = some b := ⟨l[2 * k + 1], List.getElem?_eq_getElem q1⟩
   obtain ⟨m, hm⟩ : ∃ m : Nat, 2 * (k : Int) = (m : Int) := ⟨2 * k, by omega⟩
   have hmk : m = 2 * k := by omega
   have hg := groups_get l k a b ha hb
   have w1 : IntKind.i64.wrap (m : Int) = (m : Int) := IntWalk.i64_in _ (by omega)
   have w2 : IntKind.i64.wrap ((m : Int) + 1) = (m : Int) + 1 := IntWalk.i64_in _ (by omega)
   have b0 : (m : Int) < 16 := by omega
   have b1 : (m : Int) + 1 < 16 := by omega
   have c0 : wr.cell? ⟨w.heap.size, m, none⟩ = some (.int .u8 (a.toNat : Int)) := (H1.out.cell m).trans (by rw [hmk]; exact arrB_get ha)
   have c1 : wr.cell? ⟨w.heap.size, m + 1, none⟩ = some (.int .u8 (b.toNat : Int)) := (H1.out.cell (m + 1)).trans (by rw [hmk]; exact arrB_get hb)
   have f3 := H3.out.frozen' k
   have ce := (H3.out.cell k).trans (arrI_get (n := (upto (ints (groupsOf l)) k)[k]'(by rw [upto_len _ _ (by omega)]; omega)) (List.getElem?_eq_getElem _))
   have hor := or_256 a.toNat b.toNat (by have := a.toNat_lt; omega) b.toNat_lt
   have ha2 : a.toNat < 256 := a.toNat_lt
   have hb2 : b.toNat < 256 := b.toNat_lt
   have b3 : 0 ≤ (m : Int) + 1 := by omega
   have HS := qh (upto_set hg)
   clear hg ha hb hmk q0 q1
   generalize a.toNat = x at c0 hor ha2 HS
   generalize b.toNat = y at c1 hor hb2 HS
   have w3 : IntKind.i64.wrap (x : Int) = x := IntWalk.i64_in _ (by omega)
   have w4 : IntKind.i64.wrap (y : Int) = y := IntWalk.i64_in _ (by omega)
   have w5 : IntKind.i64.wrap ((x : Int) * 256) = (x : Int) * 256 := IntWalk.i64_in _ (by omega)
   go_wp2_with fail
   go_still_tail 15, (by kernel_rfl)
   change wpList _ _ _ _ _ wr.drew
   go_wp2_with fail
   refine ⟨⟨k + 1, by omega, by go_num, qh (H1.out.drew.other _ _ (by simp; omega)), qh (H2.out.drew.other _ _ (by simp)), qh ?_, qh ((HB.out.trans (Below.refl _ _).drew).setCell (by simp; omega) _)⟩, by simp [intOf]; omega⟩
   rw [← HS.out, ← arrI_set]
   exact H3.out.drew.set _ _
  ·obtain rfl : k = 8 := by omega
   have HL : Hid (upto (ints (groupsOf l)) 8 = ints (groupsOf l)) := by
    have := upto_all (ints (groupsOf l)); rw [hgl] at this; rw [this]; exact qh rfl
   rw [HL.out] at H3
   obtain ⟨x0, x1, x2, x3, x4, x5, x6, x7, hx⟩ := list8 hgl
   rw [hx] at H3
   obtain ⟨c0, c1, c2, c3, c4, c5, c6, c7⟩ := H3.out.cells8
   have hf := H2.out.frozen'
   obtain ⟨e0, e1, e2, e3, e4, e5, e6, e7⟩ := H2.out.cells8
   go_wp2_with fail
   have hr := H2.out.set8 (x0 := x0) (x1 := x1) (x2 := x2) (x3 := x3) (x4 := x4) (x5 := x5) (x6 := x6) (x7 := x7)
   refine bodyPost_ret (results_cell_row rfl _ _ _ _ _ _ _ rfl hr Tryz.underlying155 rfl info8) rfl ⟨by rw [hx], below_set8 HB.out (by omega)⟩
end Go.Proofs.YtdbgeobolongmaaGreatDoor
namespace Go.Proofs.YtdbgeobolongmaaGreatDoor
open Go.RowKit Go.Shelf Go.Proofs Go.OctetPlain Go.ColonPlain
end Go.Proofs.YtdbgeobolongmaaGreatDoor
namespace Go.Proofs.YtdbgeobolongmaaGreatDoor
open Go.RowKit Go.Shelf Go.Proofs Go.OctetPlain Go.ColonPlain
def uptoB (L : List UInt8) (k : Nat) : List UInt8 := L.take k ++ List.replicate (L.length - k) 0
theorem uptoB_set {L : List UInt8} {k : Nat} {n : UInt8} (h : L[k]? = some n) : (uptoB L k).set k n = uptoB L (k + 1) := by
 obtain ⟨hk, e⟩ := List.getElem?_eq_some_iff.1 h
 unfold uptoB
 have hl : (L.take k).length = k := by rw [List.length_take]; omega
 rw [List.set_append_right _ _ (by omega), hl, Nat.sub_self, List.take_succ_eq_append_getElem hk, e, show L.length - k = (L.length - (k + 1)) + 1 by omega, List.replicate_succ, List.set_cons_zero]
 simp
theorem uptoB_len (L : List UInt8) (k : Nat) (h : k ≤ L.length) : (uptoB L k).length = L.length := by
 unfold uptoB; rw [List.length_append, List.length_take, List.length_replicate]; omega
theorem uptoB_all (L : List UInt8) : uptoB L L.length = L := by simp [uptoB]
abbrev z16 : List UInt8 := [0, 0, 0, 0, 0, 0, 0, 0, 0, 0, 0, 0, 0, 0, 0, 0]
theorem colon_Of (L : List Int) (hL : L.length = 8) (hb : ∀ (k : Nat) (n : Int), L[k]? = some n → -9223372036854775808 ≤ n ∧ n ≤ 9223372036854775807) (w : World) :
  Calls Tryz.prog 160 #[.agg (arrI L)] w fun e w' => e = .returned (.tuple #[.agg (arrB ((of L).getD z16)), .bool (of L).isSome]) ∧ Below w.heap.size w w' := by
 have hBl : (ofB L).length = 16 := by rw [ofB_length, hL]
 obtain ⟨x0, x1, x2, x3, x4, x5, x6, x7, hx⟩ := list8 hL
 have hX : arrI L = #[.int .i64 x0, .int .i64 x1, .int .i64 x2, .int .i64 x3, .int .i64 x4, .int .i64 x5, .int .i64 x6, .int .i64 x7] := by rw [hx]; rfl
 rw [hX]
 have HX := qh hX
 clear hX hx
 go_enter Tryz.func160, Tryz.ntmps160
 go_wp2_with fail
 go_loopw [5, 6, 8] (fun _ _ vi wr => ∃ k : Nat, k ≤ 8 ∧ vi = .int .i64 k ∧ Hid (Blk wr (w.heap.size + 1) 24 (arrB z16)) ∧ Hid (Blk wr (w.heap.size + 1 + 1) 24 (arrB (uptoB (ofB L) (2 * k)))) ∧ Hid (∀ (j : Nat) (n : Int), j < k → L[j]? = some n → 0 ≤ n ∧ n ≤ 65535) ∧ Hid (Below w.heap.size w wr)) (fun _ _ i _ => 8 - (intOf i).toNat)
 case atStart =>
  refine ⟨0, by omega, rfl, qh ?_, qh ?_, qh (fun j n h => by omega), qh (((belowA w _).alloc (by simp) _).alloc (by simp; omega) _)⟩
  ·have h := Blk.new (w.alloc (.cells #[.int .i64 x0, .int .i64 x1, .int .i64 x2, .int .i64 x3, .int .i64 x4, .int .i64 x5, .int .i64 x6, .int .i64 x7] 155)) 24 (arrB z16)
   simp only [World.size_alloc] at h
   exact h.alloc _
  ·have h := Blk.new ((w.alloc (.cells #[.int .i64 x0, .int .i64 x1, .int .i64 x2, .int .i64 x3, .int .i64 x4, .int .i64 x5, .int .i64 x6, .int .i64 x7] 155)).alloc (.cells (arrB z16) 24)) 24 (arrB (uptoB (ofB L) (2 * 0)))
   have e : arrB (uptoB (ofB L) (2 * 0)) = arrB z16 := by unfold uptoB; rw [hBl]; rfl
   rw [e] at h ⊢
   simp only [World.size_alloc] at h
   exact h
 case round =>
  obtain ⟨k, hk, rfl, H1, H2, HN, HB⟩ := hrel
  by_cases hlt : k < 8
  ·obtain ⟨n, hn⟩ : ∃ n, L[k]? = some n := ⟨L[k], List.getElem?_eq_getElem (by omega)⟩
   have hidx := arrI_get hn
   rw [HX.out] at hidx
   have hix := fun W => run_index_ints (w := W) _ k n hlt hidx
   clear hidx
   obtain ⟨hn0, hn1⟩ := hb k n hn
   have HNN := qh hn
   clear hn hb
   by_cases hbad : n < 0 ∨ 65535 < n
   ·have HOF := qh (of_bad HNN.out hbad)
    obtain ⟨e0, e1, e2, e3, e4, e5, e6, e7, e8, e9, e10, e11, e12, e13, e14, e15⟩ := H1.out.cells16
    have hf := H1.out.frozen'
    rcases hbad with h | h
    all_goals
     go_wp2_with fail
     have hr := Blk.setV16 (x0 := .int .u8 0) (x1 := .int .u8 0) (x2 := .int .u8 0) (x3 := .int .u8 0) (x4 := .int .u8 0) (x5 := .int .u8 0) (x6 := .int .u8 0) (x7 := .int .u8 0) (x8 := .int .u8 0) (x9 := .int .u8 0) (x10 := .int .u8 0) (x11 := .int .u8 0) (x12 := .int .u8 0) (x13 := .int .u8 0) (x14 := .int .u8 0) (x15 := .int .u8 0) (show Blk wr (w.heap.size + 1) _ #[.int .u8 0, .int .u8 0, .int .u8 0, .int .u8 0, .int .u8 0, .int .u8 0, .int .u8 0, .int .u8 0, .int .u8 0, .int .u8 0, .int .u8 0, .int .u8 0, .int .u8 0, .int .u8 0, .int .u8 0, .int .u8 0] from H1.out)
     refine bodyPost_ret (results_cell_tmp rfl _ _ _ _ _ _ _ rfl hr Tryz.underlying24 rfl info16) rfl ⟨by rw [HOF.out]; rfl, below_setV16 HB.out (by omega)⟩
   ·obtain ⟨m, hm⟩ : ∃ m : Nat, 2 * (k : Int) = (m : Int) := ⟨2 * k, by omega⟩
    have hmk : m = 2 * k := by omega
    obtain ⟨g0, g1⟩ := ofB_get L k n HNN.out
    have s1 := uptoB_set g0
    have hl2 : (uptoB (ofB L) (2 * k)).length = 16 := by rw [uptoB_len _ _ (by omega), hBl]
    have s2 := uptoB_set g1
    rw [← s1] at s2
    rw [← hmk] at s2 hl2 H2
    have HS := qh s2
    clear s1 s2 g0 g1
    have p0 : m < (uptoB (ofB L) m).length := by omega
    have p1 : m + 1 < (uptoB (ofB L) m).length := by omega
    have ce0 : wr.cell? ⟨w.heap.size + 1 + 1, m, none⟩ = some (.int .u8 ((uptoB (ofB L) m)[m].toNat : Int)) := (H2.out.cell m).trans (arrB_get (List.getElem?_eq_getElem p0))
    have ce1 : wr.cell? ⟨w.heap.size + 1 + 1, m + 1, none⟩ = some (.int .u8 ((uptoB (ofB L) m)[m + 1].toNat : Int)) := (H2.out.cell (m + 1)).trans (arrB_get (List.getElem?_eq_getElem p1))
    have f0 := H2.out.frozen' m
    have f1 := H2.out.frozen' (m + 1)
    have w1 : IntKind.i64.wrap (m : Int) = (m : Int) := IntWalk.i64_in _ (by omega)
    have w2 : IntKind.i64.wrap ((m : Int) + 1) = (m : Int) + 1 := IntWalk.i64_in _ (by omega)
    have b0 : (m : Int) < 16 := by omega
    have b1 : (m : Int) + 1 < 16 := by omega
    have b3 : 0 ≤ (m : Int) + 1 := by omega
    have HMK := qh hmk
    generalize (uptoB (ofB L) m)[m].toNat = o0 at ce0
    generalize (uptoB (ofB L) m)[m + 1].toNat = o1 at ce1
    clear p0 p1 hl2 hmk
    obtain ⟨hq0, hq1⟩ : 0 ≤ n ∧ n ≤ 65535 := by omega
    clear hbad
    go_wp2_with fail
    refine ⟨⟨k + 1, by omega, by go_num, qh ((H1.out.other _ _ (by simp)).other _ _ (by simp)), qh ?_, qh ?_, qh ((HB.out.setCell (by simp; omega) _).setCell (by simp; omega) _)⟩, by simp [intOf]; omega⟩
    ·have e : 2 * (k + 1) = m + 1 + 1 := by have := HMK.out; omega
     rw [e, ← HS.out, ← arrB_set, ← arrB_set]
     have q0 : ((UInt8.ofNat (n.toNat / 256)).toNat : Int) = n / 256 := by rw [UInt8.toNat_ofNat']; omega
     have q1 : ((UInt8.ofNat (n.toNat % 256)).toNat : Int) = n % 256 := by rw [UInt8.toNat_ofNat']; omega
     rw [q0, q1]
     exact (H2.out.set _ _).set _ _
    ·intro j x hj hx
     rcases Nat.lt_or_ge j k with h | h
     ·exact HN.out j x h hx
     ·obtain rfl : j = k := by omega
      have := HNN.out.symm.trans hx
      cases this
      exact ⟨hq0, hq1⟩
  ·obtain rfl : k = 8 := by omega
   have HL : Hid (uptoB (ofB L) (2 * 8) = ofB L) := by
    have := uptoB_all (ofB L); rw [hBl] at this; rw [this]; exact qh rfl
   rw [HL.out] at H2
   have hof : of L = some (ofB L) := of_good fun j n hj => HN.out j n (by have := (List.getElem?_eq_some_iff.1 hj).1; omega) hj
   obtain ⟨y0, y1, y2, y3, y4, y5, y6, y7, y8, y9, y10, y11, y12, y13, y14, y15, hy⟩ := list16 hBl
   rw [hy] at H2
   obtain ⟨d0, d1, d2, d3, d4, d5, d6, d7, d8, d9, d10, d11, d12, d13, d14, d15⟩ := H2.out.cells16
   obtain ⟨e0, e1, e2, e3, e4, e5, e6, e7, e8, e9, e10, e11, e12, e13, e14, e15⟩ := H1.out.cells16
   have hf := H1.out.frozen'
   have HOF := qh hof
   have HY := qh hy
   clear hof hy HL hb
   go_wp2_with fail
   have hr := Blk.setV16 (x0 := .int .u8 (y0.toNat : Int)) (x1 := .int .u8 (y1.toNat : Int)) (x2 := .int .u8 (y2.toNat : Int)) (x3 := .int .u8 (y3.toNat : Int)) (x4 := .int .u8 (y4.toNat : Int)) (x5 := .int .u8 (y5.toNat : Int)) (x6 := .int .u8 (y6.toNat : Int)) (x7 := .int .u8 (y7.toNat : Int)) (x8 := .int .u8 (y8.toNat : Int)) (x9 := .int .u8 (y9.toNat : Int)) (x10 := .int .u8 (y10.toNat : Int)) (x11 := .int .u8 (y11.toNat : Int)) (x12 := .int .u8 (y12.toNat : Int)) (x13 := .int .u8 (y13.toNat : Int)) (x14 := .int .u8 (y14.toNat : Int)) (x15 := .int .u8 (y15.toNat : Int)) (show Blk wr (w.heap.size + 1) _ #[.int .u8 0, .int .u8 0, .int .u8 0, .int .u8 0, .int .u8 0, .int .u8 0, .int .u8 0, .int .u8 0, .int .u8 0, .int .u8 0, .int .u8 0, .int .u8 0, .int .u8 0, .int .u8 0, .int .u8 0, .int .u8 0] from H1.out)
   refine bodyPost_ret (results_cell_tmp rfl _ _ _ _ _ _ _ rfl hr Tryz.underlying24 rfl info16) rfl ⟨by rw [HOF.out]; simp only [Option.getD_some, Option.isSome_some]; rw [HY.out]; rfl, below_setV16 HB.out (by omega)⟩
end Go.Proofs.YtdbgeobolongmaaGreatDoor
namespace Go.Proofs.YtdbgeobolongmaaGreatDoor
open Go.RowKit Go.Shelf Go.Proofs Go.OctetPlain Go.ColonPlain
theorem ints_len (G : List Nat) : (ints G).length = G.length := by simp [ints]
theorem ints_get {G : List Nat} {k n : Nat} (h : G[k]? = some n) : (ints G)[k]? = some (n : Int) := by simp [ints, h]
theorem colon_run (G : List Nat) (hG : G.length = 8) (w : World) :
  Calls Tryz.prog 86 #[.agg (arrI (ints G))] w fun e w' => e = .returned (.tuple #[.int .i64 ((run G).1 : Nat), .int .i64 ((run G).2 : Nat)]) ∧ Below w.heap.size w w' := by
 obtain ⟨x0, x1, x2, x3, x4, x5, x6, x7, hx⟩ := list8 ((ints_len G).trans hG)
 have hX : arrI (ints G) = #[.int .i64 x0, .int .i64 x1, .int .i64 x2, .int .i64 x3, .int .i64 x4, .int .i64 x5, .int .i64 x6, .int .i64 x7] := by rw [hx]; rfl
 rw [hX]
 have HX := qh hX
 clear hX hx
 go_enter Tryz.func86, Tryz.ntmps86
 go_wp2_with fail
 go_loopw [4, 5, 6, 11] (fun vf vt vb vi wr => ∃ k b f t : Nat, vf = .int .i64 f ∧ vt = .int .i64 t ∧ vb = .int .i64 b ∧ vi = .int .i64 k ∧ k ≤ 8 ∧ b ≤ k ∧ f ≤ t ∧ t ≤ k ∧ Hid (run G = runFrom k b f t ((zs G).drop k)) ∧ Hid (Below w.heap.size w wr)) (fun _ _ _ i _ => 8 - (intOf i).toNat)
 case atStart => exact ⟨0, 0, 0, 0, rfl, rfl, rfl, rfl, by omega, by omega, by omega, by omega, qh rfl, qh ((Below.refl _ _).alloc (Nat.le_refl _) _)⟩
 case round =>
  obtain ⟨k, b, f, t, rfl, rfl, rfl, rfl, hk, hb, hft, htk, HE, HB⟩ := hrel
  by_cases hlt : k < 8
  ·obtain ⟨n, hn⟩ : ∃ n, G[k]? = some n := ⟨G[k], List.getElem?_eq_getElem (by omega)⟩
   have hz : (zs G).drop k = decide (n = 0) :: (zs G).drop (k + 1) := by
    have h1 : (zs G)[k]? = some (decide (n = 0)) := by simp [zs, hn]
    obtain ⟨h2, h3⟩ := List.getElem?_eq_some_iff.1 h1
    rw [List.drop_eq_getElem_cons h2, h3]
   rw [hz, runFrom] at HE
   have hidx := arrI_get (ints_get hn)
   rw [HX.out] at hidx
   have hix := fun W => run_index_ints (w := W) _ k n hlt hidx
   clear hidx
   clear hz hn
   have e1 : IntKind.i64.wrap ((k : Int) + 1) = (k : Int) + 1 := IntWalk.i64_in _ (by omega)
   have e2 : IntKind.i64.wrap ((t : Int) - f) = (t : Int) - f := IntWalk.i64_in _ (by omega)
   have e3 : IntKind.i64.wrap ((k : Int) + 1 - b) = (k : Int) + 1 - b := IntWalk.i64_in _ (by omega)
   by_cases hn0 : n = 0
   ·subst hn0
    rw [decide_eq_true rfl] at HE
    simp only [if_true] at HE
    by_cases h1 : (1 : Int) < (k : Int) + 1 - b
    ·by_cases h2 : (t : Int) - f < (k : Int) + 1 - b
     ·rw [if_pos (by omega)] at HE
      go_wp2_with fail
      exact ⟨⟨k + 1, b, b, k + 1, rfl, by go_num, rfl, by go_num, by omega, by omega, by omega, by omega, HE, HB⟩, by simp [intOf]; omega⟩
     ·rw [if_neg (by omega)] at HE
      go_wp2_with fail
      exact ⟨⟨k + 1, b, f, t, rfl, rfl, rfl, by go_num, by omega, by omega, by omega, by omega, HE, HB⟩, by simp [intOf]; omega⟩
    ·rw [if_neg (by omega)] at HE
     go_wp2_with fail
     exact ⟨⟨k + 1, b, f, t, rfl, rfl, rfl, by go_num, by omega, by omega, by omega, by omega, HE, HB⟩, by simp [intOf]; omega⟩
   ·rw [decide_eq_false hn0] at HE
    simp only [Bool.false_eq_true, if_false] at HE
    rw [if_neg (by omega)] at HE
    have hne : ¬ (n : Int) = 0 := by omega
    have e4 : IntKind.i64.wrap ((k : Int) + 1 - ((k : Int) + 1)) = 0 := by rw [Int.sub_self]; rfl
    clear hn0
    go_wp2_with fail
    exact ⟨⟨k + 1, k + 1, f, t, rfl, rfl, by go_num, by go_num, by omega, by omega, by omega, by omega, HE, HB⟩, by simp [intOf]; omega⟩
  ·obtain rfl : k = 8 := by omega
   have hd : (zs G).drop 8 = [] := List.drop_eq_nil_of_le (by rw [zs_length]; omega)
   rw [hd, runFrom] at HE
   have HR := qh HE.out
   go_wp2_with fail
   refine bodyPost_ret (v := .tuple #[.int .i64 f, .int .i64 t]) ?_ rfl ⟨by rw [HR.out], HB.out⟩
   simp [results, Tryz.results86, go_sem]
def encN (n : Nat) : List Value := [.int .i64 (n : Int)]
theorem encN_len (n : Nat) : (encN n).length = 1 := rfl
def encS (s : List UInt8) : List Value := [.string (str s)]
theorem encS_len (s : List UInt8) : (encS s).length = 1 := rfl
theorem elemS : ElemOk Tryz.prog 79 9 1 16 := .mk Tryz.underlying79 (z := .string ByteArray.empty) (by kernel_rfl) (by omega) (by omega) rfl
theorem join_eq : ∀ L : List Nat, Lib.join (L.map hexN) [58] = joinF hexN L
 | [] => rfl
 | [n] => by simp [Lib.join_one, joinF]
 | n :: m :: r => by
  have ih := join_eq (m :: r)
  rw [joinF, ← ih]
  simp [Lib.join]
theorem joinExtra : Builder.Extra Tryz.prog Tryz.join_ren := {
 sizeBuilder := sizeBuilder
 liesBuilder := liesBuilder
 t5 := Tryz.underlying5
 a5 := fun w => run_isAgg_plain Tryz.underlying5 rfl w
 z5 := Tryz.sizeOf5
 v5 := Tryz.zeroValue5
 infoByte := infoByte
 cellsByte := by kernel_rfl
 sizeByte := by kernel_rfl
 neB5 := by decide }
theorem hexN_map_length (L : List Nat) : (L.map hexN).length = L.length := List.length_map ..
theorem colon_joined (L : List Nat) (hL : L.length ≤ 1000) (hb : ∀ n ∈ L, n < 65536) (v : Value) (w : World) (ht : CT w) (hv : SlR w 1 encN v L) :
  Calls Tryz.prog 87 #[v] w fun e w' => e = .returned (.string (str (joinF hexN L))) ∧ Below w.heap.size w w' := by
 have HT := qh ht
 have HV := qh hv
 obtain ⟨p, cap, rfl, hc1, hc2, hR⟩ := hv
 clear ht
 go_enter Tryz.func87, Tryz.ntmps87
 go_wp2_with fail
 go_loopw [3, 5, 8] (fun vo _ vi wr => ∃ k : Nat, vi = .int .i64 k ∧ k ≤ L.length ∧ Hid (wr.ownsRow w.heap.size 9 1 vo k (flat encS ((L.take k).map hexN))) ∧ Hid (Below w.heap.size w wr)) (fun _ _ vi _ => L.length - (intOf vi).toNat)
 case atStart => exact ⟨0, rfl, Nat.zero_le _, qh (World.ownsRow_nil _ _ _ _), qh (Below.refl _ _)⟩
 case round =>
  obtain ⟨k, rfl, hk, HO, HB⟩ := hrel
  by_cases hlt : k < L.length
  ·obtain ⟨n, hn⟩ : ∃ n, L[k]? = some n := ⟨L[k], List.getElem?_eq_getElem hlt⟩
   have hnb := hb n (List.mem_of_getElem? hn)
   obtain ⟨b, off, rfl, hbs, hcell⟩ := hR.at hlt
   have hLk : L[k] = n := by have := List.getElem?_eq_getElem hlt; rw [hn] at this; cases this; rfl
   have hc0 := hcell 0 (.int .i64 (n : Int)) (by rw [hLk]; rfl)
   simp only [Nat.mul_one, Nat.add_zero] at hc0
   have hc : wr.cell? ⟨b, off + k, none⟩ = some (.int .i64 (n : Int)) := (HB.out.cell (p := ⟨b, off + k, none⟩) hbs).trans hc0
   have HTK : Hid ((L.take (k + 1)).map hexN = (L.take k).map hexN ++ [hexN n]) := by
    rw [List.take_succ_eq_append_getElem hlt, List.map_append, hLk]; exact qh rfl
   have HF := qh (formatInt n hnb wr (HT.out.next HB.out (Nat.le_refl _)))
   clear hcell hc0 hLk hn
   go_wp2_with fail
   refine HF.out.mono ?_
   rintro e w1 ⟨rfl, hb1⟩
   have HB1 := qh hb1
   have HO1 := qh (owns_below HO.out hb1 (Nat.le_refl _))
   have hz1 := hb1.size
   have hz := HB.out.size
   clear hb1
   go_wp2_with (at_builtin; go_loud (refine wpList_app elemS rfl (.tmp 12) (.tmp 15) rfl w.heap.size u3 _ _ rfl HO1.out 1 1 [.string _] rfl rfl (by simp [Value.oneCell']) (by omega) (by omega) ?_; intro v4 w4 hown4 _ _ hb4))
   exact ⟨⟨k + 1, by go_num, by omega, qh (by rw [HTK.out, flat_append]; exact hown4), qh ((HB.out.trans (HB1.out.mono hz)).trans hb4)⟩, by simp [intOf]; omega⟩
  ·have hkl : k = L.length := by omega
   have hO := HO.out
   rw [hkl, List.take_length] at hO
   have hml := hexN_map_length L
   rw [← hml] at hO
   have hz := HB.out.size
   obtain ⟨p', cap', rfl, hd1, hd2, hR'⟩ := SlR.of_owns encS_len hO
   have hj := join_eq L
   have hll : (joinF hexN L).length ≤ 140737488355328 := by have := (joinF_le hexN_length L).1; omega
   have hjs : Lib.join (((L.map hexN).map str).map (·.data.toList)) (⟨#[58]⟩ : ByteArray).data.toList = joinF hexN L := by
    rw [List.map_map]
    have : (fun s : ByteArray => s.data.toList) ∘ str = id := by funext l; exact list_str l
    rw [this, List.map_id]
    exact hj
   have HC : Hid (Calls Tryz.prog 34 #[.slice p' L.length cap', .string ⟨#[58]⟩] wr fun e w' => e = .returned (.string (str (joinF hexN L))) ∧ Below wr.heap.size wr w') := by
    cases p' with
    | none =>
     have h0 := hR'.1 rfl
     have hL0 : L = [] := List.eq_nil_of_length_eq_zero (by omega)
     rw [hL0]
     exact qh ((Any.strings_Join_none Tryz.join joinExtra none cap' ⟨#[58]⟩ wr).mono fun e w' h => ⟨h.1, by rw [h.2]; exact Below.refl _ _⟩)
    | some a =>
     by_cases hL0' : L.length = 0
     ·have hL0 : L = [] := List.eq_nil_of_length_eq_zero hL0'
      rw [hL0]
      exact qh ((Any.strings_Join_none Tryz.join joinExtra (some a) cap' ⟨#[58]⟩ wr).mono fun e w' h => ⟨h.1, by rw [h.2]; exact Below.refl _ _⟩)
     obtain ⟨hsp, hbk, hcl⟩ := hR'.2 a rfl (by simpa using hL0')
     have ha : a = ⟨a.block, a.off, none⟩ := by cases a; simp_all
     have hcon := Any.strings_Join Tryz.join joinExtra a.block a.off cap' ((L.map hexN).map str) ⟨#[58]⟩ wr (fun j x hx => by
      rw [List.getElem?_map] at hx
      cases hy : (L.map hexN)[j]? with
      | none => rw [hy] at hx; cases hx
      | some y =>
       rw [hy] at hx
       cases hx
       have := hcl j y hy 0 (.string (str y)) rfl
       simpa using this) hbk (by simp; omega) (by simpa using hd1) (by rw [hjs]; exact hll)
     rw [hjs, List.length_map, hml] at hcon
     rw [ha]
     exact qh hcon
   have hll2 : (L.map hexN).length = L.length := hml
   clear hj hjs hO hR'
   go_wp2_with fail
   refine HC.out.mono ?_
   rintro e w1 ⟨rfl, hb1⟩
   go_wp2_with fail
   go_ret
   exact ⟨rfl, HB.out.trans (hb1.mono HB.out.size)⟩
end Go.Proofs.YtdbgeobolongmaaGreatDoor
namespace Go.Proofs.YtdbgeobolongmaaGreatDoor
open Go.RowKit Go.Shelf Go.Proofs Go.OctetPlain
def encI (n : Int) : List Value := [.int .i64 n]
theorem encI_len (n : Int) : (encI n).length = 1 := rfl
theorem elemI : ElemOk Tryz.prog 27 3 1 8 := .mk Tryz.underlying27 (z := .int .i64 0) (by kernel_rfl) (by omega) (by omega) rfl
theorem hop_op (n : Int) (w : World) :
  Calls Tryz.prog 136 #[.int .i64 n] w fun e w' => e = .returned (.string (str (Hp.opW n))) ∧ Below w.heap.size w w' := by
 by_cases h1 : n < 0
 ·have hr : Hid (Hp.opW n = []) := by unfold Hp.opW; rw [if_neg (by omega), if_neg (by omega), if_neg (by omega), if_neg (by omega)]; exact qh rfl
  rw [hr.out]
  go_enter Tryz.func136, Tryz.ntmps136
  go_wp2_with fail
  go_ret
  exact ⟨rfl, belowA w _⟩
 by_cases h2 : 4 ≤ n
 ·have hr : Hid (Hp.opW n = []) := by unfold Hp.opW; rw [if_neg (by omega), if_neg (by omega), if_neg (by omega), if_neg (by omega)]; exact qh rfl
  rw [hr.out]
  go_enter Tryz.func136, Tryz.ntmps136
  go_wp2_with fail
  go_ret
  exact ⟨rfl, belowA w _⟩
 have hcs : n = 0 ∨ n = 1 ∨ n = 2 ∨ n = 3 := by omega
 rcases hcs with rfl | rfl | rfl | rfl
 all_goals
  clear h1 h2
  go_enter Tryz.func136, Tryz.ntmps136
  go_wp2_with fail
  go_ret
  exact ⟨rfl, belowA w _⟩
theorem hop_pushed (n : Int) (w : World) :
  Calls Tryz.prog 190 #[.int .i64 n] w fun e w' => e = .returned (.bool (Hp.pushed n)) ∧ w' = w := by
 have hr : Hid (Hp.pushed n = (decide (n = 0) || decide (n = 2) || (decide (16 ≤ n) && decide (n ≤ 1048575)))) := qh rfl
 rw [hr.out]
 by_cases c0 : n = 0
 ·subst c0
  go_enter Tryz.func190, Tryz.ntmps190
  go_wp2_with fail
  go_ret
  exact ⟨rfl, rfl⟩
 by_cases c2 : n = 2
 ·subst c2
  go_enter Tryz.func190, Tryz.ntmps190
  go_wp2_with fail
  go_ret
  exact ⟨rfl, rfl⟩
 have e0 : (n == 0) = false := by simpa using c0
 have e2 : (n == 2) = false := by simpa using c2
 rw [decide_eq_false c0, decide_eq_false c2, Bool.false_or, Bool.false_or]
 clear c0 c2
 by_cases c3 : 16 ≤ n <;> by_cases c4 : n ≤ 1048575
 all_goals
  simp only [c3, c4, decide_true, decide_false, Bool.and_true, Bool.and_false, Bool.false_and, Bool.true_and]
  first | (have e3 : decide (16 ≤ n) = true := by simpa using c3) | (have e3 : decide (16 ≤ n) = false := by simpa using c3)
  first | (have e4 : decide (n ≤ 1048575) = true := by simpa using c4) | (have e4 : decide (n ≤ 1048575) = false := by simpa using c4)
  go_enter Tryz.func190, Tryz.ntmps190
  go_wp2_with fail
  go_ret
  exact ⟨rfl, rfl⟩
theorem unpushed_closure (n : Int) (w : World) :
  Calls Tryz.prog 189 #[.int .i64 n] w fun e w' => e = .returned (.bool (!Hp.pushed n)) ∧ w' = w := by
 have HC := qh fun W => hop_pushed n W
 generalize Hp.pushed n = b at *
 go_enter Tryz.func189, Tryz.ntmps189
 go_wp2_with fail
 refine (HC.out _).mono ?_
 rintro e w1 ⟨rfl, hw⟩
 subst hw
 go_wp2_with fail
 go_ret
 exact ⟨rfl, rfl⟩
theorem containsI_any (g : Nat) (lb : Array Value) (q : Int → Bool) (l : List Int) (hl : l.length ≤ 1073741824) (v : Value) (w : World) (hv : SlR w 1 encI v l) (eg : ∀ args w, (callFunc g args).run Tryz.prog w = .ok (.enter g args) w)
  (hq : ∀ (W : World) (x : Int), Below w.heap.size w W → Calls Tryz.prog g (#[.int .i64 x] ++ lb) W fun e w' => e = .returned (.bool (q x)) ∧ w' = W) :
  Calls Tryz.prog 188 #[v, .func (.func g) #[] lb] w fun e w' => e = .returned (.bool (l.any q)) ∧ Below w.heap.size w w' := by
 obtain ⟨p, cap, rfl, hc1, hc2, hR⟩ := hv
 cases p with
 | none =>
  have h0 := hR.1 rfl
  have hl0 : l = [] := List.eq_nil_of_length_eq_zero h0
  subst hl0
  have hcon := AnyE.slices_ContainsFunc_empty Tryz.containsI none cap (.func (.func g) #[] lb) w
  change Calls Tryz.prog 188 _ _ _ at hcon
  exact hcon.mono fun e w' ⟨he, hw⟩ => ⟨he, by rw [hw]; exact Below.refl _ _⟩
 | some a =>
  by_cases hl0 : l.length = 0
  ·obtain rfl : l = [] := List.eq_nil_of_length_eq_zero hl0
   have hcon := AnyE.slices_ContainsFunc_empty Tryz.containsI (some a) cap (.func (.func g) #[] lb) w
   change Calls Tryz.prog 188 _ _ _ at hcon
   exact hcon.mono fun e w' ⟨he, hw⟩ => ⟨he, by rw [hw]; exact Below.refl _ _⟩
  obtain ⟨hsp, hbk, hcell⟩ := hR.2 a rfl hl0
  have ha : a = ⟨a.block, a.off, none⟩ := by cases a; simp_all
  have hcon := AnyE.slices_ContainsFunc Tryz.containsI (fun x : Int => Value.int .i64 x) q g lb eg a.block a.off l.length cap l w
   (fun W x hW => (hq W x hW).mono fun e w' ⟨he, hw⟩ => ⟨he, 0, by rw [hw]; rfl⟩) (Nat.le_refl _) (by omega)
   (fun j hj => by
    have := hcell j l[j]! (by simp [hj]) 0 (.int .i64 l[j]!) rfl
    simpa using this)
  change Calls Tryz.prog 188 _ _ _ at hcon
  rw [ha]
  rw [List.take_length] at hcon
  refine hcon.mono ?_
  rintro e w' ⟨rfl, q, rfl⟩
  exact ⟨rfl, below_drewN (Below.refl _ _) q⟩
theorem hop_unpushed (l : List Int) (hl : l.length ≤ 1073741824) (v : Value) (w : World) (hv : SlR w 1 encI v l) :
  Calls Tryz.prog 168 #[v] w fun e w' => e = .returned (.bool (!(l.all Hp.pushed))) ∧ Below w.heap.size w w' := by
 have HC := qh (containsI_any 189 #[] (fun n => !Hp.pushed n) l hl v w hv (enters_of Tryz.func189 (by kernel_rfl) rfl) (fun W x _ => by simpa using unpushed_closure x W))
 have he : Hid ((l.any fun n => !Hp.pushed n) = !(l.all Hp.pushed)) := by rw [List.not_all_eq_any_not]; exact qh rfl
 rw [← he.out]
 obtain ⟨p, cap, rfl, _, _, _⟩ := hv
 go_enter Tryz.func168, Tryz.ntmps168
 go_wp2_with fail
 refine HC.out.mono ?_
 rintro e w1 ⟨rfl, hb⟩
 go_wp2_with fail
 go_ret
 exact ⟨rfl, hb⟩
end Go.Proofs.YtdbgeobolongmaaGreatDoor
