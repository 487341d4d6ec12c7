/- Part of the proof: contracts of the functions that the statements of layer 32 reach. -/
import Derived.Test.YtdbgeobolongmaaGreatDoorV04
import Derived.Test.YtdbgeobolongmaaGreatDoorV05
import Derived.Test.YtdbgeobolongmaaGreatDoorV06
import Derived.Test.YtdbgeobolongmaaGreatDoorV10
import Derived.Test.YtdbgeobolongmaaGreatDoorV12
import Derived.Test.YtdbgeobolongmaaGreatDoorV13
import Derived.Test.YtdbgeobolongmaaGreatDoorV15
import Derived.Test.YtdbgeobolongmaaGreatDoorV16
import Derived.Test.YtdbgeobolongmaaGreatDoorV17
import Derived.Test.YtdbgeobolongmaaGreatDoorV18
import Derived.Test.YtdbgeobolongmaaGreatDoorV22
import Derived.Test.YtdbgeobolongmaaGreatDoorV28
set_option linter.unusedVariables false
set_option linter.unusedSimpArgs false
set_option maxRecDepth 100000
set_option maxHeartbeats 4000000
namespace Go.Proofs.YtdbgeobolongmaaGreatDoor
open Go.RowKit Go.Shelf Go.Proofs Go.OctetPlain Go.PrefixPlain
def rmA (r : Int × Int × Int) : Array Value := #[.int .i64 r.1, .int .i64 r.2.1, .int .i64 r.2.2]
def rm3 (a b c : Option Int) : Option (Int × Int × Int) := match a, b, c with | some x, some y, some z => some (x, y, z) | _, _, _ => none
def RetRooms (o : Option (Int × Int × Int)) (W : World) (e : Ending) (W' : World) : Prop := e = .returned (.tuple #[.agg (rmA (o.getD (0, 0, 0))), .bool o.isSome]) ∧ Below W.heap.size W W'
theorem infoRm : (Tryz.prog.info? 55).map (·.size) = some 3 := by kernel_rfl
theorem rmA_one (r : Int × Int × Int) : (rmA r).all (·.oneCell') = true := by simp [rmA, Value.oneCell']
theorem zeroRm (w : World) : (zeroValue 55).run Tryz.prog w = .ok (.agg (rmA (0, 0, 0))) w := by kernel_rfl
theorem zero3 (w : World) : (zeroValue 174).run Tryz.prog w = .ok (.agg #[.int .i64 0, .int .i64 0, .int .i64 0]) w := by kernel_rfl
theorem rooms_none {l : List Hp.Wd} (h : l.length ≠ 4) : Sc.roomsR l = none := by
 match l, h with
 | [], _ => rfl
 | [_], _ => rfl
 | [_, _], _ => rfl
 | [_, _, _], _ => rfl
 | [_, _, _, _], h => exact absurd rfl h
 | _ :: _ :: _ :: _ :: _ :: _, _ => rfl
theorem scr_rooms (l : List Hp.Wd) (hl : l.length ≤ 1048576) (hx : ∀ x ∈ l, x.length ≤ 65536) (v : Value) (w : World) (ht : ST w) (hv : SlR w 1 encS v l) :
  Calls Tryz.prog 80 #[v] w (RetRooms (Sc.roomsR l) w) := by
 have HT := qh ht.p.tabs
 obtain ⟨p, cap, rfl, h1, h2, hR⟩ := hv
 by_cases h4 : l.length = 4
 ·obtain ⟨x0, x1, x2, x3, rfl⟩ : ∃ a b c d, l = [a, b, c, d] := by
   match l, h4 with
   | [a, b, c, d], _ => exact ⟨a, b, c, d, rfl⟩
  have HR := qh fun W (hb : Below w.heap.size w W) => hR.below hb (Nat.le_refl _)
  obtain ⟨b, off, rfl, hbl, -⟩ := hR.at (i := 0) (by simp)
  have HC : Hid (∀ W, Below w.heap.size w W → W.cell? ⟨b, off, none⟩ = some (.string (str x0)) ∧ W.cell? ⟨b, off + 1, none⟩ = some (.string (str x1)) ∧ W.cell? ⟨b, off + 2, none⟩ = some (.string (str x2)) ∧ W.cell? ⟨b, off + 3, none⟩ = some (.string (str x3))) := qh fun W hb => by
   have h := HR.out W hb
   have c0 := h.in (i := 0) (by simp) 0 _ rfl
   have c1 := h.in (i := 1) (by simp) 0 _ rfl
   have c2 := h.in (i := 2) (by simp) 0 _ rfl
   have c3 := h.in (i := 3) (by simp) 0 _ rfl
   exact ⟨by simpa using c0, by simpa using c1, by simpa using c2, by simpa using c3⟩
  have htl := str_tl
  have h1' := hx x1 (by simp)
  have h2' := hx x2 (by simp)
  have h3' := hx x3 (by simp)
  have HN1 := qh fun W (hb : Below w.heap.size w W) => octet_Number x1 (by omega) 1073741824 W (HT.out.below hb)
  have HN2 := qh fun W (hb : Below w.heap.size w W) => octet_Number x2 (by omega) 1073741824 W (HT.out.below hb)
  have HN3 := qh fun W (hb : Below w.heap.size w W) => octet_Number x3 (by omega) 1073741824 W (HT.out.below hb)
  have HO : Hid (Sc.roomsR [x0, x1, x2, x3] = if x0 = Sc.wRooms then rm3 (number x1 1073741824) (number x2 1073741824) (number x3 1073741824) else none) := qh rfl
  generalize Sc.roomsR [x0, x1, x2, x3] = o at *
  generalize number x1 1073741824 = n1 at *
  generalize number x2 1073741824 = n2 at *
  generalize number x3 1073741824 = n3 at *
  clear hR h4 hx h1' h2' h3' ht hl h1
  obtain ⟨d0, d1, d2, d3⟩ := HC.out w (Below.refl _ _)
  by_cases h0 : x0 = Sc.wRooms
  ·have he : (x0 == ([114, 111, 111, 109, 115] : List UInt8)) = true := beq_iff_eq.2 h0
   have HO1 : Hid (o = rm3 n1 n2 n3) := qh (by rw [HO.out, if_pos h0])
   clear h0 HO
   go_enter Tryz.func80, Tryz.ntmps80
   go_wp2_with (first
    | (refine wpList_alloc_as rfl 55 (by rfl) _ zeroRm ?_; intro wz hwz; have HRZ : Hid (Blk wz w.heap.size 55 (rmA (0, 0, 0))) := (by rw [hwz]; exact qh (Blk.new _ _ _)); have HBZ : Hid (Below w.heap.size w wz) := (by rw [hwz]; exact qh (belowA w _)); clear hwz; have hzz := HRZ.out.lt; clear d0 d1 d2 d3; obtain ⟨d0, d1, d2, d3⟩ := HC.out wz HBZ.out)
    | (refine wpList_alloc_as rfl 174 (by rfl) _ zero3 ?_; intro w1 hw1; have HA1 : Hid (Blk w1 wz.heap.size 174 #[.int .i64 0, .int .i64 0, .int .i64 0]) := (by rw [hw1]; exact qh (Blk.new _ _ _)); have HB1 : Hid (Below w.heap.size w w1) := (by rw [hw1]; exact qh (HBZ.out.alloc HBZ.out.size _)); have HR1 : Hid (Blk w1 w.heap.size 55 (rmA (0, 0, 0))) := (by rw [hw1]; exact qh (HRZ.out.alloc _)); clear hw1; clear d0 d1 d2 d3; obtain ⟨d0, d1, d2, d3⟩ := HC.out w1 HB1.out; have hz1 := HA1.out.lt))
   refine wp_loop_rounds 4 ?_
   rw [rounds_succ]
   go_wp2_with fail
   refine (HN1.out _ HB1.out).mono ?_
   rintro e v2 ⟨rfl, hb2⟩
   have HC2 := qh (HB1.out.trans (hb2.mono HB1.out.size))
   have HD2 := qh (HA1.out.below hb2 HA1.out.lt)
   have HE2 := qh (HR1.out.below hb2 HR1.out.lt)
   clear d0 d1 d2 d3 hb2
   obtain ⟨d0, d1, d2, d3⟩ := HC.out v2 HC2.out
   cases n1 with
   | none =>
    have HON : Hid (o = none) := qh (by rw [HO1.out]; unfold rm3; rfl)
    go_wp2_with (refine wpList_store_row_as rfl _ (.tmp 2) (.tmp 32) rfl w.heap.size (rmA (0, 0, 0)) (by rfl) (by rfl) _ _ HE2.out infoRm rfl (rmA_one _) ?_; intro w8 hw8; have HR8 : Hid (Blk w8 w.heap.size 55 (rmA (0, 0, 0))) := (by rw [hw8]; exact qh (HE2.out.setRow _)); have HB8 : Hid (Below w.heap.size w w8) := (by rw [hw8]; exact qh (below_setRow HC2.out (Nat.le_refl _) _)); clear hw8)
    exact bodyPost_ret (results_cell_tmp rfl _ _ _ _ _ _ _ rfl HR8.out Tryz.underlying55 rfl infoRm) rfl ⟨by rw [HON.out]; rfl, HB8.out⟩
   | some a =>
    have q0 := HD2.out.cell 0
    have q1 := HD2.out.frozen' 0
    simp only [List.getElem?_toArray, List.getElem?_cons_zero, List.getElem?_cons_succ] at q0
    have HA2 : Hid (Blk (v2.setCell ⟨wz.heap.size, 0, none⟩ (.int .i64 a)) wz.heap.size 174 #[.int .i64 a, .int .i64 0, .int .i64 0]) := qh (HD2.out.set 0 _)
    have HB2 : Hid (Below w.heap.size w (v2.setCell ⟨wz.heap.size, 0, none⟩ (.int .i64 a))) := qh (HC2.out.setCell HBZ.out.size _)
    have HR2 : Hid (Blk (v2.setCell ⟨wz.heap.size, 0, none⟩ (.int .i64 a)) w.heap.size 55 (rmA (0, 0, 0))) := qh (HE2.out.other ⟨wz.heap.size, 0, none⟩ _ (by simp only; omega))
    clear d0 d1 d2 d3
    obtain ⟨d0, d1, d2, d3⟩ := HC.out _ HB2.out
    go_wp2_with fail
    rw [rounds_succ]
    go_wp2_with fail
    refine (HN2.out _ HB2.out).mono ?_
    rintro e v3 ⟨rfl, hb3⟩
    have HC3 := qh (HB2.out.trans (hb3.mono HB2.out.size))
    have HD3 := qh (HA2.out.below hb3 HA2.out.lt)
    have HE3 := qh (HR2.out.below hb3 HR2.out.lt)
    clear d0 d1 d2 d3 hb3
    obtain ⟨d0, d1, d2, d3⟩ := HC.out v3 HC3.out
    cases n2 with
    | none =>
     have HON : Hid (o = none) := qh (by rw [HO1.out]; unfold rm3; rfl)
     go_wp2_with (refine wpList_store_row_as rfl _ (.tmp 2) (.tmp 32) rfl w.heap.size (rmA (0, 0, 0)) (by rfl) (by rfl) _ _ HE3.out infoRm rfl (rmA_one _) ?_; intro w8 hw8; have HR8 : Hid (Blk w8 w.heap.size 55 (rmA (0, 0, 0))) := (by rw [hw8]; exact qh (HE3.out.setRow _)); have HB8 : Hid (Below w.heap.size w w8) := (by rw [hw8]; exact qh (below_setRow HC3.out (Nat.le_refl _) _)); clear hw8)
     exact bodyPost_ret (results_cell_tmp rfl _ _ _ _ _ _ _ rfl HR8.out Tryz.underlying55 rfl infoRm) rfl ⟨by rw [HON.out]; rfl, HB8.out⟩
    | some b1 =>
     have q0 := HD3.out.cell 1
     have q1 := HD3.out.frozen' 1
     simp only [List.getElem?_toArray, List.getElem?_cons_zero, List.getElem?_cons_succ] at q0
     have HA3 : Hid (Blk (v3.setCell ⟨wz.heap.size, 1, none⟩ (.int .i64 b1)) wz.heap.size 174 #[.int .i64 a, .int .i64 b1, .int .i64 0]) := qh (HD3.out.set 1 _)
     have HB3 : Hid (Below w.heap.size w (v3.setCell ⟨wz.heap.size, 1, none⟩ (.int .i64 b1))) := qh (HC3.out.setCell HBZ.out.size _)
     have HR3 : Hid (Blk (v3.setCell ⟨wz.heap.size, 1, none⟩ (.int .i64 b1)) w.heap.size 55 (rmA (0, 0, 0))) := qh (HE3.out.other ⟨wz.heap.size, 1, none⟩ _ (by simp only; omega))
     clear d0 d1 d2 d3
     obtain ⟨d0, d1, d2, d3⟩ := HC.out _ HB3.out
     go_wp2_with fail
     rw [rounds_succ]
     go_wp2_with fail
     refine (HN3.out _ HB3.out).mono ?_
     rintro e v4 ⟨rfl, hb4⟩
     have HC4 := qh (HB3.out.trans (hb4.mono HB3.out.size))
     have HD4 := qh (HA3.out.below hb4 HA3.out.lt)
     have HE4 := qh (HR3.out.below hb4 HR3.out.lt)
     clear d0 d1 d2 d3 hb4
     obtain ⟨d0, d1, d2, d3⟩ := HC.out v4 HC4.out
     cases n3 with
     | none =>
      have HON : Hid (o = none) := qh (by rw [HO1.out]; unfold rm3; rfl)
      go_wp2_with (refine wpList_store_row_as rfl _ (.tmp 2) (.tmp 32) rfl w.heap.size (rmA (0, 0, 0)) (by rfl) (by rfl) _ _ HE4.out infoRm rfl (rmA_one _) ?_; intro w8 hw8; have HR8 : Hid (Blk w8 w.heap.size 55 (rmA (0, 0, 0))) := (by rw [hw8]; exact qh (HE4.out.setRow _)); have HB8 : Hid (Below w.heap.size w w8) := (by rw [hw8]; exact qh (below_setRow HC4.out (Nat.le_refl _) _)); clear hw8)
      exact bodyPost_ret (results_cell_tmp rfl _ _ _ _ _ _ _ rfl HR8.out Tryz.underlying55 rfl infoRm) rfl ⟨by rw [HON.out]; rfl, HB8.out⟩
     | some c =>
      have q0 := HD4.out.cell 2
      have q1 := HD4.out.frozen' 2
      simp only [List.getElem?_toArray, List.getElem?_cons_zero, List.getElem?_cons_succ] at q0
      have HA4 : Hid (Blk (v4.setCell ⟨wz.heap.size, 2, none⟩ (.int .i64 c)) wz.heap.size 174 #[.int .i64 a, .int .i64 b1, .int .i64 c]) := qh (HD4.out.set 2 _)
      have HB4 : Hid (Below w.heap.size w (v4.setCell ⟨wz.heap.size, 2, none⟩ (.int .i64 c))) := qh (HC4.out.setCell HBZ.out.size _)
      have HR4 : Hid (Blk (v4.setCell ⟨wz.heap.size, 2, none⟩ (.int .i64 c)) w.heap.size 55 (rmA (0, 0, 0))) := qh (HE4.out.other ⟨wz.heap.size, 2, none⟩ _ (by simp only; omega))
      clear d0 d1 d2 d3
      obtain ⟨d0, d1, d2, d3⟩ := HC.out _ HB4.out
      have HON : Hid (o = some (a, b1, c)) := qh (by rw [HO1.out]; rfl)
      go_wp2_with fail
      rw [rounds_succ]
      have g0 := HA4.out.cell 0
      have g1 := HA4.out.cell 1
      have g2 := HA4.out.cell 2
      simp only [List.getElem?_toArray, List.getElem?_cons_zero, List.getElem?_cons_succ] at g0 g1 g2
      go_wp2_with (refine wpList_store_row_as rfl _ (.tmp 2) (.tmp 43) rfl w.heap.size (rmA (a, b1, c)) (by rfl) (by rfl) _ _ HR4.out infoRm rfl (rmA_one _) ?_; intro w8 hw8; have HR8 : Hid (Blk w8 w.heap.size 55 (rmA (a, b1, c))) := (by rw [hw8]; exact qh (HR4.out.setRow _)); have HB8 : Hid (Below w.heap.size w w8) := (by rw [hw8]; exact qh (below_setRow HB4.out (Nat.le_refl _) _)); clear hw8)
      exact bodyPost_ret (results_cell_tmp rfl _ _ _ _ _ _ _ rfl HR8.out Tryz.underlying55 rfl infoRm) rfl ⟨by rw [HON.out]; rfl, HB8.out⟩
  ·have he : (x0 == ([114, 111, 111, 109, 115] : List UInt8)) = false := beq_eq_false_iff_ne.2 h0
   have HON : Hid (o = none) := qh (by rw [HO.out, if_neg h0])
   clear h0 HO
   go_enter Tryz.func80, Tryz.ntmps80
   go_wp2_with (first
    | (refine wpList_alloc_as rfl 55 (by rfl) _ zeroRm ?_; intro wz hwz; have HRZ : Hid (Blk wz w.heap.size 55 (rmA (0, 0, 0))) := (by rw [hwz]; exact qh (Blk.new _ _ _)); have HBZ : Hid (Below w.heap.size w wz) := (by rw [hwz]; exact qh (belowA w _)); clear hwz; clear d0 d1 d2 d3; obtain ⟨d0, d1, d2, d3⟩ := HC.out wz HBZ.out)
    | (refine wpList_store_row_as rfl _ (.tmp 2) (.tmp 17) rfl w.heap.size (rmA (0, 0, 0)) (by rfl) (by rfl) _ _ HRZ.out infoRm rfl (rmA_one _) ?_; intro w8 hw8; have HR8 : Hid (Blk w8 w.heap.size 55 (rmA (0, 0, 0))) := (by rw [hw8]; exact qh (HRZ.out.setRow _)); have HB8 : Hid (Below w.heap.size w w8) := (by rw [hw8]; exact qh (below_setRow HBZ.out (Nat.le_refl _) _)); clear hw8))
   exact bodyPost_ret (results_cell_tmp rfl _ _ _ _ _ _ _ rfl HR8.out Tryz.underlying55 rfl infoRm) rfl ⟨by rw [HON.out]; rfl, HB8.out⟩
 ·have hn : ((l.length : Int) != 4) = true := by simp only [bne_iff_ne, ne_eq]; omega
  have HON := qh (rooms_none h4)
  clear h4
  go_enter Tryz.func80, Tryz.ntmps80
  go_wp2_with (first
   | (refine wpList_alloc_as rfl 55 (by rfl) _ zeroRm ?_; intro wz hwz; have HRZ : Hid (Blk wz w.heap.size 55 (rmA (0, 0, 0))) := (by rw [hwz]; exact qh (Blk.new _ _ _)); have HBZ : Hid (Below w.heap.size w wz) := (by rw [hwz]; exact qh (belowA w _)); clear hwz)
   | (refine wpList_store_row_as rfl _ (.tmp 2) (.tmp 17) rfl w.heap.size (rmA (0, 0, 0)) (by rfl) (by rfl) _ _ HRZ.out infoRm rfl (rmA_one _) ?_; intro w8 hw8; have HR8 : Hid (Blk w8 w.heap.size 55 (rmA (0, 0, 0))) := (by rw [hw8]; exact qh (HRZ.out.setRow _)); have HB8 : Hid (Below w.heap.size w w8) := (by rw [hw8]; exact qh (below_setRow HBZ.out (Nat.le_refl _) _)); clear hw8))
  exact bodyPost_ret (results_cell_tmp rfl _ _ _ _ _ _ _ rfl HR8.out Tryz.underlying55 rfl infoRm) rfl ⟨by rw [HON.out]; rfl, HB8.out⟩
end Go.Proofs.YtdbgeobolongmaaGreatDoor
namespace Go.Proofs.YtdbgeobolongmaaGreatDoor
open Go.RowKit Go.Shelf Go.Proofs Go.OctetPlain Go.PrefixPlain Go.ColonPlain
theorem splitC_spl : ∀ l : List UInt8, splitC 32 l = Hp.spl l
 | [] => rfl
 | c :: r => by
  rw [splitC, Hp.spl, splitC_spl r]
  split
  ·rfl
  ·cases h : Hp.spl r with
   | nil => exact absurd h (Hp.spl_ne r)
   | cons w ws => rfl
theorem splitC_count (d : UInt8) : ∀ l : List UInt8, (splitC d l).length ≤ l.length + 1
 | [] => by simp [splitC]
 | c :: r => by
  have ih := splitC_count d r
  rw [splitC]
  split
  ·simp; omega
  ·simp; omega
theorem splitC_le (d : UInt8) : ∀ (l : List UInt8), ∀ w ∈ splitC d l, w.length ≤ l.length
 | [], w, h => by simp [splitC] at h; simp [h]
 | c :: r, w, h => by
  have ih := splitC_le d r
  rw [splitC] at h
  split at h
  ·rcases List.mem_cons.1 h with rfl | h
   ·simp
   ·have := ih w h; simp; omega
  ·cases hs : splitC d r with
   | nil => exact absurd hs (splitC_ne d r)
   | cons v vs =>
    rw [hs] at h ih
    simp only [List.headD_cons, List.tail_cons] at h
    rcases List.mem_cons.1 h with rfl | h
    ·have := ih v List.mem_cons_self; simp; omega
    ·have := ih w (List.mem_cons_of_mem _ h); simp; omega
def slA (a b : List UInt8) : Array Value := ((a ++ b).map fun c => Value.int .u8 (c.toNat : Int)).toArray
theorem slA_size {a b : List UInt8} (ha : a.length = 4) (hb : b.length = 16) : (slA a b).size = 20 := by simp [slA, ha, hb]
theorem slA_one (a b : List UInt8) : (slA a b).all (·.oneCell') = true := all_oneCell_toArray fun v hv => by
 obtain ⟨c, -, rfl⟩ := List.mem_map.1 hv; rfl
def RetSelf (o : Option (List UInt8 × List UInt8)) (W : World) (e : Ending) (W' : World) : Prop := ∃ a b : List UInt8, a.length = 4 ∧ b.length = 16 ∧ e = .returned (.tuple #[.agg (slA a b), .bool o.isSome]) ∧ (∀ r, o = some r → r = (a, b)) ∧ Below W.heap.size W W'
theorem self_none {l : List Hp.Wd} (h : l.length ≠ 3) : Sc.selfR l = none := by
 match l, h with
 | [], _ => rfl
 | [_], _ => rfl
 | [_, _], _ => rfl
 | [_, _, _], h => exact absurd rfl h
 | _ :: _ :: _ :: _ :: _, _ => rfl
theorem zero4B (w : World) : (zeroValue 56).run Tryz.prog w = .ok (.agg (arrB [0, 0, 0, 0])) w := by kernel_rfl
theorem zero16B (w : World) : (zeroValue 24).run Tryz.prog w = .ok (.agg (arrB z16)) w := by kernel_rfl
theorem info4B : (Tryz.prog.info? 56).map (·.size) = some 4 := by kernel_rfl
theorem info16B : (Tryz.prog.info? 24).map (·.size) = some 16 := by kernel_rfl
theorem arrB_sz (l : List UInt8) : (arrB l).size = l.length := by simp [arrB]
theorem arrB_on (l : List UInt8) : (arrB l).all (·.oneCell') = true := all_oneCell_toArray fun v hv => by
 obtain ⟨c, -, rfl⟩ := List.mem_map.1 hv; rfl
def z4 : List UInt8 := [0, 0, 0, 0]
theorem dotted_length4 {x v : List UInt8} (h : dotted x = some v) : v.length = 4 := dotParts_length _ _ _ h
theorem dotted4 {x : List UInt8} : ((dotted x).getD [0, 0, 0, 0]).length = 4 := by
 cases h : dotted x with
 | none => rfl
 | some v => exact dotted_length4 h
theorem parse16 {x : List UInt8} : ((parse x).getD z16).length = 16 := by
 cases h : parse x with
 | none => rfl
 | some v => exact parse_length h
theorem self_eq (x0 x1 x2 : Hp.Wd) : Sc.selfR [x0, x1, x2] = if x0 = Sc.wSelf then (if (dotted x1).isSome = true ∧ (parse x2).isSome = true ∧ show_ ((parse x2).getD z16) = x2 then some ((dotted x1).getD [0, 0, 0, 0], (parse x2).getD z16) else none) else none := by
 rw [show Sc.selfR [x0, x1, x2] = (if x0 = Sc.wSelf then (match dotted x1, parse x2 with | some x, some y => if show_ y = x2 then some (x, y) else none | _, _ => none) else none) from rfl]
 by_cases h0 : x0 = Sc.wSelf
 ·rw [if_pos h0, if_pos h0]
  cases dotted x1 with
  | none => rw [if_neg (fun h => by cases h.1)]
  | some a => cases parse x2 with
   | none => rw [if_neg (fun h => by cases h.2.1)]
   | some c =>
    by_cases h : show_ c = x2
    ·simp only [h, if_true]; rw [if_pos ⟨rfl, rfl, h⟩]; rfl
    ·simp only [h, if_false]; rw [if_neg (fun q => h q.2.2)]
 ·rw [if_neg h0, if_neg h0]
theorem exec_build {P : Program} {o : Oper} {a : Act} {ty : TypeId} {parts : Array (Nat × Operand)} {v : Value} {w : World} (ho : o.op = .build ty parts) (hr : (Instr.build ty (parts.map fun (i, x) => (i, a.eval x))).run P w = .ok v w) : (execOp a.eval o).run P w = .ok (.value v) w := by
 simp only [execOp, ho, Sem.run_bind, hr, Result.andThen_ok, Sem.run_pure]
structure SlS (W : World) (R : Nat) (t : TypeId) (W' : World) : Prop where
 g : W.grownBy W' (some R)
 b : ∃ cs, Blk W' R t cs ∧ cs.size = 20
theorem SlS.call {W w w' : World} {R : Nat} {t : TypeId} (h : SlS W R t w) (hb : Below w.heap.size w w') : SlS W R t w' := by
 obtain ⟨cs, h1, h2⟩ := h.b
 exact ⟨grown_then h.g (hb.mono h.g.size), cs, h1.below hb h1.lt, h2⟩
theorem infoS : (Tryz.prog.info? 58).map (·.size) = some 20 := by kernel_rfl
theorem zeroS (w : World) : (zeroValue 58).run Tryz.prog w = .ok (.agg (slA z4 z16)) w := by kernel_rfl
theorem buildS {a b : List UInt8} (ha : a.length = 4) (hb : b.length = 16) (w : World) : (Instr.build 58 #[(0, .agg (arrB a)), (1, .agg (arrB b))]).run Tryz.prog w = .ok (.agg (slA a b)) w := by
 obtain ⟨a0, a1, a2, a3, rfl⟩ := list4 ha
 obtain ⟨b0, b1, b2, b3, b4, b5, b6, b7, b8, b9, b10, b11, b12, b13, b14, b15, rfl⟩ := list16 hb
 kernel_rfl
theorem scr_self (l : List Hp.Wd) (hl : l.length ≤ 1048576) (hx : ∀ x ∈ l, x.length ≤ 65536) (v : Value) (w : World) (ht : ST w) (hv : SlR w 1 encS v l) :
  Calls Tryz.prog 81 #[v] w (RetSelf (Sc.selfR l) w) := by
 have HT := qh ht
 obtain ⟨p, cap, rfl, h1, h2, hR⟩ := hv
 by_cases h3 : l.length = 3
 ·obtain ⟨x0, x1, x2, rfl⟩ : ∃ a b c, l = [a, b, c] := by
   match l, h3 with
   | [a, b, c], _ => exact ⟨a, b, c, rfl⟩
  have HR := qh fun W (hb : Below w.heap.size w W) => hR.below hb (Nat.le_refl _)
  obtain ⟨b, off, rfl, hbl, -⟩ := hR.at (i := 0) (by simp)
  have HC : Hid (∀ W, Below w.heap.size w W → W.cell? ⟨b, off, none⟩ = some (.string (str x0)) ∧ W.cell? ⟨b, off + 1, none⟩ = some (.string (str x1)) ∧ W.cell? ⟨b, off + 2, none⟩ = some (.string (str x2))) := qh fun W hb => by
   have h := HR.out W hb
   have c0 := h.in (i := 0) (by simp) 0 _ rfl
   have c1 := h.in (i := 1) (by simp) 0 _ rfl
   have c2 := h.in (i := 2) (by simp) 0 _ rfl
   exact ⟨by simpa using c0, by simpa using c1, by simpa using c2⟩
  have htl := str_tl
  have h1' := hx x1 (by simp)
  have h2' := hx x2 (by simp)
  have HD := qh fun W (hb : Below w.heap.size w W) => dotted_Parse x1 (by omega) W
  have HP := qh fun W (hb : Below w.heap.size w W) => colon_Parse x2 (by omega) W (HT.out.below hb).p.ct
  have HS := qh fun W (hb : Below w.heap.size w W) => colon_Show ((parse x2).getD z16) parse16 W (HT.out.below hb).p.ct
  have HO : Hid (Sc.selfR [x0, x1, x2] = if x0 = Sc.wSelf then (if (dotted x1).isSome = true ∧ (parse x2).isSome = true ∧ show_ ((parse x2).getD z16) = x2 then some ((dotted x1).getD [0, 0, 0, 0], (parse x2).getD z16) else none) else none) := qh (self_eq x0 x1 x2)
  have L4 : ((dotted x1).getD [0, 0, 0, 0]).length = 4 := dotted4
  have L6 : ((parse x2).getD z16).length = 16 := parse16
  have HBD := qh fun w => buildS L4 L6 w
  have HL4 := qh L4
  have HL6 := qh L6
  generalize Sc.selfR [x0, x1, x2] = o at *
  generalize (dotted x1).isSome = is4 at *
  generalize (parse x2).isSome = is6 at *
  generalize (dotted x1).getD [0, 0, 0, 0] = q4 at *
  generalize hq6 : (parse x2).getD z16 = q6 at *
  clear hq6
  generalize hsp : show_ q6 = sp at *
  clear hsp
  clear hR h3 hx h1' h2' hl h1 L4 L6 ht
  obtain ⟨d0, d1, d2⟩ := HC.out w (Below.refl _ _)
  by_cases h0 : x0 = Sc.wSelf
  ·have he : (x0 == ([115, 101, 108, 102] : List UInt8)) = true := beq_iff_eq.2 h0
   have HO1 : Hid (o = if is4 = true ∧ is6 = true ∧ sp = x2 then some (q4, q6) else none) := qh (by rw [HO.out, if_pos h0])
   clear h0 HO
   go_enter Tryz.func81, Tryz.ntmps81
   go_wp2_with (refine wpList_alloc_as rfl 58 (by rfl) _ zeroS ?_; intro wz hwz; have HRZ : Hid (Blk wz w.heap.size 58 (slA z4 z16)) := (by rw [hwz]; exact qh (Blk.new _ _ _)); have HBZ : Hid (Below w.heap.size w wz) := (by rw [hwz]; exact qh (belowA w _)); clear hwz; clear d0 d1 d2; obtain ⟨d0, d1, d2⟩ := HC.out wz HBZ.out)
   refine (HD.out _ HBZ.out).mono ?_
   rintro e w1 ⟨rfl, hb1⟩
   have HB1 := qh (HBZ.out.trans (hb1.mono HBZ.out.size))
   have HR1 := qh (HRZ.out.below hb1 HRZ.out.lt)
   have hz1 := hb1.size
   clear d0 d1 d2 hb1
   obtain ⟨d0, d1, d2⟩ := HC.out w1 HB1.out
   go_wp2_with (first
    | (refine wpList_alloc_as rfl 56 (by rfl) _ zero4B ?_; intro w2 hw2; have HA2 : Hid (Blk w2 w1.heap.size 56 (arrB [0, 0, 0, 0])) := (by rw [hw2]; exact qh (Blk.new _ _ _)); have HB2 : Hid (Below w.heap.size w w2) := (by rw [hw2]; exact qh (HB1.out.alloc HB1.out.size _)); have HR2 : Hid (Blk w2 w.heap.size 58 (slA z4 z16)) := (by rw [hw2]; exact qh (HR1.out.alloc _)); clear hw2)
    | (refine wpList_store_row_as rfl 56 (.tmp 4) (.tmp 23) (by rfl) w1.heap.size (arrB q4) (by rfl) (by rfl) _ _ HA2.out (by rw [arrB_sz, HL4.out]; exact info4B) (by rw [arrB_sz, arrB_sz, HL4.out]; rfl) (arrB_on _) ?_; intro w3 hw3; have HA3 : Hid (Blk w3 w1.heap.size 56 (arrB q4)) := (by rw [hw3]; exact qh (HA2.out.setRow _)); have HB3 : Hid (Below w.heap.size w w3) := (by rw [hw3]; exact qh (below_setRow HB2.out HB1.out.size _)); have HR3 : Hid (Blk w3 w.heap.size 58 (slA z4 z16)) := (by rw [hw3]; exact qh (HR2.out.otherRow _ _ (by have := HR1.out.lt; omega))); clear hw3; clear d0 d1 d2; obtain ⟨d0, d1, d2⟩ := HC.out w3 HB3.out))
   refine (HP.out _ HB3.out).mono ?_
   rintro e w4 ⟨rfl, hb4⟩
   have HB4 := qh (HB3.out.trans (hb4.mono HB3.out.size))
   have HR4 := qh (HR3.out.below hb4 HR3.out.lt)
   have HA4 := qh (HA3.out.below hb4 HA3.out.lt)
   have hz4 := HA4.out.lt
   clear d0 d1 d2 hb4
   obtain ⟨d0, d1, d2⟩ := HC.out w4 HB4.out
   go_upto_region 5 with (first
    | (refine wpList_alloc_as rfl 24 (by rfl) _ zero16B ?_; intro w5 hw5; have HC5 : Hid (Blk w5 w4.heap.size 24 (arrB z16)) := (by rw [hw5]; exact qh (Blk.new _ _ _)); have HB5 : Hid (Below w.heap.size w w5) := (by rw [hw5]; exact qh (HB4.out.alloc HB4.out.size _)); have HR5 : Hid (Blk w5 w.heap.size 58 (slA z4 z16)) := (by rw [hw5]; exact qh (HR4.out.alloc _)); have HA5 : Hid (Blk w5 w1.heap.size 56 (arrB q4)) := (by rw [hw5]; exact qh (HA4.out.alloc _)); clear hw5)
    | (refine wpList_store_row_as rfl 24 (.tmp 6) (.tmp 30) (by rfl) w4.heap.size (arrB q6) (by rfl) (by rfl) _ _ HC5.out (by rw [arrB_sz, HL6.out]; exact info16B) (by rw [arrB_sz, arrB_sz, HL6.out]; rfl) (arrB_on _) ?_; intro w6 hw6; have HC6 : Hid (Blk w6 w4.heap.size 24 (arrB q6)) := (by rw [hw6]; exact qh (HC5.out.setRow _)); have HB6 : Hid (Below w.heap.size w w6) := (by rw [hw6]; exact qh (below_setRow HB5.out HB4.out.size _)); have HR6 : Hid (Blk w6 w.heap.size 58 (slA z4 z16)) := (by rw [hw6]; exact qh (HR5.out.otherRow _ _ (by have := HR4.out.lt; omega))); have HA6 : Hid (Blk w6 w1.heap.size 56 (arrB q4)) := (by rw [hw6]; exact qh (HA5.out.otherRow _ _ (by omega))); clear hw6; clear d0 d1 d2; obtain ⟨d0, d1, d2⟩ := HC.out w6 HB6.out))
   have hI4 : (Tryz.prog.info? 56).map (·.size) = some (arrB q4).size := by rw [arrB_sz, HL4.out]; exact info4B
   have hI6 : (Tryz.prog.info? 24).map (·.size) = some (arrB q6).size := by rw [arrB_sz, HL6.out]; exact info16B
   have hIS : (Tryz.prog.info? 58).map (·.size) = some (slA q4 q6).size := by rw [slA_size HL4.out HL6.out]; exact infoS
   have hSZ : (slA q4 q6).size = 20 := slA_size HL4.out HL6.out
   have HIS := qh hIS
   have hzz := HRZ.out.lt
   have HI4 := qh hI4
   have HI6 := qh hI6
   have HSZ := qh hSZ
   have HON := qh (slA_one q4 q6)
   clear hIS hI4 hI6 hSZ HA2 HA3 HB1 HB2 HB3 HB4 HB5 HBZ HR1 HR2 HR3 HR4 HR5 HRZ HC5 HA4 HA5 d0 d1
   have hbR : b ≠ w.heap.size := by omega
   have hg1 : w1.heap.size ≠ w.heap.size := by have := HR6.out.lt; omega
   have hg4 : w4.heap.size ≠ w.heap.size := by omega
   have HSR : Hid (∀ W', w6.grownBy W' (some w.heap.size) → Below w.heap.size w W') := qh fun W' h => HB6.out.trans (grown_Below h HB6.out.size (Nat.le_refl _))
   have HD2 := qh d2
   clear d2
   cases is4
   ·have HLL : Hid (o = none) := qh (by rw [HO1.out]; exact if_neg (fun h => by cases h.1))
    refine wp_region_held_drew (S := SlS w6 w.heap.size 58) (by kernel_rfl) ⟨grown_below ((Below.refl _ _).drew) _, _, HR6.out.below ((Below.refl w6.heap.size w6).drew) HR6.out.lt, slA_size rfl rfl⟩ (fun hHeld => ?_)
    refine kY 0 rfl (zR rfl (w1.heap.size) rfl _ (arrB q4) _ (fun w h => HA6.out.grown h.g hg1) Tryz.underlying56 rfl HI4.out) ?_
    refine kY 1 rfl (zR rfl (w4.heap.size) rfl _ (arrB q6) _ (fun w h => HC6.out.grown h.g hg4) Tryz.underlying24 rfl HI6.out) ?_
    refine kY 2 rfl (v := .agg (slA q4 q6)) (Or.inl ⟨by rfl, fun w _ => exec_build rfl (by simp only [List.map_toArray, List.map_cons, List.map_nil]; exact HBD.out w)⟩) ?_
    refine kq 3 ?_; refine kq 4 ?_; refine tn 5 ?_; refine kq 6 ?_; refine kq 7 ?_; refine tn 8 ?_; refine tn 9 ?_; refine tn 10 ?_; refine tn 11 ?_; refine tn 12 ?_; refine tn 13 ?_; refine kq 14 ?_
    have HQ := qh hHeld
    obtain ⟨cs0, hcs0, hsz0⟩ := hHeld.b
    refine zS 15 fun K hK => ?_
    refine wp_store_row _ _ _ rfl (w.heap.size) (slA q4 q6) rfl rfl _ (cs0) (hcs0) HIS.out (by rw [hsz0, HSZ.out]) (HON.out) ?_
    refine hK.out _ _ (⟨grown_trans HQ.out.g (grown_setRow _ _ _), _, hcs0.setRow _, HSZ.out⟩) (fun hHeld => ?_)
    clear hK K
    try simp only [qA, qB, qC, qD, qE, qF, qG]
    have HB9 := qh (hcs0.setRow (slA q4 q6))
    have HG9 := qh (HSR.out _ hHeld.g)
    refine kq 16 ?_
    refine zD ?_
    go_wp2_with fail
    exact bodyPost_ret (results_cell_tmp rfl _ _ _ _ _ _ _ rfl HB9.out Tryz.underlying58 rfl HIS.out) rfl ⟨q4, q6, HL4.out, HL6.out, by rw [HLL.out]; rfl, (fun r h => by rw [HLL.out] at h; cases h), HG9.out⟩
   ·cases is6
    ·have HLL : Hid (o = none) := qh (by rw [HO1.out]; exact if_neg (fun h => by cases h.2.1))
     refine wp_region_held_drew (S := SlS w6 w.heap.size 58) (by kernel_rfl) ⟨grown_below ((Below.refl _ _).drew) _, _, HR6.out.below ((Below.refl w6.heap.size w6).drew) HR6.out.lt, slA_size rfl rfl⟩ (fun hHeld => ?_)
     refine kY 0 rfl (zR rfl (w1.heap.size) rfl _ (arrB q4) _ (fun w h => HA6.out.grown h.g hg1) Tryz.underlying56 rfl HI4.out) ?_
     refine kY 1 rfl (zR rfl (w4.heap.size) rfl _ (arrB q6) _ (fun w h => HC6.out.grown h.g hg4) Tryz.underlying24 rfl HI6.out) ?_
     refine kY 2 rfl (v := .agg (slA q4 q6)) (Or.inl ⟨by rfl, fun w _ => exec_build rfl (by simp only [List.map_toArray, List.map_cons, List.map_nil]; exact HBD.out w)⟩) ?_
     refine kq 3 ?_; refine kq 4 ?_; refine kq 5 ?_; refine kq 6 ?_; refine kq 7 ?_; refine tn 8 ?_; refine tn 9 ?_; refine tn 10 ?_; refine tn 11 ?_; refine tn 12 ?_; refine tn 13 ?_; refine kq 14 ?_
     have HQ := qh hHeld
     obtain ⟨cs0, hcs0, hsz0⟩ := hHeld.b
     refine zS 15 fun K hK => ?_
     refine wp_store_row _ _ _ rfl (w.heap.size) (slA q4 q6) rfl rfl _ (cs0) (hcs0) HIS.out (by rw [hsz0, HSZ.out]) (HON.out) ?_
     refine hK.out _ _ (⟨grown_trans HQ.out.g (grown_setRow _ _ _), _, hcs0.setRow _, HSZ.out⟩) (fun hHeld => ?_)
     clear hK K
     try simp only [qA, qB, qC, qD, qE, qF, qG]
     have HB9 := qh (hcs0.setRow (slA q4 q6))
     have HG9 := qh (HSR.out _ hHeld.g)
     refine kq 16 ?_
     refine zD ?_
     go_wp2_with fail
     exact bodyPost_ret (results_cell_tmp rfl _ _ _ _ _ _ _ rfl HB9.out Tryz.underlying58 rfl HIS.out) rfl ⟨q4, q6, HL4.out, HL6.out, by rw [HLL.out]; rfl, (fun r h => by rw [HLL.out] at h; cases h), HG9.out⟩
    ·by_cases hq2 : sp = x2
     ·have heq : (sp == x2) = true := by simpa using hq2
      have HLL : Hid (o = some (q4, q6)) := qh (by rw [HO1.out]; exact if_pos ⟨rfl, rfl, hq2⟩)
      clear hq2
      refine wp_region_held_drew (S := SlS w6 w.heap.size 58) (by kernel_rfl) ⟨grown_below ((Below.refl _ _).drew) _, _, HR6.out.below ((Below.refl w6.heap.size w6).drew) HR6.out.lt, slA_size rfl rfl⟩ (fun hHeld => ?_)
      refine kY 0 rfl (zR rfl (w1.heap.size) rfl _ (arrB q4) _ (fun w h => HA6.out.grown h.g hg1) Tryz.underlying56 rfl HI4.out) ?_
      refine kY 1 rfl (zR rfl (w4.heap.size) rfl _ (arrB q6) _ (fun w h => HC6.out.grown h.g hg4) Tryz.underlying24 rfl HI6.out) ?_
      refine kY 2 rfl (v := .agg (slA q4 q6)) (Or.inl ⟨by rfl, fun w _ => exec_build rfl (by simp only [List.map_toArray, List.map_cons, List.map_nil]; exact HBD.out w)⟩) ?_
      refine kq 3 ?_; refine kq 4 ?_; refine kq 5 ?_; refine kq 6 ?_; refine kq 7 ?_
      refine kY 8 rfl (zR rfl (w4.heap.size) rfl _ (arrB q6) _ (fun w h => HC6.out.grown h.g hg4) Tryz.underlying24 rfl HI6.out) ?_
      refine kq 10 ?_; refine kq 11 ?_
      refine kq 12 ?_ (hy := by intro w h; have c := h.g.cell HD2.out (fun e => hbR (Option.some.inj e)); go_simp; try with_reducible rfl)
      refine zS 9 fun K hK => ?_
      go_simp
      refine (HS.out _ (HSR.out _ hHeld.g)).mono ?_; rintro e w9 ⟨rfl, hb9⟩; have HV9 := hHeld.call hb9
      go_wp2_with fail
      refine hK.out _ _ (HV9) (fun hHeld => ?_)
      clear hK K
      try simp only [qA, qB, qC, qD, qE, qF, qG]
      refine kq 13 ?_ (hy := by intro w h; have z := heq; have z2 := str_tl; go_simp; try with_reducible rfl)
      refine kq 14 ?_
      have HQ := qh hHeld
      obtain ⟨cs0, hcs0, hsz0⟩ := hHeld.b
      refine zS 15 fun K hK => ?_
      refine wp_store_row _ _ _ rfl (w.heap.size) (slA q4 q6) rfl rfl _ (cs0) (hcs0) HIS.out (by rw [hsz0, HSZ.out]) (HON.out) ?_
      refine hK.out _ _ (⟨grown_trans HQ.out.g (grown_setRow _ _ _), _, hcs0.setRow _, HSZ.out⟩) (fun hHeld => ?_)
      clear hK K
      try simp only [qA, qB, qC, qD, qE, qF, qG]
      have HB9 := qh (hcs0.setRow (slA q4 q6))
      have HG9 := qh (HSR.out _ hHeld.g)
      refine kq 16 ?_
      refine zD ?_
      go_wp2_with fail
      exact bodyPost_ret (results_cell_tmp rfl _ _ _ _ _ _ _ rfl HB9.out Tryz.underlying58 rfl HIS.out) rfl ⟨q4, q6, HL4.out, HL6.out, by rw [HLL.out]; rfl, (fun r h => by rw [HLL.out] at h; cases h; rfl), HG9.out⟩
     ·have heq : (sp == x2) = false := by simpa using hq2
      have HLL : Hid (o = none) := qh (by rw [HO1.out]; exact if_neg (fun h => hq2 h.2.2))
      clear hq2
      refine wp_region_held_drew (S := SlS w6 w.heap.size 58) (by kernel_rfl) ⟨grown_below ((Below.refl _ _).drew) _, _, HR6.out.below ((Below.refl w6.heap.size w6).drew) HR6.out.lt, slA_size rfl rfl⟩ (fun hHeld => ?_)
      refine kY 0 rfl (zR rfl (w1.heap.size) rfl _ (arrB q4) _ (fun w h => HA6.out.grown h.g hg1) Tryz.underlying56 rfl HI4.out) ?_
      refine kY 1 rfl (zR rfl (w4.heap.size) rfl _ (arrB q6) _ (fun w h => HC6.out.grown h.g hg4) Tryz.underlying24 rfl HI6.out) ?_
      refine kY 2 rfl (v := .agg (slA q4 q6)) (Or.inl ⟨by rfl, fun w _ => exec_build rfl (by simp only [List.map_toArray, List.map_cons, List.map_nil]; exact HBD.out w)⟩) ?_
      refine kq 3 ?_; refine kq 4 ?_; refine kq 5 ?_; refine kq 6 ?_; refine kq 7 ?_
      refine kY 8 rfl (zR rfl (w4.heap.size) rfl _ (arrB q6) _ (fun w h => HC6.out.grown h.g hg4) Tryz.underlying24 rfl HI6.out) ?_
      refine kq 10 ?_; refine kq 11 ?_
      refine kq 12 ?_ (hy := by intro w h; have c := h.g.cell HD2.out (fun e => hbR (Option.some.inj e)); go_simp; try with_reducible rfl)
      refine zS 9 fun K hK => ?_
      go_simp
      refine (HS.out _ (HSR.out _ hHeld.g)).mono ?_; rintro e w9 ⟨rfl, hb9⟩; have HV9 := hHeld.call hb9
      go_wp2_with fail
      refine hK.out _ _ (HV9) (fun hHeld => ?_)
      clear hK K
      try simp only [qA, qB, qC, qD, qE, qF, qG]
      refine kq 13 ?_ (hy := by intro w h; have z := heq; have z2 := str_tl; go_simp; try with_reducible rfl)
      refine kq 14 ?_
      have HQ := qh hHeld
      obtain ⟨cs0, hcs0, hsz0⟩ := hHeld.b
      refine zS 15 fun K hK => ?_
      refine wp_store_row _ _ _ rfl (w.heap.size) (slA q4 q6) rfl rfl _ (cs0) (hcs0) HIS.out (by rw [hsz0, HSZ.out]) (HON.out) ?_
      refine hK.out _ _ (⟨grown_trans HQ.out.g (grown_setRow _ _ _), _, hcs0.setRow _, HSZ.out⟩) (fun hHeld => ?_)
      clear hK K
      try simp only [qA, qB, qC, qD, qE, qF, qG]
      have HB9 := qh (hcs0.setRow (slA q4 q6))
      have HG9 := qh (HSR.out _ hHeld.g)
      refine kq 16 ?_
      refine zD ?_
      go_wp2_with fail
      exact bodyPost_ret (results_cell_tmp rfl _ _ _ _ _ _ _ rfl HB9.out Tryz.underlying58 rfl HIS.out) rfl ⟨q4, q6, HL4.out, HL6.out, by rw [HLL.out]; rfl, (fun r h => by rw [HLL.out] at h; cases h), HG9.out⟩
  ·have he : (x0 == ([115, 101, 108, 102] : List UInt8)) = false := beq_eq_false_iff_ne.2 h0
   have HON : Hid (o = none) := qh (by rw [HO.out, if_neg h0])
   clear h0 HO
   go_enter Tryz.func81, Tryz.ntmps81
   go_wp2_with (first
    | (refine wpList_alloc_as rfl 58 (by rfl) _ zeroS ?_; intro wz hwz; have HRZ : Hid (Blk wz w.heap.size 58 (slA z4 z16)) := (by rw [hwz]; exact qh (Blk.new _ _ _)); have HBZ : Hid (Below w.heap.size w wz) := (by rw [hwz]; exact qh (belowA w _)); clear hwz; clear d0 d1 d2; obtain ⟨d0, d1, d2⟩ := HC.out wz HBZ.out)
    | (refine wpList_store_row_as rfl _ (.tmp 2) (.tmp 17) rfl w.heap.size (slA z4 z16) (by rfl) (by rfl) _ _ HRZ.out infoS rfl (slA_one _ _) ?_; intro w8 hw8; have HR8 : Hid (Blk w8 w.heap.size 58 (slA z4 z16)) := (by rw [hw8]; exact qh (HRZ.out.setRow _)); have HB8 : Hid (Below w.heap.size w w8) := (by rw [hw8]; exact qh (below_setRow HBZ.out (Nat.le_refl _) _)); clear hw8))
   exact bodyPost_ret (results_cell_tmp rfl _ _ _ _ _ _ _ rfl HR8.out Tryz.underlying58 rfl infoS) rfl ⟨z4, z16, rfl, rfl, by rw [HON.out]; rfl, (fun r h => by rw [HON.out] at h; cases h), HB8.out⟩
 ·have hn : ((l.length : Int) != 3) = true := by simp only [bne_iff_ne, ne_eq]; omega
  have HON := qh (self_none h3)
  clear h3
  go_enter Tryz.func81, Tryz.ntmps81
  go_wp2_with (first
   | (refine wpList_alloc_as rfl 58 (by rfl) _ zeroS ?_; intro wz hwz; have HRZ : Hid (Blk wz w.heap.size 58 (slA z4 z16)) := (by rw [hwz]; exact qh (Blk.new _ _ _)); have HBZ : Hid (Below w.heap.size w wz) := (by rw [hwz]; exact qh (belowA w _)); clear hwz)
   | (refine wpList_store_row_as rfl _ (.tmp 2) (.tmp 17) rfl w.heap.size (slA z4 z16) (by rfl) (by rfl) _ _ HRZ.out infoS rfl (slA_one _ _) ?_; intro w8 hw8; have HR8 : Hid (Blk w8 w.heap.size 58 (slA z4 z16)) := (by rw [hw8]; exact qh (HRZ.out.setRow _)); have HB8 : Hid (Below w.heap.size w w8) := (by rw [hw8]; exact qh (below_setRow HBZ.out (Nat.le_refl _) _)); clear hw8))
  exact bodyPost_ret (results_cell_tmp rfl _ _ _ _ _ _ _ rfl HR8.out Tryz.underlying58 rfl infoS) rfl ⟨z4, z16, rfl, rfl, by rw [HON.out]; rfl, (fun r h => by rw [HON.out] at h; cases h), HB8.out⟩
theorem infoM : (Tryz.prog.info? 66).map (·.size) = some 20 := by kernel_rfl
end Go.Proofs.YtdbgeobolongmaaGreatDoor
