import Derived.Test.YtjbolphfelakeaaGreatDoorArr
import Derived.Test.YtjbolphfelakeaaGreatDoorColonPlain
import Derived.Test.YtjbolphfelakeaaGreatDoorOctetRef2
/- colon.Groups, the program's and the document's. -/
namespace Go.Proofs.YtjbolphfelakeaaGreatDoor
set_option linter.unusedVariables false
set_option linter.unusedSimpArgs false
open Go.RowKit Go.Shelf Go.Proofs Go.OctetPlain Go.ColonPlain

theorem info8 : (Tryz.prog.info? 64).map (·.size) = some 8 := by kernel_rfl
theorem info16 : (Tryz.prog.info? 22).map (·.size) = some 16 := by kernel_rfl
/-- an array that is an address's -/
structure A16 (X : Array Value) : Prop where
  info : (Tryz.prog.info? 22).map (·.size) = some X.size
  size : X.size = 16
  one : X.all (·.oneCell') = true
theorem A16.of {l : List UInt8} (h : l.length = 16) : A16 (arrB l) := ⟨by rw [arrB_size, h]; exact info16, by rw [arrB_size, h], arrB_one l⟩
theorem arr_zero (n : Nat) : arrI (List.replicate n 0) = (List.replicate n (Value.int .i64 0)).toArray := by simp [arrI]
theorem groups_get : ∀ (l : List UInt8) (k : Nat) (a b : UInt8), l[2 * k]? = some a → l[2 * k + 1]? = some b → (ints (groupsOf l))[k]? = some ((256 * a.toNat + b.toNat : Nat) : Int)
  | a :: b :: r, 0, x, y, h1, h2 => by
    simp at h1 h2
    subst h1 h2
    rfl
  | a :: b :: r, k + 1, x, y, h1, h2 => by
    have e1 : 2 * (k + 1) = 2 * k + 2 := by omega
    rw [e1] at h1 h2
    have := groups_get r k x y (by simpa using h1) (by simpa [Nat.add_assoc] using h2)
    simpa [groupsOf, ints] using this
  | [], k, x, y, h1, h2 => by simp at h1
  | [a], k, x, y, h1, h2 => by simp at h2

/-- the first k of L, then zeros -/
def upto (L : List Int) (k : Nat) : List Int := L.take k ++ List.replicate (L.length - k) 0
theorem upto_set {L : List Int} {k : Nat} {n : Int} (h : L[k]? = some n) : (upto L k).set k n = upto L (k + 1) := by
  obtain ⟨hk, e⟩ := List.getElem?_eq_some_iff.1 h
  unfold upto
  have hl : (L.take k).length = k := by rw [List.length_take]; omega
  rw [List.set_append_right _ _ (by omega), hl, Nat.sub_self, List.take_succ_eq_append_getElem hk, e, show L.length - k = (L.length - (k + 1)) + 1 by omega, List.replicate_succ, List.set_cons_zero]
  simp
theorem upto_len (L : List Int) (k : Nat) (h : k ≤ L.length) : (upto L k).length = L.length := by
  unfold upto; rw [List.length_append, List.length_take, List.length_replicate]; omega
theorem upto_all (L : List Int) : upto L L.length = L := by simp [upto]

set_option maxRecDepth 100000 in
set_option maxHeartbeats 800000 in
theorem colon_Groups (l : List UInt8) (hl : l.length = 16) (w : World) :
    Calls Tryz.prog 45 #[.agg (arrB l)] w fun e w' => e = .returned (.agg (arrI (ints (groupsOf l)))) ∧ Below w.heap.size w w' := by
  have hgl : (ints (groupsOf l)).length = 8 := by unfold ints; rw [List.length_map]; exact groups_length 8 l (by omega)
  go_enter Tryz.func45, Tryz.ntmps45
  go_wp2_with fail
  go_loopw [4, 5] (fun _ vi wr => ∃ k : Nat, k ≤ 8 ∧ vi = .int .i64 k ∧ Hid (Blk wr w.heap.size 22 (arrB l)) ∧ Hid (Blk wr (w.heap.size + 1) 64 (arrI [0, 0, 0, 0, 0, 0, 0, 0])) ∧ Hid (Blk wr (w.heap.size + 1 + 1) 64 (arrI (upto (ints (groupsOf l)) k))) ∧ Hid (Below w.heap.size w wr)) (fun _ i _ => 8 - (intOf i).toNat)
  case atStart =>
    refine ⟨0, by omega, rfl, Lib.hid (((Blk.new _ _ _).alloc _).alloc _), Lib.hid ?_, Lib.hid ?_, Lib.hid (((belowA w _).alloc (by simp) _).alloc (by simp; omega) _)⟩
    · have h := Blk.new (w.alloc (.cells (arrB l) 22)) 64 (arrI [0, 0, 0, 0, 0, 0, 0, 0])
      simp only [World.size_alloc] at h
      exact h.alloc _
    · have h := Blk.new ((w.alloc (.cells (arrB l) 22)).alloc (.cells (arrI [0, 0, 0, 0, 0, 0, 0, 0]) 64)) 64 (arrI (upto (ints (groupsOf l)) 0))
      have e : arrI (upto (ints (groupsOf l)) 0) = arrI [0, 0, 0, 0, 0, 0, 0, 0] := by unfold upto; rw [hgl]; rfl
      rw [e] at h ⊢
      simp only [World.size_alloc] at h
      exact h
  case round =>
    obtain ⟨k, hk, rfl, H1, H2, H3, HB⟩ := hrel
    by_cases hlt : k < 8
    · have q0 : 2 * k < l.length := by omega
      have q1 : 2 * k + 1 < l.length := by omega
      obtain ⟨a, ha⟩ : ∃ a, l[2 * k]? = some a := ⟨l[2 * k], List.getElem?_eq_getElem q0⟩
      obtain ⟨b, hb⟩ : ∃ b, l[2 * k + 1]? = some b := ⟨l[2 * k + 1], List.getElem?_eq_getElem q1⟩
      obtain ⟨m, hm⟩ : ∃ m : Nat, 2 * (k : Int) = (m : Int) := ⟨2 * k, by omega⟩
      have hmk : m = 2 * k := by omega
      have hg := groups_get l k a b ha hb
      have w1 : IntKind.i64.wrap (m : Int) = (m : Int) := IntWalk.i64_in _ (by omega)
      have w2 : IntKind.i64.wrap ((m : Int) + 1) = (m : Int) + 1 := IntWalk.i64_in _ (by omega)
      have b0 : (m : Int) < 16 := by omega
      have b1 : (m : Int) + 1 < 16 := by omega
      have c0 : wr.cell? ⟨w.heap.size, m, none⟩ = some (.int .u8 (a.toNat : Int)) := (H1.out.cell m).trans (by rw [hmk]; exact arrB_get ha)
      have c1 : wr.cell? ⟨w.heap.size, m + 1, none⟩ = some (.int .u8 (b.toNat : Int)) := (H1.out.cell (m + 1)).trans (by rw [hmk]; exact arrB_get hb)
      have f3 := H3.out.frozen' k
      have ce := (H3.out.cell k).trans (arrI_get (n := (upto (ints (groupsOf l)) k)[k]'(by rw [upto_len _ _ (by omega)]; omega)) (List.getElem?_eq_getElem _))
      have hor := or_256 a.toNat b.toNat (by have := a.toNat_lt; omega) b.toNat_lt
      have ha2 : a.toNat < 256 := a.toNat_lt
      have hb2 : b.toNat < 256 := b.toNat_lt
      have b3 : 0 ≤ (m : Int) + 1 := by omega
      have HS := Lib.hid (upto_set hg)
      clear hg ha hb hmk q0 q1
      generalize a.toNat = x at c0 hor ha2 HS
      generalize b.toNat = y at c1 hor hb2 HS
      have w3 : IntKind.i64.wrap (x : Int) = x := IntWalk.i64_in _ (by omega)
      have w4 : IntKind.i64.wrap (y : Int) = y := IntWalk.i64_in _ (by omega)
      have w5 : IntKind.i64.wrap ((x : Int) * 256) = (x : Int) * 256 := IntWalk.i64_in _ (by omega)
      go_wp2_with fail
      go_still_tail 15, (by kernel_rfl)
      change wpList _ _ _ _ _ wr.drew
      go_wp2_with fail
      refine ⟨⟨k + 1, by omega, by go_num, Lib.hid (H1.out.drew.other _ _ (by simp; omega)), Lib.hid (H2.out.drew.other _ _ (by simp)), Lib.hid ?_, Lib.hid ((HB.out.trans (Below.refl _ _).drew).setCell (by simp; omega) _)⟩, by simp [intOf]; omega⟩
      rw [← HS.out, ← arrI_set]
      exact H3.out.drew.set _ _
    · obtain rfl : k = 8 := by omega
      have HL : Hid (upto (ints (groupsOf l)) 8 = ints (groupsOf l)) := by
        have := upto_all (ints (groupsOf l)); rw [hgl] at this; rw [this]; exact Lib.hid rfl
      rw [HL.out] at H3
      obtain ⟨x0, x1, x2, x3, x4, x5, x6, x7, hx⟩ := list8 hgl
      rw [hx] at H3
      obtain ⟨c0, c1, c2, c3, c4, c5, c6, c7⟩ := H3.out.cells8
      have hf := H2.out.frozen'
      obtain ⟨e0, e1, e2, e3, e4, e5, e6, e7⟩ := H2.out.cells8
      go_wp2_with fail
      have hr := H2.out.set8 (x0 := x0) (x1 := x1) (x2 := x2) (x3 := x3) (x4 := x4) (x5 := x5) (x6 := x6) (x7 := x7)
      refine bodyPost_ret (results_cell_row rfl _ _ _ _ _ _ _ rfl hr Tryz.underlying64 rfl info8) rfl ⟨by rw [hx], below_set8 HB.out (by omega)⟩
end Go.Proofs.YtjbolphfelakeaaGreatDoor

/- The document's Groups; Of, the program's and the document's. -/
namespace Go.Proofs.YtjbolphfelakeaaGreatDoor
set_option linter.unusedVariables false
set_option linter.unusedSimpArgs false
open Go.RowKit Go.Shelf Go.Proofs Go.OctetPlain Go.ColonPlain

set_option maxRecDepth 100000 in
set_option maxHeartbeats 800000 in
theorem ref_Groups (l : List UInt8) (hl : l.length = 16) (w : World) :
    Calls Tryz.prog 49 #[.agg (arrB l)] w fun e w' => e = .returned (.agg (arrI (ints (groupsOf l)))) ∧ Below w.heap.size w w' := by
  have hgl : (ints (groupsOf l)).length = 8 := by unfold ints; rw [List.length_map]; exact groups_length 8 l (by omega)
  go_enter Tryz.func49, Tryz.ntmps49
  go_wp2_with fail
  go_loopw [4] (fun vi wr => ∃ k : Nat, k ≤ 8 ∧ vi = .int .i64 k ∧ Hid (Blk wr w.heap.size 22 (arrB l)) ∧ Hid (Blk wr (w.heap.size + 1) 64 (arrI [0, 0, 0, 0, 0, 0, 0, 0])) ∧ Hid (Blk wr (w.heap.size + 1 + 1) 64 (arrI (upto (ints (groupsOf l)) k))) ∧ Hid (Below w.heap.size w wr)) (fun i _ => 8 - (intOf i).toNat)
  case atStart =>
    refine ⟨0, by omega, rfl, Lib.hid (((Blk.new _ _ _).alloc _).alloc _), Lib.hid ?_, Lib.hid ?_, Lib.hid (((belowA w _).alloc (by simp) _).alloc (by simp; omega) _)⟩
    · have h := Blk.new (w.alloc (.cells (arrB l) 22)) 64 (arrI [0, 0, 0, 0, 0, 0, 0, 0])
      simp only [World.size_alloc] at h
      exact h.alloc _
    · have h := Blk.new ((w.alloc (.cells (arrB l) 22)).alloc (.cells (arrI [0, 0, 0, 0, 0, 0, 0, 0]) 64)) 64 (arrI (upto (ints (groupsOf l)) 0))
      have e : arrI (upto (ints (groupsOf l)) 0) = arrI [0, 0, 0, 0, 0, 0, 0, 0] := by unfold upto; rw [hgl]; rfl
      rw [e] at h ⊢
      simp only [World.size_alloc] at h
      exact h
  case round =>
    obtain ⟨k, hk, rfl, H1, H2, H3, HB⟩ := hrel
    by_cases hlt : k < 8
    · have q0 : 2 * k < l.length := by omega
      have q1 : 2 * k + 1 < l.length := by omega
      obtain ⟨a, ha⟩ : ∃ a, l[2 * k]? = some a := ⟨l[2 * k], List.getElem?_eq_getElem q0⟩
      obtain ⟨b, hb⟩ : ∃ b, l[2 * k + 1]? = some b := ⟨l[2 * k + 1], List.getElem?_eq_getElem q1⟩
      obtain ⟨m, hm⟩ : ∃ m : Nat, 2 * (k : Int) = (m : Int) := ⟨2 * k, by omega⟩
      have hmk : m = 2 * k := by omega
      have hg := groups_get l k a b ha hb
      have w1 : IntKind.i64.wrap (m : Int) = (m : Int) := IntWalk.i64_in _ (by omega)
      have w2 : IntKind.i64.wrap ((m : Int) + 1) = (m : Int) + 1 := IntWalk.i64_in _ (by omega)
      have b0 : (m : Int) < 16 := by omega
      have b1 : (m : Int) + 1 < 16 := by omega
      have c0 : wr.cell? ⟨w.heap.size, m, none⟩ = some (.int .u8 (a.toNat : Int)) := (H1.out.cell m).trans (by rw [hmk]; exact arrB_get ha)
      have c1 : wr.cell? ⟨w.heap.size, m + 1, none⟩ = some (.int .u8 (b.toNat : Int)) := (H1.out.cell (m + 1)).trans (by rw [hmk]; exact arrB_get hb)
      have f3 := H3.out.frozen' k
      have ce := (H3.out.cell k).trans (arrI_get (n := (upto (ints (groupsOf l)) k)[k]'(by rw [upto_len _ _ (by omega)]; omega)) (List.getElem?_eq_getElem _))
      have ha2 : a.toNat < 256 := a.toNat_lt
      have hb2 : b.toNat < 256 := b.toNat_lt
      have b3 : 0 ≤ (m : Int) + 1 := by omega
      have HS := Lib.hid (upto_set hg)
      clear hg ha hb hmk q0 q1
      generalize a.toNat = x at c0 ha2 HS
      generalize b.toNat = y at c1 hb2 HS
      have w3 : IntKind.i64.wrap (x : Int) = x := IntWalk.i64_in _ (by omega)
      have w4 : IntKind.i64.wrap (y : Int) = y := IntWalk.i64_in _ (by omega)
      have w5 : IntKind.i64.wrap (256 * (x : Int)) = 256 * (x : Int) := IntWalk.i64_in _ (by omega)
      have w6 : IntKind.i64.wrap (256 * (x : Int) + y) = ((256 * x + y : Nat) : Int) := by rw [IntWalk.i64_in _ (by omega)]; omega
      go_wp2_with fail
      go_still_tail 15, (by kernel_rfl)
      change wpList _ _ _ _ _ wr.drew
      go_wp2_with fail
      refine ⟨⟨k + 1, by omega, by go_num, Lib.hid (H1.out.drew.other _ _ (by simp; omega)), Lib.hid (H2.out.drew.other _ _ (by simp)), Lib.hid ?_, Lib.hid ((HB.out.trans (Below.refl _ _).drew).setCell (by simp; omega) _)⟩, by simp [intOf]; omega⟩
      rw [← HS.out, ← arrI_set]
      exact H3.out.drew.set _ _
    · obtain rfl : k = 8 := by omega
      have HL : Hid (upto (ints (groupsOf l)) 8 = ints (groupsOf l)) := by
        have := upto_all (ints (groupsOf l)); rw [hgl] at this; rw [this]; exact Lib.hid rfl
      rw [HL.out] at H3
      obtain ⟨x0, x1, x2, x3, x4, x5, x6, x7, hx⟩ := list8 hgl
      rw [hx] at H3
      obtain ⟨c0, c1, c2, c3, c4, c5, c6, c7⟩ := H3.out.cells8
      have hf := H2.out.frozen'
      obtain ⟨e0, e1, e2, e3, e4, e5, e6, e7⟩ := H2.out.cells8
      go_wp2_with fail
      have hr := H2.out.set8 (x0 := x0) (x1 := x1) (x2 := x2) (x3 := x3) (x4 := x4) (x5 := x5) (x6 := x6) (x7 := x7)
      refine bodyPost_ret (results_cell_row rfl _ _ _ _ _ _ _ rfl hr Tryz.underlying64 rfl info8) rfl ⟨by rw [hx], below_set8 HB.out (by omega)⟩
end Go.Proofs.YtjbolphfelakeaaGreatDoor

/- colon.Of. -/
namespace Go.Proofs.YtjbolphfelakeaaGreatDoor
set_option linter.unusedVariables false
set_option linter.unusedSimpArgs false
open Go.RowKit Go.Shelf Go.Proofs Go.OctetPlain Go.ColonPlain

def uptoB (L : List UInt8) (k : Nat) : List UInt8 := L.take k ++ List.replicate (L.length - k) 0
theorem uptoB_set {L : List UInt8} {k : Nat} {n : UInt8} (h : L[k]? = some n) : (uptoB L k).set k n = uptoB L (k + 1) := by
  obtain ⟨hk, e⟩ := List.getElem?_eq_some_iff.1 h
  unfold uptoB
  have hl : (L.take k).length = k := by rw [List.length_take]; omega
  rw [List.set_append_right _ _ (by omega), hl, Nat.sub_self, List.take_succ_eq_append_getElem hk, e, show L.length - k = (L.length - (k + 1)) + 1 by omega, List.replicate_succ, List.set_cons_zero]
  simp
theorem uptoB_len (L : List UInt8) (k : Nat) (h : k ≤ L.length) : (uptoB L k).length = L.length := by
  unfold uptoB; rw [List.length_append, List.length_take, List.length_replicate]; omega
theorem uptoB_all (L : List UInt8) : uptoB L L.length = L := by simp [uptoB]
/-- the zero address -/
abbrev z16 : List UInt8 := [0, 0, 0, 0, 0, 0, 0, 0, 0, 0, 0, 0, 0, 0, 0, 0]

set_option maxRecDepth 100000 in
set_option maxHeartbeats 800000 in
theorem colon_Of (L : List Int) (hL : L.length = 8) (hb : ∀ (k : Nat) (n : Int), L[k]? = some n → -9223372036854775808 ≤ n ∧ n ≤ 9223372036854775807) (w : World) :
    Calls Tryz.prog 68 #[.agg (arrI L)] w fun e w' => e = .returned (.tuple #[.agg (arrB ((of L).getD z16)), .bool (of L).isSome]) ∧ Below w.heap.size w w' := by
  have hBl : (ofB L).length = 16 := by rw [ofB_length, hL]
  obtain ⟨x0, x1, x2, x3, x4, x5, x6, x7, hx⟩ := list8 hL
  have hX : arrI L = #[.int .i64 x0, .int .i64 x1, .int .i64 x2, .int .i64 x3, .int .i64 x4, .int .i64 x5, .int .i64 x6, .int .i64 x7] := by rw [hx]; rfl
  rw [hX]
  have HX := Lib.hid hX
  clear hX hx
  go_enter Tryz.func68, Tryz.ntmps68
  go_wp2_with fail
  go_loopw [5, 6, 8] (fun _ _ vi wr => ∃ k : Nat, k ≤ 8 ∧ vi = .int .i64 k ∧ Hid (Blk wr (w.heap.size + 1) 22 (arrB z16)) ∧ Hid (Blk wr (w.heap.size + 1 + 1) 22 (arrB (uptoB (ofB L) (2 * k)))) ∧ Hid (∀ (j : Nat) (n : Int), j < k → L[j]? = some n → 0 ≤ n ∧ n ≤ 65535) ∧ Hid (Below w.heap.size w wr)) (fun _ _ i _ => 8 - (intOf i).toNat)
  case atStart =>
    refine ⟨0, by omega, rfl, Lib.hid ?_, Lib.hid ?_, Lib.hid (fun j n h => by omega), Lib.hid (((belowA w _).alloc (by simp) _).alloc (by simp; omega) _)⟩
    · have h := Blk.new (w.alloc (.cells #[.int .i64 x0, .int .i64 x1, .int .i64 x2, .int .i64 x3, .int .i64 x4, .int .i64 x5, .int .i64 x6, .int .i64 x7] 64)) 22 (arrB z16)
      simp only [World.size_alloc] at h
      exact h.alloc _
    · have h := Blk.new ((w.alloc (.cells #[.int .i64 x0, .int .i64 x1, .int .i64 x2, .int .i64 x3, .int .i64 x4, .int .i64 x5, .int .i64 x6, .int .i64 x7] 64)).alloc (.cells (arrB z16) 22)) 22 (arrB (uptoB (ofB L) (2 * 0)))
      have e : arrB (uptoB (ofB L) (2 * 0)) = arrB z16 := by unfold uptoB; rw [hBl]; rfl
      rw [e] at h ⊢
      simp only [World.size_alloc] at h
      exact h
  case round =>
    obtain ⟨k, hk, rfl, H1, H2, HN, HB⟩ := hrel
    by_cases hlt : k < 8
    · obtain ⟨n, hn⟩ : ∃ n, L[k]? = some n := ⟨L[k], List.getElem?_eq_getElem (by omega)⟩
      have hidx := arrI_get hn
      rw [HX.out] at hidx
      have hix := fun W => run_index_ints (w := W) _ k n hlt hidx
      clear hidx
      obtain ⟨hn0, hn1⟩ := hb k n hn
      have HNN := Lib.hid hn
      clear hn hb
      by_cases hbad : n < 0 ∨ 65535 < n
      · have HOF := Lib.hid (of_bad HNN.out hbad)
        obtain ⟨e0, e1, e2, e3, e4, e5, e6, e7, e8, e9, e10, e11, e12, e13, e14, e15⟩ := H1.out.cells16
        have hf := H1.out.frozen'
        rcases hbad with h | h
        all_goals
          go_wp2_with fail
          have hr := Blk.setV16 (x0 := .int .u8 0) (x1 := .int .u8 0) (x2 := .int .u8 0) (x3 := .int .u8 0) (x4 := .int .u8 0) (x5 := .int .u8 0) (x6 := .int .u8 0) (x7 := .int .u8 0) (x8 := .int .u8 0) (x9 := .int .u8 0) (x10 := .int .u8 0) (x11 := .int .u8 0) (x12 := .int .u8 0) (x13 := .int .u8 0) (x14 := .int .u8 0) (x15 := .int .u8 0) (show Blk wr (w.heap.size + 1) _ #[.int .u8 0, .int .u8 0, .int .u8 0, .int .u8 0, .int .u8 0, .int .u8 0, .int .u8 0, .int .u8 0, .int .u8 0, .int .u8 0, .int .u8 0, .int .u8 0, .int .u8 0, .int .u8 0, .int .u8 0, .int .u8 0] from H1.out)
          refine bodyPost_ret (results_cell_tmp rfl _ _ _ _ _ _ _ rfl hr Tryz.underlying22 rfl info16) rfl ⟨by rw [HOF.out]; rfl, below_setV16 HB.out (by omega)⟩
      · obtain ⟨m, hm⟩ : ∃ m : Nat, 2 * (k : Int) = (m : Int) := ⟨2 * k, by omega⟩
        have hmk : m = 2 * k := by omega
        obtain ⟨g0, g1⟩ := ofB_get L k n HNN.out
        have s1 := uptoB_set g0
        have hl2 : (uptoB (ofB L) (2 * k)).length = 16 := by rw [uptoB_len _ _ (by omega), hBl]
        have s2 := uptoB_set g1
        rw [← s1] at s2
        rw [← hmk] at s2 hl2 H2
        have HS := Lib.hid s2
        clear s1 s2 g0 g1
        have p0 : m < (uptoB (ofB L) m).length := by omega
        have p1 : m + 1 < (uptoB (ofB L) m).length := by omega
        have ce0 : wr.cell? ⟨w.heap.size + 1 + 1, m, none⟩ = some (.int .u8 ((uptoB (ofB L) m)[m].toNat : Int)) := (H2.out.cell m).trans (arrB_get (List.getElem?_eq_getElem p0))
        have ce1 : wr.cell? ⟨w.heap.size + 1 + 1, m + 1, none⟩ = some (.int .u8 ((uptoB (ofB L) m)[m + 1].toNat : Int)) := (H2.out.cell (m + 1)).trans (arrB_get (List.getElem?_eq_getElem p1))
        have f0 := H2.out.frozen' m
        have f1 := H2.out.frozen' (m + 1)
        have w1 : IntKind.i64.wrap (m : Int) = (m : Int) := IntWalk.i64_in _ (by omega)
        have w2 : IntKind.i64.wrap ((m : Int) + 1) = (m : Int) + 1 := IntWalk.i64_in _ (by omega)
        have b0 : (m : Int) < 16 := by omega
        have b1 : (m : Int) + 1 < 16 := by omega
        have b3 : 0 ≤ (m : Int) + 1 := by omega
        have HMK := Lib.hid hmk
        generalize (uptoB (ofB L) m)[m].toNat = o0 at ce0
        generalize (uptoB (ofB L) m)[m + 1].toNat = o1 at ce1
        clear p0 p1 hl2 hmk
        obtain ⟨hq0, hq1⟩ : 0 ≤ n ∧ n ≤ 65535 := by omega
        clear hbad
        go_wp2_with fail
        refine ⟨⟨k + 1, by omega, by go_num, Lib.hid ((H1.out.other _ _ (by simp)).other _ _ (by simp)), Lib.hid ?_, Lib.hid ?_, Lib.hid ((HB.out.setCell (by simp; omega) _).setCell (by simp; omega) _)⟩, by simp [intOf]; omega⟩
        · have e : 2 * (k + 1) = m + 1 + 1 := by have := HMK.out; omega
          rw [e, ← HS.out, ← arrB_set, ← arrB_set]
          have q0 : ((UInt8.ofNat (n.toNat / 256)).toNat : Int) = n / 256 := by rw [UInt8.toNat_ofNat']; omega
          have q1 : ((UInt8.ofNat (n.toNat % 256)).toNat : Int) = n % 256 := by rw [UInt8.toNat_ofNat']; omega
          rw [q0, q1]
          exact (H2.out.set _ _).set _ _
        · intro j x hj hx
          rcases Nat.lt_or_ge j k with h | h
          · exact HN.out j x h hx
          · obtain rfl : j = k := by omega
            have := HNN.out.symm.trans hx
            cases this
            exact ⟨hq0, hq1⟩
    · obtain rfl : k = 8 := by omega
      have HL : Hid (uptoB (ofB L) (2 * 8) = ofB L) := by
        have := uptoB_all (ofB L); rw [hBl] at this; rw [this]; exact Lib.hid rfl
      rw [HL.out] at H2
      have hof : of L = some (ofB L) := of_good fun j n hj => HN.out j n (by have := (List.getElem?_eq_some_iff.1 hj).1; omega) hj
      obtain ⟨y0, y1, y2, y3, y4, y5, y6, y7, y8, y9, y10, y11, y12, y13, y14, y15, hy⟩ := list16 hBl
      rw [hy] at H2
      obtain ⟨d0, d1, d2, d3, d4, d5, d6, d7, d8, d9, d10, d11, d12, d13, d14, d15⟩ := H2.out.cells16
      obtain ⟨e0, e1, e2, e3, e4, e5, e6, e7, e8, e9, e10, e11, e12, e13, e14, e15⟩ := H1.out.cells16
      have hf := H1.out.frozen'
      have HOF := Lib.hid hof
      have HY := Lib.hid hy
      clear hof hy HL hb
      go_wp2_with fail
      have hr := Blk.setV16 (x0 := .int .u8 (y0.toNat : Int)) (x1 := .int .u8 (y1.toNat : Int)) (x2 := .int .u8 (y2.toNat : Int)) (x3 := .int .u8 (y3.toNat : Int)) (x4 := .int .u8 (y4.toNat : Int)) (x5 := .int .u8 (y5.toNat : Int)) (x6 := .int .u8 (y6.toNat : Int)) (x7 := .int .u8 (y7.toNat : Int)) (x8 := .int .u8 (y8.toNat : Int)) (x9 := .int .u8 (y9.toNat : Int)) (x10 := .int .u8 (y10.toNat : Int)) (x11 := .int .u8 (y11.toNat : Int)) (x12 := .int .u8 (y12.toNat : Int)) (x13 := .int .u8 (y13.toNat : Int)) (x14 := .int .u8 (y14.toNat : Int)) (x15 := .int .u8 (y15.toNat : Int)) (show Blk wr (w.heap.size + 1) _ #[.int .u8 0, .int .u8 0, .int .u8 0, .int .u8 0, .int .u8 0, .int .u8 0, .int .u8 0, .int .u8 0, .int .u8 0, .int .u8 0, .int .u8 0, .int .u8 0, .int .u8 0, .int .u8 0, .int .u8 0, .int .u8 0] from H1.out)
      refine bodyPost_ret (results_cell_tmp rfl _ _ _ _ _ _ _ rfl hr Tryz.underlying22 rfl info16) rfl ⟨by rw [HOF.out]; simp only [Option.getD_some, Option.isSome_some]; rw [HY.out]; rfl, below_setV16 HB.out (by omega)⟩
end Go.Proofs.YtjbolphfelakeaaGreatDoor
