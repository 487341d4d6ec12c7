/- Part of the proof: contracts of the functions that the statements of layer 32 reach. -/
import Derived.Laws.CopyRow
import Derived.Test.YtdbgeobolongmaaGreatDoorV03
import Derived.Test.YtdbgeobolongmaaGreatDoorV06
import Derived.Test.YtdbgeobolongmaaGreatDoorV16
set_option linter.unusedVariables false
set_option linter.unusedSimpArgs false
set_option maxRecDepth 100000
set_option maxHeartbeats 4000000
namespace Go.Proofs.YtdbgeobolongmaaGreatDoor
open Go.RowKit Go.Shelf Go.Proofs Go.OctetPlain Go.ColonPlain
theorem addr_add (b o i : Nat) : (⟨b, o, none⟩ : Addr).add i = ⟨b, o + i, none⟩ := by unfold Addr.add; split <;> simp_all
theorem copy_nums {W : World} {B : Nat} {t : TypeId} {X : List Int} {va : Value} {a : List Nat} (hB : Blk W B t (arrI X)) (ha : SlR W 1 encN va a) (o dLen dCap : Nat) (hd : a.length ≤ dLen) (ho : o + a.length ≤ X.length) (ty : TypeId) :
  ∃ W', (Builtin.copy_ #[27, 27] ty #[.slice (some ⟨B, o, none⟩) dLen dCap, va]).run Tryz.prog W = .ok (goInt a.length) W' ∧ Blk W' B t (arrI (X.take o ++ ints a ++ X.drop (o + (ints a).length))) ∧ Below B W W' ∧ ∀ g, g ≠ B → W'.heap[g]? = W.heap[g]? := by
 obtain ⟨p, cap, rfl, hc1, hc2, hR⟩ := ha
 have hla : (ints a).length = a.length := ints_len' a
 by_cases h0 : a.length = 0
 ·obtain rfl : a = [] := List.eq_nil_of_length_eq_zero h0
  have hcap : ∃ W', (Builtin.copy_ #[27, 27] ty #[.slice (some ⟨B, o, none⟩) dLen dCap, .slice p 0 cap]).run Tryz.prog W = .ok (goInt 0) W' ∧ W' = W := by
   refine ⟨W, ?_, rfl⟩
   have hs : ((Tryz.prog.info? 3).map (·.size)) = some 1 := by kernel_rfl
   cases hq : Tryz.prog.info? 3 with
   | none => simp [hq] at hs
   | some i => cases p <;> simp [Builtin.copy_, run_underlying Tryz.underlying27, Builtin.lenOf, Builtin.firstCells, sizeOf, typeInfo, hq, storeCells, loadCells, loadCellsFrom]
  obtain ⟨W', h1, rfl⟩ := hcap
  refine ⟨W', h1, ?_, Below.refl _ _, fun _ _ => rfl⟩
  simp only [ints, List.map_nil, List.length_nil, Nat.add_zero, List.append_nil, List.take_append_drop]
  exact hB
 ·obtain ⟨q, rfl⟩ : ∃ q, p = some q := by
   cases p with
   | none => exact absurd (hR.1 rfl) h0
   | some q => exact ⟨q, rfl⟩
  obtain ⟨hsp, hbk, hcl⟩ := hR.2 q rfl h0
  have hq : q = ⟨q.block, q.off, none⟩ := by cases q; simp_all
  have hrun := run_copy_row (P := Tryz.prog) W 27 27 ty 3 B o dLen dCap q a.length cap (arrI X) t ((ints a).map (Value.int .i64)) Tryz.underlying27 (by kernel_rfl) hB (by rw [List.length_map, hla]; exact (Nat.min_eq_left hd).symm)
   (fun j u hu => by
    rw [List.getElem?_map] at hu
    cases hy : a[j]? with
    | none => simp [ints, hy] at hu
    | some y =>
     simp only [ints_get hy, Option.map_some, Option.some.injEq] at hu
     subst hu
     have := hcl j y hy 0 (.int .i64 (y : Int)) rfl
     simp only [Nat.mul_one, Nat.add_zero] at this
     rw [hq]
     rw [addr_add]; exact this)
   (by rw [List.length_map, hla, arrI_size]; exact ho) (by intro u hu; obtain ⟨z, _, rfl⟩ := List.mem_map.1 hu; rfl)
  have hcs : ((ints a).map (Value.int .i64)).length = a.length := by rw [List.length_map, hla]
  have h2 := hB.setRow (((arrI X).toList.take o ++ (ints a).map (Value.int .i64) ++ (arrI X).toList.drop (o + ((ints a).map (Value.int .i64)).length)).toArray)
  have e : ((arrI X).toList.take o ++ (ints a).map (Value.int .i64) ++ (arrI X).toList.drop (o + ((ints a).map (Value.int .i64)).length)).toArray = arrI (X.take o ++ ints a ++ X.drop (o + (ints a).length)) := by
   unfold arrI
   simp [List.map_take, List.map_drop]
  refine ⟨W.setRow B (((arrI X).toList.take o ++ (ints a).map (Value.int .i64) ++ (arrI X).toList.drop (o + ((ints a).map (Value.int .i64)).length)).toArray), hrun.trans (by rw [hcs]), by rw [← e]; exact h2, below_setRow (Below.refl _ _) (Nat.le_refl _) _, fun g hg => setRow_other W B g _ hg⟩
theorem owns_same {W W' : World} {base B : Nat} {e : TypeId} {v : Value} {a : List Nat} (h : W.ownsRow base e 1 v a.length (flat encN a)) (hB : B < base) (hs : ∀ g, g ≠ B → W'.heap[g]? = W.heap[g]?) : SlR W' 1 encN v a := by
 refine SlR.of_owns encN_len (base := base) (e := e) ⟨h.1, ?_⟩
 rcases h.2 with h0 | ⟨g, cap, cur, hv, hb, hg, r⟩
 ·exact .inl h0
 ·exact .inr ⟨g, cap, cur, hv, hb, by rw [hs g (by omega)]; exact hg, r⟩
structure PS (w W : World) : Prop where
 below : Below w.heap.size w W
 b1 : Blk W w.heap.size 24 (arrB z16)
 b2 : Blk W (w.heap.size + 1) 155 (arrI (List.replicate 8 0))
 ct : CT W
theorem PS.next {w W W' : World} (h : PS w W) (hb : Below W.heap.size W W') : PS w W' := ⟨h.below.trans (hb.mono h.below.size), h.b1.below hb h.b1.lt, h.b2.below hb h.b2.lt, h.ct.below hb⟩
theorem colon_Parse (l : List UInt8) (hl : l.length ≤ 1000000) (w : World) (ht : CT w) :
  Calls Tryz.prog 128 #[.string (str l)] w fun e w' => e = .returned (.tuple #[.agg (arrB ((parse l).getD z16)), .bool (parse l).isSome]) ∧ Below w.heap.size w w' := by
 let wz := (w.alloc (.cells (arrB z16) 24)).alloc (.cells #[.int .i64 0, .int .i64 0, .int .i64 0, .int .i64 0, .int .i64 0, .int .i64 0, .int .i64 0, .int .i64 0] 155)
 have hwzb : Below w.heap.size w wz := (belowA w _).trans (belowA2' _ (by simp))
 have hwz1 : Blk wz w.heap.size 24 (arrB z16) := (Blk.new _ _ _).alloc _
 have hwz2 : Blk wz (w.heap.size + 1) 155 (arrI (List.replicate 8 0)) := by
  have h := Blk.new (w.alloc (.cells (arrB z16) 24)) 155 (arrI (List.replicate 8 0))
  rw [World.size_alloc] at h
  exact h
 have hct := ht.below hwzb
 obtain ⟨m, hm⟩ := hct.ml
 obtain ⟨hcl1, hcl2⟩ := cut_le l
 have hcon := Any.strings_Cut { Tryz.cut with } (str l) ⟨#[58, 58]⟩ m wz (by rw [str_size]; omega) hm
 change Calls Tryz.prog 135 _ _ _ at hcon
 have HC : Hid (Calls Tryz.prog 135 #[.string (str l), .string ⟨#[58, 58]⟩] wz fun e w' => e = .returned (.tuple #[.string (str (Lib.cut l [58, 58]).1), .string (str (Lib.cut l [58, 58]).2.1), .bool (Lib.cut l [58, 58]).2.2]) ∧ ∃ n, w' = wz.drewN n) := hcon
 have HPA := qh (parse_none_a (s := l))
 have HPB := qh (parse_none_b (s := l))
 have HPS := qh (fun a b => parse_some (s := l) (a := a) (b := b))
 clear hcon hm
 generalize Lib.cut l [58, 58] = q at HC HPA HPB HPS hcl1 hcl2
 obtain ⟨front, back, parted⟩ := q
 simp only at HC HPA HPB HPS hcl1 hcl2
 have HRA := qh fun W h => colon_row front (by omega) (!parted) W h
 have HRB := qh fun W h => colon_row back (by omega) true W h
 have HWZ := qh (⟨hwzb, hwz1, hwz2, hct⟩ : Below w.heap.size w wz ∧ Blk wz w.heap.size 24 (arrB z16) ∧ Blk wz (w.heap.size + 1) 155 (arrI (List.replicate 8 0)) ∧ CT wz)
 clear hwzb hwz1 hwz2 hct ht
 go_enter Tryz.func128, Tryz.ntmps128
 go_wp2_with fail
 refine HC.out.mono ?_
 rintro e w1 ⟨rfl, n, hw1⟩
 have P1 : PS w w1 := by subst hw1; exact ⟨below_drewN HWZ.out.1 _, HWZ.out.2.1.drewN _, HWZ.out.2.2.1.drewN _, HWZ.out.2.2.2.below (below_drewN (Below.refl _ _) _)⟩
 clear hw1 HWZ
 go_wp2_with fail
 refine (HRA.out w1 P1.ct).mono ?_
 rintro e w2 ⟨va, rfl, hoa, hb2⟩
 have P2 := P1.next hb2
 have hz12 := P1.b2.lt
 have hz12' := hb2.size
 clear P1 hb2
 go_wp2_with fail
 refine (HRB.out w2 P2.ct).mono ?_
 rintro e w3 ⟨vb, rfl, hob, hb3⟩
 have P3 := P2.next hb3
 have hoa3 := owns_below hoa hb3 (Nat.le_refl _)
 have hz23' := hb3.size
 clear P2 hb3 hoa HRA HRB
 cases hra : row (!parted) front with
 | none =>
  have HN : Hid (parse l = none) := HPA.out hra
  rw [hra] at hoa3
  obtain ⟨pa, capa, rfl, _, _, _⟩ := SlR.of_owns encN_len hoa3
  obtain ⟨pb, capb, rfl, _, _, _⟩ := SlR.of_owns encN_len hob
  have hlb : ((row true back).getD []).length ≤ 4000000 := by
   cases hrb : row true back with
   | none => simp
   | some b => have := row_le hrb; simp only [Option.getD_some]; omega
  generalize ((row true back).getD []).length = lb at *
  generalize (row true back).isSome = sb at *
  clear hoa3 hob hra
  obtain ⟨e0, e1, e2, e3, e4, e5, e6, e7, e8, e9, e10, e11, e12, e13, e14, e15⟩ := P3.b1.cells16
  have hf := P3.b1.frozen'
  have HP3 := qh P3
  clear P3
  go_wp2_with fail
  have hr := Blk.setV16 (x0 := .int .u8 0) (x1 := .int .u8 0) (x2 := .int .u8 0) (x3 := .int .u8 0) (x4 := .int .u8 0) (x5 := .int .u8 0) (x6 := .int .u8 0) (x7 := .int .u8 0) (x8 := .int .u8 0) (x9 := .int .u8 0) (x10 := .int .u8 0) (x11 := .int .u8 0) (x12 := .int .u8 0) (x13 := .int .u8 0) (x14 := .int .u8 0) (x15 := .int .u8 0) (show Blk w3 w.heap.size _ #[.int .u8 0, .int .u8 0, .int .u8 0, .int .u8 0, .int .u8 0, .int .u8 0, .int .u8 0, .int .u8 0, .int .u8 0, .int .u8 0, .int .u8 0, .int .u8 0, .int .u8 0, .int .u8 0, .int .u8 0, .int .u8 0] from HP3.out.b1)
  refine bodyPost_ret (results_cell_tmp rfl _ _ _ _ _ _ _ rfl hr Tryz.underlying24 rfl info16) rfl ⟨by rw [HN.out]; rfl, below_setV16 HP3.out.below (Nat.le_refl _)⟩
 | some a =>
  have hla := row_le hra
  rw [hra] at hoa3
  simp only [Option.getD_some] at hoa3
  cases hrb : row true back with
  | none =>
   have HN : Hid (parse l = none) := HPB.out hrb
   rw [hrb] at hob
   obtain ⟨pa, capa, rfl, _, _, _⟩ := SlR.of_owns encN_len hoa3
   obtain ⟨pb, capb, rfl, _, _, _⟩ := SlR.of_owns encN_len hob
   clear hoa3 hob hra hrb
   obtain ⟨e0, e1, e2, e3, e4, e5, e6, e7, e8, e9, e10, e11, e12, e13, e14, e15⟩ := P3.b1.cells16
   have hf := P3.b1.frozen'
   have HP3 := qh P3
   clear P3
   go_wp2_with fail
   have hr := Blk.setV16 (x0 := .int .u8 0) (x1 := .int .u8 0) (x2 := .int .u8 0) (x3 := .int .u8 0) (x4 := .int .u8 0) (x5 := .int .u8 0) (x6 := .int .u8 0) (x7 := .int .u8 0) (x8 := .int .u8 0) (x9 := .int .u8 0) (x10 := .int .u8 0) (x11 := .int .u8 0) (x12 := .int .u8 0) (x13 := .int .u8 0) (x14 := .int .u8 0) (x15 := .int .u8 0) (show Blk w3 w.heap.size _ #[.int .u8 0, .int .u8 0, .int .u8 0, .int .u8 0, .int .u8 0, .int .u8 0, .int .u8 0, .int .u8 0, .int .u8 0, .int .u8 0, .int .u8 0, .int .u8 0, .int .u8 0, .int .u8 0, .int .u8 0, .int .u8 0] from HP3.out.b1)
   refine bodyPost_ret (results_cell_tmp rfl _ _ _ _ _ _ _ rfl hr Tryz.underlying24 rfl info16) rfl ⟨by rw [HN.out]; rfl, below_setV16 HP3.out.below (Nat.le_refl _)⟩
  | some b =>
   have hlb := row_le hrb
   rw [hrb] at hob
   simp only [Option.getD_some] at hob
   have HS := qh (HPS.out a b hra hrb)
   have e1 : IntKind.i64.wrap ((8 : Int) - a.length) = (8 : Int) - a.length := IntWalk.i64_in _ (by omega)
   have e2 : IntKind.i64.wrap ((8 : Int) - a.length - b.length) = (8 : Int) - a.length - b.length := IntWalk.i64_in _ (by omega)
   by_cases hbad : (parted = true ∧ 7 < a.length + b.length) ∨ (parted = false ∧ a.length + b.length ≠ 8)
   ·have HN : Hid (parse l = none) := by rw [HS.out, if_pos hbad]; exact qh rfl
    obtain ⟨pa, capa, rfl, _, _, _⟩ := SlR.of_owns encN_len hoa3
    obtain ⟨pb, capb, rfl, _, _, _⟩ := SlR.of_owns encN_len hob
    clear hoa3 hob hra hrb
    rcases hbad with ⟨rfl, h⟩ | ⟨rfl, h⟩
    ·have hi : (8 : Int) - a.length - b.length < 1 := by omega
     obtain ⟨e0, e1, e2, e3, e4, e5, e6, e7, e8, e9, e10, e11, e12, e13, e14, e15⟩ := P3.b1.cells16
     have hf := P3.b1.frozen'
     have HP3 := qh P3
     clear P3
     go_wp2_with fail
     have hr := Blk.setV16 (x0 := .int .u8 0) (x1 := .int .u8 0) (x2 := .int .u8 0) (x3 := .int .u8 0) (x4 := .int .u8 0) (x5 := .int .u8 0) (x6 := .int .u8 0) (x7 := .int .u8 0) (x8 := .int .u8 0) (x9 := .int .u8 0) (x10 := .int .u8 0) (x11 := .int .u8 0) (x12 := .int .u8 0) (x13 := .int .u8 0) (x14 := .int .u8 0) (x15 := .int .u8 0) (show Blk w3 w.heap.size _ #[.int .u8 0, .int .u8 0, .int .u8 0, .int .u8 0, .int .u8 0, .int .u8 0, .int .u8 0, .int .u8 0, .int .u8 0, .int .u8 0, .int .u8 0, .int .u8 0, .int .u8 0, .int .u8 0, .int .u8 0, .int .u8 0] from HP3.out.b1)
     refine bodyPost_ret (results_cell_tmp rfl _ _ _ _ _ _ _ rfl hr Tryz.underlying24 rfl info16) rfl ⟨by rw [HN.out]; rfl, below_setV16 HP3.out.below (Nat.le_refl _)⟩
    ·have hi : ((8 : Int) - a.length - b.length == 0) = false := by rw [beq_eq_false_iff_ne]; omega
     obtain ⟨e0, e1, e2, e3, e4, e5, e6, e7, e8, e9, e10, e11, e12, e13, e14, e15⟩ := P3.b1.cells16
     have hf := P3.b1.frozen'
     have HP3 := qh P3
     clear P3
     go_wp2_with fail
     have hr := Blk.setV16 (x0 := .int .u8 0) (x1 := .int .u8 0) (x2 := .int .u8 0) (x3 := .int .u8 0) (x4 := .int .u8 0) (x5 := .int .u8 0) (x6 := .int .u8 0) (x7 := .int .u8 0) (x8 := .int .u8 0) (x9 := .int .u8 0) (x10 := .int .u8 0) (x11 := .int .u8 0) (x12 := .int .u8 0) (x13 := .int .u8 0) (x14 := .int .u8 0) (x15 := .int .u8 0) (show Blk w3 w.heap.size _ #[.int .u8 0, .int .u8 0, .int .u8 0, .int .u8 0, .int .u8 0, .int .u8 0, .int .u8 0, .int .u8 0, .int .u8 0, .int .u8 0, .int .u8 0, .int .u8 0, .int .u8 0, .int .u8 0, .int .u8 0, .int .u8 0] from HP3.out.b1)
     refine bodyPost_ret (results_cell_tmp rfl _ _ _ _ _ _ _ rfl hr Tryz.underlying24 rfl info16) rfl ⟨by rw [HN.out]; rfl, below_setV16 HP3.out.below (Nat.le_refl _)⟩
   ·have HN : Hid (parse l = of (ints (a ++ List.replicate (8 - a.length - b.length) 0 ++ b))) := by rw [HS.out, if_neg hbad]; exact qh rfl
    have hsum : a.length + b.length ≤ 8 := by cases parted <;> simp at hbad <;> omega
    obtain ⟨q, hq⟩ : ∃ q : Nat, q + b.length = 8 := ⟨8 - b.length, by omega⟩
    have hcond : (parted = true ∧ ¬ (8 : Int) - a.length - b.length < 1) ∨ (parted = false ∧ (8 : Int) - a.length - b.length = 0) := by
     cases parted
     ·simp at hbad; exact Or.inr ⟨rfl, by omega⟩
     ·simp at hbad; exact Or.inl ⟨rfl, by omega⟩
    have hFl : (ints (a ++ List.replicate (8 - a.length - b.length) 0 ++ b)).length = 8 := by rw [ints_len', List.length_append, List.length_append, List.length_replicate]; omega
    have hFb : ∀ (k : Nat) (n : Int), (ints (a ++ List.replicate (8 - a.length - b.length) 0 ++ b))[k]? = some n → -9223372036854775808 ≤ n ∧ n ≤ 9223372036854775807 := by
     intro k n hn
     have hmem := List.mem_of_getElem? hn
     unfold ints at hmem
     obtain ⟨x, hx, rfl⟩ := List.mem_map.1 hmem
     have hx6 : x < 65536 := by
      rcases List.mem_append.1 hx with hx | hx
      ·rcases List.mem_append.1 hx with hx | hx
       ·exact row_lt hra x hx
       ·rw [(List.mem_replicate.1 hx).2]; omega
      ·exact row_lt hrb x hx
     simp only [Int.ofNat_eq_natCast]
     omega
    obtain ⟨W1, hr1, hB1, hbel1, hs1⟩ := copy_nums P3.b2 (SlR.of_owns encN_len hoa3) 0 8 8 (by omega) (by simp; omega) 3
    rw [fill_front (by omega)] at hB1
    have hSb := owns_same (W' := W1) hob (by omega) hs1
    have hl1 : (ints a ++ List.replicate (8 - a.length) (0 : Int)).length = 8 := by rw [List.length_append, ints_len', List.length_replicate]; omega
    have hcopy : ∃ W2, ((q < 8 ∧ (Builtin.copy_ #[27, 27] 3 #[.slice (some ⟨w.heap.size + 1, q, none⟩) (8 - q) (8 - q), vb]).run Tryz.prog W1 = .ok (goInt b.length) W2) ∨ (q = 8 ∧ (Builtin.copy_ #[27, 27] 3 #[.slice (some ⟨w.heap.size + 1, 0, none⟩) 0 0, vb]).run Tryz.prog W1 = .ok (goInt b.length) W2)) ∧ Blk W2 (w.heap.size + 1) 155 (arrI (ints (a ++ List.replicate (8 - a.length - b.length) 0 ++ b))) ∧ Below (w.heap.size + 1) W1 W2 ∧ ∀ g, g ≠ w.heap.size + 1 → W2.heap[g]? = W1.heap[g]? := by
     rcases Nat.lt_or_ge q 8 with h8 | h8
     ·obtain ⟨W2, hr2, hB2, hbel2, hs2⟩ := copy_nums hB1 hSb q (8 - q) (8 - q) (by omega) (by rw [hl1]; omega) 3
      rw [fill_back hsum hq] at hB2
      exact ⟨W2, Or.inl ⟨h8, hr2⟩, hB2, hbel2, hs2⟩
     ·obtain ⟨W2, hr2, hB2, hbel2, hs2⟩ := copy_nums hB1 hSb 0 0 0 (by omega) (by rw [hl1]; omega) 3
      have hb0 : b = [] := List.eq_nil_of_length_eq_zero (by omega)
      have e : (ints a ++ List.replicate (8 - a.length) (0 : Int)).take 0 ++ ints b ++ (ints a ++ List.replicate (8 - a.length) (0 : Int)).drop (0 + (ints b).length) = ints (a ++ List.replicate (8 - a.length - b.length) 0 ++ b) := by
       rw [hb0, ints_app, ints_app, ints_rep]
       simp [ints]
      rw [e] at hB2
      exact ⟨W2, Or.inr ⟨by omega, hr2⟩, hB2, hbel2, hs2⟩
    obtain ⟨W2, hcp, hB2, hbel2, hs2⟩ := hcopy
    have hO := fun W => colon_Of _ hFl hFb W
    have hR16 : ((of (ints (a ++ List.replicate (8 - a.length - b.length) 0 ++ b))).getD z16).length = 16 := by
     cases ho : of (ints (a ++ List.replicate (8 - a.length - b.length) 0 ++ b)) with
     | none => rfl
     | some c => have := of_length _ c ho; rw [hFl] at this; exact this
    have hbelow : Below w.heap.size w W2 := (P3.below.trans (hbel1.mono (Nat.le_succ _))).trans (hbel2.mono (Nat.le_succ _))
    have hb1 : Blk W2 w.heap.size 24 (arrB z16) := (hs2 _ (by omega)).trans ((hs1 _ (by omega)).trans P3.b1)
    clear hra hrb P3 hbel1 hbel2 hs1 hs2 HS hbad hB1 hSb hl1 hFb
    generalize ints (a ++ List.replicate (8 - a.length - b.length) 0 ++ b) = F at *
    obtain ⟨f0, f1, f2, f3, f4, f5, f6, f7, hF⟩ := list8 hFl
    have HF := qh hF
    obtain ⟨y0, y1, y2, y3, y4, y5, y6, y7, y8, y9, y10, y11, y12, y13, y14, y15, hy⟩ := list16 hR16
    have HO : Hid (∀ W, Calls Tryz.prog 160 #[.agg #[.int .i64 f0, .int .i64 f1, .int .i64 f2, .int .i64 f3, .int .i64 f4, .int .i64 f5, .int .i64 f6, .int .i64 f7]] W fun e w' => e = .returned (.tuple #[.agg #[.int .u8 (y0.toNat : Int), .int .u8 (y1.toNat : Int), .int .u8 (y2.toNat : Int), .int .u8 (y3.toNat : Int), .int .u8 (y4.toNat : Int), .int .u8 (y5.toNat : Int), .int .u8 (y6.toNat : Int), .int .u8 (y7.toNat : Int), .int .u8 (y8.toNat : Int), .int .u8 (y9.toNat : Int), .int .u8 (y10.toNat : Int), .int .u8 (y11.toNat : Int), .int .u8 (y12.toNat : Int), .int .u8 (y13.toNat : Int), .int .u8 (y14.toNat : Int), .int .u8 (y15.toNat : Int)], .bool (of F).isSome]) ∧ Below W.heap.size W w') := by
     have h := hO
     rw [hy] at h
     conv at h => enter [W, 3]; rw [hF]
     exact qh h
    have HY := qh hy
    rw [hF] at hB2
    obtain ⟨c0, c1, c2, c3, c4, c5, c6, c7⟩ := hB2.cells8
    have HB1 := qh hb1
    have HBL := qh hbelow
    have hlt2 := hb1.lt
    have hal : Tryz.prog.arrayLen 155 = 8 := by kernel_rfl
    have hqi : (8 : Int) - b.length = (q : Int) := by omega
    have hq8 : (q : Int) ≤ 8 := by omega
    have hw0 : IntKind.i64.wrap (q : Int) = q := IntWalk.i64_in _ (by omega)
    clear hO hy hF hB2 hR16 hb1 hbelow
    obtain ⟨pa, capa, rfl, _, _, _⟩ := SlR.of_owns encN_len hoa3
    obtain ⟨pb, capb, rfl, _, _, _⟩ := SlR.of_owns encN_len hob
    clear hoa3 hob
    rcases hcp with ⟨hq9, hr2⟩ | ⟨hq9, hr2⟩
    ·have hne8 : ¬ 8 = q := by omega
     rcases hcond with ⟨rfl, hi⟩ | ⟨rfl, hi⟩
     all_goals
      go_wp2_with fail
      refine (HO.out _).mono ?_
      rintro e w6 ⟨rfl, hb6⟩
      have hbk : Blk w6 w.heap.size 24 (arrB z16) := HB1.out.below hb6 hlt2
      obtain ⟨e0, e1, e2, e3, e4, e5, e6, e7, e8, e9, e10, e11, e12, e13, e14, e15⟩ := hbk.cells16
      have hf := hbk.frozen'
      have HBK := qh hbk
      have HB6 := qh (HBL.out.trans (hb6.mono HBL.out.size))
      clear hbk hb6
      go_wp2_with fail
      have hr := Blk.setV16 (x0 := .int .u8 (y0.toNat : Int)) (x1 := .int .u8 (y1.toNat : Int)) (x2 := .int .u8 (y2.toNat : Int)) (x3 := .int .u8 (y3.toNat : Int)) (x4 := .int .u8 (y4.toNat : Int)) (x5 := .int .u8 (y5.toNat : Int)) (x6 := .int .u8 (y6.toNat : Int)) (x7 := .int .u8 (y7.toNat : Int)) (x8 := .int .u8 (y8.toNat : Int)) (x9 := .int .u8 (y9.toNat : Int)) (x10 := .int .u8 (y10.toNat : Int)) (x11 := .int .u8 (y11.toNat : Int)) (x12 := .int .u8 (y12.toNat : Int)) (x13 := .int .u8 (y13.toNat : Int)) (x14 := .int .u8 (y14.toNat : Int)) (x15 := .int .u8 (y15.toNat : Int)) (show Blk w6 w.heap.size _ #[.int .u8 0, .int .u8 0, .int .u8 0, .int .u8 0, .int .u8 0, .int .u8 0, .int .u8 0, .int .u8 0, .int .u8 0, .int .u8 0, .int .u8 0, .int .u8 0, .int .u8 0, .int .u8 0, .int .u8 0, .int .u8 0] from HBK.out)
      refine bodyPost_ret (results_cell_tmp rfl _ _ _ _ _ _ _ rfl hr Tryz.underlying24 rfl info16) rfl ⟨by rw [HN.out, HY.out]; rfl, below_setV16 HB6.out (Nat.le_refl _)⟩
    ·subst hq9
     rcases hcond with ⟨rfl, hi⟩ | ⟨rfl, hi⟩
     all_goals
      go_wp2_with fail
      refine (HO.out _).mono ?_
      rintro e w6 ⟨rfl, hb6⟩
      have hbk : Blk w6 w.heap.size 24 (arrB z16) := HB1.out.below hb6 hlt2
      obtain ⟨e0, e1, e2, e3, e4, e5, e6, e7, e8, e9, e10, e11, e12, e13, e14, e15⟩ := hbk.cells16
      have hf := hbk.frozen'
      have HBK := qh hbk
      have HB6 := qh (HBL.out.trans (hb6.mono HBL.out.size))
      clear hbk hb6
      go_wp2_with fail
      have hr := Blk.setV16 (x0 := .int .u8 (y0.toNat : Int)) (x1 := .int .u8 (y1.toNat : Int)) (x2 := .int .u8 (y2.toNat : Int)) (x3 := .int .u8 (y3.toNat : Int)) (x4 := .int .u8 (y4.toNat : Int)) (x5 := .int .u8 (y5.toNat : Int)) (x6 := .int .u8 (y6.toNat : Int)) (x7 := .int .u8 (y7.toNat : Int)) (x8 := .int .u8 (y8.toNat : Int)) (x9 := .int .u8 (y9.toNat : Int)) (x10 := .int .u8 (y10.toNat : Int)) (x11 := .int .u8 (y11.toNat : Int)) (x12 := .int .u8 (y12.toNat : Int)) (x13 := .int .u8 (y13.toNat : Int)) (x14 := .int .u8 (y14.toNat : Int)) (x15 := .int .u8 (y15.toNat : Int)) (show Blk w6 w.heap.size _ #[.int .u8 0, .int .u8 0, .int .u8 0, .int .u8 0, .int .u8 0, .int .u8 0, .int .u8 0, .int .u8 0, .int .u8 0, .int .u8 0, .int .u8 0, .int .u8 0, .int .u8 0, .int .u8 0, .int .u8 0, .int .u8 0] from HBK.out)
      refine bodyPost_ret (results_cell_tmp rfl _ _ _ _ _ _ _ rfl hr Tryz.underlying24 rfl info16) rfl ⟨by rw [HN.out, HY.out]; rfl, below_setV16 HB6.out (Nat.le_refl _)⟩
end Go.Proofs.YtdbgeobolongmaaGreatDoor
