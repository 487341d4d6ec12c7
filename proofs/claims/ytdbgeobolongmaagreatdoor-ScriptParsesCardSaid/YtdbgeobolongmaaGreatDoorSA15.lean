/- Part of the proof: ScriptLines, ScriptParses, ScriptShows. -/
import Derived.Laws.CopyRow
import Derived.Test.YtdbgeobolongmaaGreatDoorSA11
set_option linter.unusedVariables false
set_option linter.unusedSimpArgs false
set_option maxRecDepth 100000
set_option maxHeartbeats 4000000
namespace Go.Proofs.YtdbgeobolongmaaGreatDoor
open Go.RowKit Go.Shelf Go.Proofs Go.OctetPlain Go.ColonPlain Go.Proofs.Tryz
theorem addr_add (b o i : Nat) : (⟨b, o, none⟩ : Addr).add i = ⟨b, o + i, none⟩ := by unfold Addr.add; split <;> simp_all
theorem zAy {W : World} {B : Nat} {t : TypeId} {X : List Int} {va : Value} {a : List Nat} (hB : Blk W B t (arrI X)) (ha : SlR W 1 encN va a) (o dLen dCap : Nat) (hd : a.length <= dLen) (ho : o + a.length <= X.length) (ty : TypeId) :
  ∃ W', (Builtin.copy_ #[27, 27] ty #[.slice (some ⟨B, o, none⟩) dLen dCap, va]).run prog W = .ok (goInt a.length) W' /\ Blk W' B t (arrI (X.take o ++ ints a ++ X.drop (o + (ints a).length))) /\ Below B W W' /\ ∀ g, g ≠ B -> W'.heap[g]? = W.heap[g]? := by
 obtain ⟨p, cap, rfl, hc1, hc2, hR⟩ := ha; have hla : (ints a).length = a.length := ints_len' a
 by_cases h0 : a.length = 0
 ·obtain rfl : a = [] := zX h0
  have hcap : ∃ W', (Builtin.copy_ #[27, 27] ty #[.slice (some ⟨B, o, none⟩) dLen dCap, .slice p 0 cap]).run prog W = .ok (goInt 0) W' /\ W' = W := by
   refine ⟨W, ?_, rfl⟩; have hs : ((prog.info? 3).map (·.size)) = some 1 := kf
   cases hq : prog.info? 3 with
   | none => simp [hq] at hs
   | some i => cases p <;> simp [Builtin.copy_, run_underlying underlying27, Builtin.lenOf, Builtin.firstCells, sizeOf, typeInfo, hq, storeCells, loadCells, loadCellsFrom]
  obtain ⟨W', h1, rfl⟩ := hcap; refine ⟨W', h1, ?_, xE _ _, fun _ _ => rfl⟩; simp only [ints, xH, xI, xN, vC, kC]; exact hB
 ·obtain ⟨q, rfl⟩ : ∃ q, p = some q := by
   cases p with
   | none => exact absurd (hR.1 rfl) h0
   | some q => exact ⟨q, rfl⟩
  obtain ⟨hsp, hbk, hcl⟩ := hR.2 q rfl h0; have hq : q = ⟨q.block, q.off, none⟩ := by cases q; simp_all
  have hrun := run_copy_row (P := prog) W 27 27 ty 3 B o dLen dCap q a.length cap (arrI X) t ((ints a).map (Value.int .i64)) underlying27 kf hB (by rw [yX, hla]; exact (Nat.min_eq_left hd).symm)
   (fun j u hu => by
    rw [jL] at hu
    cases hy : a[j]? with
    | none => simp [ints, hy] at hu
    |some y =>
     simp only [lL hy, mZ, uX] at hu; subst hu; have := hcl j y hy 0 (.int .i64 (y : Int)) rfl; simp only [jN, xN] at this; rw [hq]; rw [addr_add]; exact this)
   (by rw [yX, hla, zEf]; exact ho) (by intro u hu; obtain ⟨z, _, rfl⟩ := vB.1 hu; rfl)
  have hcs : ((ints a).map (Value.int .i64)).length = a.length := by rw [yX, hla]
  have h2 := hB.setRow (((arrI X).toList.take o ++ (ints a).map (Value.int .i64) ++ (arrI X).toList.drop (o + ((ints a).map (Value.int .i64)).length)).toArray)
  have e : ((arrI X).toList.take o ++ (ints a).map (Value.int .i64) ++ (arrI X).toList.drop (o + ((ints a).map (Value.int .i64)).length)).toArray = arrI (X.take o ++ ints a ++ X.drop (o + (ints a).length)) := by
   unfold arrI; simp [List.map_take, List.map_drop]
  refine ⟨W.setRow B (((arrI X).toList.take o ++ (ints a).map (Value.int .i64) ++ (arrI X).toList.drop (o + ((ints a).map (Value.int .i64)).length)).toArray), hrun.trans (by rw [hcs]), by rw [← e]; exact h2, below_setRow zb zn _, fun g hg => setRow_other W B g _ hg⟩
theorem owns_same {W W' : World} {base B : Nat} {e : TypeId} {v : Value} {a : List Nat} (h : W.ownsRow base e 1 v a.length (flat encN a)) (hB : B < base) (hs : ∀ g, g ≠ B -> W'.heap[g]? = W.heap[g]?) : SlR W' 1 encN v a := by
 refine SlR.of_owns bW (base := base) (e := e) ⟨h.1, ?_⟩
 rcases h.2 with h0 | ⟨g, cap, cur, hv, hb, hg, r⟩
 ·exact .inl h0
 ·exact .inr ⟨g, cap, cur, hv, hb, by rw [hs g om]; exact hg, r⟩
structure PS (w W : World) : Prop where
 below : zW w W
 b1 : Blk W w.heap.size 24 (arrB z16)
 b2 : Blk W (w.heap.size + 1) 155 (arrI (List.replicate 8 0))
 ct : CT W
theorem PS.next {w W W' : World} (h : PS w W) (hb : zW W W') : PS w W' := ⟨h.below.trans (hb.mono h.below.size), h.b1.below hb h.b1.lt, h.b2.below hb h.b2.lt, h.ct.below hb⟩
theorem zFi (l : List UInt8) (hl : l.length <= 1000000) (w : World) (ht : CT w) :
  zCB 128 #[.string (str l)] w (.tuple #[.agg (arrB ((parse l).getD z16)), .bool (parse l).isSome]) := by
 let wz := (w.alloc (.cells (arrB z16) 24)).alloc (.cells #[.int .i64 0, .int .i64 0, .int .i64 0, .int .i64 0, .int .i64 0, .int .i64 0, .int .i64 0, .int .i64 0] 155)
 have hwzb : zW w wz := (yD w _).trans (belowA2' _ zi); have hwz1 : Blk wz w.heap.size 24 (arrB z16) := (Blk.new _ _ _).alloc _
 have hwz2 : Blk wz (w.heap.size + 1) 155 (arrI (List.replicate 8 0)) := by
  have h := Blk.new (w.alloc (.cells (arrB z16) 24)) 155 (arrI (List.replicate 8 0)); rw [xG] at h; exact h
 have hct := ht.below hwzb; obtain ⟨m, hm⟩ := hct.ml; obtain ⟨hcl1, hcl2⟩ := cut_le l; have hcon := Any.strings_Cut { Tryz.cut with } (str l) ⟨#[58, 58]⟩ m wz (by rw [zZ]; omega) hm; change Calls prog 135 _ _ _ at hcon; have HC : Hid (Calls prog 135 #[.string (str l), .string ⟨#[58, 58]⟩] wz fun e w' => e = .returned (.tuple #[.string (str (Lib.cut l [58, 58]).1), .string (str (Lib.cut l [58, 58]).2.1), .bool (Lib.cut l [58, 58]).2.2]) /\ ∃ n, w' = wz.drewN n) := hcon; have HPA := qh (rJ (s := l)); have HPB := qh (pY (s := l)); have HPS := qh (fun a b => oC (s := l) (a := a) (b := b)); clear hcon hm; generalize Lib.cut l [58, 58] = q at HC HPA HPB HPS hcl1 hcl2; obtain ⟨front, back, parted⟩ := q; simp only at HC HPA HPB HPS hcl1 hcl2; have HRA := qh fun W h => colon_row front om (!parted) W h; have HRB := qh fun W h => colon_row back om true W h; have HWZ := qh (⟨hwzb, hwz1, hwz2, hct⟩ : zW w wz /\ Blk wz w.heap.size 24 (arrB z16) /\ Blk wz (w.heap.size + 1) 155 (arrI (List.replicate 8 0)) /\ CT wz); clear hwzb hwz1 hwz2 hct ht
 go_enter func128, ntmps128
 go_wp2_with fail
 refine HC.o.mono ?_; rintro e w1 ⟨rfl, n, hw1⟩; have P1 : PS w w1 := by subst hw1; exact ⟨below_drewN HWZ.o.1 _, HWZ.o.2.1.drewN _, HWZ.o.2.2.1.drewN _, HWZ.o.2.2.2.below (below_drewN zb _)⟩
 clear hw1 HWZ; go_wp2_with fail
 refine (HRA.o w1 P1.ct).mono ?_; rintro e w2 ⟨va, rfl, hoa, hb2⟩; have P2 := P1.next hb2; have hz12 := P1.b2.lt; have hz12' := hb2.size; clear P1 hb2; go_wp2_with fail
 refine (HRB.o w2 P2.ct).mono ?_; rintro e w3 ⟨vb, rfl, hob, hb3⟩; have P3 := P2.next hb3; have hoa3 := vL hoa hb3 zn; have hz23' := hb3.size; clear P2 hb3 hoa HRA HRB
 cases hra : row (!parted) front with
 |none =>
  have HN : Hid (parse l = none) := HPA.o hra; rw [hra] at hoa3; obtain ⟨pa, capa, rfl, _, _, _⟩ := SlR.of_owns bW hoa3; obtain ⟨pb, capb, rfl, _, _, _⟩ := SlR.of_owns bW hob
  have hlb : ((row true back).getD []).length <= 4000000 := by
   cases hrb : row true back with
   | none => simp
   | some b => have := zEb hrb; simp only [vI]; omega
  generalize ((row true back).getD []).length = lb at *; generalize (row true back).isSome = sb at *; clear hoa3 hob hra; obtain ⟨e0, e1, e2, e3, e4, e5, e6, e7, e8, e9, e10, e11, e12, e13, e14, e15⟩ := P3.b1.cells16; have hf := P3.b1.frozen'; have HP3 := qh P3; clear P3
  go_wp2
  refine zC (results_cell_tmp rfl _ _ _ _ _ _ _ rfl (Blk.setV16 (Blk.z16 (HP3.o.b1))) underlying24 rfl rH) rfl ⟨by rw [HN.o]; rfl, kN HP3.o.below zn⟩
 |some a =>
  have hla := zEb hra; rw [hra] at hoa3; simp only [vI] at hoa3
  cases hrb : row true back with
  |none =>
   have HN : Hid (parse l = none) := HPB.o hrb; rw [hrb] at hob; obtain ⟨pa, capa, rfl, _, _, _⟩ := SlR.of_owns bW hoa3; obtain ⟨pb, capb, rfl, _, _, _⟩ := SlR.of_owns bW hob; clear hoa3 hob hra hrb; obtain ⟨e0, e1, e2, e3, e4, e5, e6, e7, e8, e9, e10, e11, e12, e13, e14, e15⟩ := P3.b1.cells16; have hf := P3.b1.frozen'; have HP3 := qh P3; clear P3
   go_wp2
   refine zC (results_cell_tmp rfl _ _ _ _ _ _ _ rfl (Blk.setV16 (Blk.z16 (HP3.o.b1))) underlying24 rfl rH) rfl ⟨by rw [HN.o]; rfl, kN HP3.o.below zn⟩
  |some b =>
   have hlb := zEb hrb; rw [hrb] at hob; simp only [vI] at hob; have HS := qh (HPS.o a b hra hrb); have e1 : IntKind.i64.wrap ((8 : Int) - a.length) = (8 : Int) - a.length := yT _ om; have e2 : IntKind.i64.wrap ((8 : Int) - a.length - b.length) = (8 : Int) - a.length - b.length := yT _ om
   by_cases hbad : (parted = true /\ 7 < a.length + b.length) ∨ (parted = false /\ a.length + b.length ≠ 8)
   ·have HN : Hid (parse l = none) := by rw [HS.o, zN hbad]; exact qh rfl
    obtain ⟨pa, capa, rfl, _, _, _⟩ := SlR.of_owns bW hoa3; obtain ⟨pb, capb, rfl, _, _, _⟩ := SlR.of_owns bW hob; clear hoa3 hob hra hrb
    rcases hbad with ⟨rfl, h⟩ | ⟨rfl, h⟩
    ·have hi : (8 : Int) - a.length - b.length < 1 := om
     obtain ⟨e0, e1, e2, e3, e4, e5, e6, e7, e8, e9, e10, e11, e12, e13, e14, e15⟩ := P3.b1.cells16; have hf := P3.b1.frozen'; have HP3 := qh P3; clear P3
     go_wp2
     refine zC (results_cell_tmp rfl _ _ _ _ _ _ _ rfl (Blk.setV16 (Blk.z16 (HP3.o.b1))) underlying24 rfl rH) rfl ⟨by rw [HN.o]; rfl, kN HP3.o.below zn⟩
    ·have hi : ((8 : Int) - a.length - b.length == 0) = false := by rw [yF]; omega
     obtain ⟨e0, e1, e2, e3, e4, e5, e6, e7, e8, e9, e10, e11, e12, e13, e14, e15⟩ := P3.b1.cells16; have hf := P3.b1.frozen'; have HP3 := qh P3; clear P3
     go_wp2
     refine zC (results_cell_tmp rfl _ _ _ _ _ _ _ rfl (Blk.setV16 (Blk.z16 (HP3.o.b1))) underlying24 rfl rH) rfl ⟨by rw [HN.o]; rfl, kN HP3.o.below zn⟩
   ·have HN : Hid (parse l = of (ints (a ++ List.replicate (8 - a.length - b.length) 0 ++ b))) := by rw [HS.o, zH hbad]; exact qh rfl
    have hsum : a.length + b.length <= 8 := by cases parted <;> simp at hbad <;> omega
    obtain ⟨q, hq⟩ : ∃ q : Nat, q + b.length = 8 := ⟨8 - b.length, om⟩
    have hcond : (parted = true /\ ¬ (8 : Int) - a.length - b.length < 1) ∨ (parted = false /\ (8 : Int) - a.length - b.length = 0) := by
     cases parted
     ·simp at hbad; exact Or.inr ⟨rfl, om⟩
     ·simp at hbad; exact Or.inl ⟨rfl, om⟩
    have hFl : (ints (a ++ List.replicate (8 - a.length - b.length) 0 ++ b)).length = 8 := by rw [ints_len', zG, zG, vM]; omega
    have hFb : ∀ (k : Nat) (n : Int), (ints (a ++ List.replicate (8 - a.length - b.length) 0 ++ b))[k]? = some n -> -9223372036854775808 <= n /\ n <= 9223372036854775807 := by
     intro k n hn; have hmem := uA hn; unfold ints at hmem; obtain ⟨x, hx, rfl⟩ := vB.1 hmem
     have hx6 : x < 65536 := by
      rcases xR.1 hx with hx | hx
      ·rcases xR.1 hx with hx | hx
       ·exact row_lt hra x hx
       ·rw [(List.mem_replicate.1 hx).2]; omega
      ·exact row_lt hrb x hx
     simp only [wI]; omega
    obtain ⟨W1, hr1, hB1, hbel1, hs1⟩ := zAy P3.b2 (SlR.of_owns bW hoa3) 0 8 8 om zo 3; rw [fill_front om] at hB1; have hSb := owns_same (W' := W1) hob om hs1; have hl1 : (ints a ++ List.replicate (8 - a.length) (0 : Int)).length = 8 := by rw [zG, ints_len', vM]; omega
    have hcopy : ∃ W2, ((q < 8 /\ (Builtin.copy_ #[27, 27] 3 #[.slice (some ⟨w.heap.size + 1, q, none⟩) (8 - q) (8 - q), vb]).run prog W1 = .ok (goInt b.length) W2) ∨ (q = 8 /\ (Builtin.copy_ #[27, 27] 3 #[.slice (some ⟨w.heap.size + 1, 0, none⟩) 0 0, vb]).run prog W1 = .ok (goInt b.length) W2)) /\ Blk W2 (w.heap.size + 1) 155 (arrI (ints (a ++ List.replicate (8 - a.length - b.length) 0 ++ b))) /\ Below (w.heap.size + 1) W1 W2 /\ ∀ g, g ≠ w.heap.size + 1 -> W2.heap[g]? = W1.heap[g]? := by
     rcases jQ q 8 with h8 | h8
     ·obtain ⟨W2, hr2, hB2, hbel2, hs2⟩ := zAy hB1 hSb q (8 - q) (8 - q) om (by rw [hl1]; omega) 3
      rw [fill_back hsum hq] at hB2; exact ⟨W2, Or.inl ⟨h8, hr2⟩, hB2, hbel2, hs2⟩
     ·obtain ⟨W2, hr2, hB2, hbel2, hs2⟩ := zAy hB1 hSb 0 0 0 om (by rw [hl1]; omega) 3
      have hb0 : b = [] := zX om
      have e : (ints a ++ List.replicate (8 - a.length) (0 : Int)).take 0 ++ ints b ++ (ints a ++ List.replicate (8 - a.length) (0 : Int)).drop (0 + (ints b).length) = ints (a ++ List.replicate (8 - a.length - b.length) 0 ++ b) := by
       rw [hb0, pG, pG, ints_rep]; simp [ints]
      rw [e] at hB2; exact ⟨W2, Or.inr ⟨om, hr2⟩, hB2, hbel2, hs2⟩
    obtain ⟨W2, hcp, hB2, hbel2, hs2⟩ := hcopy; have hO := fun W => colon_Of _ hFl hFb W
    have hR16 : ((of (ints (a ++ List.replicate (8 - a.length - b.length) 0 ++ b))).getD z16).length = 16 := by
     cases ho : of (ints (a ++ List.replicate (8 - a.length - b.length) 0 ++ b)) with
     | none => rfl
     | some c => have := zBc _ c ho; rw [hFl] at this; exact this
    have hbelow : zW w W2 := (P3.below.trans (hbel1.mono (wH _))).trans (hbel2.mono (wH _)); have hb1 : Blk W2 w.heap.size 24 (arrB z16) := (hs2 _ om).trans ((hs1 _ om).trans P3.b1); clear hra hrb P3 hbel1 hbel2 hs1 hs2 HS hbad hB1 hSb hl1 hFb; generalize ints (a ++ List.replicate (8 - a.length - b.length) 0 ++ b) = F at *; obtain ⟨f0, f1, f2, f3, f4, f5, f6, f7, hF⟩ := list8 hFl; have HF := qh hF; obtain ⟨y0, y1, y2, y3, y4, y5, y6, y7, y8, y9, y10, y11, y12, y13, y14, y15, hy⟩ := aJ hR16
    have HO : Hid (∀ W, zCB 160 #[.agg #[.int .i64 f0, .int .i64 f1, .int .i64 f2, .int .i64 f3, .int .i64 f4, .int .i64 f5, .int .i64 f6, .int .i64 f7]] W (.tuple #[.agg #[.int .u8 (y0.toNat : Int), .int .u8 (y1.toNat : Int), .int .u8 (y2.toNat : Int), .int .u8 (y3.toNat : Int), .int .u8 (y4.toNat : Int), .int .u8 (y5.toNat : Int), .int .u8 (y6.toNat : Int), .int .u8 (y7.toNat : Int), .int .u8 (y8.toNat : Int), .int .u8 (y9.toNat : Int), .int .u8 (y10.toNat : Int), .int .u8 (y11.toNat : Int), .int .u8 (y12.toNat : Int), .int .u8 (y13.toNat : Int), .int .u8 (y14.toNat : Int), .int .u8 (y15.toNat : Int)], .bool (of F).isSome])) := by
     have h := hO; rw [hy] at h
     first | (conv at h => enter [W, 3]; rw [hF]) | (conv at h => enter [W, 2]; rw [hF])
     exact qh h
    have HY := qh hy; rw [hF] at hB2; obtain ⟨c0, c1, c2, c3, c4, c5, c6, c7⟩ := hB2.cells8; have HB1 := qh hb1; have HBL := qh hbelow; have hlt2 := hb1.lt; have hal : prog.arrayLen 155 = 8 := kf; have hqi : (8 : Int) - b.length = (q : Int) := om; have hq8 : (q : Int) <= 8 := om; have hw0 : IntKind.i64.wrap (q : Int) = q := yT _ om; clear hO hy hF hB2 hR16 hb1 hbelow; obtain ⟨pa, capa, rfl, _, _, _⟩ := SlR.of_owns bW hoa3; obtain ⟨pb, capb, rfl, _, _, _⟩ := SlR.of_owns bW hob; clear hoa3 hob
    rcases hcp with ⟨hq9, hr2⟩ | ⟨hq9, hr2⟩
    ·have hne8 : ¬ 8 = q := om
     rcases hcond with ⟨rfl, hi⟩ | ⟨rfl, hi⟩
     all_goals
      go_wp2_with fail
      refine zT (HO.o _) fun w6 hb6 => ?_; have hbk : Blk w6 w.heap.size 24 (arrB z16) := HB1.o.below hb6 hlt2; obtain ⟨e0, e1, e2, e3, e4, e5, e6, e7, e8, e9, e10, e11, e12, e13, e14, e15⟩ := hbk.cells16; have hf := hbk.frozen'; have HBK := qh hbk; have HB6 := qh (HBL.o.trans (hb6.mono HBL.o.size)); clear hbk hb6
      go_wp2
      refine zC (results_cell_tmp rfl _ _ _ _ _ _ _ rfl (Blk.setV16 (Blk.z16 (HBK.o))) underlying24 rfl rH) rfl ⟨by rw [HN.o, HY.o]; rfl, kN HB6.o zn⟩
    ·subst hq9
     rcases hcond with ⟨rfl, hi⟩ | ⟨rfl, hi⟩
     all_goals
      go_wp2_with fail
      refine zT (HO.o _) fun w6 hb6 => ?_; have hbk : Blk w6 w.heap.size 24 (arrB z16) := HB1.o.below hb6 hlt2; obtain ⟨e0, e1, e2, e3, e4, e5, e6, e7, e8, e9, e10, e11, e12, e13, e14, e15⟩ := hbk.cells16; have hf := hbk.frozen'; have HBK := qh hbk; have HB6 := qh (HBL.o.trans (hb6.mono HBL.o.size)); clear hbk hb6
      go_wp2
      refine zC (results_cell_tmp rfl _ _ _ _ _ _ _ rfl (Blk.setV16 (Blk.z16 (HBK.o))) underlying24 rfl rH) rfl ⟨by rw [HN.o, HY.o]; rfl, kN HB6.o zn⟩
end Go.Proofs.YtdbgeobolongmaaGreatDoor
