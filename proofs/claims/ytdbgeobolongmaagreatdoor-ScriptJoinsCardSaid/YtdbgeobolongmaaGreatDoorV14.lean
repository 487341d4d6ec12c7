/- Part of the proof: contracts of the functions that the statements of layer 32 reach. -/
import Derived.Deep.MidRow
import Derived.Laws.Cover1
import Derived.Test.YtdbgeobolongmaaGreatDoorV06
import Derived.Test.YtdbgeobolongmaaGreatDoorV07
import Derived.Test.YtdbgeobolongmaaGreatDoorV12
import Derived.Test.YtdbgeobolongmaaGreatDoorV13
set_option linter.unusedVariables false
set_option linter.unusedSimpArgs false
set_option maxRecDepth 100000
set_option maxHeartbeats 2000000
namespace Go.Proofs.YtdbgeobolongmaaGreatDoor
open Go.RowKit Go.Shelf Go.Proofs Go.OctetPlain Go.ColonPlain Go.PrefixPlain
theorem pfx_most (six : Bool) (w : World) : Calls Tryz.prog 169 #[.bool six] w fun e w' => e = .returned (.int .i64 (most six)) ∧ w' = w := by
 cases six
 all_goals
  go_enter Tryz.func169, Tryz.ntmps169
  go_wp2_with fail
  go_ret
  exact ⟨rfl, rfl⟩
theorem and_keep : ∀ (c : Fin 256) (l : Fin 9), bits .and .u8 ((c : Nat) : Int) ((keepN l).toNat : Int) = ((UInt8.ofNat c &&& keepN l).toNat : Int) := by decide +kernel
theorem and_keep' (c : UInt8) {l : Nat} (h : l < 9) : bits .and .u8 (c.toNat : Int) ((keepN l).toNat : Int) = ((c &&& keepN l).toNat : Int) := by
 have := and_keep ⟨c.toNat, c.toNat_lt⟩ ⟨l, h⟩
 rw [of_nat] at this
 exact this
theorem pfx_keep (n : Int) (h0 : 0 ≤ n) (h1 : n ≤ 9223372036854775807) (i : Nat) (hi : i < 16) (g : Nat) (W : World) (hc : W.cell? ⟨g, 0, none⟩ = some (.int .i64 n)) :
  Calls Tryz.prog 191 #[.int .i64 i, .pointer (some ⟨g, 0, none⟩)] W fun e w' => e = .returned (.int .u8 ((keepN (leftN n i)).toNat : Int)) ∧ w' = W := by
 have hL9 := leftN_le n i
 have hL : min (max (n - 8 * (i : Int)) 0) 8 = (leftN n i : Int) := by unfold leftN; omega
 have w1 : IntKind.i64.wrap ((8 : Int) * i) = 8 * i := IntWalk.i64_in _ (by omega)
 have w2 : IntKind.i64.wrap (n - (8 : Int) * i) = n - 8 * i := IntWalk.i64_in _ (by omega)
 generalize leftN n i = L at hL9 hL
 have hcs : L = 0 ∨ L = 1 ∨ L = 2 ∨ L = 3 ∨ L = 4 ∨ L = 5 ∨ L = 6 ∨ L = 7 ∨ L = 8 := by omega
 rcases hcs with rfl | rfl | rfl | rfl | rfl | rfl | rfl | rfl | rfl
 all_goals
  go_enter Tryz.func191, Tryz.ntmps191
  go_wp2_with fail
  go_ret
  exact ⟨rfl, rfl⟩
def firstK (a : List UInt8) (n : Int) (k : Nat) : List UInt8 := (first a n).take k ++ a.drop k
theorem firstK_zero (a : List UInt8) (n : Int) : firstK a n 0 = a := by simp [firstK]
theorem firstK_all {a : List UInt8} (n : Int) : firstK a n a.length = first a n := by
 unfold firstK; rw [List.drop_length, List.append_nil, List.take_of_length_le (by rw [first_length]; exact Nat.le_refl _)]
theorem firstK_len {a : List UInt8} {n : Int} {k : Nat} (h : k ≤ a.length) : (firstK a n k).length = a.length := by
 unfold firstK; rw [List.length_append, List.length_take, first_length, List.length_drop]; omega
theorem firstK_get {a : List UInt8} {n : Int} {k : Nat} {c : UInt8} (h : a[k]? = some c) : (firstK a n k)[k]? = some c := by
 have hk := (List.getElem?_eq_some_iff.1 h).1
 unfold firstK
 rw [List.getElem?_append_right (by rw [List.length_take, first_length]; omega), List.length_take, first_length, List.getElem?_drop]
 rw [← h]; congr 1; omega
theorem firstK_set {a : List UInt8} {n : Int} {k : Nat} {c : UInt8} (h : a[k]? = some c) : (firstK a n k).set k (c &&& keepN (leftN n k)) = firstK a n (k + 1) := by
 have hk := (List.getElem?_eq_some_iff.1 h).1
 apply List.ext_getElem?
 intro i
 by_cases hi : i = k
 ·subst hi
  rw [List.getElem?_set_self (by rw [firstK_len (by omega)]; omega)]
  unfold firstK
  rw [List.getElem?_append_left (by rw [List.length_take, first_length]; omega), List.getElem?_take_of_lt (by omega), first_get n h]
 ·rw [List.getElem?_set_ne (Ne.symm hi)]
  unfold firstK
  by_cases hlt : i < k
  ·rw [List.getElem?_append_left (by rw [List.length_take, first_length]; omega), List.getElem?_append_left (by rw [List.length_take, first_length]; omega), List.getElem?_take_of_lt hlt, List.getElem?_take_of_lt (by omega)]
  ·rw [List.getElem?_append_right (by rw [List.length_take, first_length]; omega), List.getElem?_append_right (by rw [List.length_take, first_length]; omega), List.length_take, List.length_take, first_length, List.getElem?_drop, List.getElem?_drop]
   congr 1; omega
structure FS (w : World) (a : List UInt8) (n : Int) (W : World) (k : Nat) : Prop where
 b0 : Blk W w.heap.size 24 (arrB (firstK a n k))
 b1 : Blk W (w.heap.size + 1) 3 #[.int .i64 n]
 b2 : Blk W (w.heap.size + 2) 24 (arrB (List.replicate 16 0))
 below : Below w.heap.size w W
theorem pfx_first (a : List UInt8) (ha : a.length = 16) (n : Int) (hn : -9223372036854775808 ≤ n ∧ n ≤ 9223372036854775807) (w : World) :
  Calls Tryz.prog 170 #[.agg (arrB a), .int .i64 n] w fun e w' => e = .returned (.agg (arrB (first a n))) ∧ Below w.heap.size w w' := by
 have hmf : ∀ (fn : Fn) (first cap : Array Value) (w : World), (Instr.makeFunc fn first cap).run Tryz.prog w = .ok (.func fn first cap) w := fun _ _ _ _ => rfl
 obtain ⟨m, hm, h0, h1, hfe⟩ : ∃ m : Int, max n 0 = m ∧ 0 ≤ m ∧ m ≤ 9223372036854775807 ∧ first a n = first a m := by
  refine ⟨max n 0, rfl, by omega, by omega, ?_⟩
  unfold first
  congr 1
  funext i c
  have : leftN n i = leftN (max n 0) i := by unfold leftN; omega
  rw [this]
 rw [hfe]
 clear hfe
 go_enter Tryz.func170, Tryz.ntmps170
 go_wp2_with fail
 go_loopw [6, 10] (fun _ vi wr => ∃ k : Nat, k ≤ 16 ∧ vi = .int .i64 k ∧ Hid (FS w a m wr k)) (fun _ vi _ => 16 - (intOf vi).toNat)
 case atStart =>
  refine ⟨0, by omega, rfl, qh ⟨?_, ?_, ?_, ?_⟩⟩
  ·rw [firstK_zero]
   exact ((Blk.new w 24 (arrB a)).alloc _).alloc _
  ·have h := Blk.new (w.alloc (.cells (arrB a) 24)) 3 #[.int .i64 m]
   rw [World.size_alloc] at h
   exact h.alloc _
  ·have h := Blk.new ((w.alloc (.cells (arrB a) 24)).alloc (.cells #[.int .i64 m] 3)) 24 (arrB (List.replicate 16 0))
   simp only [World.size_alloc] at h
   exact h
  ·exact ((belowA w _).alloc (by simp) _).alloc (by simp <;> omega) _
 case round =>
  obtain ⟨k, hk, rfl, HF⟩ := hrel
  by_cases hlt : k < 16
  ·obtain ⟨c, hc⟩ : ∃ c, a[k]? = some c := ⟨a[k], List.getElem?_eq_getElem (by omega)⟩
   have ce := (HF.out.b0.cell k).trans (arrB_get (firstK_get hc))
   have f0 := HF.out.b0.frozen' k
   have nc := HF.out.b1.cell 0
   simp only [List.getElem?_toArray, List.getElem?_cons_zero] at nc
   have KP := qh fun W h => pfx_keep m h0 h1 k hlt (w.heap.size + 1) W h
   have HS := qh (firstK_set (n := m) hc)
   have AK := and_keep' c (leftN_le m k)
   clear hc
   go_wp2_with fail
   go_still_tail 8, (by kernel_rfl)
   still_call (KP.out _ nc)
   repeat still_step
   refine wpStill_nil ?_
   change wpList _ _ _ _ _ wr.drew
   go_wp2_with fail
   refine ⟨⟨k + 1, by omega, by go_num, qh ⟨?_, HF.out.b1.drew.other _ _ (by simp), HF.out.b2.drew.other _ _ (by simp), (HF.out.below.trans ((Below.refl _ _).drew.mono HF.out.below.size)).setCell (by simp) _⟩⟩, by simp [intOf]; omega⟩
   rw [← HS.out, ← arrB_set]
   exact HF.out.b0.drew.set _ _
  ·obtain rfl : k = 16 := by omega
   have hall : firstK a m 16 = first a m := by rw [← ha]; exact firstK_all m
   have H0 := HF.out.b0
   have H2 := HF.out.b2
   rw [hall] at H0
   have KX := A16.of (l := first a m) (by rw [first_length, ha])
   have hu16 := Tryz.underlying24
   have HBL := qh HF.out.below
   clear hall HF
   generalize hX : arrB (first a m) = X at H0 KX
   have HX := qh hX
   clear hX
   go_wp2_with (first
    | (refine wpList_load_want rfl _ _ rfl w.heap.size rfl _ X (0, 0) _ H0 hu16 rfl KX.info ?_)
    | (refine wpList_store_row rfl _ _ _ rfl (w.heap.size + 2) X rfl rfl 24 (arrB (List.replicate 16 0)) H2 KX.info KX.size.symm KX.one ?_))
   refine bodyPost_ret (results_cell_row rfl _ _ _ _ _ _ _ rfl (H2.setRow _) hu16 rfl KX.info) rfl ⟨by rw [HX.out], below_setRow HBL.out (by omega) _⟩
end Go.Proofs.YtdbgeobolongmaaGreatDoor
namespace Go.Proofs.YtdbgeobolongmaaGreatDoor
open Go.RowKit Go.Shelf Go.Proofs Go.OctetPlain Go.ColonPlain Go.PrefixPlain
def cellsB (a : List UInt8) : List Value := a.map fun c => Value.int .u8 (c.toNat : Int)
theorem cellsB_len (a : List UInt8) : (cellsB a).length = a.length := by simp [cellsB]
def pfA (p : Pf) : Array Value := (Value.bool p.six :: (cellsB p.addr ++ [Value.int .i64 p.len])).toArray
theorem infoP : (Tryz.prog.info? 26).map (·.size) = some 18 := by kernel_rfl
structure PX (X : Array Value) : Prop where
 info : (Tryz.prog.info? 26).map (·.size) = some X.size
 size : X.size = 18
 one : X.all (·.oneCell') = true
theorem pfA_size {p : Pf} (h : p.addr.length = 16) : (pfA p).size = 18 := by simp [pfA, cellsB_len, h]
theorem PX.of {p : Pf} (h : p.addr.length = 16) : PX (pfA p) := by
 refine ⟨by rw [pfA_size h]; exact infoP, pfA_size h, ?_⟩
 rw [Array.all_eq_true_iff_forall_mem]
 intro v hv
 simp only [pfA, cellsB, List.mem_toArray, List.mem_cons, List.mem_append, List.mem_map, List.not_mem_nil, or_false] at hv
 rcases hv with rfl | ⟨c, _, rfl⟩ | rfl <;> rfl
theorem Blk.p0 {w : World} {g : Nat} {t : TypeId} {p : Pf} (h : Blk w g t (pfA p)) : w.cell? ⟨g, 0, none⟩ = some (.bool p.six) := (h.cell 0).trans (by simp [pfA])
theorem Blk.p17 {w : World} {g : Nat} {t : TypeId} {p : Pf} (h : Blk w g t (pfA p)) (h16 : p.addr.length = 16) : w.cell? ⟨g, 17, none⟩ = some (.int .i64 p.len) :=
 (h.cell 17).trans (by
  unfold pfA
  rw [List.getElem?_toArray, List.getElem?_cons_succ, List.getElem?_append_right (by rw [cellsB_len, h16]; exact Nat.le_refl _), cellsB_len, h16]
  rfl)
theorem Blk.pA {w : World} {g : Nat} {t : TypeId} {p : Pf} (h : Blk w g t (pfA p)) : w.rangeAt g 1 (cellsB p.addr) := fun j v hv => by
 rw [h.cell]
 unfold pfA
 have hj : j < (cellsB p.addr).length := (List.getElem?_eq_some_iff.1 hv).1
 rw [List.getElem?_toArray, Nat.add_comm, List.getElem?_cons_succ, List.getElem?_append_left hj]
 exact hv
theorem info16' {a : List UInt8} (h : a.length = 16) : (Tryz.prog.info? 24).map (·.size) = some (cellsB a).length := by rw [cellsB_len, h]; exact info16
section
variable {ops : Array Oper} {Q : Exit → Act → World → Prop} {S : World → Prop}
theorem yieldsIf_load_addr {op : Oper} {a : Act} (hw : Region.wanted op (yielded ops a.tmps) = true) (x : Operand) (ho : op.op = .load 24 x)
  (b o : Nat) (hx : a.eval x = .pointer (some ⟨b, o, none⟩)) (l : List UInt8) (h16 : l.length = 16) (hS : ∀ w, S w → w.rangeAt b o (cellsB l)) : YieldsIf Tryz.prog ops S op (.agg (arrB l)) a :=
 yieldsIf_load_mid hw _ x ho b o hx _ _ hS Tryz.underlying24 rfl (info16' h16)
theorem wpList_load_addr {rest : List Oper} {op : Oper} {a : Act} {w : World} (hw : Region.wanted op (yielded ops a.tmps) = true) (x : Operand) (ho : op.op = .load 24 x)
  (b o : Nat) (hx : a.eval x = .pointer (some ⟨b, o, none⟩)) (l : List UInt8) (h16 : l.length = 16) (hS : w.rangeAt b o (cellsB l))
  (h : wpList Tryz.prog ops Q rest (a.put op.dst (.agg (arrB l))) w) : wpList Tryz.prog ops Q (op :: rest) a w :=
 BigFrame.wpList_want hw fun _ hK => wp_load_mid _ x ho b o hx _ _ hS Tryz.underlying24 rfl (info16' h16) (hK _ _ h)
end
theorem eq_bytes_at (d : Nat) {a b : List UInt8} (ha : a.length = 16) (hb : b.length = 16) (w : World) : (Op.equalIn (d + 2) 24 (.agg (arrB a)) (.agg (arrB b))).run Tryz.prog w = .ok (decide (a = b)) w := by
 have hi : ∃ i, Tryz.prog.info? 5 = some i := by
  have h : (Tryz.prog.info? 5).isSome = true := by kernel_rfl
  exact Option.isSome_iff_exists.1 h
 obtain ⟨i, hi⟩ := hi
 have h := run_equalIn_array (P := Tryz.prog) (w := w) (d + 1) (arrB a) (arrB b) Tryz.underlying24 hi
 rw [show Tryz.prog.cellsOf 5 = 1 by kernel_rfl] at h
 rw [h]
 have h2 := eqItems_any (P := Tryz.prog) (e := 5) (d := d + 1) (fun c : UInt8 => Value.int .u8 (c.toNat : Int)) (fun cs off v w hv => by simp [part, Tryz.isAgg5, hv])
  (fun x y w => by
   rw [run_equalIn_int w d 5 .u8 .u8 _ _ Tryz.underlying5]
   congr 1
   rw [Bool.eq_iff_iff]
   simp only [beq_iff_eq, decide_eq_true_eq]
   constructor
   ·intro h; exact UInt8.toNat_inj.1 (Int.ofNat.inj h)
   ·rintro rfl; rfl) a b (List.range 16) w (by intro j hj; simp at hj; omega)
 unfold arrB
 rw [h2]
 congr 1
 exact decide_eq_decide.2 (range_eq ha hb)
theorem part_agg {t : TypeId} {n : Nat} (h : ∀ w, (isAgg t).run Tryz.prog w = .ok true w) (hi : (Tryz.prog.info? t).map (·.size) = some n) (cs : Array Value) (o : Nat) (xs : Array Value) (hx : cs.extract o (o + n) = xs) (w : World) : (part t cs o).run Tryz.prog w = .ok (.agg xs) w := by
 cases hq : Tryz.prog.info? t with
 | none => simp [hq] at hi
 | some i =>
  have hs : i.size = n := by simpa [hq] using hi
  simp [part, h, sizeOf, typeInfo, hq, hs, hx]
theorem pfA_mid {p : Pf} (h : p.addr.length = 16) : (pfA p).extract 1 (1 + 16) = arrB p.addr := by
 unfold pfA
 rw [List.extract_toArray, List.extract_eq_take_drop, List.drop_succ_cons, List.drop_zero]
 have : (1 + 16 - 1 : Nat) = (cellsB p.addr).length := by rw [cellsB_len, h]
 rw [this, List.take_left]
 rfl
theorem eq_pf {p q : Pf} (hp : p.addr.length = 16) (hq : q.addr.length = 16) (w : World) : (Op.equalIn 10000 26 (.agg (pfA p)) (.agg (pfA q))).run Tryz.prog w = .ok (decide (p = q)) w := by
 rw [run_equalIn_struct w 9999 26 _ _ (by kernel_rfl) (by kernel_rfl)]
 have hf : ((Tryz.prog.fieldsOf 26).toList.map fun f => (decide (f.name ≠ "_"), f.type, f.offset)) = [(true, 4, 0), (true, 24, 1), (true, 3, 17)] := by kernel_rfl
 generalize (Tryz.prog.fieldsOf 26).toList = fs at hf ⊢
 have s1 : ∀ (p : Pf) (w : World), (part 4 (pfA p) 0).run Tryz.prog w = .ok (.bool p.six) w := fun p w => by simp [part, Tryz.isAgg4, pfA]
 have s2 : ∀ (p : Pf) (w : World), p.addr.length = 16 → (part 24 (pfA p) 1).run Tryz.prog w = .ok (.agg (arrB p.addr)) w := fun p w h => part_agg Tryz.isAgg24 info16 _ _ _ (pfA_mid h) w
 have s3 : ∀ (p : Pf) (w : World), p.addr.length = 16 → (part 3 (pfA p) 17).run Tryz.prog w = .ok (.int .i64 p.len) w := fun p w h => by
  have : (pfA p)[17]? = some (.int .i64 p.len) := by
   unfold pfA
   rw [List.getElem?_toArray, List.getElem?_cons_succ, List.getElem?_append_right (by rw [cellsB_len, h]; exact Nat.le_refl _), cellsB_len, h]
   rfl
  simp [part, Tryz.isAgg3, this]
 have hlen : fs.length = 3 := by have := congrArg List.length hf; simpa using this
 obtain ⟨f1, f2, f3, rfl⟩ : ∃ a b c, fs = [a, b, c] := by
  clear hf
  match fs, hlen with
  | [a, b, c], _ => exact ⟨a, b, c, rfl⟩
 ·clear hlen
  simp only [List.map_cons, List.map_nil, List.cons.injEq, Prod.mk.injEq, decide_eq_true_eq, and_true] at hf
  obtain ⟨⟨n1, t1, o1⟩, ⟨n2, t2, o2⟩, n3, t3, o3⟩ := hf
  have s2p := fun w => s2 p w hp
  have s2q := fun w => s2 q w hq
  have s3p := fun w => s3 p w hp
  have s3q := fun w => s3 q w hq
  have e1 := fun w => run_equalIn_bool' w 9998 4 p.six q.six Tryz.underlying4
  have e2 := fun w => eq_bytes_at 9997 hp hq w
  have e3 := fun w => run_equalIn_int w 9998 3 .i64 .i64 p.len q.len Tryz.underlying3
  simp only [Op.eqFields, if_pos n1, if_pos n2, if_pos n3, t1, t2, t3, o1, o2, o3, Sem.run_bind, s1, s2p, s2q, s3p, s3q, Result.andThen_ok, e1, e2, e3, Sem.run_ite, Sem.run_pure]
  obtain ⟨ps, pa, pl⟩ := p
  obtain ⟨qs, qa, ql⟩ := q
  simp only
  by_cases h1 : ps = qs
  ·by_cases h2 : pa = qa
   ·by_cases h3 : pl = ql
    ·simp [h1, h2, h3]
    ·simp [h1, h2, h3]
   ·simp [h1, h2]
  ·simp [h1]
end Go.Proofs.YtdbgeobolongmaaGreatDoor
namespace Go.Proofs.YtdbgeobolongmaaGreatDoor
open Go.RowKit Go.Shelf Go.Proofs Go.OctetPlain Go.ColonPlain Go.PrefixPlain
def zP : Pf := ⟨false, List.replicate 16 0, 0⟩
end Go.Proofs.YtdbgeobolongmaaGreatDoor
namespace Go.Proofs.YtdbgeobolongmaaGreatDoor
open Go.RowKit Go.Shelf Go.Proofs Go.OctetPlain Go.ColonPlain Go.PrefixPlain
structure CS (w W : World) (p : Pf) : Prop where
 b : Blk W w.heap.size 26 (pfA p)
 below : Below w.heap.size w W
theorem CS.next {w W W' : World} {p : Pf} (h : CS w W p) (hb : Below W.heap.size W W') : CS w W' p := ⟨h.b.below hb h.b.lt, h.below.trans (hb.mono h.below.size)⟩
theorem CS.drew {w W : World} {p : Pf} (h : CS w W p) : CS w W.drew p := h.next (Below.refl _ _).drew
def okN (p : Pf) : Int := if ok p then 0 else 1
theorem pfx_Check (p : Pf) (hp : p.addr.length = 16) (hn : -9223372036854775808 ≤ p.len ∧ p.len ≤ 9223372036854775807) (w : World) :
  Calls Tryz.prog 146 #[.agg (pfA p)] w fun e w' => e = .returned (.int .i64 (okN p)) ∧ Below w.heap.size w w' := by
 have MO := qh fun W => pfx_most p.six W
 have FP := qh fun W => pfx_first p.addr hp p.len hn W
 have huP := Tryz.underlying26
 have KX := PX.of hp
 have h0 : CS w (w.alloc (.cells (pfA p) 26)) p := ⟨Blk.new _ _ _, belowA w _⟩
 have H0 := qh h0
 clear h0
 by_cases hneg : p.len < 0
 ·have hr : Hid (okN p = 1) := qh (by unfold okN; rw [if_neg (fun h => by have := h.1; omega)])
  rw [hr.out]
  go_enter Tryz.func146, Tryz.ntmps146
  go_wp2_with fail
  refine wp_region_held_drew (S := fun W => CS w W p) (by kernel_rfl) H0.out.drew (fun hHeld => ?_)
  refine kq 0 ?_
  refine kq 1 ?_ (hy := by intro w h; have hf := (h.b).p17 hp; go_simp; try with_reducible rfl)
  refine kq 2 ?_ (v := .bool true) (hy := by intro w hSw; go_simp; try (omega))
  refine kq 3 ?_; refine tn 4 ?_; refine tn 5 ?_; refine tn 6 ?_; refine tn 7 ?_; refine tn 8 ?_; refine tn 9 ?_; refine kq 10 ?_; refine kq 11 ?_; refine tn 12 ?_; refine tn 13 ?_; refine tn 14 ?_; refine tn 15 ?_; refine tn 16 ?_; refine tn 17 ?_; refine tn 18 ?_; refine tn 19 ?_; refine kq 20 ?_
  refine zD ?_
  all_goals go_wp2_with fail
  all_goals go_ret
  all_goals exact ⟨rfl, CS.below (by assumption)⟩
 ·have h00 : 0 ≤ p.len := by omega
  by_cases hgr : most p.six < p.len
  ·have hr : Hid (okN p = 1) := qh (by unfold okN; rw [if_neg (fun h => by have := h.2.1; omega)])
   rw [hr.out]
   generalize most p.six = M at MO hgr
   go_enter Tryz.func146, Tryz.ntmps146
   go_wp2_with fail
   refine wp_region_held_drew (S := fun W => CS w W p) (by kernel_rfl) H0.out.drew (fun hHeld => ?_)
   refine kq 0 ?_
   refine kq 1 ?_ (hy := by intro w h; have hf := (h.b).p17 hp; go_simp; try with_reducible rfl)
   refine kq 2 ?_ (v := .bool false) (hy := by intro w hSw; go_simp; try (omega))
   refine kq 3 ?_; refine kq 4 ?_
   refine kq 5 ?_ (hy := by intro w h; have hf := (h.b).p17 hp; go_simp; try with_reducible rfl)
   refine kq 6 ?_
   refine kq 7 ?_ (hy := by intro w h; have hf := (h.b).p0; go_simp; try with_reducible rfl)
   refine zS 8 fun K hK => ?_
   go_simp
   refine (MO.out _).mono ?_; rintro e w1 ⟨rfl, hw1⟩; subst hw1
   go_wp2_with fail
   refine hK.out _ _ ((by assumption)) (fun hHeld => ?_)
   clear hK K
   try simp only [qA, qB, qC, qD, qE, qF, qG]
   refine kq 9 ?_ (v := .bool true) (hy := by intro w hSw; go_simp; try (omega))
   refine kq 10 ?_; refine kq 11 ?_; refine tn 12 ?_; refine tn 13 ?_; refine tn 14 ?_; refine tn 15 ?_; refine tn 16 ?_; refine tn 17 ?_; refine tn 18 ?_; refine tn 19 ?_; refine kq 20 ?_
   refine zD ?_
   all_goals go_wp2_with fail
   all_goals go_ret
   all_goals exact ⟨rfl, CS.below (by assumption)⟩
  ·have QE := fun W => eq_bytes_at 9998 (a := first p.addr p.len) (b := p.addr) (by rw [first_length, hp]) hp W
   obtain ⟨b, hb, hr⟩ : ∃ b : Bool, decide (first p.addr p.len = p.addr) = b ∧ Hid (okN p = if b then 0 else 1) := by
    refine ⟨_, rfl, qh ?_⟩
    have hiff : ok p ↔ first p.addr p.len = p.addr := ⟨fun h => h.2.2, fun h => ⟨h00, by omega, h⟩⟩
    unfold okN
    by_cases h : first p.addr p.len = p.addr
    ·rw [if_pos (hiff.2 h), decide_eq_true h]; rfl
    ·rw [if_neg (fun hh => h (hiff.1 hh)), decide_eq_false h]; rfl
   rw [hb] at QE
   rw [hr.out]
   clear hb hr
   have hgr' : p.len ≤ most p.six := by omega
   clear hgr
   generalize most p.six = M at MO hgr'
   generalize arrB (first p.addr p.len) = XF at FP QE
   cases b
   all_goals
    go_enter Tryz.func146, Tryz.ntmps146
    go_wp2_with fail
    refine wp_region_held_drew (S := fun W => CS w W p) (by kernel_rfl) H0.out.drew (fun hHeld => ?_)
    refine kq 0 ?_
    refine kq 1 ?_ (hy := by intro w h; have hf := (h.b).p17 hp; go_simp; try with_reducible rfl)
    refine kq 2 ?_ (v := .bool false) (hy := by intro w hSw; go_simp; try (omega))
    refine kq 3 ?_; refine kq 4 ?_
    refine kq 5 ?_ (hy := by intro w h; have hf := (h.b).p17 hp; go_simp; try with_reducible rfl)
    refine kq 6 ?_
    refine kq 7 ?_ (hy := by intro w h; have hf := (h.b).p0; go_simp; try with_reducible rfl)
    refine zS 8 fun K hK => ?_
    go_simp
    refine (MO.out _).mono ?_; rintro e w1 ⟨rfl, hw1⟩; subst hw1
    go_wp2_with fail
    refine hK.out _ _ ((by assumption)) (fun hHeld => ?_)
    clear hK K
    try simp only [qA, qB, qC, qD, qE, qF, qG]
    refine kq 9 ?_ (v := .bool false) (hy := by intro w hSw; go_simp; try (omega))
    refine kq 10 ?_; refine kq 11 ?_; refine kq 12 ?_
    refine kY 13 rfl (yieldsIf_load_addr (by rfl) _ rfl (w.heap.size) 1 rfl (p.addr) (hp) (fun w h => (h.b).pA)) ?_
    refine kq 14 ?_
    refine kq 15 ?_ (hy := by intro w h; have hf := (h.b).p17 hp; go_simp; try with_reducible rfl)
    refine kq 17 ?_
    refine kY 18 rfl (yieldsIf_load_addr (by rfl) _ rfl (w.heap.size) 1 rfl (p.addr) (hp) (fun w h => (h.b).pA)) ?_
    refine zS 16 fun K hK => ?_
    go_simp
    refine (FP.out _).mono ?_; rintro e w2 ⟨rfl, hb2⟩
    go_wp2_with fail
    refine hK.out _ _ (CS.next (by assumption) hb2) (fun hHeld => ?_)
    clear hK K
    try simp only [qA, qB, qC, qD, qE, qF, qG]
    refine kq 19 ?_; refine kq 20 ?_
    refine zD ?_
    all_goals go_wp2_with fail
    all_goals go_ret
    all_goals exact ⟨rfl, CS.below (by assumption)⟩
end Go.Proofs.YtdbgeobolongmaaGreatDoor
namespace Go.Proofs.YtdbgeobolongmaaGreatDoor
open Go.RowKit Go.Shelf Go.Proofs Go.OctetPlain Go.ColonPlain Go.PrefixPlain
end Go.Proofs.YtdbgeobolongmaaGreatDoor
namespace Go.Proofs.YtdbgeobolongmaaGreatDoor
open Go.RowKit Go.Shelf Go.Proofs Go.OctetPlain Go.ColonPlain Go.PrefixPlain
def Len64 (p : Pf) : Prop := -9223372036854775808 ≤ p.len ∧ p.len ≤ 9223372036854775807
end Go.Proofs.YtdbgeobolongmaaGreatDoor
namespace Go.Proofs.YtdbgeobolongmaaGreatDoor
open Go.RowKit Go.Shelf Go.Proofs Go.OctetPlain Go.ColonPlain Go.PrefixPlain
end Go.Proofs.YtdbgeobolongmaaGreatDoor
