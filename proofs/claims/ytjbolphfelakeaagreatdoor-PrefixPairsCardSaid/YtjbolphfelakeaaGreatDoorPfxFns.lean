import Derived.Test.YtjbolphfelakeaaGreatDoorArrEq
import Derived.Test.YtjbolphfelakeaaGreatDoorColonOf
import Derived.Test.YtjbolphfelakeaaGreatDoorPrefixPlain
import Derived.Test.YtjbolphfelakeaaGreatDoorHeld
import Derived.Deep.MidRow
import Derived.Laws.Cover1
/- prefix.most, prefix.first. -/
namespace Go.Proofs.YtjbolphfelakeaaGreatDoor
set_option linter.unusedVariables false
set_option linter.unusedSimpArgs false
open Go.RowKit Go.Shelf Go.Proofs Go.OctetPlain Go.ColonPlain Go.PrefixPlain

theorem pfx_most (six : Bool) (w : World) : Calls Tryz.prog 25 #[.bool six] w fun e w' => e = .returned (.int .i64 (most six)) ∧ w' = w := by
  cases six
  all_goals
    go_enter Tryz.func25, Tryz.ntmps25
    go_wp2_with fail
    go_ret
    exact ⟨rfl, rfl⟩
theorem and_keep : ∀ (c : Fin 256) (l : Fin 9), bits .and .u8 ((c : Nat) : Int) ((keepN l).toNat : Int) = ((UInt8.ofNat c &&& keepN l).toNat : Int) := by decide +kernel
theorem and_keep' (c : UInt8) {l : Nat} (h : l < 9) : bits .and .u8 (c.toNat : Int) ((keepN l).toNat : Int) = ((c &&& keepN l).toNat : Int) := by
  have := and_keep ⟨c.toNat, c.toNat_lt⟩ ⟨l, h⟩
  rw [of_nat] at this
  exact this
set_option maxRecDepth 100000 in
theorem pfx_keep (n : Int) (h0 : 0 ≤ n) (h1 : n ≤ 9223372036854775807) (i : Nat) (hi : i < 16) (g : Nat) (W : World) (hc : W.cell? ⟨g, 0, none⟩ = some (.int .i64 n)) :
    Calls Tryz.prog 43 #[.int .i64 i, .pointer (some ⟨g, 0, none⟩)] W fun e w' => e = .returned (.int .u8 ((keepN (leftN n i)).toNat : Int)) ∧ w' = W := by
  have hL9 := leftN_le n i
  have hL : min (max (n - 8 * (i : Int)) 0) 8 = (leftN n i : Int) := by unfold leftN; omega
  have w1 : IntKind.i64.wrap ((8 : Int) * i) = 8 * i := IntWalk.i64_in _ (by omega)
  have w2 : IntKind.i64.wrap (n - (8 : Int) * i) = n - 8 * i := IntWalk.i64_in _ (by omega)
  generalize leftN n i = L at hL9 hL
  have hcs : L = 0 ∨ L = 1 ∨ L = 2 ∨ L = 3 ∨ L = 4 ∨ L = 5 ∨ L = 6 ∨ L = 7 ∨ L = 8 := by omega
  rcases hcs with rfl | rfl | rfl | rfl | rfl | rfl | rfl | rfl | rfl
  all_goals
    go_enter Tryz.func43, Tryz.ntmps43
    go_wp2_with fail
    go_ret
    exact ⟨rfl, rfl⟩
def firstK (a : List UInt8) (n : Int) (k : Nat) : List UInt8 := (first a n).take k ++ a.drop k
theorem firstK_zero (a : List UInt8) (n : Int) : firstK a n 0 = a := by simp [firstK]
theorem firstK_all {a : List UInt8} (n : Int) : firstK a n a.length = first a n := by
  unfold firstK; rw [List.drop_length, List.append_nil, List.take_of_length_le (by rw [first_length]; exact Nat.le_refl _)]
theorem firstK_len {a : List UInt8} {n : Int} {k : Nat} (h : k ≤ a.length) : (firstK a n k).length = a.length := by
  unfold firstK; rw [List.length_append, List.length_take, first_length, List.length_drop]; omega
theorem firstK_get {a : List UInt8} {n : Int} {k : Nat} {c : UInt8} (h : a[k]? = some c) : (firstK a n k)[k]? = some c := by
  have hk := (List.getElem?_eq_some_iff.1 h).1
  unfold firstK
  rw [List.getElem?_append_right (by rw [List.length_take, first_length]; omega), List.length_take, first_length, List.getElem?_drop]
  rw [← h]; congr 1; omega
theorem firstK_set {a : List UInt8} {n : Int} {k : Nat} {c : UInt8} (h : a[k]? = some c) : (firstK a n k).set k (c &&& keepN (leftN n k)) = firstK a n (k + 1) := by
  have hk := (List.getElem?_eq_some_iff.1 h).1
  apply List.ext_getElem?
  intro i
  by_cases hi : i = k
  · subst hi
    rw [List.getElem?_set_self (by rw [firstK_len (by omega)]; omega)]
    unfold firstK
    rw [List.getElem?_append_left (by rw [List.length_take, first_length]; omega), List.getElem?_take_of_lt (by omega), first_get n h]
  · rw [List.getElem?_set_ne (Ne.symm hi)]
    unfold firstK
    by_cases hlt : i < k
    · rw [List.getElem?_append_left (by rw [List.length_take, first_length]; omega), List.getElem?_append_left (by rw [List.length_take, first_length]; omega), List.getElem?_take_of_lt hlt, List.getElem?_take_of_lt (by omega)]
    · rw [List.getElem?_append_right (by rw [List.length_take, first_length]; omega), List.getElem?_append_right (by rw [List.length_take, first_length]; omega), List.length_take, List.length_take, first_length, List.getElem?_drop, List.getElem?_drop]
      congr 1; omega
structure FS (w : World) (a : List UInt8) (n : Int) (W : World) (k : Nat) : Prop where
  b0 : Blk W w.heap.size 22 (arrB (firstK a n k))
  b1 : Blk W (w.heap.size + 1) 3 #[.int .i64 n]
  b2 : Blk W (w.heap.size + 2) 22 (arrB (List.replicate 16 0))
  below : Below w.heap.size w W

set_option maxRecDepth 100000 in
set_option maxHeartbeats 2000000 in
theorem pfx_first (a : List UInt8) (ha : a.length = 16) (n : Int) (hn : -9223372036854775808 ≤ n ∧ n ≤ 9223372036854775807) (w : World) :
    Calls Tryz.prog 26 #[.agg (arrB a), .int .i64 n] w fun e w' => e = .returned (.agg (arrB (first a n))) ∧ Below w.heap.size w w' := by
  have hmf : ∀ (fn : Fn) (first cap : Array Value) (w : World), (Instr.makeFunc fn first cap).run Tryz.prog w = .ok (.func fn first cap) w := fun _ _ _ _ => rfl
  obtain ⟨m, hm, h0, h1, hfe⟩ : ∃ m : Int, max n 0 = m ∧ 0 ≤ m ∧ m ≤ 9223372036854775807 ∧ first a n = first a m := by
    refine ⟨max n 0, rfl, by omega, by omega, ?_⟩
    unfold first
    congr 1
    funext i c
    have : leftN n i = leftN (max n 0) i := by unfold leftN; omega
    rw [this]
  rw [hfe]
  clear hfe
  go_enter Tryz.func26, Tryz.ntmps26
  go_wp2_with fail
  go_loopw [6, 10] (fun _ vi wr => ∃ k : Nat, k ≤ 16 ∧ vi = .int .i64 k ∧ Hid (FS w a m wr k)) (fun _ vi _ => 16 - (intOf vi).toNat)
  case atStart =>
    refine ⟨0, by omega, rfl, Lib.hid ⟨?_, ?_, ?_, ?_⟩⟩
    · rw [firstK_zero]
      exact ((Blk.new w 22 (arrB a)).alloc _).alloc _
    · have h := Blk.new (w.alloc (.cells (arrB a) 22)) 3 #[.int .i64 m]
      rw [World.size_alloc] at h
      exact h.alloc _
    · have h := Blk.new ((w.alloc (.cells (arrB a) 22)).alloc (.cells #[.int .i64 m] 3)) 22 (arrB (List.replicate 16 0))
      simp only [World.size_alloc] at h
      exact h
    · exact ((belowA w _).alloc (by simp) _).alloc (by simp <;> omega) _
  case round =>
    obtain ⟨k, hk, rfl, HF⟩ := hrel
    by_cases hlt : k < 16
    · obtain ⟨c, hc⟩ : ∃ c, a[k]? = some c := ⟨a[k], List.getElem?_eq_getElem (by omega)⟩
      have ce := (HF.out.b0.cell k).trans (arrB_get (firstK_get hc))
      have f0 := HF.out.b0.frozen' k
      have nc := HF.out.b1.cell 0
      simp only [List.getElem?_toArray, List.getElem?_cons_zero] at nc
      have KP := Lib.hid fun W h => pfx_keep m h0 h1 k hlt (w.heap.size + 1) W h
      have HS := Lib.hid (firstK_set (n := m) hc)
      have AK := and_keep' c (leftN_le m k)
      clear hc
      go_wp2_with fail
      go_still_tail 8, (by kernel_rfl)
      still_call (KP.out _ nc)
      repeat still_step
      refine wpStill_nil ?_
      change wpList _ _ _ _ _ wr.drew
      go_wp2_with fail
      refine ⟨⟨k + 1, by omega, by go_num, Lib.hid ⟨?_, HF.out.b1.drew.other _ _ (by simp), HF.out.b2.drew.other _ _ (by simp), (HF.out.below.trans ((Below.refl _ _).drew.mono HF.out.below.size)).setCell (by simp) _⟩⟩, by simp [intOf]; omega⟩
      rw [← HS.out, ← arrB_set]
      exact HF.out.b0.drew.set _ _
    · obtain rfl : k = 16 := by omega
      have hall : firstK a m 16 = first a m := by rw [← ha]; exact firstK_all m
      have H0 := HF.out.b0
      have H2 := HF.out.b2
      rw [hall] at H0
      have KX := A16.of (l := first a m) (by rw [first_length, ha])
      have hu16 := Tryz.underlying22
      have HBL := Lib.hid HF.out.below
      clear hall HF
      generalize hX : arrB (first a m) = X at H0 KX
      have HX := Lib.hid hX
      clear hX
      go_wp2_with (first
        | (refine wpList_load_want rfl _ _ rfl w.heap.size rfl _ X (0, 0) _ H0 hu16 rfl KX.info ?_)
        | (refine wpList_store_row rfl _ _ _ rfl (w.heap.size + 2) X rfl rfl 22 (arrB (List.replicate 16 0)) H2 KX.info KX.size.symm KX.one ?_))
      refine bodyPost_ret (results_cell_row rfl _ _ _ _ _ _ _ rfl (H2.setRow _) hu16 rfl KX.info) rfl ⟨by rw [HX.out], below_setRow HBL.out (by omega) _⟩
end Go.Proofs.YtjbolphfelakeaaGreatDoor

/- Prefixes as values: their cells, '==' of them. -/
namespace Go.Proofs.YtjbolphfelakeaaGreatDoor
set_option linter.unusedVariables false
set_option linter.unusedSimpArgs false
open Go.RowKit Go.Shelf Go.Proofs Go.OctetPlain Go.ColonPlain Go.PrefixPlain

def cellsB (a : List UInt8) : List Value := a.map fun c => Value.int .u8 (c.toNat : Int)
theorem cellsB_arr (a : List UInt8) : (cellsB a).toArray = arrB a := rfl
theorem cellsB_len (a : List UInt8) : (cellsB a).length = a.length := by simp [cellsB]
def pfA (p : Pf) : Array Value := (Value.bool p.six :: (cellsB p.addr ++ [Value.int .i64 p.len])).toArray
theorem infoP : (Tryz.prog.info? 24).map (·.size) = some 18 := by kernel_rfl
/-- an array that is a prefix's -/
structure PX (X : Array Value) : Prop where
  info : (Tryz.prog.info? 24).map (·.size) = some X.size
  size : X.size = 18
  one : X.all (·.oneCell') = true
theorem pfA_size {p : Pf} (h : p.addr.length = 16) : (pfA p).size = 18 := by simp [pfA, cellsB_len, h]
theorem PX.of {p : Pf} (h : p.addr.length = 16) : PX (pfA p) := by
  refine ⟨by rw [pfA_size h]; exact infoP, pfA_size h, ?_⟩
  rw [Array.all_eq_true_iff_forall_mem]
  intro v hv
  simp only [pfA, cellsB, List.mem_toArray, List.mem_cons, List.mem_append, List.mem_map, List.not_mem_nil, or_false] at hv
  rcases hv with rfl | ⟨c, _, rfl⟩ | rfl <;> rfl
theorem Blk.p0 {w : World} {g : Nat} {t : TypeId} {p : Pf} (h : Blk w g t (pfA p)) : w.cell? ⟨g, 0, none⟩ = some (.bool p.six) := (h.cell 0).trans (by simp [pfA])
theorem Blk.p17 {w : World} {g : Nat} {t : TypeId} {p : Pf} (h : Blk w g t (pfA p)) (h16 : p.addr.length = 16) : w.cell? ⟨g, 17, none⟩ = some (.int .i64 p.len) :=
  (h.cell 17).trans (by
    unfold pfA
    rw [List.getElem?_toArray, List.getElem?_cons_succ, List.getElem?_append_right (by rw [cellsB_len, h16]; exact Nat.le_refl _), cellsB_len, h16]
    rfl)
theorem Blk.pA {w : World} {g : Nat} {t : TypeId} {p : Pf} (h : Blk w g t (pfA p)) : w.rangeAt g 1 (cellsB p.addr) := fun j v hv => by
  rw [h.cell]
  unfold pfA
  have hj : j < (cellsB p.addr).length := (List.getElem?_eq_some_iff.1 hv).1
  rw [List.getElem?_toArray, Nat.add_comm, List.getElem?_cons_succ, List.getElem?_append_left hj]
  exact hv
theorem info16' {a : List UInt8} (h : a.length = 16) : (Tryz.prog.info? 22).map (·.size) = some (cellsB a).length := by rw [cellsB_len, h]; exact info16
section
variable {ops : Array Oper} {Q : Exit → Act → World → Prop} {S : World → Prop}
/-- an address out of a prefix, in a region that draws -/
theorem yieldsIf_load_addr {op : Oper} {a : Act} (hw : Region.wanted op (yielded ops a.tmps) = true) (x : Operand) (ho : op.op = .load 22 x)
    (b o : Nat) (hx : a.eval x = .pointer (some ⟨b, o, none⟩)) (l : List UInt8) (h16 : l.length = 16) (hS : ∀ w, S w → w.rangeAt b o (cellsB l)) : YieldsIf Tryz.prog ops S op (.agg (arrB l)) a :=
  yieldsIf_load_mid hw _ x ho b o hx _ _ hS Tryz.underlying22 rfl (info16' h16)
/-- the same, where no order is drawn -/
theorem wpList_load_addr {rest : List Oper} {op : Oper} {a : Act} {w : World} (hw : Region.wanted op (yielded ops a.tmps) = true) (x : Operand) (ho : op.op = .load 22 x)
    (b o : Nat) (hx : a.eval x = .pointer (some ⟨b, o, none⟩)) (l : List UInt8) (h16 : l.length = 16) (hS : w.rangeAt b o (cellsB l))
    (h : wpList Tryz.prog ops Q rest (a.put op.dst (.agg (arrB l))) w) : wpList Tryz.prog ops Q (op :: rest) a w :=
  BigFrame.wpList_want hw fun _ hK => wp_load_mid _ x ho b o hx _ _ hS Tryz.underlying22 rfl (info16' h16) (hK _ _ h)
end
set_option maxRecDepth 100000 in
theorem eq_bytes_at (d : Nat) {a b : List UInt8} (ha : a.length = 16) (hb : b.length = 16) (w : World) : (Op.equalIn (d + 2) 22 (.agg (arrB a)) (.agg (arrB b))).run Tryz.prog w = .ok (decide (a = b)) w := by
  have hi : ∃ i, Tryz.prog.info? 5 = some i := by
    have h : (Tryz.prog.info? 5).isSome = true := by kernel_rfl
    exact Option.isSome_iff_exists.1 h
  obtain ⟨i, hi⟩ := hi
  have h := run_equalIn_array (P := Tryz.prog) (w := w) (d + 1) (arrB a) (arrB b) Tryz.underlying22 hi
  rw [show Tryz.prog.cellsOf 5 = 1 by kernel_rfl] at h
  rw [h]
  have h2 := eqItems_any (P := Tryz.prog) (e := 5) (d := d + 1) (fun c : UInt8 => Value.int .u8 (c.toNat : Int)) (fun cs off v w hv => by simp [part, Tryz.isAgg5, hv])
    (fun x y w => by
      rw [run_equalIn_int w d 5 .u8 .u8 _ _ Tryz.underlying5]
      congr 1
      rw [Bool.eq_iff_iff]
      simp only [beq_iff_eq, decide_eq_true_eq]
      constructor
      · intro h; exact UInt8.toNat_inj.1 (Int.ofNat.inj h)
      · rintro rfl; rfl) a b (List.range 16) w (by intro j hj; simp at hj; omega)
  unfold arrB
  rw [h2]
  congr 1
  exact decide_eq_decide.2 (range_eq ha hb)
theorem part_agg {t : TypeId} {n : Nat} (h : ∀ w, (isAgg t).run Tryz.prog w = .ok true w) (hi : (Tryz.prog.info? t).map (·.size) = some n) (cs : Array Value) (o : Nat) (xs : Array Value) (hx : cs.extract o (o + n) = xs) (w : World) : (part t cs o).run Tryz.prog w = .ok (.agg xs) w := by
  cases hq : Tryz.prog.info? t with
  | none => simp [hq] at hi
  | some i =>
    have hs : i.size = n := by simpa [hq] using hi
    simp [part, h, sizeOf, typeInfo, hq, hs, hx]
theorem pfA_mid {p : Pf} (h : p.addr.length = 16) : (pfA p).extract 1 (1 + 16) = arrB p.addr := by
  unfold pfA
  rw [List.extract_toArray, List.extract_eq_take_drop, List.drop_succ_cons, List.drop_zero]
  have : (1 + 16 - 1 : Nat) = (cellsB p.addr).length := by rw [cellsB_len, h]
  rw [this, List.take_left]
  rfl
set_option maxRecDepth 100000 in
theorem eq_pf {p q : Pf} (hp : p.addr.length = 16) (hq : q.addr.length = 16) (w : World) : (Op.equalIn 10000 24 (.agg (pfA p)) (.agg (pfA q))).run Tryz.prog w = .ok (decide (p = q)) w := by
  rw [run_equalIn_struct w 9999 24 _ _ (by kernel_rfl) (by kernel_rfl)]
  have hf : ((Tryz.prog.fieldsOf 24).toList.map fun f => (decide (f.name ≠ "_"), f.type, f.offset)) = [(true, 4, 0), (true, 22, 1), (true, 3, 17)] := by kernel_rfl
  generalize (Tryz.prog.fieldsOf 24).toList = fs at hf ⊢
  have s1 : ∀ (p : Pf) (w : World), (part 4 (pfA p) 0).run Tryz.prog w = .ok (.bool p.six) w := fun p w => by simp [part, Tryz.isAgg4, pfA]
  have s2 : ∀ (p : Pf) (w : World), p.addr.length = 16 → (part 22 (pfA p) 1).run Tryz.prog w = .ok (.agg (arrB p.addr)) w := fun p w h => part_agg Tryz.isAgg22 info16 _ _ _ (pfA_mid h) w
  have s3 : ∀ (p : Pf) (w : World), p.addr.length = 16 → (part 3 (pfA p) 17).run Tryz.prog w = .ok (.int .i64 p.len) w := fun p w h => by
    have : (pfA p)[17]? = some (.int .i64 p.len) := by
      unfold pfA
      rw [List.getElem?_toArray, List.getElem?_cons_succ, List.getElem?_append_right (by rw [cellsB_len, h]; exact Nat.le_refl _), cellsB_len, h]
      rfl
    simp [part, Tryz.isAgg3, this]
  have hlen : fs.length = 3 := by have := congrArg List.length hf; simpa using this
  obtain ⟨f1, f2, f3, rfl⟩ : ∃ a b c, fs = [a, b, c] := by
    clear hf
    match fs, hlen with
    | [a, b, c], _ => exact ⟨a, b, c, rfl⟩
  · clear hlen
    simp only [List.map_cons, List.map_nil, List.cons.injEq, Prod.mk.injEq, decide_eq_true_eq, and_true] at hf
    obtain ⟨⟨n1, t1, o1⟩, ⟨n2, t2, o2⟩, n3, t3, o3⟩ := hf
    have s2p := fun w => s2 p w hp
    have s2q := fun w => s2 q w hq
    have s3p := fun w => s3 p w hp
    have s3q := fun w => s3 q w hq
    have e1 := fun w => run_equalIn_bool' w 9998 4 p.six q.six Tryz.underlying4
    have e2 := fun w => eq_bytes_at 9997 hp hq w
    have e3 := fun w => run_equalIn_int w 9998 3 .i64 .i64 p.len q.len Tryz.underlying3
    simp only [Op.eqFields, if_pos n1, if_pos n2, if_pos n3, t1, t2, t3, o1, o2, o3, Sem.run_bind, s1, s2p, s2q, s3p, s3q, Result.andThen_ok, e1, e2, e3, Sem.run_ite, Sem.run_pure]
    obtain ⟨ps, pa, pl⟩ := p
    obtain ⟨qs, qa, ql⟩ := q
    simp only
    by_cases h1 : ps = qs
    · by_cases h2 : pa = qa
      · by_cases h3 : pl = ql
        · simp [h1, h2, h3]
        · simp [h1, h2, h3]
      · simp [h1, h2]
    · simp [h1]
end Go.Proofs.YtjbolphfelakeaaGreatDoor

/- prefix.Of, Has, Check, Covers, Bit. -/
namespace Go.Proofs.YtjbolphfelakeaaGreatDoor
set_option linter.unusedVariables false
set_option linter.unusedSimpArgs false
open Go.RowKit Go.Shelf Go.Proofs Go.OctetPlain Go.ColonPlain Go.PrefixPlain

theorem build_pf (six : Bool) (a : List UInt8) (h : a.length = 16) (n : Int) (w : World) : (Instr.build 24 #[(0, .bool six), (1, .agg (arrB a)), (2, .int .i64 n)]).run Tryz.prog w = .ok (.agg (pfA ⟨six, a, n⟩)) w := by
  obtain ⟨x0, x1, x2, x3, x4, x5, x6, x7, x8, x9, x10, x11, x12, x13, x14, x15, rfl⟩ := list16 h
  exact run_build w _ _ _ (by kernel_rfl)
def zP : Pf := ⟨false, List.replicate 16 0, 0⟩
theorem build_zero (w : World) : (Instr.build 24 #[]).run Tryz.prog w = .ok (.agg (pfA zP)) w := run_build w _ _ _ (by kernel_rfl)
set_option maxRecDepth 100000 in
set_option maxHeartbeats 1000000 in
theorem pfx_Of (six : Bool) (a : List UInt8) (ha : a.length = 16) (n : Int) (hn : -9223372036854775808 ≤ n ∧ n ≤ 9223372036854775807) (w : World) :
    Calls Tryz.prog 11 #[.bool six, .agg (arrB a), .int .i64 n] w fun e w' => e = .returned (.agg (pfA (ofP six a n))) ∧ Below w.heap.size w w' := by
  have hm := most_pos six
  have MO := Lib.hid fun W => pfx_most six W
  obtain ⟨m, hmm, hM⟩ : ∃ m : Int, min (max n 0) (most six) = m ∧ 0 ≤ m ∧ m ≤ 128 := ⟨_, rfl, by omega, by omega⟩
  have FP := Lib.hid fun W => pfx_first a ha m (by omega) W
  have HX : Hid (pfA (ofP six a n) = pfA ⟨six, first a m, m⟩) := by unfold ofP; rw [hmm]; exact Lib.hid rfl
  have KX := PX.of (p := ⟨six, first a m, m⟩) (by rw [first_length, ha])
  obtain ⟨y0, y1, y2, y3, y4, y5, y6, y7, y8, y9, y10, y11, y12, y13, y14, y15, hy⟩ := list16 (show (first a m).length = 16 by rw [first_length, ha])
  rw [hy] at HX KX FP
  have FP2 : Hid (∀ W, Calls Tryz.prog 26 #[.agg (arrB a), .int .i64 m] W fun e w' => e = .returned (.agg #[.int .u8 (y0.toNat : Int), .int .u8 (y1.toNat : Int), .int .u8 (y2.toNat : Int), .int .u8 (y3.toNat : Int), .int .u8 (y4.toNat : Int), .int .u8 (y5.toNat : Int), .int .u8 (y6.toNat : Int), .int .u8 (y7.toNat : Int), .int .u8 (y8.toNat : Int), .int .u8 (y9.toNat : Int), .int .u8 (y10.toNat : Int), .int .u8 (y11.toNat : Int), .int .u8 (y12.toNat : Int), .int .u8 (y13.toNat : Int), .int .u8 (y14.toNat : Int), .int .u8 (y15.toNat : Int)]) ∧ Below W.heap.size W w') := FP
  clear hy FP
  have KA := A16.of ha
  have hu16 := Tryz.underlying22
  have huP := Tryz.underlying24
  generalize most six = M at MO hmm hm
  go_enter Tryz.func11, Tryz.ntmps11
  go_wp2_with fail
  refine (MO.out _).mono ?_
  rintro e w1 ⟨rfl, hw1⟩
  subst hw1
  have h0 : Blk ((w.alloc (.cells (arrB a) 22)).alloc (.cells (pfA zP) 24)) w.heap.size 22 (arrB a) := (Blk.new _ _ _).alloc _
  have h1 : Blk ((w.alloc (.cells (arrB a) 22)).alloc (.cells (pfA zP) 24)) (w.heap.size + 1) 24 (pfA zP) := by
    have h := Blk.new (w.alloc (.cells (arrB a) 22)) 24 (pfA zP)
    rw [World.size_alloc] at h
    exact h
  have hb : Below w.heap.size w ((w.alloc (.cells (arrB a) 22)).alloc (.cells (pfA zP) 24)) := (belowA w _).alloc (by simp) _
  have H0 := Lib.hid h0
  have H1 := Lib.hid h1
  have HB := Lib.hid hb
  clear h0 h1 hb
  go_wp2_with (refine wpList_load_want rfl _ _ rfl w.heap.size rfl _ (arrB a) (0, 0) _ H0.out hu16 rfl KA.info ?_)
  refine (FP2.out _).mono ?_
  rintro e w2 ⟨rfl, hb2⟩
  have H2 := H1.out.below hb2 H1.out.lt
  have HB2 := Lib.hid (HB.out.trans (hb2.mono HB.out.size))
  clear hb2
  go_wp2_with (refine wpList_store_row rfl _ _ _ rfl (w.heap.size + 1) (pfA ⟨six, [y0, y1, y2, y3, y4, y5, y6, y7, y8, y9, y10, y11, y12, y13, y14, y15], m⟩) rfl rfl 24 (pfA zP) H2 KX.info KX.size.symm KX.one ?_)
  refine bodyPost_ret (results_cell_row rfl _ _ _ _ _ _ _ rfl (H2.setRow _) huP rfl KX.info) rfl ⟨by rw [HX.out], below_setRow HB2.out (by omega) _⟩

/-- a prefix's block and an address's -/
structure HS (w W : World) (p : Pf) (a : List UInt8) : Prop where
  bp : Blk W w.heap.size 24 (pfA p)
  ba : Blk W (w.heap.size + 1) 22 (arrB a)
  below : Below w.heap.size w W
theorem HS.next {w W W' : World} {p : Pf} {a : List UInt8} (h : HS w W p a) (hb : Below W.heap.size W W') : HS w W' p a := ⟨h.bp.below hb h.bp.lt, h.ba.below hb h.ba.lt, h.below.trans (hb.mono h.below.size)⟩
theorem HS.drew {w W : World} {p : Pf} {a : List UInt8} (h : HS w W p a) : HS w W.drew p a := h.next (Below.refl _ _).drew
set_option maxRecDepth 100000 in
set_option maxHeartbeats 1000000 in
theorem pfx_Has (p : Pf) (hp : p.addr.length = 16) (hn : -9223372036854775808 ≤ p.len ∧ p.len ≤ 9223372036854775807) (a : List UInt8) (ha : a.length = 16) (w : World) :
    Calls Tryz.prog 13 #[.agg (pfA p), .agg (arrB a)] w fun e w' => e = .returned (.bool (has p a)) ∧ Below w.heap.size w w' := by
  have FP := Lib.hid fun W => pfx_first p.addr hp p.len hn W
  have FA := Lib.hid fun W => pfx_first a ha p.len hn W
  have QE := fun W => eq_bytes_at 9998 (a := first p.addr p.len) (b := first a p.len) (by rw [first_length, hp]) (by rw [first_length, ha]) W
  have KA := A16.of ha
  have hu16 := Tryz.underlying22
  have hr : decide (first p.addr p.len = first a p.len) = has p a := rfl
  rw [hr] at QE
  have h0 : HS w ((w.alloc (.cells (pfA p) 24)).alloc (.cells (arrB a) 22)) p a := by
    refine ⟨(Blk.new _ _ _).alloc _, ?_, (belowA w _).alloc (by simp) _⟩
    have h := Blk.new (w.alloc (.cells (pfA p) 24)) 22 (arrB a)
    rw [World.size_alloc] at h
    exact h
  have H0 := Lib.hid h0
  clear h0 hr
  generalize arrB (first p.addr p.len) = X1 at FP QE
  generalize arrB (first a p.len) = X2 at FA QE
  generalize has p a = r at QE ⊢
  go_enter Tryz.func13, Tryz.ntmps13
  go_wp2_with fail
  refine wp_region_held_drew (S := fun W => HS w W p a) (by kernel_rfl) H0.out.drew (fun hHeld => ?_)
  refine wpAnyH_take (i := 0) (v := ?_) rfl (by kernel_rfl) (by kernel_rfl) (by kernel_rfl) (fun _ _ _ h => h) (Or.inl ⟨by rfl, ?_⟩) (by assumption) ?_
  rotate_left
  · intro w hSw; go_simp; try with_reducible rfl
  simp only [Act.put, List.setIfInBounds_toArray, List.set_cons_zero, List.set_cons_succ, List.getElem_toArray, List.getElem_cons_zero, List.getElem_cons_succ]
  refine wpAnyH_take (i := 1) rfl (by kernel_rfl) (by kernel_rfl) (by kernel_rfl) (fun _ _ _ h => h) (yieldsIf_load_addr (by rfl) _ rfl (w.heap.size) 1 rfl (p.addr) (hp) (fun w h => h.bp.pA)) (by assumption) ?_
  simp only [Act.put, List.setIfInBounds_toArray, List.set_cons_zero, List.set_cons_succ, List.getElem_toArray, List.getElem_cons_zero, List.getElem_cons_succ]
  refine wpAnyH_take (i := 2) (v := ?_) rfl (by kernel_rfl) (by kernel_rfl) (by kernel_rfl) (fun _ _ _ h => h) (Or.inl ⟨by rfl, ?_⟩) (by assumption) ?_
  rotate_left
  · intro w hSw; go_simp; try with_reducible rfl
  simp only [Act.put, List.setIfInBounds_toArray, List.set_cons_zero, List.set_cons_succ, List.getElem_toArray, List.getElem_cons_zero, List.getElem_cons_succ]
  refine wpAnyH_take (i := 3) (v := ?_) rfl (by kernel_rfl) (by kernel_rfl) (by kernel_rfl) (fun _ _ _ h => h) (Or.inl ⟨by rfl, ?_⟩) (by assumption) ?_
  rotate_left
  · intro w h; have hf := h.bp.p17 hp; go_simp; try with_reducible rfl
  simp only [Act.put, List.setIfInBounds_toArray, List.set_cons_zero, List.set_cons_succ, List.getElem_toArray, List.getElem_cons_zero, List.getElem_cons_succ]
  refine wpAnyH_take (i := 5) rfl (by kernel_rfl) (by kernel_rfl) (by kernel_rfl) (fun _ _ _ h => h) (yieldsIf_load_row (by rfl) _ _ rfl (w.heap.size + 1) rfl _ (arrB a) _ (fun w h => h.ba) hu16 rfl KA.info) (by assumption) ?_
  simp only [Act.put, List.setIfInBounds_toArray, List.set_cons_zero, List.set_cons_succ, List.getElem_toArray, List.getElem_cons_zero, List.getElem_cons_succ]
  refine wpAnyH_take (i := 6) (v := ?_) rfl (by kernel_rfl) (by kernel_rfl) (by kernel_rfl) (fun _ _ _ h => h) (Or.inl ⟨by rfl, ?_⟩) (by assumption) ?_
  rotate_left
  · intro w hSw; go_simp; try with_reducible rfl
  simp only [Act.put, List.setIfInBounds_toArray, List.set_cons_zero, List.set_cons_succ, List.getElem_toArray, List.getElem_cons_zero, List.getElem_cons_succ]
  refine wpAnyH_take (i := 7) (v := ?_) rfl (by kernel_rfl) (by kernel_rfl) (by kernel_rfl) (fun _ _ _ h => h) (Or.inl ⟨by rfl, ?_⟩) (by assumption) ?_
  rotate_left
  · intro w h; have hf := h.bp.p17 hp; go_simp; try with_reducible rfl
  simp only [Act.put, List.setIfInBounds_toArray, List.set_cons_zero, List.set_cons_succ, List.getElem_toArray, List.getElem_cons_zero, List.getElem_cons_succ]
  refine held_step (i := 4) rfl (by kernel_rfl) (by rfl) (fun K hK => ?_)
  go_simp
  refine (FP.out _).mono ?_; rintro e w1 ⟨rfl, hb1⟩
  go_wp2_with fail
  refine hK.out _ _ (HS.next (by assumption) hb1) (fun hHeld => ?_)
  clear hK K
  try simp only [Act.put, List.setIfInBounds_toArray, List.set_cons_zero, List.set_cons_succ, List.getElem_toArray, List.getElem_cons_zero, List.getElem_cons_succ]
  refine held_step (i := 8) rfl (by kernel_rfl) (by rfl) (fun K hK => ?_)
  go_simp
  refine (FA.out _).mono ?_; rintro e w2 ⟨rfl, hb2⟩
  go_wp2_with fail
  refine hK.out _ _ (HS.next (by assumption) hb2) (fun hHeld => ?_)
  clear hK K
  try simp only [Act.put, List.setIfInBounds_toArray, List.set_cons_zero, List.set_cons_succ, List.getElem_toArray, List.getElem_cons_zero, List.getElem_cons_succ]
  refine wpAnyH_take (i := 9) (v := ?_) rfl (by kernel_rfl) (by kernel_rfl) (by kernel_rfl) (fun _ _ _ h => h) (Or.inl ⟨by rfl, ?_⟩) (by assumption) ?_
  rotate_left
  · intro w hSw; go_simp; try with_reducible rfl
  simp only [Act.put, List.setIfInBounds_toArray, List.set_cons_zero, List.set_cons_succ, List.getElem_toArray, List.getElem_cons_zero, List.getElem_cons_succ]
  refine wpAnyH_take (i := 10) (v := ?_) rfl (by kernel_rfl) (by kernel_rfl) (by kernel_rfl) (fun _ _ _ h => h) (Or.inl ⟨by rfl, ?_⟩) (by assumption) ?_
  rotate_left
  · intro w hSw; go_simp; try with_reducible rfl
  simp only [Act.put, List.setIfInBounds_toArray, List.set_cons_zero, List.set_cons_succ, List.getElem_toArray, List.getElem_cons_zero, List.getElem_cons_succ]
  refine wpAnyH_done (by kernel_rfl) ?_ _

  all_goals go_wp2_with fail
  all_goals go_ret
  all_goals exact ⟨rfl, HS.below (by assumption)⟩
end Go.Proofs.YtjbolphfelakeaaGreatDoor

/- prefix.Check, Covers, Bit. -/
namespace Go.Proofs.YtjbolphfelakeaaGreatDoor
set_option linter.unusedVariables false
set_option linter.unusedSimpArgs false
open Go.RowKit Go.Shelf Go.Proofs Go.OctetPlain Go.ColonPlain Go.PrefixPlain

/-- a prefix's block -/
structure CS (w W : World) (p : Pf) : Prop where
  b : Blk W w.heap.size 24 (pfA p)
  below : Below w.heap.size w W
theorem CS.next {w W W' : World} {p : Pf} (h : CS w W p) (hb : Below W.heap.size W W') : CS w W' p := ⟨h.b.below hb h.b.lt, h.below.trans (hb.mono h.below.size)⟩
theorem CS.drew {w W : World} {p : Pf} (h : CS w W p) : CS w W.drew p := h.next (Below.refl _ _).drew
def okN (p : Pf) : Int := if ok p then 0 else 1
set_option maxRecDepth 100000 in
set_option maxHeartbeats 2000000 in
theorem pfx_Check (p : Pf) (hp : p.addr.length = 16) (hn : -9223372036854775808 ≤ p.len ∧ p.len ≤ 9223372036854775807) (w : World) :
    Calls Tryz.prog 7 #[.agg (pfA p)] w fun e w' => e = .returned (.int .i64 (okN p)) ∧ Below w.heap.size w w' := by
  have MO := Lib.hid fun W => pfx_most p.six W
  have FP := Lib.hid fun W => pfx_first p.addr hp p.len hn W
  have huP := Tryz.underlying24
  have KX := PX.of hp
  have h0 : CS w (w.alloc (.cells (pfA p) 24)) p := ⟨Blk.new _ _ _, belowA w _⟩
  have H0 := Lib.hid h0
  clear h0
  by_cases hneg : p.len < 0
  · have hr : Hid (okN p = 1) := Lib.hid (by unfold okN; rw [if_neg (fun h => by have := h.1; omega)])
    rw [hr.out]
    go_enter Tryz.func7, Tryz.ntmps7
    go_wp2_with fail
    refine wp_region_held_drew (S := fun W => CS w W p) (by kernel_rfl) H0.out.drew (fun hHeld => ?_)
    refine wpAnyH_take (i := 0) (v := ?_) rfl (by kernel_rfl) (by kernel_rfl) (by kernel_rfl) (fun _ _ _ h => h) (Or.inl ⟨by rfl, ?_⟩) (by assumption) ?_
    rotate_left
    · intro w hSw; go_simp; try with_reducible rfl
    simp only [Act.put, List.setIfInBounds_toArray, List.set_cons_zero, List.set_cons_succ, List.getElem_toArray, List.getElem_cons_zero, List.getElem_cons_succ]
    refine wpAnyH_take (i := 1) (v := ?_) rfl (by kernel_rfl) (by kernel_rfl) (by kernel_rfl) (fun _ _ _ h => h) (Or.inl ⟨by rfl, ?_⟩) (by assumption) ?_
    rotate_left
    · intro w h; have hf := (h.b).p17 hp; go_simp; try with_reducible rfl
    simp only [Act.put, List.setIfInBounds_toArray, List.set_cons_zero, List.set_cons_succ, List.getElem_toArray, List.getElem_cons_zero, List.getElem_cons_succ]
    refine wpAnyH_take (i := 2) (v := .bool true) rfl (by kernel_rfl) (by kernel_rfl) (by kernel_rfl) (fun _ _ _ h => h) (Or.inl ⟨by rfl, ?_⟩) (by assumption) ?_
    · intro w hSw; go_simp; try (omega)
    simp only [Act.put, List.setIfInBounds_toArray, List.set_cons_zero, List.set_cons_succ, List.getElem_toArray, List.getElem_cons_zero, List.getElem_cons_succ]
    refine wpAnyH_take (i := 3) (v := ?_) rfl (by kernel_rfl) (by kernel_rfl) (by kernel_rfl) (fun _ _ _ h => h) (Or.inl ⟨by rfl, ?_⟩) (by assumption) ?_
    rotate_left
    · intro w hSw; go_simp; try with_reducible rfl
    simp only [Act.put, List.setIfInBounds_toArray, List.set_cons_zero, List.set_cons_succ, List.getElem_toArray, List.getElem_cons_zero, List.getElem_cons_succ]
    refine wpAnyH_take (i := 4) rfl (by kernel_rfl) (by kernel_rfl) (by kernel_rfl) (fun _ _ _ h => h) (yieldsIf_off (by rfl)) (by assumption) ?_
    simp only [Act.put, List.setIfInBounds_toArray, List.set_cons_zero, List.set_cons_succ, List.getElem_toArray, List.getElem_cons_zero, List.getElem_cons_succ]
    refine wpAnyH_take (i := 5) rfl (by kernel_rfl) (by kernel_rfl) (by kernel_rfl) (fun _ _ _ h => h) (yieldsIf_off (by rfl)) (by assumption) ?_
    simp only [Act.put, List.setIfInBounds_toArray, List.set_cons_zero, List.set_cons_succ, List.getElem_toArray, List.getElem_cons_zero, List.getElem_cons_succ]
    refine wpAnyH_take (i := 6) rfl (by kernel_rfl) (by kernel_rfl) (by kernel_rfl) (fun _ _ _ h => h) (yieldsIf_off (by rfl)) (by assumption) ?_
    simp only [Act.put, List.setIfInBounds_toArray, List.set_cons_zero, List.set_cons_succ, List.getElem_toArray, List.getElem_cons_zero, List.getElem_cons_succ]
    refine wpAnyH_take (i := 7) rfl (by kernel_rfl) (by kernel_rfl) (by kernel_rfl) (fun _ _ _ h => h) (yieldsIf_off (by rfl)) (by assumption) ?_
    simp only [Act.put, List.setIfInBounds_toArray, List.set_cons_zero, List.set_cons_succ, List.getElem_toArray, List.getElem_cons_zero, List.getElem_cons_succ]
    refine wpAnyH_take (i := 8) rfl (by kernel_rfl) (by kernel_rfl) (by kernel_rfl) (fun _ _ _ h => h) (yieldsIf_off (by rfl)) (by assumption) ?_
    simp only [Act.put, List.setIfInBounds_toArray, List.set_cons_zero, List.set_cons_succ, List.getElem_toArray, List.getElem_cons_zero, List.getElem_cons_succ]
    refine wpAnyH_take (i := 9) rfl (by kernel_rfl) (by kernel_rfl) (by kernel_rfl) (fun _ _ _ h => h) (yieldsIf_off (by rfl)) (by assumption) ?_
    simp only [Act.put, List.setIfInBounds_toArray, List.set_cons_zero, List.set_cons_succ, List.getElem_toArray, List.getElem_cons_zero, List.getElem_cons_succ]
    refine wpAnyH_take (i := 10) (v := ?_) rfl (by kernel_rfl) (by kernel_rfl) (by kernel_rfl) (fun _ _ _ h => h) (Or.inl ⟨by rfl, ?_⟩) (by assumption) ?_
    rotate_left
    · intro w hSw; go_simp; try with_reducible rfl
    simp only [Act.put, List.setIfInBounds_toArray, List.set_cons_zero, List.set_cons_succ, List.getElem_toArray, List.getElem_cons_zero, List.getElem_cons_succ]
    refine wpAnyH_take (i := 11) (v := ?_) rfl (by kernel_rfl) (by kernel_rfl) (by kernel_rfl) (fun _ _ _ h => h) (Or.inl ⟨by rfl, ?_⟩) (by assumption) ?_
    rotate_left
    · intro w hSw; go_simp; try with_reducible rfl
    simp only [Act.put, List.setIfInBounds_toArray, List.set_cons_zero, List.set_cons_succ, List.getElem_toArray, List.getElem_cons_zero, List.getElem_cons_succ]
    refine wpAnyH_take (i := 12) rfl (by kernel_rfl) (by kernel_rfl) (by kernel_rfl) (fun _ _ _ h => h) (yieldsIf_off (by rfl)) (by assumption) ?_
    simp only [Act.put, List.setIfInBounds_toArray, List.set_cons_zero, List.set_cons_succ, List.getElem_toArray, List.getElem_cons_zero, List.getElem_cons_succ]
    refine wpAnyH_take (i := 13) rfl (by kernel_rfl) (by kernel_rfl) (by kernel_rfl) (fun _ _ _ h => h) (yieldsIf_off (by rfl)) (by assumption) ?_
    simp only [Act.put, List.setIfInBounds_toArray, List.set_cons_zero, List.set_cons_succ, List.getElem_toArray, List.getElem_cons_zero, List.getElem_cons_succ]
    refine wpAnyH_take (i := 14) rfl (by kernel_rfl) (by kernel_rfl) (by kernel_rfl) (fun _ _ _ h => h) (yieldsIf_off (by rfl)) (by assumption) ?_
    simp only [Act.put, List.setIfInBounds_toArray, List.set_cons_zero, List.set_cons_succ, List.getElem_toArray, List.getElem_cons_zero, List.getElem_cons_succ]
    refine wpAnyH_take (i := 15) rfl (by kernel_rfl) (by kernel_rfl) (by kernel_rfl) (fun _ _ _ h => h) (yieldsIf_off (by rfl)) (by assumption) ?_
    simp only [Act.put, List.setIfInBounds_toArray, List.set_cons_zero, List.set_cons_succ, List.getElem_toArray, List.getElem_cons_zero, List.getElem_cons_succ]
    refine wpAnyH_take (i := 16) rfl (by kernel_rfl) (by kernel_rfl) (by kernel_rfl) (fun _ _ _ h => h) (yieldsIf_off (by rfl)) (by assumption) ?_
    simp only [Act.put, List.setIfInBounds_toArray, List.set_cons_zero, List.set_cons_succ, List.getElem_toArray, List.getElem_cons_zero, List.getElem_cons_succ]
    refine wpAnyH_take (i := 17) rfl (by kernel_rfl) (by kernel_rfl) (by kernel_rfl) (fun _ _ _ h => h) (yieldsIf_off (by rfl)) (by assumption) ?_
    simp only [Act.put, List.setIfInBounds_toArray, List.set_cons_zero, List.set_cons_succ, List.getElem_toArray, List.getElem_cons_zero, List.getElem_cons_succ]
    refine wpAnyH_take (i := 18) rfl (by kernel_rfl) (by kernel_rfl) (by kernel_rfl) (fun _ _ _ h => h) (yieldsIf_off (by rfl)) (by assumption) ?_
    simp only [Act.put, List.setIfInBounds_toArray, List.set_cons_zero, List.set_cons_succ, List.getElem_toArray, List.getElem_cons_zero, List.getElem_cons_succ]
    refine wpAnyH_take (i := 19) rfl (by kernel_rfl) (by kernel_rfl) (by kernel_rfl) (fun _ _ _ h => h) (yieldsIf_off (by rfl)) (by assumption) ?_
    simp only [Act.put, List.setIfInBounds_toArray, List.set_cons_zero, List.set_cons_succ, List.getElem_toArray, List.getElem_cons_zero, List.getElem_cons_succ]
    refine wpAnyH_take (i := 20) (v := ?_) rfl (by kernel_rfl) (by kernel_rfl) (by kernel_rfl) (fun _ _ _ h => h) (Or.inl ⟨by rfl, ?_⟩) (by assumption) ?_
    rotate_left
    · intro w hSw; go_simp; try with_reducible rfl
    simp only [Act.put, List.setIfInBounds_toArray, List.set_cons_zero, List.set_cons_succ, List.getElem_toArray, List.getElem_cons_zero, List.getElem_cons_succ]
    refine wpAnyH_done (by kernel_rfl) ?_ _

    all_goals go_wp2_with fail
    all_goals go_ret
    all_goals exact ⟨rfl, CS.below (by assumption)⟩
  · have h00 : 0 ≤ p.len := by omega
    by_cases hgr : most p.six < p.len
    · have hr : Hid (okN p = 1) := Lib.hid (by unfold okN; rw [if_neg (fun h => by have := h.2.1; omega)])
      rw [hr.out]
      generalize most p.six = M at MO hgr
      go_enter Tryz.func7, Tryz.ntmps7
      go_wp2_with fail
      refine wp_region_held_drew (S := fun W => CS w W p) (by kernel_rfl) H0.out.drew (fun hHeld => ?_)
      refine wpAnyH_take (i := 0) (v := ?_) rfl (by kernel_rfl) (by kernel_rfl) (by kernel_rfl) (fun _ _ _ h => h) (Or.inl ⟨by rfl, ?_⟩) (by assumption) ?_
      rotate_left
      · intro w hSw; go_simp; try with_reducible rfl
      simp only [Act.put, List.setIfInBounds_toArray, List.set_cons_zero, List.set_cons_succ, List.getElem_toArray, List.getElem_cons_zero, List.getElem_cons_succ]
      refine wpAnyH_take (i := 1) (v := ?_) rfl (by kernel_rfl) (by kernel_rfl) (by kernel_rfl) (fun _ _ _ h => h) (Or.inl ⟨by rfl, ?_⟩) (by assumption) ?_
      rotate_left
      · intro w h; have hf := (h.b).p17 hp; go_simp; try with_reducible rfl
      simp only [Act.put, List.setIfInBounds_toArray, List.set_cons_zero, List.set_cons_succ, List.getElem_toArray, List.getElem_cons_zero, List.getElem_cons_succ]
      refine wpAnyH_take (i := 2) (v := .bool false) rfl (by kernel_rfl) (by kernel_rfl) (by kernel_rfl) (fun _ _ _ h => h) (Or.inl ⟨by rfl, ?_⟩) (by assumption) ?_
      · intro w hSw; go_simp; try (omega)
      simp only [Act.put, List.setIfInBounds_toArray, List.set_cons_zero, List.set_cons_succ, List.getElem_toArray, List.getElem_cons_zero, List.getElem_cons_succ]
      refine wpAnyH_take (i := 3) (v := ?_) rfl (by kernel_rfl) (by kernel_rfl) (by kernel_rfl) (fun _ _ _ h => h) (Or.inl ⟨by rfl, ?_⟩) (by assumption) ?_
      rotate_left
      · intro w hSw; go_simp; try with_reducible rfl
      simp only [Act.put, List.setIfInBounds_toArray, List.set_cons_zero, List.set_cons_succ, List.getElem_toArray, List.getElem_cons_zero, List.getElem_cons_succ]
      refine wpAnyH_take (i := 4) (v := ?_) rfl (by kernel_rfl) (by kernel_rfl) (by kernel_rfl) (fun _ _ _ h => h) (Or.inl ⟨by rfl, ?_⟩) (by assumption) ?_
      rotate_left
      · intro w hSw; go_simp; try with_reducible rfl
      simp only [Act.put, List.setIfInBounds_toArray, List.set_cons_zero, List.set_cons_succ, List.getElem_toArray, List.getElem_cons_zero, List.getElem_cons_succ]
      refine wpAnyH_take (i := 5) (v := ?_) rfl (by kernel_rfl) (by kernel_rfl) (by kernel_rfl) (fun _ _ _ h => h) (Or.inl ⟨by rfl, ?_⟩) (by assumption) ?_
      rotate_left
      · intro w h; have hf := (h.b).p17 hp; go_simp; try with_reducible rfl
      simp only [Act.put, List.setIfInBounds_toArray, List.set_cons_zero, List.set_cons_succ, List.getElem_toArray, List.getElem_cons_zero, List.getElem_cons_succ]
      refine wpAnyH_take (i := 6) (v := ?_) rfl (by kernel_rfl) (by kernel_rfl) (by kernel_rfl) (fun _ _ _ h => h) (Or.inl ⟨by rfl, ?_⟩) (by assumption) ?_
      rotate_left
      · intro w hSw; go_simp; try with_reducible rfl
      simp only [Act.put, List.setIfInBounds_toArray, List.set_cons_zero, List.set_cons_succ, List.getElem_toArray, List.getElem_cons_zero, List.getElem_cons_succ]
      refine wpAnyH_take (i := 7) (v := ?_) rfl (by kernel_rfl) (by kernel_rfl) (by kernel_rfl) (fun _ _ _ h => h) (Or.inl ⟨by rfl, ?_⟩) (by assumption) ?_
      rotate_left
      · intro w h; have hf := (h.b).p0; go_simp; try with_reducible rfl
      simp only [Act.put, List.setIfInBounds_toArray, List.set_cons_zero, List.set_cons_succ, List.getElem_toArray, List.getElem_cons_zero, List.getElem_cons_succ]
      refine held_step (i := 8) rfl (by kernel_rfl) (by rfl) (fun K hK => ?_)
      go_simp
      refine (MO.out _).mono ?_; rintro e w1 ⟨rfl, hw1⟩; subst hw1
      go_wp2_with fail
      refine hK.out _ _ ((by assumption)) (fun hHeld => ?_)
      clear hK K
      try simp only [Act.put, List.setIfInBounds_toArray, List.set_cons_zero, List.set_cons_succ, List.getElem_toArray, List.getElem_cons_zero, List.getElem_cons_succ]
      refine wpAnyH_take (i := 9) (v := .bool true) rfl (by kernel_rfl) (by kernel_rfl) (by kernel_rfl) (fun _ _ _ h => h) (Or.inl ⟨by rfl, ?_⟩) (by assumption) ?_
      · intro w hSw; go_simp; try (omega)
      simp only [Act.put, List.setIfInBounds_toArray, List.set_cons_zero, List.set_cons_succ, List.getElem_toArray, List.getElem_cons_zero, List.getElem_cons_succ]
      refine wpAnyH_take (i := 10) (v := ?_) rfl (by kernel_rfl) (by kernel_rfl) (by kernel_rfl) (fun _ _ _ h => h) (Or.inl ⟨by rfl, ?_⟩) (by assumption) ?_
      rotate_left
      · intro w hSw; go_simp; try with_reducible rfl
      simp only [Act.put, List.setIfInBounds_toArray, List.set_cons_zero, List.set_cons_succ, List.getElem_toArray, List.getElem_cons_zero, List.getElem_cons_succ]
      refine wpAnyH_take (i := 11) (v := ?_) rfl (by kernel_rfl) (by kernel_rfl) (by kernel_rfl) (fun _ _ _ h => h) (Or.inl ⟨by rfl, ?_⟩) (by assumption) ?_
      rotate_left
      · intro w hSw; go_simp; try with_reducible rfl
      simp only [Act.put, List.setIfInBounds_toArray, List.set_cons_zero, List.set_cons_succ, List.getElem_toArray, List.getElem_cons_zero, List.getElem_cons_succ]
      refine wpAnyH_take (i := 12) rfl (by kernel_rfl) (by kernel_rfl) (by kernel_rfl) (fun _ _ _ h => h) (yieldsIf_off (by rfl)) (by assumption) ?_
      simp only [Act.put, List.setIfInBounds_toArray, List.set_cons_zero, List.set_cons_succ, List.getElem_toArray, List.getElem_cons_zero, List.getElem_cons_succ]
      refine wpAnyH_take (i := 13) rfl (by kernel_rfl) (by kernel_rfl) (by kernel_rfl) (fun _ _ _ h => h) (yieldsIf_off (by rfl)) (by assumption) ?_
      simp only [Act.put, List.setIfInBounds_toArray, List.set_cons_zero, List.set_cons_succ, List.getElem_toArray, List.getElem_cons_zero, List.getElem_cons_succ]
      refine wpAnyH_take (i := 14) rfl (by kernel_rfl) (by kernel_rfl) (by kernel_rfl) (fun _ _ _ h => h) (yieldsIf_off (by rfl)) (by assumption) ?_
      simp only [Act.put, List.setIfInBounds_toArray, List.set_cons_zero, List.set_cons_succ, List.getElem_toArray, List.getElem_cons_zero, List.getElem_cons_succ]
      refine wpAnyH_take (i := 15) rfl (by kernel_rfl) (by kernel_rfl) (by kernel_rfl) (fun _ _ _ h => h) (yieldsIf_off (by rfl)) (by assumption) ?_
      simp only [Act.put, List.setIfInBounds_toArray, List.set_cons_zero, List.set_cons_succ, List.getElem_toArray, List.getElem_cons_zero, List.getElem_cons_succ]
      refine wpAnyH_take (i := 16) rfl (by kernel_rfl) (by kernel_rfl) (by kernel_rfl) (fun _ _ _ h => h) (yieldsIf_off (by rfl)) (by assumption) ?_
      simp only [Act.put, List.setIfInBounds_toArray, List.set_cons_zero, List.set_cons_succ, List.getElem_toArray, List.getElem_cons_zero, List.getElem_cons_succ]
      refine wpAnyH_take (i := 17) rfl (by kernel_rfl) (by kernel_rfl) (by kernel_rfl) (fun _ _ _ h => h) (yieldsIf_off (by rfl)) (by assumption) ?_
      simp only [Act.put, List.setIfInBounds_toArray, List.set_cons_zero, List.set_cons_succ, List.getElem_toArray, List.getElem_cons_zero, List.getElem_cons_succ]
      refine wpAnyH_take (i := 18) rfl (by kernel_rfl) (by kernel_rfl) (by kernel_rfl) (fun _ _ _ h => h) (yieldsIf_off (by rfl)) (by assumption) ?_
      simp only [Act.put, List.setIfInBounds_toArray, List.set_cons_zero, List.set_cons_succ, List.getElem_toArray, List.getElem_cons_zero, List.getElem_cons_succ]
      refine wpAnyH_take (i := 19) rfl (by kernel_rfl) (by kernel_rfl) (by kernel_rfl) (fun _ _ _ h => h) (yieldsIf_off (by rfl)) (by assumption) ?_
      simp only [Act.put, List.setIfInBounds_toArray, List.set_cons_zero, List.set_cons_succ, List.getElem_toArray, List.getElem_cons_zero, List.getElem_cons_succ]
      refine wpAnyH_take (i := 20) (v := ?_) rfl (by kernel_rfl) (by kernel_rfl) (by kernel_rfl) (fun _ _ _ h => h) (Or.inl ⟨by rfl, ?_⟩) (by assumption) ?_
      rotate_left
      · intro w hSw; go_simp; try with_reducible rfl
      simp only [Act.put, List.setIfInBounds_toArray, List.set_cons_zero, List.set_cons_succ, List.getElem_toArray, List.getElem_cons_zero, List.getElem_cons_succ]
      refine wpAnyH_done (by kernel_rfl) ?_ _

      all_goals go_wp2_with fail
      all_goals go_ret
      all_goals exact ⟨rfl, CS.below (by assumption)⟩
    · have QE := fun W => eq_bytes_at 9998 (a := first p.addr p.len) (b := p.addr) (by rw [first_length, hp]) hp W
      obtain ⟨b, hb, hr⟩ : ∃ b : Bool, decide (first p.addr p.len = p.addr) = b ∧ Hid (okN p = if b then 0 else 1) := by
        refine ⟨_, rfl, Lib.hid ?_⟩
        have hiff : ok p ↔ first p.addr p.len = p.addr := ⟨fun h => h.2.2, fun h => ⟨h00, by omega, h⟩⟩
        unfold okN
        by_cases h : first p.addr p.len = p.addr
        · rw [if_pos (hiff.2 h), decide_eq_true h]; rfl
        · rw [if_neg (fun hh => h (hiff.1 hh)), decide_eq_false h]; rfl
      rw [hb] at QE
      rw [hr.out]
      clear hb hr
      have hgr' : p.len ≤ most p.six := by omega
      clear hgr
      generalize most p.six = M at MO hgr'
      generalize arrB (first p.addr p.len) = XF at FP QE
      cases b
      all_goals
        go_enter Tryz.func7, Tryz.ntmps7
        go_wp2_with fail
        refine wp_region_held_drew (S := fun W => CS w W p) (by kernel_rfl) H0.out.drew (fun hHeld => ?_)
        refine wpAnyH_take (i := 0) (v := ?_) rfl (by kernel_rfl) (by kernel_rfl) (by kernel_rfl) (fun _ _ _ h => h) (Or.inl ⟨by rfl, ?_⟩) (by assumption) ?_
        rotate_left
        · intro w hSw; go_simp; try with_reducible rfl
        simp only [Act.put, List.setIfInBounds_toArray, List.set_cons_zero, List.set_cons_succ, List.getElem_toArray, List.getElem_cons_zero, List.getElem_cons_succ]
        refine wpAnyH_take (i := 1) (v := ?_) rfl (by kernel_rfl) (by kernel_rfl) (by kernel_rfl) (fun _ _ _ h => h) (Or.inl ⟨by rfl, ?_⟩) (by assumption) ?_
        rotate_left
        · intro w h; have hf := (h.b).p17 hp; go_simp; try with_reducible rfl
        simp only [Act.put, List.setIfInBounds_toArray, List.set_cons_zero, List.set_cons_succ, List.getElem_toArray, List.getElem_cons_zero, List.getElem_cons_succ]
        refine wpAnyH_take (i := 2) (v := .bool false) rfl (by kernel_rfl) (by kernel_rfl) (by kernel_rfl) (fun _ _ _ h => h) (Or.inl ⟨by rfl, ?_⟩) (by assumption) ?_
        · intro w hSw; go_simp; try (omega)
        simp only [Act.put, List.setIfInBounds_toArray, List.set_cons_zero, List.set_cons_succ, List.getElem_toArray, List.getElem_cons_zero, List.getElem_cons_succ]
        refine wpAnyH_take (i := 3) (v := ?_) rfl (by kernel_rfl) (by kernel_rfl) (by kernel_rfl) (fun _ _ _ h => h) (Or.inl ⟨by rfl, ?_⟩) (by assumption) ?_
        rotate_left
        · intro w hSw; go_simp; try with_reducible rfl
        simp only [Act.put, List.setIfInBounds_toArray, List.set_cons_zero, List.set_cons_succ, List.getElem_toArray, List.getElem_cons_zero, List.getElem_cons_succ]
        refine wpAnyH_take (i := 4) (v := ?_) rfl (by kernel_rfl) (by kernel_rfl) (by kernel_rfl) (fun _ _ _ h => h) (Or.inl ⟨by rfl, ?_⟩) (by assumption) ?_
        rotate_left
        · intro w hSw; go_simp; try with_reducible rfl
        simp only [Act.put, List.setIfInBounds_toArray, List.set_cons_zero, List.set_cons_succ, List.getElem_toArray, List.getElem_cons_zero, List.getElem_cons_succ]
        refine wpAnyH_take (i := 5) (v := ?_) rfl (by kernel_rfl) (by kernel_rfl) (by kernel_rfl) (fun _ _ _ h => h) (Or.inl ⟨by rfl, ?_⟩) (by assumption) ?_
        rotate_left
        · intro w h; have hf := (h.b).p17 hp; go_simp; try with_reducible rfl
        simp only [Act.put, List.setIfInBounds_toArray, List.set_cons_zero, List.set_cons_succ, List.getElem_toArray, List.getElem_cons_zero, List.getElem_cons_succ]
        refine wpAnyH_take (i := 6) (v := ?_) rfl (by kernel_rfl) (by kernel_rfl) (by kernel_rfl) (fun _ _ _ h => h) (Or.inl ⟨by rfl, ?_⟩) (by assumption) ?_
        rotate_left
        · intro w hSw; go_simp; try with_reducible rfl
        simp only [Act.put, List.setIfInBounds_toArray, List.set_cons_zero, List.set_cons_succ, List.getElem_toArray, List.getElem_cons_zero, List.getElem_cons_succ]
        refine wpAnyH_take (i := 7) (v := ?_) rfl (by kernel_rfl) (by kernel_rfl) (by kernel_rfl) (fun _ _ _ h => h) (Or.inl ⟨by rfl, ?_⟩) (by assumption) ?_
        rotate_left
        · intro w h; have hf := (h.b).p0; go_simp; try with_reducible rfl
        simp only [Act.put, List.setIfInBounds_toArray, List.set_cons_zero, List.set_cons_succ, List.getElem_toArray, List.getElem_cons_zero, List.getElem_cons_succ]
        refine held_step (i := 8) rfl (by kernel_rfl) (by rfl) (fun K hK => ?_)
        go_simp
        refine (MO.out _).mono ?_; rintro e w1 ⟨rfl, hw1⟩; subst hw1
        go_wp2_with fail
        refine hK.out _ _ ((by assumption)) (fun hHeld => ?_)
        clear hK K
        try simp only [Act.put, List.setIfInBounds_toArray, List.set_cons_zero, List.set_cons_succ, List.getElem_toArray, List.getElem_cons_zero, List.getElem_cons_succ]
        refine wpAnyH_take (i := 9) (v := .bool false) rfl (by kernel_rfl) (by kernel_rfl) (by kernel_rfl) (fun _ _ _ h => h) (Or.inl ⟨by rfl, ?_⟩) (by assumption) ?_
        · intro w hSw; go_simp; try (omega)
        simp only [Act.put, List.setIfInBounds_toArray, List.set_cons_zero, List.set_cons_succ, List.getElem_toArray, List.getElem_cons_zero, List.getElem_cons_succ]
        refine wpAnyH_take (i := 10) (v := ?_) rfl (by kernel_rfl) (by kernel_rfl) (by kernel_rfl) (fun _ _ _ h => h) (Or.inl ⟨by rfl, ?_⟩) (by assumption) ?_
        rotate_left
        · intro w hSw; go_simp; try with_reducible rfl
        simp only [Act.put, List.setIfInBounds_toArray, List.set_cons_zero, List.set_cons_succ, List.getElem_toArray, List.getElem_cons_zero, List.getElem_cons_succ]
        refine wpAnyH_take (i := 11) (v := ?_) rfl (by kernel_rfl) (by kernel_rfl) (by kernel_rfl) (fun _ _ _ h => h) (Or.inl ⟨by rfl, ?_⟩) (by assumption) ?_
        rotate_left
        · intro w hSw; go_simp; try with_reducible rfl
        simp only [Act.put, List.setIfInBounds_toArray, List.set_cons_zero, List.set_cons_succ, List.getElem_toArray, List.getElem_cons_zero, List.getElem_cons_succ]
        refine wpAnyH_take (i := 12) (v := ?_) rfl (by kernel_rfl) (by kernel_rfl) (by kernel_rfl) (fun _ _ _ h => h) (Or.inl ⟨by rfl, ?_⟩) (by assumption) ?_
        rotate_left
        · intro w hSw; go_simp; try with_reducible rfl
        simp only [Act.put, List.setIfInBounds_toArray, List.set_cons_zero, List.set_cons_succ, List.getElem_toArray, List.getElem_cons_zero, List.getElem_cons_succ]
        refine wpAnyH_take (i := 13) rfl (by kernel_rfl) (by kernel_rfl) (by kernel_rfl) (fun _ _ _ h => h) (yieldsIf_load_addr (by rfl) _ rfl (w.heap.size) 1 rfl (p.addr) (hp) (fun w h => (h.b).pA)) (by assumption) ?_
        simp only [Act.put, List.setIfInBounds_toArray, List.set_cons_zero, List.set_cons_succ, List.getElem_toArray, List.getElem_cons_zero, List.getElem_cons_succ]
        refine wpAnyH_take (i := 14) (v := ?_) rfl (by kernel_rfl) (by kernel_rfl) (by kernel_rfl) (fun _ _ _ h => h) (Or.inl ⟨by rfl, ?_⟩) (by assumption) ?_
        rotate_left
        · intro w hSw; go_simp; try with_reducible rfl
        simp only [Act.put, List.setIfInBounds_toArray, List.set_cons_zero, List.set_cons_succ, List.getElem_toArray, List.getElem_cons_zero, List.getElem_cons_succ]
        refine wpAnyH_take (i := 15) (v := ?_) rfl (by kernel_rfl) (by kernel_rfl) (by kernel_rfl) (fun _ _ _ h => h) (Or.inl ⟨by rfl, ?_⟩) (by assumption) ?_
        rotate_left
        · intro w h; have hf := (h.b).p17 hp; go_simp; try with_reducible rfl
        simp only [Act.put, List.setIfInBounds_toArray, List.set_cons_zero, List.set_cons_succ, List.getElem_toArray, List.getElem_cons_zero, List.getElem_cons_succ]
        refine wpAnyH_take (i := 17) (v := ?_) rfl (by kernel_rfl) (by kernel_rfl) (by kernel_rfl) (fun _ _ _ h => h) (Or.inl ⟨by rfl, ?_⟩) (by assumption) ?_
        rotate_left
        · intro w hSw; go_simp; try with_reducible rfl
        simp only [Act.put, List.setIfInBounds_toArray, List.set_cons_zero, List.set_cons_succ, List.getElem_toArray, List.getElem_cons_zero, List.getElem_cons_succ]
        refine wpAnyH_take (i := 18) rfl (by kernel_rfl) (by kernel_rfl) (by kernel_rfl) (fun _ _ _ h => h) (yieldsIf_load_addr (by rfl) _ rfl (w.heap.size) 1 rfl (p.addr) (hp) (fun w h => (h.b).pA)) (by assumption) ?_
        simp only [Act.put, List.setIfInBounds_toArray, List.set_cons_zero, List.set_cons_succ, List.getElem_toArray, List.getElem_cons_zero, List.getElem_cons_succ]
        refine held_step (i := 16) rfl (by kernel_rfl) (by rfl) (fun K hK => ?_)
        go_simp
        refine (FP.out _).mono ?_; rintro e w2 ⟨rfl, hb2⟩
        go_wp2_with fail
        refine hK.out _ _ (CS.next (by assumption) hb2) (fun hHeld => ?_)
        clear hK K
        try simp only [Act.put, List.setIfInBounds_toArray, List.set_cons_zero, List.set_cons_succ, List.getElem_toArray, List.getElem_cons_zero, List.getElem_cons_succ]
        refine wpAnyH_take (i := 19) (v := ?_) rfl (by kernel_rfl) (by kernel_rfl) (by kernel_rfl) (fun _ _ _ h => h) (Or.inl ⟨by rfl, ?_⟩) (by assumption) ?_
        rotate_left
        · intro w hSw; go_simp; try with_reducible rfl
        simp only [Act.put, List.setIfInBounds_toArray, List.set_cons_zero, List.set_cons_succ, List.getElem_toArray, List.getElem_cons_zero, List.getElem_cons_succ]
        refine wpAnyH_take (i := 20) (v := ?_) rfl (by kernel_rfl) (by kernel_rfl) (by kernel_rfl) (fun _ _ _ h => h) (Or.inl ⟨by rfl, ?_⟩) (by assumption) ?_
        rotate_left
        · intro w hSw; go_simp; try with_reducible rfl
        simp only [Act.put, List.setIfInBounds_toArray, List.set_cons_zero, List.set_cons_succ, List.getElem_toArray, List.getElem_cons_zero, List.getElem_cons_succ]
        refine wpAnyH_done (by kernel_rfl) ?_ _

        all_goals go_wp2_with fail
        all_goals go_ret
        all_goals exact ⟨rfl, CS.below (by assumption)⟩
end Go.Proofs.YtjbolphfelakeaaGreatDoor

/- prefix.Bit. -/
namespace Go.Proofs.YtjbolphfelakeaaGreatDoor
set_option linter.unusedVariables false
set_option linter.unusedSimpArgs false
open Go.RowKit Go.Shelf Go.Proofs Go.OctetPlain Go.ColonPlain Go.PrefixPlain

theorem bit_val : ∀ (c : Fin 256) (j : Fin 8), bits .and .i64 (wrap64 (((c : Nat) : Int) / 2 ^ (7 - (j : Nat)))) 1 = ((bitB (UInt8.ofNat c) j : Nat) : Int) := by decide +kernel
theorem bit_val' (c : UInt8) {j : Nat} (h : j < 8) : bits .and .i64 (wrap64 ((c.toNat : Int) / 2 ^ (7 - j))) 1 = ((bitB c j : Nat) : Int) := by
  have := bit_val ⟨c.toNat, c.toNat_lt⟩ ⟨j, h⟩
  rw [of_nat] at this
  exact this
set_option maxRecDepth 100000 in
set_option maxHeartbeats 1000000 in
theorem pfx_Bit (a : List UInt8) (ha : a.length = 16) (i : Int) (hi : -9223372036854775808 ≤ i ∧ i ≤ 9223372036854775807) (w : World) :
    Calls Tryz.prog 15 #[.agg (arrB a), .int .i64 i] w fun e w' => e = .returned (.int .i64 (bit a i)) ∧ Below w.heap.size w w' := by
  by_cases hbad : i < 0 ∨ 128 ≤ i
  · have hr : Hid (bit a i = 0) := Lib.hid (by unfold bit; rw [if_pos hbad])
    rw [hr.out]
    rcases hbad with h | h
    · go_enter Tryz.func15, Tryz.ntmps15
      go_wp2_with fail
      go_ret
      exact ⟨rfl, belowA w _⟩
    · have h0 : ¬ i < 0 := by omega
      go_enter Tryz.func15, Tryz.ntmps15
      go_wp2_with fail
      go_ret
      exact ⟨rfl, belowA w _⟩
  · obtain ⟨k, rfl⟩ : ∃ k : Nat, i = k := ⟨i.toNat, by omega⟩
    have hk : k < 128 := by omega
    have h0 : ¬ (k : Int) < 0 := by omega
    have h1 : ¬ (128 : Int) ≤ k := by omega
    have hr : Hid (bit a k = bitN a k) := Lib.hid (by unfold bit; rw [if_neg hbad]; simp)
    rw [hr.out]
    obtain ⟨c, hc⟩ : ∃ c, a[k / 8]? = some c := ⟨_, List.getElem?_eq_getElem (by omega)⟩
    have ce : ∀ o : Obj, (w.alloc (.cells (arrB a) 22)).cell? ⟨w.heap.size, k / 8, none⟩ = some (.int .u8 (c.toNat : Int)) := fun _ => ((Blk.new w 22 (arrB a)).cell _).trans (arrB_get hc)
    have ce' := ce (.cells #[] 0)
    have hb : Hid (bitN a k = bitB c (k % 8)) := Lib.hid (by simp [bitN, List.getD_eq_getElem?_getD, hc])
    have q1 : (k : Int).tdiv 8 = ((k / 8 : Nat) : Int) := by rw [Int.tdiv_eq_ediv_of_nonneg (by omega)]; omega
    have q2 : (k : Int).tmod 8 = ((k % 8 : Nat) : Int) := by rw [Int.tmod_eq_emod_of_nonneg (by omega)]; omega
    have q3 : k / 8 < 16 := by omega
    have q4 : k % 8 < 8 := Nat.mod_lt _ (by omega)
    rw [hb.out]
    clear hc hb hr ce
    generalize k / 8 = d at q1 q3 ce'
    generalize k % 8 = j at q2 q4
    have hj : j = 0 ∨ j = 1 ∨ j = 2 ∨ j = 3 ∨ j = 4 ∨ j = 5 ∨ j = 6 ∨ j = 7 := by omega
    have hd16 : (d : Int) < 16 := by omega
    go_enter Tryz.func15, Tryz.ntmps15
    go_wp2_with fail
    go_ret
    exact ⟨by rw [← bit_val' c q4]; rfl, belowA w _⟩
end Go.Proofs.YtjbolphfelakeaaGreatDoor

/- prefix.Covers. -/
namespace Go.Proofs.YtjbolphfelakeaaGreatDoor
set_option linter.unusedVariables false
set_option linter.unusedSimpArgs false
open Go.RowKit Go.Shelf Go.Proofs Go.OctetPlain Go.ColonPlain Go.PrefixPlain

/-- two prefixes' blocks -/
structure PP (w W : World) (p q : Pf) : Prop where
  bp : Blk W w.heap.size 24 (pfA p)
  bq : Blk W (w.heap.size + 1) 24 (pfA q)
  below : Below w.heap.size w W
theorem PP.next {w W W' : World} {p q : Pf} (h : PP w W p q) (hb : Below W.heap.size W W') : PP w W' p q := ⟨h.bp.below hb h.bp.lt, h.bq.below hb h.bq.lt, h.below.trans (hb.mono h.below.size)⟩
theorem PP.drew {w W : World} {p q : Pf} (h : PP w W p q) : PP w W.drew p q := h.next (Below.refl _ _).drew
theorem PP.init (w : World) (p q : Pf) : PP w ((w.alloc (.cells (pfA p) 24)).alloc (.cells (pfA q) 24)) p q := by
  refine ⟨(Blk.new _ _ _).alloc _, ?_, (belowA w _).alloc (by simp) _⟩
  have h := Blk.new (w.alloc (.cells (pfA p) 24)) 24 (pfA q)
  rw [World.size_alloc] at h
  exact h
/-- what may be a prefix's cells: its length is an int -/
def Len64 (p : Pf) : Prop := -9223372036854775808 ≤ p.len ∧ p.len ≤ 9223372036854775807
set_option maxRecDepth 100000 in
set_option maxHeartbeats 1000000 in
theorem pfx_Covers (p q : Pf) (hp : p.addr.length = 16) (hq : q.addr.length = 16) (lp : Len64 p) (lq : Len64 q) (w : World) :
    Calls Tryz.prog 19 #[.agg (pfA p), .agg (pfA q)] w fun e w' => e = .returned (.bool (covers p q)) ∧ Below w.heap.size w w' := by
  have HA := Lib.hid fun W => pfx_Has p hp lp q.addr hq W
  have huP := Tryz.underlying24
  have KP := PX.of hp
  have H0 := Lib.hid (PP.init w p q)
  have c0 := H0.out.bp.p0
  have c17 := H0.out.bp.p17 hp
  have d0 := H0.out.bq.p0
  have d17 := H0.out.bq.p17 hq
  have HR : Hid (covers p q = (decide (p.six = q.six) && (decide (p.len ≤ q.len) && has p q.addr))) := Lib.hid rfl
  by_cases hs : p.six = q.six
  · by_cases hl : p.len ≤ q.len
    · have hr : Hid (covers p q = has p q.addr) := Lib.hid (by rw [HR.out]; simp [hs, hl])
      rw [hr.out]
      have hs' : (p.six == q.six) = true := by simpa using hs
      go_enter Tryz.func19, Tryz.ntmps19
      go_wp2_with (first
        | (refine wpList_load_want rfl _ _ rfl w.heap.size rfl _ (pfA p) (0, 0) _ H0.out.bp huP rfl KP.info ?_)
        | (refine wpList_load_addr rfl _ rfl (w.heap.size + 1) 1 rfl q.addr hq H0.out.bq.pA ?_))
      refine (HA.out _).mono ?_
      rintro e w1 ⟨rfl, hb1⟩
      have HB := Lib.hid (H0.out.next hb1)
      clear hb1
      go_wp2_with fail
      go_ret
      exact ⟨rfl, HB.out.below⟩
    · have hr : Hid (covers p q = false) := Lib.hid (by rw [HR.out]; simp [hl])
      rw [hr.out]
      have hl' : q.len < p.len := by omega
      have hs' : (p.six == q.six) = true := by simpa using hs
      go_enter Tryz.func19, Tryz.ntmps19
      go_wp2_with fail
      go_ret
      exact ⟨rfl, H0.out.below⟩
  · have hr : Hid (covers p q = false) := Lib.hid (by rw [HR.out]; simp [hs])
    rw [hr.out]
    have hs' : (p.six == q.six) = false := by simpa using hs
    go_enter Tryz.func19, Tryz.ntmps19
    go_wp2_with fail
    go_ret
    exact ⟨rfl, H0.out.below⟩
end Go.Proofs.YtjbolphfelakeaaGreatDoor

/- prefix.Common. -/
namespace Go.Proofs.YtjbolphfelakeaaGreatDoor
set_option linter.unusedVariables false
set_option linter.unusedSimpArgs false
open Go.RowKit Go.Shelf Go.Proofs Go.OctetPlain Go.ColonPlain Go.PrefixPlain

/-- two prefixes' blocks and the result's -/
structure PQ (w W : World) (p q : Pf) : Prop where
  bp : Blk W w.heap.size 24 (pfA p)
  bq : Blk W (w.heap.size + 1) 24 (pfA q)
  br : Blk W (w.heap.size + 2) 24 (pfA zP)
  below : Below w.heap.size w W
theorem PQ.next {w W W' : World} {p q : Pf} (h : PQ w W p q) (hb : Below W.heap.size W W') : PQ w W' p q := ⟨h.bp.below hb h.bp.lt, h.bq.below hb h.bq.lt, h.br.below hb h.br.lt, h.below.trans (hb.mono h.below.size)⟩
theorem PQ.drew {w W : World} {p q : Pf} (h : PQ w W p q) : PQ w W.drew p q := h.next (Below.refl _ _).drew
theorem PQ.init (w : World) (p q : Pf) : PQ w (((w.alloc (.cells (pfA p) 24)).alloc (.cells (pfA q) 24)).alloc (.cells (pfA zP) 24)) p q := by
  have h0 := PP.init w p q
  refine ⟨h0.bp.alloc _, h0.bq.alloc _, ?_, h0.below.trans ((belowA _ _).mono h0.below.size)⟩
  have h := Blk.new ((w.alloc (.cells (pfA p) 24)).alloc (.cells (pfA q) 24)) 24 (pfA zP)
  simp only [World.size_alloc] at h
  exact h
theorem run_min3 (ts : Array TypeId) (t : TypeId) (a b c : Int) (w : World) : (Builtin.min_ ts t #[.int .i64 a, .int .i64 b, .int .i64 c]).run Tryz.prog w = .ok (.int .i64 (min (min a b) c)) w := by
  rw [run_min_int3]
  congr 2
  (repeat' split) <;> omega
theorem bit_nat (a : List UInt8) {n : Nat} (h : n < 128) : bit a n = bitN a n := by unfold bit; rw [if_neg (by omega)]; simp
set_option maxRecDepth 100000 in
set_option maxHeartbeats 4000000 in
theorem pfx_Common (p q : Pf) (hp : p.addr.length = 16) (hq : q.addr.length = 16) (lp : Len64 p) (lq : Len64 q) (w : World) :
    Calls Tryz.prog 17 #[.agg (pfA p), .agg (pfA q)] w fun e w' => e = .returned (.tuple #[.agg (pfA (if p.six = q.six then common p q else zP)), .bool (decide (p.six = q.six))]) ∧ Below w.heap.size w w' := by
  have huP := Tryz.underlying24
  have KX := PX.of hp
  have KZ := PX.of (p := zP) rfl
  have H0 := Lib.hid (PQ.init w p q)
  have c0 := fun o => ((PP.init w p q).bp.alloc o).p0
  have d0 := fun o => ((PP.init w p q).bq.alloc o).p0
  by_cases hs : p.six = q.six
  · have hr : Hid (pfA (if p.six = q.six then common p q else zP) = pfA (common p q) ∧ decide (p.six = q.six) = true) := Lib.hid ⟨by rw [if_pos hs], decide_eq_true hs⟩
    rw [hr.out.1, hr.out.2]
    have hs' : (p.six == q.six) = true := by simpa using hs
    obtain ⟨M, hM⟩ : ∃ M, mostN p q = M := ⟨_, rfl⟩
    have hM128 : M ≤ 128 := by rw [← hM]; unfold mostN; omega
    obtain ⟨Mi, hMi⟩ : ∃ Mi : Int, min (min p.len q.len) 128 = Mi := ⟨_, rfl⟩
    have hmin := fun w => run_min3 #[3, 3, 3] 3 p.len q.len 128 w
    rw [hMi] at hmin
    have HMM : Hid (M = Mi.toNat) := Lib.hid (by rw [← hM, ← hMi]; rfl)
    have HC : Hid (common p q = ofP p.six p.addr (commonFrom p.addr q.addr 0 M)) := by unfold common; rw [hM]; exact Lib.hid rfl
    have HS6 := Lib.hid hs
    clear hr hM hs
    go_enter Tryz.func17, Tryz.ntmps17
    go_wp2_with fail
    go_loopw [6] (fun vi wr => ∃ n : Nat, vi = .int .i64 n ∧ n ≤ M ∧ Hid (PQ w wr p q) ∧ Hid (commonFrom p.addr q.addr 0 M = commonFrom p.addr q.addr n (M - n))) (fun vi _ => M - (intOf vi).toNat)
    case atStart => exact ⟨0, rfl, Nat.zero_le _, H0, Lib.hid rfl⟩
    case round =>
      obtain ⟨n, rfl, hn, HQ, HE⟩ := hrel
      by_cases hlt : n < M
      · have hlt' : (n : Int) < Mi := by have := HMM.out; omega
        have B1 := Lib.hid fun W => pfx_Bit p.addr hp n (by omega) W
        have B2 := Lib.hid fun W => pfx_Bit q.addr hq n (by omega) W
        rw [bit_nat p.addr (by omega)] at B1
        rw [bit_nat q.addr (by omega)] at B2
        have HE2 : Hid (commonFrom p.addr q.addr 0 M = if bitN p.addr n = bitN q.addr n then commonFrom p.addr q.addr (n + 1) (M - (n + 1)) else n) := by
          rw [HE.out, show M - n = (M - (n + 1)) + 1 by omega, commonFrom]; exact Lib.hid rfl
        clear HE
        have OF := Lib.hid fun W => pfx_Of q.six p.addr hp n (by omega) W
        have KO := PX.of (p := ofP q.six p.addr n) (ofP_len _ hp _)
        by_cases hxy : bitN p.addr n = bitN q.addr n
        · have HE3 : Hid (commonFrom p.addr q.addr 0 M = commonFrom p.addr q.addr (n + 1) (M - (n + 1))) := by rw [HE2.out, if_pos hxy]; exact Lib.hid rfl
          have hxy' : ((bitN p.addr n : Int) == (bitN q.addr n : Int)) = true := by rw [hxy]; simp
          clear HE2 hxy
          generalize bitN p.addr n = x at B1 hxy'
          generalize bitN q.addr n = y at B2 hxy'
          go_wp2_with fail
          refine wp_region_held_drew (S := fun W => PQ w W p q) (by kernel_rfl) HQ.out.drew (fun hHeld => ?_)
          refine wpAnyH_take (i := 0) (v := ?_) rfl (by kernel_rfl) (by kernel_rfl) (by kernel_rfl) (fun _ _ _ h => h) (Or.inl ⟨by rfl, ?_⟩) (by assumption) ?_
          rotate_left
          · intro w hSw; go_simp; try with_reducible rfl
          simp only [Act.put, List.setIfInBounds_toArray, List.set_cons_zero, List.set_cons_succ, List.getElem_toArray, List.getElem_cons_zero, List.getElem_cons_succ]
          refine wpAnyH_take (i := 1) (v := ?_) rfl (by kernel_rfl) (by kernel_rfl) (by kernel_rfl) (fun _ _ _ h => h) (Or.inl ⟨by rfl, ?_⟩) (by assumption) ?_
          rotate_left
          · intro w hSw; go_simp; try with_reducible rfl
          simp only [Act.put, List.setIfInBounds_toArray, List.set_cons_zero, List.set_cons_succ, List.getElem_toArray, List.getElem_cons_zero, List.getElem_cons_succ]
          refine wpAnyH_take (i := 2) (v := ?_) rfl (by kernel_rfl) (by kernel_rfl) (by kernel_rfl) (fun _ _ _ h => h) (Or.inl ⟨by rfl, ?_⟩) (by assumption) ?_
          rotate_left
          · intro w h; have hf := (h.bp).p17 hp; go_simp; try with_reducible rfl
          simp only [Act.put, List.setIfInBounds_toArray, List.set_cons_zero, List.set_cons_succ, List.getElem_toArray, List.getElem_cons_zero, List.getElem_cons_succ]
          refine wpAnyH_take (i := 3) (v := ?_) rfl (by kernel_rfl) (by kernel_rfl) (by kernel_rfl) (fun _ _ _ h => h) (Or.inl ⟨by rfl, ?_⟩) (by assumption) ?_
          rotate_left
          · intro w hSw; go_simp; try with_reducible rfl
          simp only [Act.put, List.setIfInBounds_toArray, List.set_cons_zero, List.set_cons_succ, List.getElem_toArray, List.getElem_cons_zero, List.getElem_cons_succ]
          refine wpAnyH_take (i := 4) (v := ?_) rfl (by kernel_rfl) (by kernel_rfl) (by kernel_rfl) (fun _ _ _ h => h) (Or.inl ⟨by rfl, ?_⟩) (by assumption) ?_
          rotate_left
          · intro w h; have hf := (h.bq).p17 hq; go_simp; try with_reducible rfl
          simp only [Act.put, List.setIfInBounds_toArray, List.set_cons_zero, List.set_cons_succ, List.getElem_toArray, List.getElem_cons_zero, List.getElem_cons_succ]
          refine wpAnyH_take (i := 5) (v := .int .i64 Mi) rfl (by kernel_rfl) (by kernel_rfl) (by kernel_rfl) (fun _ _ _ h => h) (Or.inl ⟨by rfl, ?_⟩) (by assumption) ?_
          · intro w hSw; go_simp; try (rw [hmin]; rfl)
          simp only [Act.put, List.setIfInBounds_toArray, List.set_cons_zero, List.set_cons_succ, List.getElem_toArray, List.getElem_cons_zero, List.getElem_cons_succ]
          refine wpAnyH_take (i := 6) (v := .bool true) rfl (by kernel_rfl) (by kernel_rfl) (by kernel_rfl) (fun _ _ _ h => h) (Or.inl ⟨by rfl, ?_⟩) (by assumption) ?_
          · intro w hSw; go_simp; try omega
          simp only [Act.put, List.setIfInBounds_toArray, List.set_cons_zero, List.set_cons_succ, List.getElem_toArray, List.getElem_cons_zero, List.getElem_cons_succ]
          refine wpAnyH_take (i := 7) (v := ?_) rfl (by kernel_rfl) (by kernel_rfl) (by kernel_rfl) (fun _ _ _ h => h) (Or.inl ⟨by rfl, ?_⟩) (by assumption) ?_
          rotate_left
          · intro w hSw; go_simp; try with_reducible rfl
          simp only [Act.put, List.setIfInBounds_toArray, List.set_cons_zero, List.set_cons_succ, List.getElem_toArray, List.getElem_cons_zero, List.getElem_cons_succ]
          refine wpAnyH_take (i := 8) (v := ?_) rfl (by kernel_rfl) (by kernel_rfl) (by kernel_rfl) (fun _ _ _ h => h) (Or.inl ⟨by rfl, ?_⟩) (by assumption) ?_
          rotate_left
          · intro w hSw; go_simp; try with_reducible rfl
          simp only [Act.put, List.setIfInBounds_toArray, List.set_cons_zero, List.set_cons_succ, List.getElem_toArray, List.getElem_cons_zero, List.getElem_cons_succ]
          refine wpAnyH_take (i := 9) rfl (by kernel_rfl) (by kernel_rfl) (by kernel_rfl) (fun _ _ _ h => h) (yieldsIf_load_addr (by rfl) _ rfl (w.heap.size) 1 rfl (p.addr) (hp) (fun w h => (h.bp).pA)) (by assumption) ?_
          simp only [Act.put, List.setIfInBounds_toArray, List.set_cons_zero, List.set_cons_succ, List.getElem_toArray, List.getElem_cons_zero, List.getElem_cons_succ]
          refine wpAnyH_take (i := 10) (v := ?_) rfl (by kernel_rfl) (by kernel_rfl) (by kernel_rfl) (fun _ _ _ h => h) (Or.inl ⟨by rfl, ?_⟩) (by assumption) ?_
          rotate_left
          · intro w hSw; go_simp; try with_reducible rfl
          simp only [Act.put, List.setIfInBounds_toArray, List.set_cons_zero, List.set_cons_succ, List.getElem_toArray, List.getElem_cons_zero, List.getElem_cons_succ]
          refine wpAnyH_take (i := 12) (v := ?_) rfl (by kernel_rfl) (by kernel_rfl) (by kernel_rfl) (fun _ _ _ h => h) (Or.inl ⟨by rfl, ?_⟩) (by assumption) ?_
          rotate_left
          · intro w hSw; go_simp; try with_reducible rfl
          simp only [Act.put, List.setIfInBounds_toArray, List.set_cons_zero, List.set_cons_succ, List.getElem_toArray, List.getElem_cons_zero, List.getElem_cons_succ]
          refine wpAnyH_take (i := 13) rfl (by kernel_rfl) (by kernel_rfl) (by kernel_rfl) (fun _ _ _ h => h) (yieldsIf_load_addr (by rfl) _ rfl (w.heap.size + 1) 1 rfl (q.addr) (hq) (fun w h => (h.bq).pA)) (by assumption) ?_
          simp only [Act.put, List.setIfInBounds_toArray, List.set_cons_zero, List.set_cons_succ, List.getElem_toArray, List.getElem_cons_zero, List.getElem_cons_succ]
          refine wpAnyH_take (i := 14) (v := ?_) rfl (by kernel_rfl) (by kernel_rfl) (by kernel_rfl) (fun _ _ _ h => h) (Or.inl ⟨by rfl, ?_⟩) (by assumption) ?_
          rotate_left
          · intro w hSw; go_simp; try with_reducible rfl
          simp only [Act.put, List.setIfInBounds_toArray, List.set_cons_zero, List.set_cons_succ, List.getElem_toArray, List.getElem_cons_zero, List.getElem_cons_succ]
          refine held_step (i := 11) rfl (by kernel_rfl) (by rfl) (fun K hK => ?_)
          go_simp
          refine (B1.out _).mono ?_; rintro e w1 ⟨rfl, hb1⟩
          go_wp2_with fail
          refine hK.out _ _ (PQ.next (by assumption) hb1) (fun hHeld => ?_)
          clear hK K
          try simp only [Act.put, List.setIfInBounds_toArray, List.set_cons_zero, List.set_cons_succ, List.getElem_toArray, List.getElem_cons_zero, List.getElem_cons_succ]
          refine held_step (i := 15) rfl (by kernel_rfl) (by rfl) (fun K hK => ?_)
          go_simp
          refine (B2.out _).mono ?_; rintro e w2 ⟨rfl, hb2⟩
          go_wp2_with fail
          refine hK.out _ _ (PQ.next (by assumption) hb2) (fun hHeld => ?_)
          clear hK K
          try simp only [Act.put, List.setIfInBounds_toArray, List.set_cons_zero, List.set_cons_succ, List.getElem_toArray, List.getElem_cons_zero, List.getElem_cons_succ]
          refine wpAnyH_take (i := 16) (v := ?_) rfl (by kernel_rfl) (by kernel_rfl) (by kernel_rfl) (fun _ _ _ h => h) (Or.inl ⟨by rfl, ?_⟩) (by assumption) ?_
          rotate_left
          · intro w hSw; go_simp; try with_reducible rfl
          simp only [Act.put, List.setIfInBounds_toArray, List.set_cons_zero, List.set_cons_succ, List.getElem_toArray, List.getElem_cons_zero, List.getElem_cons_succ]
          refine wpAnyH_take (i := 17) (v := ?_) rfl (by kernel_rfl) (by kernel_rfl) (by kernel_rfl) (fun _ _ _ h => h) (Or.inl ⟨by rfl, ?_⟩) (by assumption) ?_
          rotate_left
          · intro w hSw; go_simp; try with_reducible rfl
          simp only [Act.put, List.setIfInBounds_toArray, List.set_cons_zero, List.set_cons_succ, List.getElem_toArray, List.getElem_cons_zero, List.getElem_cons_succ]
          refine wpAnyH_done (by kernel_rfl) ?_ _

          all_goals go_wp2_with fail
          all_goals exact ⟨⟨n + 1, rfl, by omega, Lib.hid (by assumption), HE3⟩, by simp [intOf]; omega⟩
        · have HN : Hid (pfA (common p q) = pfA (ofP q.six p.addr n)) := by rw [HC.out, HE2.out, if_neg hxy, HS6.out]; exact Lib.hid rfl
          have hxy' : ((bitN p.addr n : Int) == (bitN q.addr n : Int)) = false := by rw [beq_eq_false_iff_ne]; omega
          clear HE2 hxy
          generalize bitN p.addr n = x at B1 hxy'
          generalize bitN q.addr n = y at B2 hxy'
          go_wp2_with fail
          refine wp_region_held_drew (S := fun W => PQ w W p q) (by kernel_rfl) HQ.out.drew (fun hHeld => ?_)
          refine wpAnyH_take (i := 0) (v := ?_) rfl (by kernel_rfl) (by kernel_rfl) (by kernel_rfl) (fun _ _ _ h => h) (Or.inl ⟨by rfl, ?_⟩) (by assumption) ?_
          rotate_left
          · intro w hSw; go_simp; try with_reducible rfl
          simp only [Act.put, List.setIfInBounds_toArray, List.set_cons_zero, List.set_cons_succ, List.getElem_toArray, List.getElem_cons_zero, List.getElem_cons_succ]
          refine wpAnyH_take (i := 1) (v := ?_) rfl (by kernel_rfl) (by kernel_rfl) (by kernel_rfl) (fun _ _ _ h => h) (Or.inl ⟨by rfl, ?_⟩) (by assumption) ?_
          rotate_left
          · intro w hSw; go_simp; try with_reducible rfl
          simp only [Act.put, List.setIfInBounds_toArray, List.set_cons_zero, List.set_cons_succ, List.getElem_toArray, List.getElem_cons_zero, List.getElem_cons_succ]
          refine wpAnyH_take (i := 2) (v := ?_) rfl (by kernel_rfl) (by kernel_rfl) (by kernel_rfl) (fun _ _ _ h => h) (Or.inl ⟨by rfl, ?_⟩) (by assumption) ?_
          rotate_left
          · intro w h; have hf := (h.bp).p17 hp; go_simp; try with_reducible rfl
          simp only [Act.put, List.setIfInBounds_toArray, List.set_cons_zero, List.set_cons_succ, List.getElem_toArray, List.getElem_cons_zero, List.getElem_cons_succ]
          refine wpAnyH_take (i := 3) (v := ?_) rfl (by kernel_rfl) (by kernel_rfl) (by kernel_rfl) (fun _ _ _ h => h) (Or.inl ⟨by rfl, ?_⟩) (by assumption) ?_
          rotate_left
          · intro w hSw; go_simp; try with_reducible rfl
          simp only [Act.put, List.setIfInBounds_toArray, List.set_cons_zero, List.set_cons_succ, List.getElem_toArray, List.getElem_cons_zero, List.getElem_cons_succ]
          refine wpAnyH_take (i := 4) (v := ?_) rfl (by kernel_rfl) (by kernel_rfl) (by kernel_rfl) (fun _ _ _ h => h) (Or.inl ⟨by rfl, ?_⟩) (by assumption) ?_
          rotate_left
          · intro w h; have hf := (h.bq).p17 hq; go_simp; try with_reducible rfl
          simp only [Act.put, List.setIfInBounds_toArray, List.set_cons_zero, List.set_cons_succ, List.getElem_toArray, List.getElem_cons_zero, List.getElem_cons_succ]
          refine wpAnyH_take (i := 5) (v := .int .i64 Mi) rfl (by kernel_rfl) (by kernel_rfl) (by kernel_rfl) (fun _ _ _ h => h) (Or.inl ⟨by rfl, ?_⟩) (by assumption) ?_
          · intro w hSw; go_simp; try (rw [hmin]; rfl)
          simp only [Act.put, List.setIfInBounds_toArray, List.set_cons_zero, List.set_cons_succ, List.getElem_toArray, List.getElem_cons_zero, List.getElem_cons_succ]
          refine wpAnyH_take (i := 6) (v := .bool true) rfl (by kernel_rfl) (by kernel_rfl) (by kernel_rfl) (fun _ _ _ h => h) (Or.inl ⟨by rfl, ?_⟩) (by assumption) ?_
          · intro w hSw; go_simp; try omega
          simp only [Act.put, List.setIfInBounds_toArray, List.set_cons_zero, List.set_cons_succ, List.getElem_toArray, List.getElem_cons_zero, List.getElem_cons_succ]
          refine wpAnyH_take (i := 7) (v := ?_) rfl (by kernel_rfl) (by kernel_rfl) (by kernel_rfl) (fun _ _ _ h => h) (Or.inl ⟨by rfl, ?_⟩) (by assumption) ?_
          rotate_left
          · intro w hSw; go_simp; try with_reducible rfl
          simp only [Act.put, List.setIfInBounds_toArray, List.set_cons_zero, List.set_cons_succ, List.getElem_toArray, List.getElem_cons_zero, List.getElem_cons_succ]
          refine wpAnyH_take (i := 8) (v := ?_) rfl (by kernel_rfl) (by kernel_rfl) (by kernel_rfl) (fun _ _ _ h => h) (Or.inl ⟨by rfl, ?_⟩) (by assumption) ?_
          rotate_left
          · intro w hSw; go_simp; try with_reducible rfl
          simp only [Act.put, List.setIfInBounds_toArray, List.set_cons_zero, List.set_cons_succ, List.getElem_toArray, List.getElem_cons_zero, List.getElem_cons_succ]
          refine wpAnyH_take (i := 9) rfl (by kernel_rfl) (by kernel_rfl) (by kernel_rfl) (fun _ _ _ h => h) (yieldsIf_load_addr (by rfl) _ rfl (w.heap.size) 1 rfl (p.addr) (hp) (fun w h => (h.bp).pA)) (by assumption) ?_
          simp only [Act.put, List.setIfInBounds_toArray, List.set_cons_zero, List.set_cons_succ, List.getElem_toArray, List.getElem_cons_zero, List.getElem_cons_succ]
          refine wpAnyH_take (i := 10) (v := ?_) rfl (by kernel_rfl) (by kernel_rfl) (by kernel_rfl) (fun _ _ _ h => h) (Or.inl ⟨by rfl, ?_⟩) (by assumption) ?_
          rotate_left
          · intro w hSw; go_simp; try with_reducible rfl
          simp only [Act.put, List.setIfInBounds_toArray, List.set_cons_zero, List.set_cons_succ, List.getElem_toArray, List.getElem_cons_zero, List.getElem_cons_succ]
          refine wpAnyH_take (i := 12) (v := ?_) rfl (by kernel_rfl) (by kernel_rfl) (by kernel_rfl) (fun _ _ _ h => h) (Or.inl ⟨by rfl, ?_⟩) (by assumption) ?_
          rotate_left
          · intro w hSw; go_simp; try with_reducible rfl
          simp only [Act.put, List.setIfInBounds_toArray, List.set_cons_zero, List.set_cons_succ, List.getElem_toArray, List.getElem_cons_zero, List.getElem_cons_succ]
          refine wpAnyH_take (i := 13) rfl (by kernel_rfl) (by kernel_rfl) (by kernel_rfl) (fun _ _ _ h => h) (yieldsIf_load_addr (by rfl) _ rfl (w.heap.size + 1) 1 rfl (q.addr) (hq) (fun w h => (h.bq).pA)) (by assumption) ?_
          simp only [Act.put, List.setIfInBounds_toArray, List.set_cons_zero, List.set_cons_succ, List.getElem_toArray, List.getElem_cons_zero, List.getElem_cons_succ]
          refine wpAnyH_take (i := 14) (v := ?_) rfl (by kernel_rfl) (by kernel_rfl) (by kernel_rfl) (fun _ _ _ h => h) (Or.inl ⟨by rfl, ?_⟩) (by assumption) ?_
          rotate_left
          · intro w hSw; go_simp; try with_reducible rfl
          simp only [Act.put, List.setIfInBounds_toArray, List.set_cons_zero, List.set_cons_succ, List.getElem_toArray, List.getElem_cons_zero, List.getElem_cons_succ]
          refine held_step (i := 11) rfl (by kernel_rfl) (by rfl) (fun K hK => ?_)
          go_simp
          refine (B1.out _).mono ?_; rintro e w1 ⟨rfl, hb1⟩
          go_wp2_with fail
          refine hK.out _ _ (PQ.next (by assumption) hb1) (fun hHeld => ?_)
          clear hK K
          try simp only [Act.put, List.setIfInBounds_toArray, List.set_cons_zero, List.set_cons_succ, List.getElem_toArray, List.getElem_cons_zero, List.getElem_cons_succ]
          refine held_step (i := 15) rfl (by kernel_rfl) (by rfl) (fun K hK => ?_)
          go_simp
          refine (B2.out _).mono ?_; rintro e w2 ⟨rfl, hb2⟩
          go_wp2_with fail
          refine hK.out _ _ (PQ.next (by assumption) hb2) (fun hHeld => ?_)
          clear hK K
          try simp only [Act.put, List.setIfInBounds_toArray, List.set_cons_zero, List.set_cons_succ, List.getElem_toArray, List.getElem_cons_zero, List.getElem_cons_succ]
          refine wpAnyH_take (i := 16) (v := ?_) rfl (by kernel_rfl) (by kernel_rfl) (by kernel_rfl) (fun _ _ _ h => h) (Or.inl ⟨by rfl, ?_⟩) (by assumption) ?_
          rotate_left
          · intro w hSw; go_simp; try with_reducible rfl
          simp only [Act.put, List.setIfInBounds_toArray, List.set_cons_zero, List.set_cons_succ, List.getElem_toArray, List.getElem_cons_zero, List.getElem_cons_succ]
          refine wpAnyH_take (i := 17) (v := ?_) rfl (by kernel_rfl) (by kernel_rfl) (by kernel_rfl) (fun _ _ _ h => h) (Or.inl ⟨by rfl, ?_⟩) (by assumption) ?_
          rotate_left
          · intro w hSw; go_simp; try with_reducible rfl
          simp only [Act.put, List.setIfInBounds_toArray, List.set_cons_zero, List.set_cons_succ, List.getElem_toArray, List.getElem_cons_zero, List.getElem_cons_succ]
          refine wpAnyH_done (by kernel_rfl) ?_ _

          have hF := hHeld
          have e0 := hF.bp.p0
          rw [HS6.out] at e0
          go_wp2_with (refine wpList_load_addr rfl _ rfl w.heap.size 1 rfl p.addr hp hF.bp.pA ?_)
          refine (OF.out _).mono ?_
          rintro e w5 ⟨rfl, hb5⟩
          have hG := hF.next hb5
          clear hb5
          go_wp2_with (refine wpList_store_row rfl _ _ _ rfl (w.heap.size + 1 + 1) (pfA (ofP q.six p.addr n)) rfl rfl 24 (pfA zP) hG.br KO.info KO.size.symm KO.one ?_)
          refine bodyPost_ret (results_cell_tmp rfl _ _ _ _ _ _ _ rfl (hG.br.setRow _) huP rfl KO.info) rfl ⟨by rw [HN.out]; rfl, below_setRow hG.below (by omega) _⟩
      · obtain rfl : n = M := by omega
        have hge : Mi ≤ (n : Int) := by have := HMM.out; omega
        have OF := Lib.hid fun W => pfx_Of q.six p.addr hp n (by omega) W
        have KO := PX.of (p := ofP q.six p.addr n) (ofP_len _ hp _)
        have HN : Hid (pfA (common p q) = pfA (ofP q.six p.addr n)) := by rw [HC.out, HE.out, Nat.sub_self, commonFrom, HS6.out]; exact Lib.hid rfl
        go_wp2_with fail
        refine wp_region_held_drew (S := fun W => PQ w W p q) (by kernel_rfl) HQ.out.drew (fun hHeld => ?_)
        refine wpAnyH_take (i := 0) (v := ?_) rfl (by kernel_rfl) (by kernel_rfl) (by kernel_rfl) (fun _ _ _ h => h) (Or.inl ⟨by rfl, ?_⟩) (by assumption) ?_
        rotate_left
        · intro w hSw; go_simp; try with_reducible rfl
        simp only [Act.put, List.setIfInBounds_toArray, List.set_cons_zero, List.set_cons_succ, List.getElem_toArray, List.getElem_cons_zero, List.getElem_cons_succ]
        refine wpAnyH_take (i := 1) (v := ?_) rfl (by kernel_rfl) (by kernel_rfl) (by kernel_rfl) (fun _ _ _ h => h) (Or.inl ⟨by rfl, ?_⟩) (by assumption) ?_
        rotate_left
        · intro w hSw; go_simp; try with_reducible rfl
        simp only [Act.put, List.setIfInBounds_toArray, List.set_cons_zero, List.set_cons_succ, List.getElem_toArray, List.getElem_cons_zero, List.getElem_cons_succ]
        refine wpAnyH_take (i := 2) (v := ?_) rfl (by kernel_rfl) (by kernel_rfl) (by kernel_rfl) (fun _ _ _ h => h) (Or.inl ⟨by rfl, ?_⟩) (by assumption) ?_
        rotate_left
        · intro w h; have hf := (h.bp).p17 hp; go_simp; try with_reducible rfl
        simp only [Act.put, List.setIfInBounds_toArray, List.set_cons_zero, List.set_cons_succ, List.getElem_toArray, List.getElem_cons_zero, List.getElem_cons_succ]
        refine wpAnyH_take (i := 3) (v := ?_) rfl (by kernel_rfl) (by kernel_rfl) (by kernel_rfl) (fun _ _ _ h => h) (Or.inl ⟨by rfl, ?_⟩) (by assumption) ?_
        rotate_left
        · intro w hSw; go_simp; try with_reducible rfl
        simp only [Act.put, List.setIfInBounds_toArray, List.set_cons_zero, List.set_cons_succ, List.getElem_toArray, List.getElem_cons_zero, List.getElem_cons_succ]
        refine wpAnyH_take (i := 4) (v := ?_) rfl (by kernel_rfl) (by kernel_rfl) (by kernel_rfl) (fun _ _ _ h => h) (Or.inl ⟨by rfl, ?_⟩) (by assumption) ?_
        rotate_left
        · intro w h; have hf := (h.bq).p17 hq; go_simp; try with_reducible rfl
        simp only [Act.put, List.setIfInBounds_toArray, List.set_cons_zero, List.set_cons_succ, List.getElem_toArray, List.getElem_cons_zero, List.getElem_cons_succ]
        refine wpAnyH_take (i := 5) (v := .int .i64 Mi) rfl (by kernel_rfl) (by kernel_rfl) (by kernel_rfl) (fun _ _ _ h => h) (Or.inl ⟨by rfl, ?_⟩) (by assumption) ?_
        · intro w hSw; go_simp; try (rw [hmin]; rfl)
        simp only [Act.put, List.setIfInBounds_toArray, List.set_cons_zero, List.set_cons_succ, List.getElem_toArray, List.getElem_cons_zero, List.getElem_cons_succ]
        refine wpAnyH_take (i := 6) (v := .bool false) rfl (by kernel_rfl) (by kernel_rfl) (by kernel_rfl) (fun _ _ _ h => h) (Or.inl ⟨by rfl, ?_⟩) (by assumption) ?_
        · intro w hSw; go_simp; try omega
        simp only [Act.put, List.setIfInBounds_toArray, List.set_cons_zero, List.set_cons_succ, List.getElem_toArray, List.getElem_cons_zero, List.getElem_cons_succ]
        refine wpAnyH_take (i := 7) (v := ?_) rfl (by kernel_rfl) (by kernel_rfl) (by kernel_rfl) (fun _ _ _ h => h) (Or.inl ⟨by rfl, ?_⟩) (by assumption) ?_
        rotate_left
        · intro w hSw; go_simp; try with_reducible rfl
        simp only [Act.put, List.setIfInBounds_toArray, List.set_cons_zero, List.set_cons_succ, List.getElem_toArray, List.getElem_cons_zero, List.getElem_cons_succ]
        refine wpAnyH_take (i := 8) rfl (by kernel_rfl) (by kernel_rfl) (by kernel_rfl) (fun _ _ _ h => h) (yieldsIf_off (by rfl)) (by assumption) ?_
        simp only [Act.put, List.setIfInBounds_toArray, List.set_cons_zero, List.set_cons_succ, List.getElem_toArray, List.getElem_cons_zero, List.getElem_cons_succ]
        refine wpAnyH_take (i := 9) rfl (by kernel_rfl) (by kernel_rfl) (by kernel_rfl) (fun _ _ _ h => h) (yieldsIf_off (by rfl)) (by assumption) ?_
        simp only [Act.put, List.setIfInBounds_toArray, List.set_cons_zero, List.set_cons_succ, List.getElem_toArray, List.getElem_cons_zero, List.getElem_cons_succ]
        refine wpAnyH_take (i := 10) rfl (by kernel_rfl) (by kernel_rfl) (by kernel_rfl) (fun _ _ _ h => h) (yieldsIf_off (by rfl)) (by assumption) ?_
        simp only [Act.put, List.setIfInBounds_toArray, List.set_cons_zero, List.set_cons_succ, List.getElem_toArray, List.getElem_cons_zero, List.getElem_cons_succ]
        refine wpAnyH_take (i := 11) rfl (by kernel_rfl) (by kernel_rfl) (by kernel_rfl) (fun _ _ _ h => h) (yieldsIf_off (by rfl)) (by assumption) ?_
        simp only [Act.put, List.setIfInBounds_toArray, List.set_cons_zero, List.set_cons_succ, List.getElem_toArray, List.getElem_cons_zero, List.getElem_cons_succ]
        refine wpAnyH_take (i := 12) rfl (by kernel_rfl) (by kernel_rfl) (by kernel_rfl) (fun _ _ _ h => h) (yieldsIf_off (by rfl)) (by assumption) ?_
        simp only [Act.put, List.setIfInBounds_toArray, List.set_cons_zero, List.set_cons_succ, List.getElem_toArray, List.getElem_cons_zero, List.getElem_cons_succ]
        refine wpAnyH_take (i := 13) rfl (by kernel_rfl) (by kernel_rfl) (by kernel_rfl) (fun _ _ _ h => h) (yieldsIf_off (by rfl)) (by assumption) ?_
        simp only [Act.put, List.setIfInBounds_toArray, List.set_cons_zero, List.set_cons_succ, List.getElem_toArray, List.getElem_cons_zero, List.getElem_cons_succ]
        refine wpAnyH_take (i := 14) rfl (by kernel_rfl) (by kernel_rfl) (by kernel_rfl) (fun _ _ _ h => h) (yieldsIf_off (by rfl)) (by assumption) ?_
        simp only [Act.put, List.setIfInBounds_toArray, List.set_cons_zero, List.set_cons_succ, List.getElem_toArray, List.getElem_cons_zero, List.getElem_cons_succ]
        refine wpAnyH_take (i := 15) rfl (by kernel_rfl) (by kernel_rfl) (by kernel_rfl) (fun _ _ _ h => h) (yieldsIf_off (by rfl)) (by assumption) ?_
        simp only [Act.put, List.setIfInBounds_toArray, List.set_cons_zero, List.set_cons_succ, List.getElem_toArray, List.getElem_cons_zero, List.getElem_cons_succ]
        refine wpAnyH_take (i := 16) rfl (by kernel_rfl) (by kernel_rfl) (by kernel_rfl) (fun _ _ _ h => h) (yieldsIf_off (by rfl)) (by assumption) ?_
        simp only [Act.put, List.setIfInBounds_toArray, List.set_cons_zero, List.set_cons_succ, List.getElem_toArray, List.getElem_cons_zero, List.getElem_cons_succ]
        refine wpAnyH_take (i := 17) (v := ?_) rfl (by kernel_rfl) (by kernel_rfl) (by kernel_rfl) (fun _ _ _ h => h) (Or.inl ⟨by rfl, ?_⟩) (by assumption) ?_
        rotate_left
        · intro w hSw; go_simp; try with_reducible rfl
        simp only [Act.put, List.setIfInBounds_toArray, List.set_cons_zero, List.set_cons_succ, List.getElem_toArray, List.getElem_cons_zero, List.getElem_cons_succ]
        refine wpAnyH_done (by kernel_rfl) ?_ _

        have hF := hHeld
        have e0 := hF.bp.p0
        rw [HS6.out] at e0
        go_wp2_with (refine wpList_load_addr rfl _ rfl w.heap.size 1 rfl p.addr hp hF.bp.pA ?_)
        refine (OF.out _).mono ?_
        rintro e w5 ⟨rfl, hb5⟩
        have hG := hF.next hb5
        clear hb5
        go_wp2_with (refine wpList_store_row rfl _ _ _ rfl (w.heap.size + 1 + 1) (pfA (ofP q.six p.addr n)) rfl rfl 24 (pfA zP) hG.br KO.info KO.size.symm KO.one ?_)
        refine bodyPost_ret (results_cell_tmp rfl _ _ _ _ _ _ _ rfl (hG.br.setRow _) huP rfl KO.info) rfl ⟨by rw [HN.out]; rfl, below_setRow hG.below (by omega) _⟩
  · have hr : Hid (pfA (if p.six = q.six then common p q else zP) = pfA zP ∧ decide (p.six = q.six) = false) := Lib.hid ⟨by rw [if_neg hs], decide_eq_false hs⟩
    rw [hr.out.1, hr.out.2]
    have hz : pfA zP = #[.bool false, .int .u8 0, .int .u8 0, .int .u8 0, .int .u8 0, .int .u8 0, .int .u8 0, .int .u8 0, .int .u8 0, .int .u8 0, .int .u8 0, .int .u8 0, .int .u8 0, .int .u8 0, .int .u8 0, .int .u8 0, .int .u8 0, .int .i64 0] := rfl
    have HZ := Lib.hid (And.intro H0.out.br H0.out.below)
    have KZL := And.intro KZ.info KZ.one
    rw [hz] at HZ KZL
    clear H0
    have hs' : (p.six == q.six) = false := by simpa using hs
    clear hs
    go_enter Tryz.func17, Tryz.ntmps17
    go_wp2_with (refine wpList_store_row rfl _ _ _ rfl (w.heap.size + 1 + 1) #[.bool false, .int .u8 0, .int .u8 0, .int .u8 0, .int .u8 0, .int .u8 0, .int .u8 0, .int .u8 0, .int .u8 0, .int .u8 0, .int .u8 0, .int .u8 0, .int .u8 0, .int .u8 0, .int .u8 0, .int .u8 0, .int .u8 0, .int .i64 0] rfl rfl 24 #[.bool false, .int .u8 0, .int .u8 0, .int .u8 0, .int .u8 0, .int .u8 0, .int .u8 0, .int .u8 0, .int .u8 0, .int .u8 0, .int .u8 0, .int .u8 0, .int .u8 0, .int .u8 0, .int .u8 0, .int .u8 0, .int .u8 0, .int .i64 0] HZ.out.1 KZL.1 rfl KZL.2 ?_)
    refine bodyPost_ret (results_cell_tmp rfl _ _ _ _ _ _ _ rfl (HZ.out.1.setRow _) huP rfl KZL.1) rfl ⟨by rw [hz]; rfl, below_setRow HZ.out.2 (by omega) _⟩
end Go.Proofs.YtjbolphfelakeaaGreatDoor
