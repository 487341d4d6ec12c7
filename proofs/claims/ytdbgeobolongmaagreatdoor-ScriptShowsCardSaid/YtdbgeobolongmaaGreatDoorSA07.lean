/- Part of the proof: ScriptLines, ScriptParses, ScriptShows. -/
import Derived.Deep.MidRow
import Derived.Laws.Cover1
import Derived.Test.YtdbgeobolongmaaGreatDoorSA04
set_option linter.unusedVariables false
set_option linter.unusedSimpArgs false
set_option maxRecDepth 100000
set_option maxHeartbeats 2000000
namespace Go.Proofs.YtdbgeobolongmaaGreatDoor
open Go.RowKit Go.Shelf Go.Proofs Go.OctetPlain Go.ColonPlain Go.PrefixPlain Go.Proofs.Tryz
theorem pfx_most (six : Bool) (w : World) : zCQ 169 #[.bool six] w (.int .i64 (most six)) := by
 cases six
 all_goals
  go_enter func169, ntmps169
  go_wp2
  go_ret
  exact ⟨rfl, rfl⟩
theorem and_keep : ∀ (c : Fin 256) (l : Fin 9), bits .and .u8 ((c : Nat) : Int) ((zDd l).toNat : Int) = ((UInt8.ofNat c &&& zDd l).toNat : Int) := by decide +kernel
theorem and_keep' (c : UInt8) {l : Nat} (h : l < 9) : bits .and .u8 (c.toNat : Int) ((zDd l).toNat : Int) = ((c &&& zDd l).toNat : Int) := by
 have := and_keep ⟨c.toNat, c.toNat_lt⟩ ⟨l, h⟩; rw [of_nat] at this; exact this
theorem pfx_keep (n : Int) (h0 : 0 <= n) (h1 : n <= 9223372036854775807) (i : Nat) (hi : i < 16) (g : Nat) (W : World) (hc : W.cell? ⟨g, 0, none⟩ = some (.int .i64 n)) :
  zCQ 191 #[.int .i64 i, .pointer (some ⟨g, 0, none⟩)] W (.int .u8 ((zDd (leftN n i)).toNat : Int)) := by
 have hL9 := leftN_le n i; have hL : min (max (n - 8 * (i : Int)) 0) 8 = (leftN n i : Int) := by unfold leftN; omega
 have w1 : IntKind.i64.wrap ((8 : Int) * i) = 8 * i := yT _ om; have w2 : IntKind.i64.wrap (n - (8 : Int) * i) = n - 8 * i := yT _ om; generalize leftN n i = L at hL9 hL; have hcs : L = 0 ∨ L = 1 ∨ L = 2 ∨ L = 3 ∨ L = 4 ∨ L = 5 ∨ L = 6 ∨ L = 7 ∨ L = 8 := om
 rcases hcs with rfl | rfl | rfl | rfl | rfl | rfl | rfl | rfl | rfl
 all_goals
  go_enter func191, ntmps191
  go_wp2
  go_ret
  exact ⟨rfl, rfl⟩
def rU (a : List UInt8) (n : Int) (k : Nat) : List UInt8 := (first a n).take k ++ a.drop k
theorem firstK_zero (a : List UInt8) (n : Int) : rU a n 0 = a := by simp [rU]
theorem firstK_all {a : List UInt8} (n : Int) : rU a n a.length = first a n := by
 unfold rU; rw [qO, vC, xY (by rw [jR]; exact yZ _)]
theorem firstK_len {a : List UInt8} {n : Int} {k : Nat} (h : k <= a.length) : (rU a n k).length = a.length := by
 unfold rU; rw [zG, yV, jR, vZ]; omega
theorem firstK_get {a : List UInt8} {n : Int} {k : Nat} {c : UInt8} (h : a[k]? = some c) : (rU a n k)[k]? = some c := by
 have hk := (zL.1 h).1; unfold rU; rw [vD (by rw [yV, jR]; omega), yV, jR, fD]; rw [← h]; congr 1; omega
theorem firstK_set {a : List UInt8} {n : Int} {k : Nat} {c : UInt8} (h : a[k]? = some c) : (rU a n k).set k (c &&& zDd (leftN n k)) = rU a n (k + 1) := by
 have hk := (zL.1 h).1; apply wC; intro i
 by_cases hi : i = k
 ·subst hi
  rw [List.getElem?_set_self (by rw [firstK_len om]; omega)]; unfold rU; rw [vV (by rw [yV, jR]; omega), zGt om, first_get n h]
 ·rw [List.getElem?_set_ne (bD hi)]
  unfold rU
  by_cases hlt : i < k
  ·rw [vV (by rw [yV, jR]; omega), vV (by rw [yV, jR]; omega), zGt hlt, zGt om]
  ·rw [vD (by rw [yV, jR]; omega), vD (by rw [yV, jR]; omega), yV, yV, jR, fD, fD]
   congr 1; omega
structure FS (w : World) (a : List UInt8) (n : Int) (W : World) (k : Nat) : Prop where
 b0 : Blk W w.heap.size 24 (arrB (rU a n k))
 b1 : Blk W (w.heap.size + 1) 3 #[.int .i64 n]
 b2 : Blk W (w.heap.size + 2) 24 (arrB (List.replicate 16 0))
 below : zW w W
theorem pfx_first (a : List UInt8) (ha : a.length = 16) (n : Int) (hn : -9223372036854775808 <= n /\ n <= 9223372036854775807) (w : World) :
  zCB 170 #[.agg (arrB a), .int .i64 n] w (.agg (arrB (first a n))) := by
 have hmf : ∀ (fn : Fn) (first cap : Array Value) (w : World), (Instr.makeFunc fn first cap).run prog w = .ok (.func fn first cap) w := fun _ _ _ _ => rfl
 obtain ⟨m, hm, h0, h1, hfe⟩ : ∃ m : Int, max n 0 = m /\ 0 <= m /\ m <= 9223372036854775807 /\ first a n = first a m := by
  refine ⟨max n 0, rfl, om, om, ?_⟩; unfold first
  congr 1
  funext i c
  have : leftN n i = leftN (max n 0) i := by unfold leftN; omega
  rw [this]
 rw [hfe]; clear hfe
 go_enter func170, ntmps170
 go_wp2_with fail
 go_loopw [6, 10] (fun _ vi wr => ∃ k : Nat, k <= 16 /\ vi = .int .i64 k /\ Hid (FS w a m wr k)) (fun _ vi _ => 16 - (intOf vi).toNat)
 case atStart =>
  refine ⟨0, om, rfl, qh ⟨?_, ?_, ?_, ?_⟩⟩
  ·rw [firstK_zero]
   exact ((Blk.new w 24 (arrB a)).alloc _).alloc _
  ·have h := Blk.new (w.alloc (.cells (arrB a) 24)) 3 #[.int .i64 m]
   rw [xG] at h; exact h.alloc _
  ·have h := Blk.new ((w.alloc (.cells (arrB a) 24)).alloc (.cells #[.int .i64 m] 3)) 24 (arrB (List.replicate 16 0))
   simp only [xG] at h; exact h
  ·exact ((yD w _).alloc zi _).alloc zv _
 case round =>
  obtain ⟨k, hk, rfl, HF⟩ := hrel
  by_cases hlt : k < 16
  ·obtain ⟨c, hc⟩ : ∃ c, a[k]? = some c := ⟨a[k], zA om⟩
   have ce := (HF.o.b0.cell k).trans (kQ (firstK_get hc)); have f0 := HF.o.b0.frozen' k; have nc := HF.o.b1.cell 0; simp only [xD, xA] at nc; have KP := qh fun W h => pfx_keep m h0 h1 k hlt (w.heap.size + 1) W h; have HS := qh (firstK_set (n := m) hc); have AK := and_keep' c (leftN_le m k); clear hc; go_wp2_with fail
   go_still_tail 8, kf
   still_call (KP.o _ nc)
   repeat still_step
   refine wpStill_nil ?_; change wpList _ _ _ _ _ wr.drew
   go_wp2
   refine ⟨⟨k + 1, om, by go_num, qh ⟨?_, HF.o.b1.drew.other _ _ zi, HF.o.b2.drew.other _ _ zi, (HF.o.below.trans (zb.drew.mono HF.o.below.size)).setCell zi _⟩⟩, by simp [intOf]; omega⟩; rw [← HS.o, ← wF]; exact HF.o.b0.drew.set _ _
  ·obtain rfl : k = 16 := om
   have hall : rU a m 16 = first a m := by rw [← ha]; exact firstK_all m
   have H0 := HF.o.b0; have H2 := HF.o.b2; rw [hall] at H0; have KX := A16.of (l := first a m) (by rw [jR, ha]); have hu16 := underlying24; have HBL := qh HF.o.below; clear hall HF; generalize hX : arrB (first a m) = X at H0 KX; have HX := qh hX; clear hX
   go_wp2_with (first
    | (refine yI rfl _ _ rfl w.heap.size rfl _ X (0, 0) _ H0 hu16 rfl KX.info ?_)
    | (refine uZ rfl _ _ _ rfl (w.heap.size + 2) X rfl rfl 24 (arrB (List.replicate 16 0)) H2 KX.info KX.size.symm KX.one ?_))
   refine zC (mV rfl _ _ _ _ _ _ _ rfl (H2.setRow _) hu16 rfl KX.info) rfl ⟨by rw [HX.o], below_setRow HBL.o om _⟩
def uS (a : List UInt8) : List Value := a.map fun c => Value.int .u8 (c.toNat : Int)
theorem cellsB_arr (a : List UInt8) : (uS a).toArray = arrB a := rfl
theorem jH (a : List UInt8) : (uS a).length = a.length := by simp [uS]
def pfA (p : Pf) : Array Value := (Value.bool p.six :: (uS p.addr ++ [Value.int .i64 p.len])).toArray
theorem infoP : (prog.info? 26).map (·.size) = some 18 := kf
structure PX (X : Array Value) : Prop where
 info : (prog.info? 26).map (·.size) = some X.size
 size : X.size = 18
 one : X.all (·.oneCell') = true
theorem rE {p : Pf} (h : p.addr.length = 16) : (pfA p).size = 18 := by simp [pfA, jH, h]
theorem PX.of {p : Pf} (h : p.addr.length = 16) : PX (pfA p) := by
 refine ⟨by rw [rE h]; exact infoP, rE h, ?_⟩; rw [Array.all_eq_true_iff_forall_mem]; intro v hv; simp only [pfA, uS, List.mem_toArray, yR, xR, vB, jV, mW] at hv
 rcases hv with rfl | ⟨c, _, rfl⟩ | rfl <;> rfl
theorem Blk.p0 {w : World} {g : Nat} {t : TypeId} {p : Pf} (h : Blk w g t (pfA p)) : w.cell? ⟨g, 0, none⟩ = some (.bool p.six) := (h.cell 0).trans (by simp [pfA])
theorem Blk.p17 {w : World} {g : Nat} {t : TypeId} {p : Pf} (h : Blk w g t (pfA p)) (h16 : p.addr.length = 16) : w.cell? ⟨g, 17, none⟩ = some (.int .i64 p.len) :=
 (h.cell 17).trans (by
  unfold pfA; rw [xD, xW, vD (by rw [jH, h16]; exact yZ _), jH, h16]
  rfl)
theorem Blk.pA {w : World} {g : Nat} {t : TypeId} {p : Pf} (h : Blk w g t (pfA p)) : w.rangeAt g 1 (uS p.addr) := fun j v hv => by
 rw [h.cell]; unfold pfA; have hj : j < (uS p.addr).length := (zL.1 hv).1; rw [xD, Nat.add_comm, xW, vV hj]; exact hv
theorem info16' {a : List UInt8} (h : a.length = 16) : (prog.info? 24).map (·.size) = some (uS a).length := by rw [jH, h]; exact rH
section
variable {ops : Array Oper} {Q : Exit -> Act -> World -> Prop} {S : World -> Prop}
theorem mM {op : Oper} {a : Act} (hw : Region.wanted op (yielded ops a.tmps) = true) (x : Operand) (ho : op.op = .load 24 x)
  (b o : Nat) (hx : a.eval x = .pointer (some ⟨b, o, none⟩)) (l : List UInt8) (h16 : l.length = 16) (hS : ∀ w, S w -> w.rangeAt b o (uS l)) : YieldsIf prog ops S op (.agg (arrB l)) a :=
 qY hw _ x ho b o hx _ _ hS underlying24 rfl (info16' h16)
theorem aQ {rest : List Oper} {op : Oper} {a : Act} {w : World} (hw : Region.wanted op (yielded ops a.tmps) = true) (x : Operand) (ho : op.op = .load 24 x)
  (b o : Nat) (hx : a.eval x = .pointer (some ⟨b, o, none⟩)) (l : List UInt8) (h16 : l.length = 16) (hS : w.rangeAt b o (uS l))
  (h : wpList prog ops Q rest (a.put op.dst (.agg (arrB l))) w) : wpList prog ops Q (op :: rest) a w :=
 mE hw fun _ hK => wp_load_mid _ x ho b o hx _ _ hS underlying24 rfl (info16' h16) (hK _ _ h)
end
theorem lT (d : Nat) {a b : List UInt8} (ha : a.length = 16) (hb : b.length = 16) (w : World) : (Op.equalIn (d + 2) 24 (.agg (arrB a)) (.agg (arrB b))).run prog w = .ok (decide (a = b)) w := by
 have hi : ∃ i, prog.info? 5 = some i := by
  have h : (prog.info? 5).isSome = true := kf; exact Option.isSome_iff_exists.1 h
 obtain ⟨i, hi⟩ := hi; have h := run_equalIn_array (P := prog) (w := w) (d + 1) (arrB a) (arrB b) underlying24 hi; rw [show prog.cellsOf 5 = 1 from kf] at h; rw [h]
 have h2 := lY (P := prog) (e := 5) (d := d + 1) (fun c : UInt8 => Value.int .u8 (c.toNat : Int)) (fun cs off v w hv => by simp [part, isAgg5, hv])
  (fun x y w => by
   rw [run_equalIn_int w d 5 .u8 .u8 _ _ underlying5]
   congr 1
   rw [rV]; simp only [uP, xP]
   constructor
   ·intro h; exact uH.1 (zAm h)
   ·rintro rfl; rfl) a b (List.range 16) w (by intro j hj; simp at hj; omega)
 unfold arrB; rw [h2]
 congr 1
 exact decide_eq_decide.2 (range_eq ha hb)
theorem lK {t : TypeId} {n : Nat} (h : ∀ w, (isAgg t).run prog w = .ok true w) (hi : (prog.info? t).map (·.size) = some n) (cs : Array Value) (o : Nat) (xs : Array Value) (hx : cs.extract o (o + n) = xs) (w : World) : (part t cs o).run prog w = .ok (.agg xs) w := by
 cases hq : prog.info? t with
 | none => simp [hq] at hi
 |some i =>
  have hs : i.size = n := by simpa [hq] using hi
  simp [part, h, sizeOf, typeInfo, hq, hs, hx]
theorem pfA_mid {p : Pf} (h : p.addr.length = 16) : (pfA p).extract 1 (1 + 16) = arrB p.addr := by
 unfold pfA; rw [List.extract_toArray, zGc, List.drop_succ_cons, xU]; have : (1 + 16 - 1 : Nat) = (uS p.addr).length := by rw [jH, h]
 rw [this, zDn]
 rfl
theorem eq_pf {p q : Pf} (hp : p.addr.length = 16) (hq : q.addr.length = 16) (w : World) : (Op.equalIn 10000 26 (.agg (pfA p)) (.agg (pfA q))).run prog w = .ok (decide (p = q)) w := by
 rw [run_equalIn_struct w 9999 26 _ _ kf kf]; have hf : ((prog.fieldsOf 26).toList.map fun f => (decide (f.name ≠ "_"), f.type, f.offset)) = [(true, 4, 0), (true, 24, 1), (true, 3, 17)] := kf; generalize (prog.fieldsOf 26).toList = fs at hf ⊢; have s1 : ∀ (p : Pf) (w : World), (part 4 (pfA p) 0).run prog w = .ok (.bool p.six) w := fun p w => by simp [part, isAgg4, pfA]
 have s2 : ∀ (p : Pf) (w : World), p.addr.length = 16 -> (part 24 (pfA p) 1).run prog w = .ok (.agg (arrB p.addr)) w := fun p w h => lK isAgg24 rH _ _ _ (pfA_mid h) w
 have s3 : ∀ (p : Pf) (w : World), p.addr.length = 16 -> (part 3 (pfA p) 17).run prog w = .ok (.int .i64 p.len) w := fun p w h => by
  have : (pfA p)[17]? = some (.int .i64 p.len) := by
   unfold pfA; rw [xD, xW, vD (by rw [jH, h]; exact yZ _), jH, h]
   rfl
  simp [part, isAgg3, this]
 have hlen : fs.length = 3 := by have := yG List.length hf; simpa using this
 obtain ⟨f1, f2, f3, rfl⟩ : ∃ a b c, fs = [a, b, c] := by
  clear hf
  match fs, hlen with
  | [a, b, c], _ => exact ⟨a, b, c, rfl⟩
 ·clear hlen
  simp only [yM, xH, rY, rZ, xP, pQ] at hf; obtain ⟨⟨n1, t1, o1⟩, ⟨n2, t2, o2⟩, n3, t3, o3⟩ := hf; have s2p := fun w => s2 p w hp; have s2q := fun w => s2 q w hq; have s3p := fun w => s3 p w hp; have s3q := fun w => s3 q w hq; have e1 := fun w => run_equalIn_bool' w 9998 4 p.six q.six underlying4; have e2 := fun w => lT 9997 hp hq w; have e3 := fun w => run_equalIn_int w 9998 3 .i64 .i64 p.len q.len underlying3; simp only [Op.eqFields, zN n1, zN n2, zN n3, t1, t2, t3, o1, o2, o3, kS, s1, s2p, s2q, s3p, s3q, jA, e1, e2, e3, Sem.run_ite, qN]; obtain ⟨ps, pa, pl⟩ := p; obtain ⟨qs, qa, ql⟩ := q; simp only
  by_cases h1 : ps = qs
  ·by_cases h2 : pa = qa
   ·by_cases h3 : pl = ql
    ·simp [h1, h2, h3]
    ·simp [h1, h2, h3]
   ·simp [h1, h2]
  ·simp [h1]
def zP : Pf := ⟨false, List.replicate 16 0, 0⟩
structure HS (w W : World) (p : Pf) (a : List UInt8) : Prop where
 bp : Blk W w.heap.size 26 (pfA p)
 ba : Blk W (w.heap.size + 1) 24 (arrB a)
 below : zW w W
theorem HS.next {w W W' : World} {p : Pf} {a : List UInt8} (h : HS w W p a) (hb : zW W W') : HS w W' p a := ⟨h.bp.below hb h.bp.lt, h.ba.below hb h.ba.lt, h.below.trans (hb.mono h.below.size)⟩
theorem HS.drew {w W : World} {p : Pf} {a : List UInt8} (h : HS w W p a) : HS w W.drew p a := h.next zb.drew
structure CS (w W : World) (p : Pf) : Prop where
 b : Blk W w.heap.size 26 (pfA p)
 below : zW w W
theorem CS.next {w W W' : World} {p : Pf} (h : CS w W p) (hb : zW W W') : CS w W' p := ⟨h.b.below hb h.b.lt, h.below.trans (hb.mono h.below.size)⟩
theorem CS.drew {w W : World} {p : Pf} (h : CS w W p) : CS w W.drew p := h.next zb.drew
def okN (p : Pf) : Int := if ok p then 0 else 1
theorem pfx_Check (p : Pf) (hp : p.addr.length = 16) (hn : -9223372036854775808 <= p.len /\ p.len <= 9223372036854775807) (w : World) :
  zCB 146 #[.agg (pfA p)] w (.int .i64 (okN p)) := by
 have MO := qh fun W => pfx_most p.six W; have FP := qh fun W => pfx_first p.addr hp p.len hn W; have huP := underlying26; have KX := PX.of hp; have h0 : CS w (w.alloc (.cells (pfA p) 26)) p := ⟨Blk.new _ _ _, yD w _⟩; have H0 := qh h0; clear h0
 by_cases hneg : p.len < 0
 ·have hr : Hid (okN p = 1) := qh (by unfold okN; rw [zH (fun h => by have := h.1; omega)])
  rw [hr.o]
  go_enter func146, ntmps146
  go_wp2_with fail
  refine yB (S := fun W => CS w W p) kf H0.o.drew (fun hHeld => ?_); refine kq 0 ?_; refine kh 1 (fun w h => (h.b).p17 hp) ?_; refine kq 2 ?_ (v := .bool true) (hy := by intro w hSw; go_simp; try (omega)); refine kq 3 ?_; refine tn 4 ?_; refine tn 5 ?_; refine tn 6 ?_; refine tn 7 ?_; refine tn 8 ?_; refine tn 9 ?_; refine kq 10 ?_; refine kq 11 ?_; refine tn 12 ?_; refine tn 13 ?_; refine tn 14 ?_; refine tn 15 ?_; refine tn 16 ?_; refine tn 17 ?_; refine tn 18 ?_; refine tn 19 ?_; refine kq 20 ?_; refine zD ?_
  all_goals go_wp2
  all_goals go_ret
  all_goals exact ⟨rfl, CS.below za⟩
 ·have h00 : 0 <= p.len := om
  by_cases hgr : most p.six < p.len
  ·have hr : Hid (okN p = 1) := qh (by unfold okN; rw [zH (fun h => by have := h.2.1; omega)])
   rw [hr.o]; generalize most p.six = M at MO hgr
   go_enter func146, ntmps146
   go_wp2_with fail
   refine yB (S := fun W => CS w W p) kf H0.o.drew (fun hHeld => ?_); refine kq 0 ?_; refine kh 1 (fun w h => (h.b).p17 hp) ?_; refine kq 2 ?_ (v := .bool false) (hy := by intro w hSw; go_simp; try (omega)); refine kq 3 ?_; refine kq 4 ?_; refine kh 5 (fun w h => (h.b).p17 hp) ?_; refine kq 6 ?_; refine kh 7 (fun w h => (h.b).p0) ?_; refine zS 8 fun K hK => ?_; go_simp; refine zU (MO.o _) ?_; go_wp2_with fail
   refine zK hK (za) fun hHeld => ?_; clear hK K; refine kq 9 ?_ (v := .bool true) (hy := by intro w hSw; go_simp; try (omega)); refine kq 10 ?_; refine kq 11 ?_; refine tn 12 ?_; refine tn 13 ?_; refine tn 14 ?_; refine tn 15 ?_; refine tn 16 ?_; refine tn 17 ?_; refine tn 18 ?_; refine tn 19 ?_; refine kq 20 ?_; refine zD ?_
   all_goals go_wp2
   all_goals go_ret
   all_goals exact ⟨rfl, CS.below za⟩
  ·have QE := fun W => lT 9998 (a := first p.addr p.len) (b := p.addr) (by rw [jR, hp]) hp W
   obtain ⟨b, hb, hr⟩ : ∃ b : Bool, decide (first p.addr p.len = p.addr) = b /\ Hid (okN p = if b then 0 else 1) := by
    refine ⟨_, rfl, qh ?_⟩; have hiff : ok p ↔ first p.addr p.len = p.addr := ⟨fun h => h.2.2, fun h => ⟨h00, om, h⟩⟩
    unfold okN
    by_cases h : first p.addr p.len = p.addr
    ·rw [zN (hiff.2 h), zV h]; rfl
    ·rw [zH (fun hh => h (hiff.1 hh)), zM h]; rfl
   rw [hb] at QE; rw [hr.o]; clear hb hr; have hgr' : p.len <= most p.six := om; clear hgr; generalize most p.six = M at MO hgr'; generalize arrB (first p.addr p.len) = XF at FP QE
   cases b
   all_goals
    go_enter func146, ntmps146
    go_wp2_with fail
    refine yB (S := fun W => CS w W p) kf H0.o.drew (fun hHeld => ?_); refine kq 0 ?_; refine kh 1 (fun w h => (h.b).p17 hp) ?_; refine kq 2 ?_ (v := .bool false) (hy := by intro w hSw; go_simp; try (omega)); refine kq 3 ?_; refine kq 4 ?_; refine kh 5 (fun w h => (h.b).p17 hp) ?_; refine kq 6 ?_; refine kh 7 (fun w h => (h.b).p0) ?_; refine zS 8 fun K hK => ?_; go_simp; refine zU (MO.o _) ?_; go_wp2_with fail
    refine zK hK (za) fun hHeld => ?_; clear hK K; refine kq 9 ?_ (v := .bool false) (hy := by intro w hSw; go_simp; try (omega)); refine kq 10 ?_; refine kq 11 ?_; refine kq 12 ?_; refine kY 13 rfl (mM rf _ rfl (w.heap.size) 1 rfl (p.addr) (hp) (fun w h => (h.b).pA)) ?_; refine kq 14 ?_; refine kh 15 (fun w h => (h.b).p17 hp) ?_; refine kq 17 ?_; refine kY 18 rfl (mM rf _ rfl (w.heap.size) 1 rfl (p.addr) (hp) (fun w h => (h.b).pA)) ?_; refine zS 16 fun K hK => ?_; go_simp; refine zT (FP.o _) fun w2 hb2 => ?_; go_wp2_with fail
    refine zK hK (CS.next za hb2) fun hHeld => ?_; clear hK K; refine kq 19 ?_; refine kq 20 ?_; refine zD ?_
    all_goals go_wp2
    all_goals go_ret
    all_goals exact ⟨rfl, CS.below za⟩
structure PP (w W : World) (p q : Pf) : Prop where
 bp : Blk W w.heap.size 26 (pfA p)
 bq : Blk W (w.heap.size + 1) 26 (pfA q)
 below : zW w W
theorem PP.next {w W W' : World} {p q : Pf} (h : PP w W p q) (hb : zW W W') : PP w W' p q := ⟨h.bp.below hb h.bp.lt, h.bq.below hb h.bq.lt, h.below.trans (hb.mono h.below.size)⟩
theorem PP.drew {w W : World} {p q : Pf} (h : PP w W p q) : PP w W.drew p q := h.next zb.drew
theorem PP.init (w : World) (p q : Pf) : PP w ((w.alloc (.cells (pfA p) 26)).alloc (.cells (pfA q) 26)) p q := by
 refine ⟨(Blk.new _ _ _).alloc _, ?_, (yD w _).alloc zi _⟩; have h := Blk.new (w.alloc (.cells (pfA p) 26)) 26 (pfA q); rw [xG] at h; exact h
def Len64 (p : Pf) : Prop := -9223372036854775808 <= p.len /\ p.len <= 9223372036854775807
structure PQ (w W : World) (p q : Pf) : Prop where
 bp : Blk W w.heap.size 26 (pfA p)
 bq : Blk W (w.heap.size + 1) 26 (pfA q)
 br : Blk W (w.heap.size + 2) 26 (pfA zP)
 below : zW w W
theorem PQ.next {w W W' : World} {p q : Pf} (h : PQ w W p q) (hb : zW W W') : PQ w W' p q := ⟨h.bp.below hb h.bp.lt, h.bq.below hb h.bq.lt, h.br.below hb h.br.lt, h.below.trans (hb.mono h.below.size)⟩
theorem PQ.drew {w W : World} {p q : Pf} (h : PQ w W p q) : PQ w W.drew p q := h.next zb.drew
theorem PQ.init (w : World) (p q : Pf) : PQ w (((w.alloc (.cells (pfA p) 26)).alloc (.cells (pfA q) 26)).alloc (.cells (pfA zP) 26)) p q := by
 have h0 := PP.init w p q; refine ⟨h0.bp.alloc _, h0.bq.alloc _, ?_, h0.below.trans ((yD _ _).mono h0.below.size)⟩; have h := Blk.new ((w.alloc (.cells (pfA p) 26)).alloc (.cells (pfA q) 26)) 26 (pfA zP); simp only [xG] at h; exact h
theorem bit_nat (a : List UInt8) {n : Nat} (h : n < 128) : bit a n = bitN a n := by unfold bit; rw [zH om]; simp
end Go.Proofs.YtdbgeobolongmaaGreatDoor
