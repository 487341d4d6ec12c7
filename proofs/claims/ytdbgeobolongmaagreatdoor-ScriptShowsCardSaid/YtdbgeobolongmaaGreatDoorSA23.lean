/- Part of the proof: ScriptLines, ScriptParses, ScriptShows. -/
import Derived.Test.YtdbgeobolongmaaGreatDoorSA19
import Derived.Test.YtdbgeobolongmaaGreatDoorSA21
import Derived.Test.YtdbgeobolongmaaGreatDoorSA22
set_option linter.unusedVariables false
set_option linter.unusedSimpArgs false
set_option maxRecDepth 100000
set_option maxHeartbeats 8000000
namespace Go.Proofs.YtdbgeobolongmaaGreatDoor
open Go.RowKit Go.Shelf Go.Proofs Go.OctetPlain Go.ColonPlain Go.PrefixPlain Go.Proofs.Tryz
theorem r8_most (six : Bool) (w : World) : zCQ 150 #[.bool six] w (.int .i64 (most six)) := by
 cases six
 all_goals
  go_enter func150, ntmps150
  go_wp2
  go_ret
  exact ⟨rfl, rfl⟩
theorem bit_val8 : ∀ (c : Fin 256) (j : Fin 8), bits .and .i64 (wrap64 ((c : Nat) : Int) / 2 ^ (7 - (j : Nat))) 1 = ((bitB (UInt8.ofNat c) j : Nat) : Int) := by decide +kernel
theorem bit_val8' (c : UInt8) {j : Nat} (h : j < 8) : bits .and .i64 (wrap64 (c.toNat : Int) / 2 ^ (7 - j)) 1 = ((bitB c j : Nat) : Int) := by
 have := bit_val8 ⟨c.toNat, c.toNat_lt⟩ ⟨j, h⟩; rw [of_nat] at this; exact this
theorem r8_Bit (a : List UInt8) (ha : a.length = 16) (i : Int) (hi : -9223372036854775808 <= i /\ i <= 9223372036854775807) (w : World) :
  zCB 151 #[.agg (arrB a), .int .i64 i] w (.int .i64 (bit a i)) := by
 by_cases hbad : i < 0 ∨ 128 <= i
 ·have hr : Hid (bit a i = 0) := qh (by unfold bit; rw [zN hbad])
  rw [hr.o]
  rcases hbad with h | h
  ·go_enter func151, ntmps151
   go_wp2
   go_ret
   exact ⟨rfl, yD w _⟩
  ·have h0 : ¬ i < 0 := om
   have h1 : (127 : Int) < i := om
   go_enter func151, ntmps151
   go_wp2
   go_ret
   exact ⟨rfl, yD w _⟩
 ·obtain ⟨k, rfl⟩ : ∃ k : Nat, i = k := ⟨i.toNat, om⟩
  have hk : k < 128 := om; have h0 : ¬ (k : Int) < 0 := om; have h1 : ¬ (127 : Int) < k := om; have hr : Hid (bit a k = bitN a k) := qh (by unfold bit; rw [zH hbad]; simp); rw [hr.o]; obtain ⟨c, hc⟩ : ∃ c, a[k / 8]? = some c := ⟨_, zA om⟩; have ce : ∀ o : Obj, (w.alloc (.cells (arrB a) 24)).cell? ⟨w.heap.size, k / 8, none⟩ = some (.int .u8 (c.toNat : Int)) := fun _ => ((Blk.new w 24 (arrB a)).cell _).trans (kQ hc); have ce' := ce (.cells #[] 0); have hb : Hid (bitN a k = bitB c (k % 8)) := qh (by simp [bitN, vP, hc]); have q1 : (k : Int).tdiv 8 = ((k / 8 : Nat) : Int) := by rw [Int.tdiv_eq_ediv_of_nonneg om]; omega
  have q2 : (k : Int).tmod 8 = ((k % 8 : Nat) : Int) := by rw [Int.tmod_eq_emod_of_nonneg om]; omega
  have q3 : k / 8 < 16 := om; have q4 : k % 8 < 8 := zDm _ om; rw [hb.o]; clear hc hb hr ce; generalize k / 8 = d at q1 q3 ce'; generalize k % 8 = j at q2 q4; have hj : j = 0 ∨ j = 1 ∨ j = 2 ∨ j = 3 ∨ j = 4 ∨ j = 5 ∨ j = 6 ∨ j = 7 := om; have hd16 : (d : Int) < 16 := om
  go_enter func151, ntmps151
  go_wp2
  go_ret
  exact ⟨by rw [← bit_val8' c q4]; rfl, yD w _⟩
theorem r8_Check (p : Pf) (hp : p.addr.length = 16) (hn : -9223372036854775808 <= p.len /\ p.len <= 9223372036854775807) (w : World) :
  zCB 118 #[.agg (pfA p)] w (.int .i64 (okN p)) := by
 have MO := qh fun W => r8_most p.six W; have huP := underlying26; have KX := PX.of hp; have h0 : CS w (w.alloc (.cells (pfA p) 26)) p := ⟨Blk.new _ _ _, yD w _⟩; have H0 := qh h0; clear h0
 by_cases hneg : p.len < 0
 ·have hr : Hid (okN p = 1) := qh (by unfold okN; rw [zH (fun h => by have := h.1; omega)])
  rw [hr.o]
  go_enter func118, ntmps118
  go_wp2_with fail
  refine yB (S := fun W => CS w W p) kf H0.o.drew (fun hHeld => ?_); refine kq 0 ?_; refine kh 1 (fun w h => (h.b).p17 hp) ?_; refine kq 2 ?_ (v := .bool true) (hy := by intro w hSw; go_simp; try (omega)); refine kq 3 ?_; refine tn 4 ?_; refine tn 5 ?_; refine tn 6 ?_; refine tn 7 ?_; refine tn 8 ?_; refine tn 9 ?_; refine kq 10 ?_; refine zD ?_
  all_goals go_wp2
  all_goals go_ret
  all_goals exact ⟨rfl, CS.below za⟩
 ·have hm := most_pos p.six
  by_cases hM : most p.six < p.len
  ·have hr : Hid (okN p = 1) := qh (by unfold okN; rw [zH (fun h => by have := h.2.1; omega)])
   rw [hr.o]; clear hr; generalize most p.six = M at MO hM hm
   go_enter func118, ntmps118
   go_wp2_with fail
   refine yB (S := fun W => CS w W p) kf H0.o.drew (fun hHeld => ?_); refine kq 0 ?_; refine kh 1 (fun w h => (h.b).p17 hp) ?_; refine kq 2 ?_ (v := .bool false) (hy := by intro w hSw; go_simp; try (omega)); refine kq 3 ?_; refine kq 4 ?_; refine kh 5 (fun w h => (h.b).p17 hp) ?_; refine kq 6 ?_; refine kh 7 (fun w h => (h.b).p0) ?_; refine zS 8 fun K hK => ?_; go_simp; refine zU (MO.o _) ?_; go_wp2_with fail
   refine zK hK (za) fun hHeld => ?_; clear hK K; refine kq 9 ?_ (v := .bool true) (hy := by intro w hSw; go_simp; try (omega)); refine kq 10 ?_; refine zD ?_
   all_goals go_wp2
   all_goals go_ret
   all_goals exact ⟨rfl, CS.below za⟩
  ·obtain ⟨n, hnl⟩ : ∃ n : Nat, p.len = n := ⟨p.len.toNat, om⟩
   have hn128 : n <= 128 := om
   have HYES : Hid ((∀ i : Nat, n <= i -> i < 128 -> bitN p.addr i = 0) -> okN p = 0) := qh (fun h => by
    unfold okN; rw [zN ((ok_bits hp).2 ⟨om, om, fun i h1 h2 => h i om h1⟩)])
   have HNO : Hid (∀ k : Nat, n <= k -> k < 128 -> bitN p.addr k = 1 -> okN p = 1) := qh (fun k h1 h2 h3 => by
    unfold okN; rw [zH (fun h => by have := ((ok_bits hp).1 h).2.2 k h2 om; omega)])
   clear hneg; have hneg : ¬ p.len < 0 := om; generalize most p.six = M at MO hM hm
   go_enter func118, ntmps118
   go_wp2_with fail
   refine yB (S := fun W => CS w W p) kf H0.o.drew (fun hHeld => ?_); refine kq 0 ?_; refine kh 1 (fun w h => (h.b).p17 hp) ?_; refine kq 2 ?_ (v := .bool false) (hy := by intro w hSw; go_simp; try (omega)); refine kq 3 ?_; refine kq 4 ?_; refine kh 5 (fun w h => (h.b).p17 hp) ?_; refine kq 6 ?_; refine kh 7 (fun w h => (h.b).p0) ?_; refine zS 8 fun K hK => ?_; go_simp; refine zU (MO.o _) ?_; go_wp2_with fail
   refine zK hK (za) fun hHeld => ?_; clear hK K; refine kq 9 ?_ (v := .bool false) (hy := by intro w hSw; go_simp; try (omega)); refine kq 10 ?_; refine zD ?_; have HC := qh hHeld; clear hHeld; have c17 := HC.o.b.p17 hp; rw [hnl] at c17; go_wp2_with fail
   go_loopw [3] (fun vi wr => ∃ k : Nat, n <= k /\ k <= 128 /\ vi = .int .i64 k /\ Hid (∀ i : Nat, n <= i -> i < k -> bitN p.addr i = 0) /\ Hid (CS w wr p)) (fun vi _ => 128 - (intOf vi).toNat)
   case atStart => exact ⟨n, yZ _, hn128, rfl, qh (fun i h1 h2 => om), HC⟩
   case round =>
    obtain ⟨k, hnk, hk, rfl, HK, HB⟩ := hrel
    by_cases hlt : k < 128
    ·have B1 : Hid (∀ W, zCB 151 #[.agg (arrB p.addr), .int .i64 k] W (.int .i64 (bitN p.addr k : Nat))) := qh fun W => by
      have h := r8_Bit p.addr hp k om W; rw [bit_nat _ hlt] at h; exact h
     have hb2 := bitN_lt p.addr k
     by_cases h1 : bitN p.addr k = 1
     ·have hr : Hid (okN p = 1) := qh (HNO.o k hnk hlt h1)
      rw [h1] at B1; clear hb2 h1
      go_wp2_with (refine aQ rfl _ rfl w.heap.size 1 rfl p.addr hp HB.o.b.pA ?_)
      refine zT (B1.o _) fun w1 hb1 => ?_; have HB1 := qh (HB.o.next hb1); clear hb1
      go_wp2
      go_ret
      exact ⟨by rw [hr.o]; rfl, HB1.o.below⟩
     ·have h0' : bitN p.addr k = 0 := om
      have HE := qh h0'; rw [h0'] at B1; clear hb2 h1 h0'
      go_wp2_with (refine aQ rfl _ rfl w.heap.size 1 rfl p.addr hp HB.o.b.pA ?_)
      refine zT (B1.o _) fun w1 hb1 => ?_; have HB1 := qh (HB.o.next hb1); clear hb1
      go_wp2
      refine ⟨⟨k + 1, om, om, by go_num, qh (fun i h1 h2 => ?_), HB1⟩, by simp [intOf]; omega⟩
      by_cases hik : i = k
      ·subst hik; exact HE.o
      ·exact HK.o i h1 om
    ·obtain rfl : k = 128 := om
     have hr : Hid (okN p = 0) := qh (HYES.o HK.o)
     go_wp2
     go_ret
     exact ⟨by rw [hr.o]; rfl, HB.o.below⟩
structure OS (w W : World) (a : List UInt8) (p : Pf) : Prop where
 b0 : Blk W w.heap.size 24 (arrB a)
 b1 : Blk W (w.heap.size + 1) 26 (pfA zP)
 b2 : Blk W (w.heap.size + 2) 26 (pfA p)
 below : zW w W
theorem OS.next {w W W' : World} {a : List UInt8} {p : Pf} (h : OS w W a p) (hb : zW W W') : OS w W' a p := ⟨h.b0.below hb h.b0.lt, h.b1.below hb h.b1.lt, h.b2.below hb h.b2.lt, h.below.trans (hb.mono h.below.size)⟩
theorem OS.init (w : World) (a : List UInt8) (p : Pf) : OS w (((w.alloc (.cells (arrB a) 24)).alloc (.cells (pfA zP) 26)).alloc (.cells (pfA p) 26)) a p := by
 have g1 := Blk.new (w.alloc (.cells (arrB a) 24)) 26 (pfA zP); rw [xG] at g1; have g2 := Blk.new ((w.alloc (.cells (arrB a) 24)).alloc (.cells (pfA zP) 26)) 26 (pfA p); simp only [xG] at g2; exact ⟨((Blk.new w 24 (arrB a)).alloc _).alloc _, g1.alloc _, g2, ((yD w _).alloc zi _).alloc zv _⟩
theorem dotJ_app1 (x : List UInt8) : ∀ (l : List (List UInt8)), l ≠ [] -> dotJ (l ++ [x]) = dotJ l ++ 46 :: x
 | [], h => absurd rfl h
 | [n], _ => rfl
 |n :: m :: r, _ => by
  have := dotJ_app1 x (m :: r) zi; simp only [yC, dotJ] at this ⊢; rw [this]; simp
theorem dotJ_len : ∀ (l : List UInt8), (dotJ (decs l)).length <= 4 * l.length
 | [] => by simp [decs, dotJ]
 | [c] => by have := aC c; simp [decs, dotJ]; omega
 |c :: d :: r => by
  have h1 := aC c; have h2 := dotJ_len (d :: r); simp only [decs, yM, dotJ, zG, zI] at h2 ⊢; omega
theorem r6_Show (a : List UInt8) (ha : a.length = 4) (w : World) :
  zCB 45 #[.agg (arrB a)] w (.string (str (qP a))) := by
 go_enter func45, ntmps45
 go_wp2_with fail
 go_loopw [3, 4] (fun vs vi wr => ∃ k : Nat, vi = .int .i64 k /\ k <= 4 /\ vs = .string (str (dotJ (decs (a.take k)))) /\ Hid (Blk wr w.heap.size 56 (arrB a)) /\ Hid (zW w wr)) (fun _ vi _ => 4 - (intOf vi).toNat)
 case atStart => exact ⟨0, rfl, om, rfl, qh (Blk.new _ _ _), qh (yD w _)⟩
 case round =>
  obtain ⟨k, rfl, hk4, rfl, HA, HB⟩ := hrel
  by_cases hlt : k < 4
  ·obtain ⟨c, hc⟩ : ∃ c, a[k]? = some c := ⟨_, zA om⟩
   have ce := (HA.o.cell k).trans (kQ hc); have hcl := c.toNat_lt
   have DG : Hid (∀ W, zCQ 88 #[.int .i64 (c.toNat : Int)] W (.string (str (Lib.decDigits c.toNat)))) := qh fun W => by
    have h := sP (c.toNat : Int) om W; rw [itoa_nat] at h; exact h
   have htk : decs (a.take (k + 1)) = decs (a.take k) ++ [Lib.decDigits c.toNat] := by
    obtain ⟨g1, g2⟩ := zL.1 hc; rw [yA g1, g2]; simp [decs]
   have hpl := dotJ_len (a.take k); rw [yV] at hpl; have hln := aC c; have hh : (str (Lib.decDigits c.toNat)).size = (Lib.decDigits c.toNat).length := zZ _; have hps : (str (dotJ (decs (a.take k)))).size = (dotJ (decs (a.take k))).length := zZ _
   by_cases hk0 : 0 < k
   ·have hk0' : (0 : Int) < k := om
    have hj : dotJ (decs (a.take (k + 1))) = dotJ (decs (a.take k)) ++ 46 :: Lib.decDigits c.toNat := by
     rw [htk]; exact dotJ_app1 _ _ (fun h => by have := yG List.length h; simp [decs, ha] at this; omega)
    have HJ := qh hj; clear htk hj hc; generalize dotJ (decs (a.take k)) = Pj at HJ hpl hps ⊢; have h3 : (str (Pj ++ [46])).size = Pj.length + 1 := by rw [zZ]; simp
    have hsep : str Pj ++ ⟨#[46]⟩ = str (Pj ++ [46]) := xJ Pj [46]; generalize Lib.decDigits c.toNat = D at DG hln hh HJ; go_wp2_with fail
    refine zU (DG.o _) ?_
    go_wp2
    exact ⟨⟨k + 1, by go_num, om, by rw [HJ.o, xJ]; simp, HA, HB⟩, by simp [intOf]; omega⟩
   ·obtain rfl : k = 0 := om
    have hj : dotJ (decs (a.take (0 + 1))) = Lib.decDigits c.toNat := by rw [htk]; rfl
    have hj0 : dotJ (decs (a.take 0)) = [] := rfl; have HJ := qh hj; rw [hj0] at hps ⊢; have hps : (str []).size = 0 := rfl; clear htk hj hc hj0 hpl; generalize Lib.decDigits c.toNat = D at DG hln hh HJ; go_wp2_with fail
    refine zU (DG.o _) ?_
    go_wp2
    exact ⟨⟨0 + 1, by go_num, om, by rw [HJ.o, xJ]; simp, HA, HB⟩, by simp [intOf]⟩
  ·obtain rfl : k = 4 := om
   have hR : Hid (dotJ (decs (a.take 4)) = qP a) := qh (by rw [xY om]; rfl)
   go_wp2
   go_ret
   exact ⟨by rw [← hR.o]; rfl, HB.o⟩
theorem wpList_store_new' {P : Program} {ops : Array Oper} {rest : List Oper} {o : Oper} {a : Act} {w : World} {Q : Exit -> Act -> World -> Prop} (g : Nat) (hg : w.heap.size = g) (hgd : o.guard = none) (ty : TypeId) (x y : Operand) (ho : o.op = .store ty x y)
  (cells : Array Value) (hx : a.eval x = .pointer (some ⟨g, 0, none⟩)) (hy : a.eval y = .agg cells) (t : TypeId) (old : Array Value) (hi : (P.info? ty).map (·.size) = some cells.size) (hold : old.size = cells.size) (h1 : cells.all (·.oneCell') = true)
  (h : wpList P ops Q rest (a.put o.dst undef) (w.alloc (.cells cells t))) : wpList P ops Q (o :: rest) a (w.alloc (.cells old t)) := by
 subst hg; exact vS hgd ty x y ho cells hx hy t old hi hold h1 h
structure SH (w W : World) (p : Pf) : Prop where
 bp : Blk W w.heap.size 26 (pfA p)
 ba : Blk W (w.heap.size + 1) 24 (arrB p.addr)
 below : zW w W
theorem SH.next {w W W' : World} {p : Pf} (h : SH w W p) (hb : zW W W') : SH w W' p := ⟨h.bp.below hb h.bp.lt, h.ba.below hb h.ba.lt, h.below.trans (hb.mono h.below.size)⟩
theorem SH.init (w : World) (p : Pf) : SH w ((w.alloc (.cells (pfA p) 26)).alloc (.cells (arrB p.addr) 24)) p := by
 refine ⟨(Blk.new _ _ _).alloc _, ?_, (yD w _).alloc zi _⟩; have h := Blk.new (w.alloc (.cells (pfA p) 26)) 24 (arrB p.addr); rw [xG] at h; exact h
theorem r8_Show (p : Pf) (hp : p.addr.length = 16) (lp : Len64 p) (w : World) :
  zCB 67 #[.agg (pfA p)] w (.string (str (fC p))) := by
 have hu16 := underlying24; have KA := A16.of hp; have H0 := qh (⟨Blk.new _ _ _, yD w _⟩ : CS w (w.alloc (.cells (pfA p) 26)) p); have HI := qh (SH.init w p); have c0 := HI.o.bp.p0; have hA0 := (SH.init w p).ba; obtain ⟨x0, x1, x2, x3, x4, x5, x6, x7, x8, x9, x10, x11, x12, x13, x14, x15, hx⟩ := aJ hp; have hcl := hA0; rw [hx] at hcl; have a0 := (hcl.cell 0).trans (kQ rfl); have a1 := (hcl.cell 1).trans (kQ rfl); have a2 := (hcl.cell 2).trans (kQ rfl); have a3 := (hcl.cell 3).trans (kQ rfl); rw [← hx] at a0 a1 a2 a3; have DS : Hid (∀ W, zCB 45 #[.agg #[.int .u8 (x0.toNat : Int), .int .u8 (x1.toNat : Int), .int .u8 (x2.toNat : Int), .int .u8 (x3.toNat : Int)]] W (.string (str (qP [x0, x1, x2, x3])))) := qh fun W => r6_Show [x0, x1, x2, x3] rfl W; have SA := qh fun W => ref_Show p.addr hp W; have OD := qh fun W => sP p.len lp W; have HX : Hid (qP (p.addr.take 4) = qP [x0, x1, x2, x3]) := by rw [hx]; exact qh rfl
 have hl1 := text_len hp; have hl2 := itoa_len (n := p.len) lp; have s1 : (str (aW p)).size = (aW p).length := zZ _; have s2 : (str (Lib.itoa p.len)).size = (Lib.itoa p.len).length := zZ _; have hslash : (⟨#[47]⟩ : ByteArray).size = 1 := rfl
 have HCAT : Hid (str (aW p) ++ ⟨#[47]⟩ ++ str (Lib.itoa p.len) = str (fC p)) := by
  refine qh ?_
  show str (aW p) ++ str [47] ++ str (Lib.itoa p.len) = _
  rw [xJ, xJ]; unfold fC; simp
 clear hcl hx hA0
 go_enter func67, ntmps67
 go_wp2_with (first
  | (refine aQ rfl _ rfl w.heap.size 1 rfl p.addr hp H0.o.b.pA ?_)
  | (refine wpList_store_new' (w.heap.size + 1) (xG _ _) rfl _ _ _ rfl (arrB p.addr) rfl rfl _ _ KA.info KA.size.symm KA.one ?_))
 refine zT (DS.o _) fun w1 hb1 => ?_; have H1 := HI.o.next hb1; have c0' := H1.bp.p0; have c17 := H1.bp.p17 hp; have HS1 := qh H1; clear hb1
 cases hsix : p.six
 ·rw [hsix] at c0'
  have hte : aW p = qP [x0, x1, x2, x3] := by unfold aW; rw [hsix]; exact HX.o
  rw [hte] at HCAT s1 hl1; clear hte hsix; go_wp2_with fail
  refine zU (OD.o _) ?_
  go_wp2
  go_ret
  exact ⟨by rw [← HCAT.o]; rfl, HS1.o.below⟩
 ·rw [hsix] at c0'
  have hte : aW p = show_ p.addr := by unfold aW; rw [hsix]; rfl
  rw [hte] at HCAT s1 hl1; clear hte hsix
  go_wp2_with (refine yI rfl _ _ rfl (w.heap.size + 1) rfl _ (arrB p.addr) (0, 0) _ HS1.o.ba hu16 rfl KA.info ?_)
  refine zT (SA.o _) fun w3 hb3 => ?_; have H3 := HS1.o.next hb3; have c17' := H3.bp.p17 hp; have HS3 := qh H3; clear hb3; go_wp2_with fail
  refine zU (OD.o _) ?_
  go_wp2
  go_ret
  exact ⟨by rw [← HCAT.o]; rfl, HS3.o.below⟩
theorem Blk.setCells {g : Nat} {t : TypeId} : ∀ (vs : List Value) (o : Nat) {w : World} {cs : Array Value}, Blk w g t cs -> ∃ cs', Blk (w.setCells g o vs) g t cs' /\ cs'.size = cs.size /\ ∀ i, i < cs.size -> cs'[i]? = if o <= i /\ i < o + vs.length then vs[i - o]? else cs[i]?
 | [], o, w, cs, h => ⟨cs, h, rfl, fun i _ => by rw [zH zi]⟩
 |v :: r, o, w, cs, h => by
  obtain ⟨cs', h1, h2, h3⟩ := Blk.setCells r (o + 1) (h.set o v); refine ⟨cs', h1, by rw [h2]; simp, fun i hi => ?_⟩; rw [h3 i (by simpa using hi)]
  by_cases e : i = o
  ·subst e
   rw [zH om, zN ⟨yZ _, zi⟩]; simp [hi]
  ·by_cases c : o + 1 <= i /\ i < o + 1 + r.length
   ·rw [zN c, zN ⟨om, by simp only [zI]; omega⟩, show i - o = (i - (o + 1)) + 1 from om, xW]
   ·rw [zH c, zH (by simp only [zI]; omega), Array.getElem?_setIfInBounds_ne (bD e)]
theorem below_setCells' {B b : Nat} {a : World} (hb : B <= b) : ∀ (vs : List Value) (o : Nat) {w : World}, Below B a w -> Below B a (w.setCells b o vs)
 | [], o, w, h => h
 | v :: r, o, w, h => below_setCells' hb r (o + 1) (h.setCell hb v)
theorem Blk.otherCells {g b : Nat} {t : TypeId} {cs : Array Value} (hne : g ≠ b) : ∀ (vs : List Value) (o : Nat) {w : World}, Blk w g t cs -> Blk (w.setCells b o vs) g t cs
 | [], o, w, h => h
 | v :: r, o, w, h => Blk.otherCells hne r (o + 1) (h.other ⟨b, o, none⟩ v hne)
theorem Blk.setAddr {w : World} {g : Nat} {t : TypeId} {p : Pf} (hp : p.addr.length = 16) (h : Blk w g t (pfA p)) {a : List UInt8} (ha : a.length = 16) : Blk (w.setCells g 1 (arrB a).toList) g t (pfA ⟨p.six, a, p.len⟩) := by
 obtain ⟨cs', h1, h2, h3⟩ := Blk.setCells (arrB a).toList 1 h
 have : cs' = pfA ⟨p.six, a, p.len⟩ := by
  apply Array.ext_getElem?; intro i; have hs : (pfA p).size = 18 := rE hp; have hs' : (pfA ⟨p.six, a, p.len⟩).size = 18 := rE (p := ⟨p.six, a, p.len⟩) ha; have hl : (arrB a).toList.length = 16 := by simp [arrB, ha]
  by_cases hi : i < 18
  ·rw [h3 i om, hl]
   by_cases c : 1 <= i /\ i < 1 + 16
   ·rw [zN c]
    obtain ⟨j, rfl⟩ : ∃ j, i = j + 1 := ⟨i - 1, om⟩; rw [show j + 1 - 1 = j from om]; unfold pfA; rw [xD, xW, vV (by rw [jH, ha]; omega), ← cellsB_arr]
   ·rw [zH c]
    by_cases c0 : i = 0
    ·subst c0; simp [pfA]
    ·obtain rfl : i = 17 := om
     unfold pfA; rw [xD, xW, vD (by rw [jH, hp]; omega), jH, hp]; rw [xD, xW, vD (by rw [jH, ha]; omega), jH, ha]
  ·rw [pR om, pR om]
 rw [this] at h1; exact h1
theorem Blk.there {w : World} {g : Nat} {t : TypeId} {cs : Array Value} (h : Blk w g t cs) (o n : Nat) (hn : o + n <= cs.size) : w.there g o n := fun j hj => by
 refine ⟨?_, h.frozen' _⟩; rw [h.cell, kR om]
 rfl
theorem jG {P : Program} {ops : Array Oper} {rest : List Oper} {op : Oper} {a : Act} {w : World} {Q : Exit -> Act -> World -> Prop} (R : World -> Prop) (hgd : op.guard = none) (ty : TypeId) (x y : Operand) (ho : op.op = .store ty x y)
  (b o : Nat) (cells : Array Value) (hx : a.eval x = .pointer (some ⟨b, o, none⟩)) (hy : a.eval y = .agg cells)
  (ht : w.there b o cells.size) (hi : (P.info? ty).map (·.size) = some cells.size) (h1 : cells.all (·.oneCell') = true) (hR : R (w.setCells b o cells.toList))
  (h : ∀ W', R W' -> wpList P ops Q rest (a.put op.dst undef) W') : wpList P ops Q (op :: rest) a w :=
 wpList_store_mid hgd ty x y ho b o cells hx hy ht hi h1 (h _ hR)
def adL (x : List UInt8) : List UInt8 := if (xZ x).isSome = true then (xZ x).getD [0, 0, 0, 0] ++ List.replicate 12 0 else (parse x).getD z16
theorem parseL_eq (x y : List UInt8) : zBx x y = if (number y 128).isSome = true /\ ((xZ x).isSome = true ∨ (parse x).isSome = true) /\ ok ⟨(parse x).isSome, adL x, (number y 128).getD 0⟩ then some ⟨(parse x).isSome, adL x, (number y 128).getD 0⟩ else none := by
 unfold zBx adL
 cases number y 128 with
 | none => simp
 |some n =>
  cases xZ x with
  | some a => simp
  |none =>
   simp only [Option.isSome_none, sZ, false_or, zDk, aA, rX, vI]; have e : (parse x).getD (List.replicate 16 0) = (parse x).getD z16 := rfl; rw [e]; generalize (parse x).isSome = s; generalize (parse x).getD z16 = a
   cases s <;> simp
structure S8 (w W : World) : Prop where
 br : Blk W w.heap.size 26 (pfA zP)
 below : zW w W
theorem S8.next {w W W' : World} (h : S8 w W) (hb : zW W W') : S8 w W' := ⟨h.br.below hb h.br.lt, h.below.trans (hb.mono h.below.size)⟩
theorem A16.put {X : Array Value} {s : Bool} {b a : List UInt8} {n : Int} (_ : A16 X) (hX : X = arrB a) (ha : a.length = 16) (hb : b.length = 16) {w W : World} {g : Nat} (S : S8 w W) (hl : w.heap.size < g) (B : Blk W g 26 (pfA ⟨s, b, n⟩)) : Hid (S8 w (W.setCells g 1 X.toList) /\ Blk (W.setCells g 1 X.toList) g 26 (pfA ⟨s, a, n⟩)) := by
 subst hX; exact qh ⟨⟨Blk.otherCells (Nat.ne_of_lt hl) _ _ S.br, below_setCells' (jI hl) _ _ S.below⟩, Blk.setAddr (p := ⟨s, b, n⟩) hb B ha⟩
section
variable {X old : Array Value} {ops : Array Oper} {rest : List Oper} {o : Oper} {a : Act} {w W : World} {Q : Exit -> Act -> World -> Prop} {x y : Operand} {g : Nat}
theorem A16.mid (K : A16 X) {s : Bool} {b c : List UInt8} {n : Int} (R : Hid (S8 w (W.setCells g 1 X.toList) /\ Blk (W.setCells g 1 X.toList) g 26 (pfA ⟨s, b, n⟩))) (B : Blk W g 26 (pfA ⟨s, c, n⟩))
  (h : ∀ W', Hid (S8 w W' /\ Blk W' g 26 (pfA ⟨s, b, n⟩)) -> wpList prog ops Q rest (a.put o.dst undef) W') (hc : c.length = 16 := by rfl) (hu : o.guard = none := by rfl) (ho : o.op = .store 24 x y := by rfl)
  (hx : a.eval x = .pointer (some ⟨g, 1, none⟩) := by rfl) (hy : a.eval y = .agg X := by rfl) : wpList prog ops Q (o :: rest) a W :=
 jG (fun W' => Hid (S8 w W' /\ Blk W' g 26 (pfA ⟨s, b, n⟩))) hu _ _ _ ho g 1 X hx hy (by rw [K.size]; exact B.there 1 16 (by rw [rE hc]; decide)) K.info K.one R h
end
theorem drop_last47 {l : List UInt8} {m : Nat} {c : UInt8} (h : l[m]? = some c) : l = l.take m ++ c :: l.drop (m + 1) := by
 obtain ⟨h1, h2⟩ := zL.1 h; rw [← h2, ← yE h1, kC]
theorem getD_len16 {x : List UInt8} : ((parse x).getD z16).length = 16 := by
 cases h : parse x with
 | none => rfl
 | some a => exact aN h
theorem getD_len4 {x : List UInt8} : ((xZ x).getD [0, 0, 0, 0]).length = 4 := by
 cases h : xZ x with
 | none => rfl
 | some a => exact kE _ _ a h
theorem r8_Parse (l : List UInt8) (hl : l.length <= 100000) (w : World) :
  zCB 66 #[.string (str l)] w (.tuple #[.agg (pfA ((vR l).getD zP)), .bool (vR l).isSome]) := by
 have hsz : (str l).size = l.length := zZ l; have htl := vX; have hu16 := underlying24; have hu4 := underlying56; have huP := underlying26; have KZ := PX.of (p := zP) rfl; have HB := qh (⟨Blk.new _ _ _, yD w _⟩ : S8 w (w.alloc (.cells (pfA zP) 26)))
 go_enter func66, ntmps66
 go_wp2_with fail
 go_loop [4] (fun vk => ∃ k : Int, vk = .int .i64 k /\ -1 <= k /\ k < l.length /\ Hid ((47 : UInt8) ∉ l.drop (k + 1).toNat)) (fun vk => (intOf vk + 1).toNat)
 case atStart => exact ⟨(l.length : Int) - 1, rfl, om, om, qh (by rw [List.drop_of_length_le om]; simp)⟩
 case round =>
  obtain ⟨k, rfl, hk1, hk2, HN⟩ := hrel
  by_cases hk : k < 0
  ·obtain rfl : k = -1 := om
   have HP : Hid (vR l = none) := qh (parseP_no (by simpa using HN.o)); clear HN
   go_wp2_with (refine KZ.st HB.o.br ?_)
   refine KZ.fin HB.o.br HB.o.below HP
  ·obtain ⟨m, rfl⟩ : ∃ m : Nat, k = m := ⟨k.toNat, om⟩
   have hm : m < l.length := om; obtain ⟨c, hc⟩ : ∃ c, l[m]? = some c := ⟨_, zA hm⟩; have hg : ∀ h, (str l)[m]'h = c := fun h => (jS l m h).trans (zL.1 hc).2; have hm1 : ((m : Int) + 1).toNat = m + 1 := om; rw [hm1] at HN
   by_cases h47 : c = 47
   ·have hcat : l = l.take m ++ 47 :: l.drop (m + 1) := by rw [← h47]; exact drop_last47 hc
    have HP : Hid (vR l = zBx (l.take m) (l.drop (m + 1))) := qh ((yG vR hcat).trans (parseP_last HN.o)); have hcX : (str l).extract 0 m = str (l.take m) := by rw [aP]; simp
    have hcY : (str l).extract (m + 1) l.length = str (l.drop (m + 1)) := by rw [aP, xY zi]
    have hlX : (l.take m).length <= 100000 := by rw [yV]; omega
    have hlY : (l.drop (m + 1)).length <= 100000 := by rw [vZ]; omega
    have w1 : IntKind.i64.wrap ((m : Int) + 1) = (m : Int) + 1 := yT _ om; subst h47; clear hcat hc HN; generalize l.take m = x at HP hcX hlX; generalize l.drop (m + 1) = y at HP hcY hlY; rw [parseL_eq] at HP; have NU := qh fun W => pX y om 128 W; have D6 := qh fun W => zBw x om W; have P7 := qh fun W => ref_Parse7 x hlX W
    have hnb : -9223372036854775808 <= (number y 128).getD 0 /\ (number y 128).getD 0 <= 9223372036854775807 := by
     cases hn : number y 128 with
     | none => simp
     | some v => have h := uD.1 hn; simp only [vI]; omega
    obtain ⟨a0, a1, a2, a3, ha⟩ := zBg (getD_len4 (x := x)); obtain ⟨y0, y1, y2, y3, y4, y5, y6, y7, y8, y9, y10, y11, y12, y13, y14, y15, hy⟩ := aJ (getD_len16 (x := x))
    have hAD : adL x = if (xZ x).isSome = true then [a0, a1, a2, a3, 0, 0, 0, 0, 0, 0, 0, 0, 0, 0, 0, 0] else [y0, y1, y2, y3, y4, y5, y6, y7, y8, y9, y10, y11, y12, y13, y14, y15] := by
     unfold adL; rw [ha, hy]; rfl
    rw [hAD] at HP; rw [ha] at D6; rw [hy] at P7; clear ha hy hAD; generalize (number y 128).getD 0 = nn at NU HP hnb; generalize (number y 128).isSome = num at NU HP; generalize (xZ x).isSome = four at D6 HP; generalize (parse x).isSome = six at P7 HP; have KB : A16 #[.int .u8 (y0.toNat : Int), .int .u8 (y1.toNat : Int), .int .u8 (y2.toNat : Int), .int .u8 (y3.toNat : Int), .int .u8 (y4.toNat : Int), .int .u8 (y5.toNat : Int), .int .u8 (y6.toNat : Int), .int .u8 (y7.toNat : Int), .int .u8 (y8.toNat : Int), .int .u8 (y9.toNat : Int), .int .u8 (y10.toNat : Int), .int .u8 (y11.toNat : Int), .int .u8 (y12.toNat : Int), .int .u8 (y13.toNat : Int), .int .u8 (y14.toNat : Int), .int .u8 (y15.toNat : Int)] := A16.of (l := [y0, y1, y2, y3, y4, y5, y6, y7, y8, y9, y10, y11, y12, y13, y14, y15]) rfl; have P7' : Hid (∀ W, zCB 83 #[.string (str x)] W (.tuple #[.agg #[.int .u8 (y0.toNat : Int), .int .u8 (y1.toNat : Int), .int .u8 (y2.toNat : Int), .int .u8 (y3.toNat : Int), .int .u8 (y4.toNat : Int), .int .u8 (y5.toNat : Int), .int .u8 (y6.toNat : Int), .int .u8 (y7.toNat : Int), .int .u8 (y8.toNat : Int), .int .u8 (y9.toNat : Int), .int .u8 (y10.toNat : Int), .int .u8 (y11.toNat : Int), .int .u8 (y12.toNat : Int), .int .u8 (y13.toNat : Int), .int .u8 (y14.toNat : Int), .int .u8 (y15.toNat : Int)], .bool six])) := P7; clear P7; have KP : PX (pfA ⟨six, [y0, y1, y2, y3, y4, y5, y6, y7, y8, y9, y10, y11, y12, y13, y14, y15], nn⟩) := PX.of rfl; have KD : (prog.info? 56).map (·.size) = some (arrB [a0, a1, a2, a3]).size /\ (arrB [a0, a1, a2, a3]).all (·.oneCell') = true := ⟨info4, zCu _⟩; go_wp2_with fail
    refine zU (NU.o _) ?_; go_wp2_with fail
    refine zT (D6.o _) fun w2 hb2 => ?_; have S2 := qh ((HB.o.next hb2).next (yD w2 (.cells (arrB [a0, a1, a2, a3]) 56))); have BA2 := qh (Blk.new w2 56 (arrB [a0, a1, a2, a3])); clear hb2 HB
    go_wp2_with (refine vS rfl _ _ _ rfl (arrB [a0, a1, a2, a3]) rfl rfl _ _ KD.1 rfl KD.2 ?_)
    refine zT (P7'.o _) fun w3 hb3 => ?_; have S3 := (S2.o.next hb3).next (KB.bl w3); have BA3 := KB.al (BA2.o.below hb3 BA2.o.lt); have BB3 := qh (KB.nw w3); have S4 := qh (S3.next (KP.bl _)); have BA4 := qh (KP.al BA3); have BP4 := KP.nw2 KB w3; simp only [xG] at BP4; have BP4 := qh BP4; have hlt3 := S3.br.lt; simp only [xG] at hlt3; clear hb3 S3 BA3 S2 BA2
    cases four
    ·rw [zH (show ¬ (false = true) from zd)] at HP
     cases num <;> cases six
     rotate_left 3
     ·have HN : Hid (vR l = if ok ⟨true, [y0, y1, y2, y3, y4, y5, y6, y7, y8, y9, y10, y11, y12, y13, y14, y15], nn⟩ then some ⟨true, [y0, y1, y2, y3, y4, y5, y6, y7, y8, y9, y10, y11, y12, y13, y14, y15], nn⟩ else none) := by
       rw [HP.o]; refine qh ?_
       by_cases hok : ok ⟨true, [y0, y1, y2, y3, y4, y5, y6, y7, y8, y9, y10, y11, y12, y13, y14, y15], nn⟩
       ·rw [zN hok, zN ⟨rfl, Or.inr rfl, hok⟩]
       ·rw [zH hok, zH (fun h => hok h.2.2)]
      have CK := qh fun W => r8_Check ⟨true, [y0, y1, y2, y3, y4, y5, y6, y7, y8, y9, y10, y11, y12, y13, y14, y15], nn⟩ rfl hnb W; rw [show okN ⟨true, [y0, y1, y2, y3, y4, y5, y6, y7, y8, y9, y10, y11, y12, y13, y14, y15], nn⟩ = if ok ⟨true, [y0, y1, y2, y3, y4, y5, y6, y7, y8, y9, y10, y11, y12, y13, y14, y15], nn⟩ then 0 else 1 from rfl] at CK; clear HP
      by_cases hok : ok ⟨true, [y0, y1, y2, y3, y4, y5, y6, y7, y8, y9, y10, y11, y12, y13, y14, y15], nn⟩
      all_goals first | rw [zN hok] at CK HN | rw [zH hok] at CK HN
      all_goals clear hok
      all_goals go_wp2_with (first
       | (refine KB.sn ?_)
       | (refine KB.ld BB3.o ?_)
       | (refine KP.sn (xG _ _) ?_)
       | (refine KP.ld BP4.o ?_))
      all_goals refine zT (CK.o _) fun w4 hb4 => ?_
      all_goals have S6 := qh (S4.o.next hb4)
      all_goals have B6 := qh (BP4.o.below hb4 BP4.o.lt)
      all_goals clear hb4
      all_goals go_wp2_with (first
       | (refine KP.ld B6.o ?_)
       | (refine KP.st S6.o.br ?_)
       | (refine KZ.st S6.o.br ?_))
      all_goals first | exact KP.fin S6.o.br S6.o.below HN | exact KZ.fin S6.o.br S6.o.below HN
     all_goals have HN : Hid (vR l = none) := by rw [HP.o, zH (fun h => by first | (cases h.1; done) | (rcases h.2.1 with h | h <;> cases h; done))]; exact qh rfl
     all_goals clear HP
     all_goals go_wp2_with (first
      | (refine KB.sn ?_)
      | (refine KB.ld BB3.o ?_)
      | (refine KP.sn (xG _ _) ?_)
      | (refine KZ.st S4.o.br ?_))
     all_goals exact KZ.fin S4.o.br S4.o.below HN
    ·rw [zN (show true = true from rfl)] at HP
     have KQ : PX (pfA ⟨six, [a0, a1, a2, a3, 0, 0, 0, 0, 0, 0, 0, 0, 0, 0, 0, 0], nn⟩) := PX.of rfl; have KC : A16 #[.int .u8 (a0.toNat : Int), .int .u8 (a1.toNat : Int), .int .u8 (a2.toNat : Int), .int .u8 (a3.toNat : Int), .int .u8 0, .int .u8 0, .int .u8 0, .int .u8 0, .int .u8 0, .int .u8 0, .int .u8 0, .int .u8 0, .int .u8 0, .int .u8 0, .int .u8 0, .int .u8 0] := A16.of (l := [a0, a1, a2, a3, 0, 0, 0, 0, 0, 0, 0, 0, 0, 0, 0, 0]) rfl
     go_upto_region 10 with (first
      | (refine KB.sn ?_)
      | (refine KB.ld BB3.o ?_)
      | (refine KP.sn (xG _ _) ?_))
     obtain ⟨g, hg⟩ : ∃ g, g = w3.heap.size + 1 := ⟨_, rfl⟩; have hlt4 : w.heap.size < g := by rw [hg]; exact hlt3
     rw [← hg] at BP4 ⊢; generalize ((w3.alloc (.cells #[.int .u8 (y0.toNat : Int), .int .u8 (y1.toNat : Int), .int .u8 (y2.toNat : Int), .int .u8 (y3.toNat : Int), .int .u8 (y4.toNat : Int), .int .u8 (y5.toNat : Int), .int .u8 (y6.toNat : Int), .int .u8 (y7.toNat : Int), .int .u8 (y8.toNat : Int), .int .u8 (y9.toNat : Int), .int .u8 (y10.toNat : Int), .int .u8 (y11.toNat : Int), .int .u8 (y12.toNat : Int), .int .u8 (y13.toNat : Int), .int .u8 (y14.toNat : Int), .int .u8 (y15.toNat : Int)] 24)).alloc (.cells (pfA ⟨six, [y0, y1, y2, y3, y4, y5, y6, y7, y8, y9, y10, y11, y12, y13, y14, y15], nn⟩) 26)) = W4 at S4 BA4 BP4 ⊢; obtain ⟨c0, c1, c2, c3⟩ := BA4.o.cells4; have R5 := KC.put (a := [a0, a1, a2, a3, 0, 0, 0, 0, 0, 0, 0, 0, 0, 0, 0, 0]) rfl rfl rfl S4.o hlt4 BP4.o; clear hg hlt3 BB3
     go_upto_region 12 with (refine KC.mid R5 BP4.o ?_; intro W5 H5)
     have S5 := qh H5.o.1; have B5 := qh H5.o.2; clear H5 R5 c0 c1 c2 c3 BA4 BP4 S4
     cases num
     ·have HN : Hid (vR l = none) := by rw [HP.o, zH (fun h => by cases h.1)]; exact qh rfl
      clear HP
      go_wp2_with (refine KZ.st S5.o.br ?_)
      refine KZ.fin S5.o.br S5.o.below HN
     ·have HN : Hid (vR l = if ok ⟨six, [a0, a1, a2, a3, 0, 0, 0, 0, 0, 0, 0, 0, 0, 0, 0, 0], nn⟩ then some ⟨six, [a0, a1, a2, a3, 0, 0, 0, 0, 0, 0, 0, 0, 0, 0, 0, 0], nn⟩ else none) := by
       rw [HP.o]; refine qh ?_
       by_cases hok : ok ⟨six, [a0, a1, a2, a3, 0, 0, 0, 0, 0, 0, 0, 0, 0, 0, 0, 0], nn⟩
       ·rw [zN hok, zN ⟨rfl, Or.inl (by first | rfl | trivial), hok⟩]
       ·rw [zH hok, zH (fun h => hok h.2.2)]
      have CK := qh fun W => r8_Check ⟨six, [a0, a1, a2, a3, 0, 0, 0, 0, 0, 0, 0, 0, 0, 0, 0, 0], nn⟩ rfl hnb W; rw [show okN ⟨six, [a0, a1, a2, a3, 0, 0, 0, 0, 0, 0, 0, 0, 0, 0, 0, 0], nn⟩ = if ok ⟨six, [a0, a1, a2, a3, 0, 0, 0, 0, 0, 0, 0, 0, 0, 0, 0, 0], nn⟩ then 0 else 1 from rfl] at CK; clear HP
      by_cases hok : ok ⟨six, [a0, a1, a2, a3, 0, 0, 0, 0, 0, 0, 0, 0, 0, 0, 0, 0], nn⟩
      all_goals first | rw [zN hok] at CK HN | rw [zH hok] at CK HN
      all_goals clear hok
      all_goals go_wp2_with (refine KQ.ld B5.o ?_)
      all_goals refine zT (CK.o _) fun w4 hb4 => ?_
      all_goals have S6 := qh (S5.o.next hb4)
      all_goals have B6 := qh (B5.o.below hb4 B5.o.lt)
      all_goals clear hb4
      all_goals go_wp2_with (first
       | (refine KQ.ld B6.o ?_)
       | (refine KQ.st S6.o.br ?_)
       | (refine KZ.st S6.o.br ?_))
      all_goals first | exact KQ.fin S6.o.br S6.o.below HN | exact KZ.fin S6.o.br S6.o.below HN
   ·have hne : ((c.toNat : Int) != 47) = true := by
     rw [jZ]; intro h; exact h47 (uH.1 (zAm h))
    have HE : Hid ((47 : UInt8) ∉ l.drop (((m : Int) - 1) + 1).toNat) := by
     rw [show (((m : Int) - 1) + 1).toNat = m from om]; refine qh ?_; obtain ⟨h1, h2⟩ := zL.1 hc; rw [yE h1, h2]; intro h
     rcases yR.1 h with h | h
     ·exact h47 h.symm
     ·exact HN.o h
    clear hc HN h47
    go_wp2
    exact ⟨⟨(m : Int) - 1, by go_num, om, om, HE⟩, by simp [intOf] <;> omega⟩
end Go.Proofs.YtdbgeobolongmaaGreatDoor
