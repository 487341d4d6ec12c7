/- Part of the proof: contracts of the functions that the statements of layer 32 reach. -/
import Derived.Test.YtdbgeobolongmaaGreatDoorV41
set_option linter.unusedVariables false
set_option linter.unusedSimpArgs false
set_option maxRecDepth 100000
set_option maxHeartbeats 4000000
namespace Go.Proofs.YtdbgeobolongmaaGreatDoor
open Go.RowKit Go.Shelf Go.Proofs Go.OctetPlain Go.PrefixPlain Go.ColonPlain
theorem splitC_len (c : UInt8) : ∀ l : List UInt8, (splitC c l).length = 1 + l.count c
 | [] => rfl
 | d :: r => by
  have ih := splitC_len c r
  unfold splitC
  by_cases h : d = c
  ·subst h
   simp only [if_true, List.length_cons, List.count_cons_self, ih]
   omega
  ·rw [if_neg h, List.count_cons_of_ne (by exact h)]
   cases hs : splitC c r with
   | nil => exact absurd hs (splitC_ne c r)
   | cons w ws => rw [hs] at ih; simpa using ih
theorem wpList_app_bigsl {α : Type} {P : Program} {ops : Array Oper} {rest : List Oper} {o : Oper} {a : Act} {w : World} {Q : Exit → Act → World → Prop} {t e : TypeId} {size bytes : Nat} (hg : o.guard = none) (hE : ElemBig P t e size bytes) (s x : Operand)
  (ho : o.op = .call { callee := .builtin .append, args := #[s, x], argTypes := #[t, t] })
  (base : Nat) (v : Value) (n : Nat) (xs : List Value) (hs : a.eval s = v) (hown : w.ownsRow base e size v n xs)
  (enc : α → List Value) (hk : ∀ x, (enc x).length = size) (p : Option Addr) (c : Nat) (ys : List α) (hx : a.eval x = .slice p ys.length c) (hr : RdP w size enc p ys) (h1 : ∀ y ∈ ys, ∀ u ∈ enc y, u.oneCell' = true)
  (hsm : n + ys.length ≤ 1073741824) (hbase : base ≤ w.heap.size)
  (h : ∀ v' w', w'.ownsRow base e size v' (n + ys.length) (xs ++ flat enc ys) → w.grownBy w' v.ownBlock → (v'.ownBlock = v.ownBlock ∨ v'.ownBlock = some w.heap.size) → wpList P ops Q rest (a.put o.dst v') w') : wpList P ops Q (o :: rest) a w :=
 wpList_plain hg fun K hK => wp_app_bigsl hE s x ho base v n xs hs hown enc hk p c ys hx hr h1 hsm hbase fun v' w' a1 a2 a3 => hK _ _ (h v' w' a1 a2 a3)
structure JnS (B : Nat) (sx : List StV) (vx : Value) (W : World) : Prop where
 sl : SlP (· < B) W 36 stepL vx sx
 inn : ∀ s ∈ sx, Inner (· < B) W s
theorem JnS.grown {B : Nat} {sx : List StV} {vx : Value} {W W' : World} (h : JnS B sx vx W) {row : Option Nat} (hg : W.grownBy W' row) (hr : ∀ b, row = some b → B ≤ b) : JnS B sx vx W' :=
 ⟨h.sl.grown hg (fun b hb e => by have := hr _ e; omega), fun s hs => (h.inn s hs).grown hg (fun b hb e => by have := hr _ e; omega)⟩
theorem JnS.of {sx : List StV} {x : Sc.Scr} {vx : Value} {W : World} {B : Nat} (h : ScIn Inner W x sx vx) (hB : W.heap.size ≤ B) : JnS B sx vx W := ⟨h.low.1.imp (fun b hb => by omega), fun s hs => (h.low.2 s hs).imp (fun b hb => by omega)⟩
theorem JnS.one {B : Nat} {sx : List StV} {vx : Value} {W : World} (h : JnS B sx vx W) : ∀ y ∈ sx, ∀ u ∈ stepL y, u.oneCell' = true := fun y hy => step_cells (h.inn y hy).one
theorem built_S {x : Sc.Scr} (z : Sc.Sized x) (p : Option Addr) (n c : Nat) : Tryz.prog.built 61 [(0, .agg (rmA (x.r1, x.r2, x.r3)).toList.toArray), (1, .agg (slA x.four x.six).toList.toArray), (2, .slice p n c)] = some (scA x (.slice p n c)) := by
 obtain ⟨r1, r2, r3, f, s, st⟩ := x
 obtain ⟨hf, hx⟩ := z
 simp only at hf hx
 obtain ⟨a, b, c, d, rfl⟩ := list4 hf
 obtain ⟨x0, x1, x2, x3, x4, x5, x6, x7, x8, x9, x10, x11, x12, x13, x14, x15, rfl⟩ := list16 hx
 kernel_rfl
theorem BxS.grown {T : TypeId} {w : World} {X : Nat} {x : Sc.Scr} {sa : List StV} {v : Value} {W W' : World} (h : BxS T Inner w X x sa v W) {B : Nat} (hJ : JnS B sa v W) {row : Option Nat} (hg : W.grownBy W' row) (hr : ∀ b, row = some b → B ≤ b) (hX : X < B) (hw : w.heap.size ≤ B) : BxS T Inner w X x sa v W' :=
 ⟨h.b.grownO hg (fun e => by have := hr _ e; omega), ⟨h.inn.z, h.inn.st, (hJ.grown hg hr).sl.sl, fun s hs => ((hJ.grown hg hr).inn s hs).imp fun _ _ => trivial, h.inn.p16⟩, h.bel.grown hg h.bel.size (fun k e => by have := hr k e; omega)⟩
theorem grown_belowN {w w' : World} (h : w.grownBy w' none) : Below w.heap.size w w' := (Below.refl _ _).grown h (Nat.le_refl _) (fun k e => by cases e)
theorem lines_err : ∀ (l : List Hp.Wd) (x : Sc.Scr) (i k : Nat), Sc.linesR x i l = .error k → k ≤ i + l.length
 | [], x, i, k, h => by cases h
 | s :: l, x, i, k, h => by
  rw [Sc.linesR] at h
  split at h
  ·have := lines_err l _ _ _ h; simp only [List.length_cons]; omega
  ·split at h
   ·have := lines_err l _ _ _ h; simp only [List.length_cons]; omega
   ·injection h with h; simp only [List.length_cons]; omega
theorem parse_err {s : List UInt8} {k : Int × Nat} (h : Sc.parseX s = .error k) : k.2 ≤ s.length + 1 := by
 unfold Sc.parseX at h
 split at h
 ·cases h; exact Nat.zero_le _
 ·split at h
  ·cases h
  ·rename_i j hj
   cases h
   have := lines_err _ _ _ _ hj
   have h2 := splitC_len 10 s
   have h3 : s.count 10 ≤ s.length := List.count_le_length
   show j ≤ _
   omega
theorem law_joins (a b : List UInt8) (hsa : a.length ≤ 9223372036854775807) (hsb : b.length ≤ 9223372036854775807) (w : World) (ht : ST w) :
  Calls Tryz.prog 7 #[.string (str a), .string (str b)] w fun e w' => e = .returned (.bool true) ∧ Below w.heap.size w w' := by
 have HT := qh fun (W : World) (hb : Below w.heap.size w W) => ht.below hb
 have hza : (str a).size = a.length := str_size a
 have hzb : (str b).size = b.length := str_size b
 have HAW := qh (law_awake w ht)
 clear ht
 by_cases ha : 2000 < a.length
 ·have hl2 : decide (2000 < (a.length : Int)) = true := decide_eq_true (by omega)
  go_enter Tryz.func7, Tryz.ntmps7
  go_wp2_with fail
  refine HAW.out.mono ?_
  rintro e w1 ⟨rfl, b1⟩
  go_wp2_with fail
  go_ret
  exact ⟨rfl, b1⟩
 have hl1 : decide (2000 < (a.length : Int)) = false := decide_eq_false (by omega)
 by_cases hb : 2000 < b.length
 ·have hl2 : decide (2000 < (b.length : Int)) = true := decide_eq_true (by omega)
  go_enter Tryz.func7, Tryz.ntmps7
  go_wp2_with fail
  refine HAW.out.mono ?_
  rintro e w1 ⟨rfl, b1⟩
  go_wp2_with fail
  go_ret
  exact ⟨rfl, b1⟩
 have hl2 : decide (2000 < (b.length : Int)) = false := decide_eq_false (by omega)
 have H2 := qh (Sc.two_texts a b (by omega) (by omega))
 have HPA := qh fun (W : World) (hb : Below w.heap.size w W) => scr_Parse a (by omega) W (HT.out W hb)
 have HPB := qh fun (W : World) (hb : Below w.heap.size w W) => scr_Parse b (by omega) W (HT.out W hb)
 obtain ⟨TZ, hTZ⟩ : ∃ T, T = (str a ++ (⟨#[10]⟩ : ByteArray)) ++ str b := ⟨_, rfl⟩
 have HPZ : Hid (∀ W, Below w.heap.size w W → Calls Tryz.prog 16 #[.string TZ] W (RetScr Inner (Sc.parseX (a ++ 10 :: b)) W)) := qh fun W hb => by
  have h := scr_Parse (a ++ 10 :: b) (by simp; omega) W (HT.out W hb)
  have e : str (a ++ 10 :: b) = TZ := by
   rw [hTZ, show (⟨#[10]⟩ : ByteArray) = str [10] from rfl, str_app, str_app]
   simp
  rw [e] at h
  exact h
 have HTZ : Hid ((str a ++ (⟨#[10]⟩ : ByteArray)) ++ str b = TZ) := qh hTZ.symm
 have HCA := qh fun x (h : Sc.parseX a = .ok x) => parsed_cmp h (by omega)
 have HCB := qh fun x (h : Sc.parseX b = .ok x) => parsed_cmp h (by omega)
 have HCZ := qh fun x (h : Sc.parseX (a ++ 10 :: b) = .ok x) => parsed_cmp h (by simp; omega)
 have HKB := qh fun k (h : Sc.parseX b = .error k) => (show k.2 ≤ 2001 from by have := parse_err h; omega)
 clear hTZ
 generalize Sc.parseX a = oa at *
 generalize Sc.parseX b = ob at *
 generalize Sc.parseX (a ++ 10 :: b) = oz at *
 have hz10 : ((str a ++ (⟨#[10]⟩ : ByteArray))).size = a.length + 1 := by rw [ByteArray.size_append, hza]; rfl
 go_enter Tryz.func7, Tryz.ntmps7
 go_wp2_with fail
 refine HAW.out.mono ?_
 rintro e w1 ⟨rfl, b1⟩
 have HB1 := qh b1
 clear b1 HAW
 go_wp2_with fail
 clear hl1 hl2
 refine (HPA.out _ HB1.out).mono ?_
 rintro e w2 ⟨x, sx, vx, c1, n1, rfl, hi, hb2, ho, he⟩
 have HGA := qh (Got.mk ho he)
 have HI := qh hi
 have HB2 := qh (HB1.out.trans (hb2.mono HB1.out.size))
 clear hi hb2 ho he HB1 HPA
 go_upto_region 7 with (first
  | (refine wpList_alloc_as rfl 61 (by rfl) _ zeroSc ?_; intro w3 E3; have HE3 := qh E3; have HX3 : Hid (Blk w3 w2.heap.size 61 (scA scrZ (.slice none 0 0))) := (by rw [E3]; exact qh (Blk.new _ _ _)); clear E3)
  | (refine wpList_store_row_as rfl 61 (.tmp 6) (.tmp 33) (by rfl) w2.heap.size (scA x vx) (by rfl) (by rfl) _ _ HX3.out HI.out.iS HI.out.zz HI.out.one ?_; intro w4 E4; have HA4 := qh (BxS.new goodI HI.out HB2.out HE3.out E4).1; clear E4))
 clear HE3 HX3 HB2 HI
 go_wp2_with fail
 refine (HPB.out _ HA4.out.bel).mono ?_
 rintro e w5 ⟨y, sy, vy, c2, n2, rfl, hi, hb5, ho, he⟩
 have HGB := qh (Got.mk ho he)
 have HI := qh hi
 have HA5 := qh (HA4.out.next goodI hb5)
 clear hi hb5 ho he HPB HA4
 go_upto_region 8 with (first
  | (refine wpList_alloc_as rfl 61 (by rfl) _ zeroSc ?_; intro w6 E6; have HE6 := qh E6; have HX6 : Hid (Blk w6 w5.heap.size 61 (scA scrZ (.slice none 0 0))) := (by rw [E6]; exact qh (Blk.new _ _ _)); clear E6)
  | (refine wpList_store_row_as rfl 61 (.tmp 9) (.tmp 39) (by rfl) w5.heap.size (scA y vy) (by rfl) (by rfl) _ _ HX6.out HI.out.iS HI.out.zz HI.out.one ?_; intro w7 E7; have HA7 := qh (HA5.out.next goodI (BxS.new goodI HI.out HA5.out.bel HE6.out E7).2); have HB7 := qh (BxS.new goodI HI.out HA5.out.bel HE6.out E7).1; clear E7))
 clear HE6 HX6 HI HA5
 go_wp2_with fail
 rw [HTZ.out]
 refine (HPZ.out _ HA7.out.bel).mono ?_
 rintro e w8 ⟨z, sz, vz, c3, n3, rfl, hi, hb8, ho, he⟩
 have HGZ := qh (Got.mk ho he)
 have HI := qh hi
 have HA8 := qh (HA7.out.next goodI hb8)
 have HB8 := qh (HB7.out.next goodI hb8)
 clear hi hb8 ho he HPZ HA7 HB7 HTZ hz10
 go_upto_region 9 with (first
  | (refine wpList_alloc_as rfl 61 (by rfl) _ zeroSc ?_; intro w9 E9; have HE9 := qh E9; have HX9 : Hid (Blk w9 w8.heap.size 61 (scA scrZ (.slice none 0 0))) := (by rw [E9]; exact qh (Blk.new _ _ _)); clear E9)
  | (refine wpList_store_row_as rfl 61 (.tmp 12) (.tmp 48) (by rfl) w8.heap.size (scA z vz) (by rfl) (by rfl) _ _ HX9.out HI.out.iS HI.out.zz HI.out.one ?_; intro w10 E10; have HA := qh (HA8.out.next goodI (BxS.new goodI HI.out HA8.out.bel HE9.out E10).2); have HB := qh (HB8.out.next goodI (BxS.new goodI HI.out HA8.out.bel HE9.out E10).2); have HZ := qh (BxS.new goodI HI.out HA8.out.bel HE9.out E10).1; clear E10))
 clear HE9 HX9 HI HA8 HB8
 rcases H2.out with ⟨k, n, rfl, rfl⟩ | ⟨x', k, rfl, rfl, rfl⟩ | ⟨x', y', z', rfl, rfl, rfl, hst⟩
 ·obtain ⟨rfl, rfl, rfl⟩ := HGA.out.er _ rfl
  obtain ⟨rfl, rfl, rfl⟩ := HGZ.out.er _ rfl
  go_wp2_with fail
  go_ret
  exact ⟨rfl, HA.out.bel⟩
 ·obtain ⟨rfl, rfl, rfl⟩ := HGA.out.ok _ rfl
  obtain ⟨rfl, rfl, rfl⟩ := HGB.out.er _ rfl
  obtain ⟨rfl, rfl, rfl⟩ := HGZ.out.er _ rfl
  have hk := HKB.out _ rfl
  have ly : sy.length ≤ 1000 := by have := HB.out.inn.len; rw [this]; decide
  have lx : sx.length ≤ 1000 := by have := HA.out.inn.len; have := (HCA.out _ rfl).n; omega
  clear HGA HGB HGZ HCB HCZ HKB H2
  simp only at hk
  obtain ⟨px, kx, hvx, -⟩ := HA.out.inn.sl
  obtain ⟨py, ky, hvy, -⟩ := HB.out.inn.sl
  subst hvx hvy
  have xa := (ScAt.mk HA.out.b HA.out.inn.z).c23
  have xb := (ScAt.mk HB.out.b HB.out.inn.z).c23
  by_cases h900 : 900 < sx.length + sy.length
  ·have hd : decide (900 < (sx.length : Int) + (sy.length : Int)) = true := decide_eq_true (by omega)
   go_wp2_with fail
   go_ret
   exact ⟨rfl, HA.out.bel⟩
  have hd : decide (900 < (sx.length : Int) + (sy.length : Int)) = false := decide_eq_false (by omega)
  go_wp2_with fail
  go_loopw [15, 16] (fun vl vi wr => ∃ i : Nat, vi = .int .i64 i ∧ i ≤ a.length ∧ vl = .int .i64 ((1 + (a.take i).count 10 : Nat) : Int) ∧ wr = w10) (fun _ vi _ => a.length - (intOf vi).toNat)
  case atStart => exact ⟨0, rfl, Nat.zero_le _, rfl, rfl⟩
  case round =>
   obtain ⟨i, rfl, hi, rfl, rfl⟩ := hrel
   have hct : (a.take i).count 10 ≤ i := Nat.le_trans List.count_le_length (by rw [List.length_take]; omega)
   by_cases hlt : i < a.length
   ·obtain ⟨ch, hch⟩ : ∃ c, a[i] = c := ⟨_, rfl⟩
    have HTA : Hid (a.take (i + 1) = a.take i ++ [ch]) := qh (by rw [← hch]; exact List.take_succ_eq_append_getElem hlt)
    have hg : ∀ h, (str a)[i]'h = ch := fun h => by rw [str_get]; exact hch
    have hli : i < (str a).size := by omega
    clear hch
    by_cases h10 : ch = 10
    ·have HCT : Hid ((a.take (i + 1)).count 10 = (a.take i).count 10 + 1) := qh (by rw [HTA.out, List.count_append, h10]; rfl)
     have hcd : ((ch.toNat : Int) == 10) = true := by rw [h10]; rfl
     clear h10
     generalize (a.take i).count 10 = ct at *
     go_wp2_with fail
     exact ⟨⟨i + 1, by go_num, by omega, by rw [HCT.out]; go_num, by first | rfl | trivial⟩, by simp [intOf]; omega⟩
    ·have HCT : Hid ((a.take (i + 1)).count 10 = (a.take i).count 10) := qh (by rw [HTA.out, List.count_append]; have h1 : [ch].count 10 = 0 := (by simp [h10]); omega)
     have hcd : ((ch.toNat : Int) == 10) = false := by
      simp only [beq_eq_false_iff_ne, ne_eq]
      exact fun e => h10 (UInt8.toNat_inj.1 (by show ch.toNat = 10; omega))
     clear h10
     generalize (a.take i).count 10 = ct at *
     go_wp2_with fail
     exact ⟨⟨i + 1, by go_num, by omega, by rw [HCT.out], by first | rfl | trivial⟩, by simp [intOf]; omega⟩
   ·obtain rfl : i = a.length := by omega
    have hLN := splitC_len 10 a
    rw [List.take_length] at hct ⊢
    rw [← hLN]
    have hL2 : (splitC 10 a).length ≤ 2001 := by omega
    clear hLN hct
    generalize (splitC 10 a).length = LN at *
    go_wp2_with fail
    go_ret
    exact ⟨by first | rfl | simp, HA.out.bel⟩
 ·obtain ⟨rfl, rfl, rfl⟩ := HGA.out.ok _ rfl
  obtain ⟨rfl, rfl, rfl⟩ := HGB.out.ok _ rfl
  obtain ⟨rfl, rfl, rfl⟩ := HGZ.out.ok _ rfl
  have HCM := qh (HCZ.out _ rfl)
  have HST := qh hst
  have ly : sy.length ≤ 1000 := by have := HB.out.inn.len; have := (HCB.out _ rfl).n; omega
  have lx : sx.length ≤ 1000 := by have := HA.out.inn.len; have := (HCA.out _ rfl).n; omega
  clear HGA HGB HGZ HCA HCB HCZ HKB H2 hst
  obtain ⟨px, kx, hvx, -⟩ := HA.out.inn.sl
  obtain ⟨py, ky, hvy, -⟩ := HB.out.inn.sl
  subst hvx hvy
  have xa := (ScAt.mk HA.out.b HA.out.inn.z).c23
  have xb := (ScAt.mk HB.out.b HB.out.inn.z).c23
  by_cases h900 : 900 < sx.length + sy.length
  ·have hd : decide (900 < (sx.length : Int) + (sy.length : Int)) = true := decide_eq_true (by omega)
   go_wp2_with fail
   go_ret
   exact ⟨rfl, HA.out.bel⟩
  have hd : decide (900 < (sx.length : Int) + (sy.length : Int)) = false := decide_eq_false (by omega)
  go_wp2_with fail
  go_loopw [15, 16] (fun vl vi wr => ∃ i : Nat, vi = .int .i64 i ∧ i ≤ a.length ∧ vl = .int .i64 ((1 + (a.take i).count 10 : Nat) : Int) ∧ wr = w10) (fun _ vi _ => a.length - (intOf vi).toNat)
  case atStart => exact ⟨0, rfl, Nat.zero_le _, rfl, rfl⟩
  case round =>
   obtain ⟨i, rfl, hi, rfl, rfl⟩ := hrel
   have hct : (a.take i).count 10 ≤ i := Nat.le_trans List.count_le_length (by rw [List.length_take]; omega)
   by_cases hlt : i < a.length
   ·obtain ⟨ch, hch⟩ : ∃ c, a[i] = c := ⟨_, rfl⟩
    have HTA : Hid (a.take (i + 1) = a.take i ++ [ch]) := qh (by rw [← hch]; exact List.take_succ_eq_append_getElem hlt)
    have hg : ∀ h, (str a)[i]'h = ch := fun h => by rw [str_get]; exact hch
    have hli : i < (str a).size := by omega
    clear hch
    by_cases h10 : ch = 10
    ·have HCT : Hid ((a.take (i + 1)).count 10 = (a.take i).count 10 + 1) := qh (by rw [HTA.out, List.count_append, h10]; rfl)
     have hcd : ((ch.toNat : Int) == 10) = true := by rw [h10]; rfl
     clear h10
     generalize (a.take i).count 10 = ct at *
     go_wp2_with fail
     exact ⟨⟨i + 1, by go_num, by omega, by rw [HCT.out]; go_num, by first | rfl | trivial⟩, by simp [intOf]; omega⟩
    ·have HCT : Hid ((a.take (i + 1)).count 10 = (a.take i).count 10) := qh (by rw [HTA.out, List.count_append]; have h1 : [ch].count 10 = 0 := (by simp [h10]); omega)
     have hcd : ((ch.toNat : Int) == 10) = false := by
      simp only [beq_eq_false_iff_ne, ne_eq]
      exact fun e => h10 (UInt8.toNat_inj.1 (by show ch.toNat = 10; omega))
     clear h10
     generalize (a.take i).count 10 = ct at *
     go_wp2_with fail
     exact ⟨⟨i + 1, by go_num, by omega, by rw [HCT.out], by first | rfl | trivial⟩, by simp [intOf]; omega⟩
   ·obtain rfl : i = a.length := by omega
    have hLN := splitC_len 10 a
    rw [List.take_length] at hct ⊢
    rw [← hLN]
    have hL2 : (splitC 10 a).length ≤ 2001 := by omega
    clear hLN hct
    generalize (splitC 10 a).length = LN at *
    have hB := HA.out.bel.size
    have HXS : Hid (JnS wr.heap.size sx (.slice px sx.length kx) wr) := qh (JnS.of HA.out.inn (Nat.le_refl _))
    have HYS : Hid (JnS wr.heap.size sy (.slice py sy.length ky) wr) := qh (JnS.of HB.out.inn (Nat.le_refl _))
    have HZS : Hid (JnS wr.heap.size sz vz wr) := qh (JnS.of HZ.out.inn (Nat.le_refl _))
    have HRX : Hid (RdP wr 36 stepL px sx) := qh (by obtain ⟨q, d, e, -, -, h⟩ := HA.out.inn.sl; cases e; exact h)
    have HRY : Hid (∀ W, wr.grownBy W none → RdP W 36 stepL py sy) := qh fun W hg => by obtain ⟨q, d, e, -, -, h, -⟩ := (HYS.out.grown hg (fun b e => by cases e)).sl; cases e; exact h
    have HY1 := qh HYS.out.one
    have HX1 := qh HXS.out.one
    have hXz := HZ.out.b.lt
    go_upto_region 24 with (first
     | (at_builtin; refine wpList_app_bigsl rfl elemSt (.tmp 88) (.tmp 90) (by rfl) wr.heap.size (.slice none 0 0) 0 [] (by rfl) (World.ownsRow_nil _ _ _ _) stepL stepL_len px kx sx (by rfl) HRX.out HX1.out (by omega) (Nat.le_refl _) ?_; intro v1 w11 hown1 hgr1 hob1; rw [Nat.zero_add, List.nil_append] at hown1; obtain ⟨p1, k1, rfl⟩ := owns_form hown1; have HO1 := qh hown1; have HG1 : Hid (wr.grownBy w11 none) := qh hgr1; have ya := (HB.out.b.below (grown_belowN HG1.out) HB.out.b.lt); have ya := (ScAt.mk ya HB.out.inn.z).c23; clear hown1 hgr1 hob1)
     | (at_builtin; refine wpList_app_bigsl rfl elemSt (.tmp 92) (.tmp 94) (by rfl) wr.heap.size (.slice p1 sx.length k1) sx.length _ (by rfl) HO1.out stepL stepL_len py ky sy (by rfl) (HRY.out _ HG1.out) HY1.out (by omega) HG1.out.size ?_; intro v2 w12 hown2 hgr2 hob2; obtain ⟨p2, k2, rfl⟩ := owns_form hown2; have HO2 := qh hown2; have HG2 := qh hgr2; clear hown2 hgr2 hob2))
    have HQ : Hid (∀ b, (Value.slice p1 sx.length k1).ownBlock = some b → wr.heap.size ≤ b) := qh fun b e => (ownB_ge HO1.out e).1
    have HZ2 := qh ((HZ.out.next goodI (grown_belowN HG1.out)).grown (HZS.out.grown HG1.out (fun b e => by cases e)) HG2.out HQ.out hXz hB)
    have HX2 := qh ((HXS.out.grown HG1.out (fun b e => by cases e)).grown HG2.out HQ.out)
    have HY2 := qh ((HYS.out.grown HG1.out (fun b e => by cases e)).grown HG2.out HQ.out)
    have HIN : Hid (ScIn Inner w12 z (sx ++ sy) (.slice p2 (sx.length + sy.length) k2)) := qh ⟨HZ.out.inn.z, by rw [List.map_append, HA.out.inn.st, HB.out.inn.st, HST.out], SlR.of_owns stepL_len (by rw [List.length_append, flat_append]; exact HO2.out), (fun s hs => by
     rcases List.mem_append.1 hs with h | h
     ·exact (HX2.out.inn s h).imp fun _ _ => trivial
     ·exact (HY2.out.inn s h).imp fun _ _ => trivial), (fun s hs => by
     rcases List.mem_append.1 hs with h | h
     ·exact HA.out.inn.p16 s h
     ·exact HB.out.inn.p16 s h)⟩
    have HBS := qh (built_S HZ.out.inn.z p2 (sx.length + sy.length) k2)
    have HR0 := qh (ScAt.mk HZ2.out.b HZ2.out.inn.z).rm
    have HR1 := qh (ScAt.mk HZ2.out.b HZ2.out.inn.z).sl
    have HIA : Hid ((Tryz.prog.info? 55).map (·.size) = some (rmA (z.r1, z.r2, z.r3)).toList.length) := qh (by kernel_rfl)
    have HIB : Hid ((Tryz.prog.info? 58).map (·.size) = some (slA z.four z.six).toList.length) := qh (by rw [Array.length_toList, slA_size HZ.out.inn.z.four HZ.out.inn.z.six]; kernel_rfl)
    clear HA HB HZ HXS HYS HZS HRX HRY HY1 HX1 HO1 HG1 HO2 HG2 HQ HX2 HY2 xa xb
    refine wp_region_lit ?_
    iterate 3 go_step
    refine wpList_load_midW 55 (.tmp 96) (by rfl) (by rfl) w8.heap.size 0 (by rfl) (rmA (z.r1, z.r2, z.r3)).toList _ HR0.out Tryz.underlying55 rfl HIA.out ?_
    try simp only [qA, qB, qC, qD, qE, qF, qG]
    iterate 3 go_step
    refine wpList_load_midW 58 (.tmp 98) (by rfl) (by rfl) w8.heap.size 3 (by rfl) (slA z.four z.six).toList _ HR1.out Tryz.underlying58 rfl HIB.out ?_
    try simp only [qA, qB, qC, qD, qE, qF, qG]
    iterate 3 go_step
    refine wpList_build_as rfl 61 #[(0, .tmp 97), (1, .tmp 99), (2, .tmp 100)] (by rfl) [(0, .tmp 97), (1, .tmp 99), (2, .tmp 100)] rfl (scA z (.slice p2 (sx.length + sy.length) k2)) HBS.out ?_
    try simp only [qA, qB, qC, qD, qE, qF, qG]
    have HPC := qh (plain_in (by have := HCM.out.n; omega) HIN.out)
    go_wp2_with fail
    refine HPC.out.mono ?_
    rintro e w13 ⟨v3, rfl, hi3, hb13⟩
    have HI3 := qh hi3
    have HZ3 := qh (HZ2.out.next goodI hb13)
    clear hi3 hb13 HZ2 HIN HBS HR0 HR1 HIA HIB HPC
    go_upto_region 25 with (first
     | (refine wpList_alloc_as rfl 69 (by rfl) _ zeroX ?_; intro w14 E14; have HE14 := qh E14; have HX14 : Hid (Blk w14 w13.heap.size 69 (scA scrZ (.slice none 0 0))) := (by rw [E14]; exact qh (Blk.new _ _ _)); clear E14)
     | (refine wpList_store_row_as rfl 69 (.tmp 18) (.tmp 102) (by rfl) w13.heap.size (scA z v3) (by rfl) (by rfl) _ _ HX14.out HI3.out.iX HI3.out.zz HI3.out.one ?_; intro w15 E15; have HP15 : Hid (Pr2 w w8.heap.size w13.heap.size z sz ((sx ++ sy).map svS) vz v3 w15) := qh ⟨HZ3.out.next goodI (BxS.new goodD HI3.out HZ3.out.bel HE14.out E15).2, (BxS.new goodD HI3.out HZ3.out.bel HE14.out E15).1⟩; clear E15))
    have HD : Hid (Pr2 w w8.heap.size w13.heap.size z sz ((sx ++ sy).map svS) vz v3 w15.drew) := qh (HP15.out.next ((Below.refl _ _).drew))
    have HPA := qh fun (W : World) (h : Pr2 w w8.heap.size w13.heap.size z sz ((sx ++ sy).map svS) vz v3 W) => plain_in (by have := HCM.out.n; omega) h.a.inn
    have HSM := qh fun (W : World) (v9 : Value) (h : Pr2 w w8.heap.size w13.heap.size z sz ((sx ++ sy).map svS) vz v3 W) (hi : ScIn InnerD W z (sz.map svS) v9) => same_in HCM.out hi h.b.inn
    have HJS := qh HZ3.out.inn.iS
    have HJX := qh HI3.out.iX
    clear HX14 HE14 HI3 HZ3 HT
    refine wp_region_held_drew (S := Pr2 w w8.heap.size w13.heap.size z sz ((sx ++ sy).map svS) vz v3) (by kernel_rfl) HD.out (fun hHeld => ?_)
    refine kq 0 ?_
    refine kq 1 ?_ (v := .bool true) (hy := by intro w hSw; go_simp; try (simp))
    refine kq 2 ?_
    refine kY 3 rfl (zR rfl (w8.heap.size) rfl _ (scA z vz) _ (fun w h => h.a.b) Tryz.underlying61 rfl HJS.out) ?_
    refine kY 5 rfl (zR rfl (w13.heap.size) rfl _ (scA z v3) _ (fun w h => h.b.b) Tryz.underlying69 rfl HJX.out) ?_
    refine zS 4 fun K hK => ?_
    go_simp
    refine (HPA.out _ hHeld).mono ?_; rintro e wc ⟨va9, rfl, hi9, hbc⟩; have HV9 := hHeld.next hbc; have HI9 := qh hi9; clear hi9
    go_wp2_with fail
    refine hK.out _ _ (HV9) (fun hHeld => ?_)
    clear hK K
    try simp only [qA, qB, qC, qD, qE, qF, qG]
    refine zS 6 fun K hK => ?_
    go_simp
    refine (HSM.out _ _ hHeld HI9.out).mono ?_; rintro e wd ⟨rfl, hbd⟩; have HV9 := hHeld.next hbd
    go_wp2_with fail
    refine hK.out _ _ (HV9) (fun hHeld => ?_)
    clear hK K
    try simp only [qA, qB, qC, qD, qE, qF, qG]
    refine kq 7 ?_; refine kq 8 ?_
    refine zD ?_
    go_wp2_with fail
    go_ret
    exact ⟨rfl, hHeld.a.bel⟩
end Go.Proofs.YtdbgeobolongmaaGreatDoor
