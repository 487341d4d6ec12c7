/- Part of the proof: contracts of the functions that the statements of layer 32 reach. -/
import Derived.Deep.QuietTactic
import Derived.BigQuiet
import Derived.Test.YtdbgeobolongmaaGreatDoorV04
import Derived.Test.YtdbgeobolongmaaGreatDoorV05
import Derived.Test.YtdbgeobolongmaaGreatDoorV10
import Derived.Test.YtdbgeobolongmaaGreatDoorV11
import Derived.Test.YtdbgeobolongmaaGreatDoorV12
import Derived.Test.YtdbgeobolongmaaGreatDoorV20
import Derived.Test.YtdbgeobolongmaaGreatDoorV21
set_option linter.unusedVariables false
set_option linter.unusedSimpArgs false
set_option maxRecDepth 100000
set_option maxHeartbeats 4000000
namespace Go.Proofs.YtdbgeobolongmaaGreatDoor
open Go.RowKit Go.Shelf Go.Proofs Go.OctetPlain Go.PrefixPlain
def twoA (c : UInt8) (x : Hp.Wd) : Int := (Sc.num30 (Lib.cut x [c]).1).getD 0
def twoB (c : UInt8) (x : Hp.Wd) : Int := (Sc.num30 (Lib.cut x [c]).2.1).getD 0
theorem two_flag (c : UInt8) (x : Hp.Wd) : (Sc.two c x).isSome = ((Lib.cut x [c]).2.2 && (Sc.num30 (Lib.cut x [c]).1).isSome && (Sc.num30 (Lib.cut x [c]).2.1).isSome) := by
 unfold Sc.two
 cases Sc.num30 (Lib.cut x [c]).1 with
 | none => simp
 | some a => cases Sc.num30 (Lib.cut x [c]).2.1 with
  | none => simp
  | some b => cases (Lib.cut x [c]).2.2 <;> simp
theorem two_val {c : UInt8} {x : Hp.Wd} {p : Int × Int} (h : Sc.two c x = some p) : p = (twoA c x, twoB c x) := by
 unfold Sc.two at h
 unfold twoA twoB
 cases h1 : Sc.num30 (Lib.cut x [c]).1 with
 | none => rw [h1] at h; simp at h
 | some a => cases h2 : Sc.num30 (Lib.cut x [c]).2.1 with
  | none => rw [h1, h2] at h; simp at h
  | some b =>
   rw [h1, h2] at h
   simp only at h
   split at h
   ·injection h with h; rw [← h]; rfl
   ·cases h
theorem cut_len (c : UInt8) (x : Hp.Wd) : (Lib.cut x [c]).1.length ≤ x.length ∧ (Lib.cut x [c]).2.1.length ≤ x.length := by
 by_cases h : c ∈ x
 ·obtain ⟨s, t, rfl, hs⟩ := Sc.mem_first h
  rw [cut_one _ hs]
  simp
  omega
 ·rw [cut_none h]; simp
theorem scr_two (c : UInt8) (x : Hp.Wd) (hx : x.length ≤ 1000000) (W : World) (ht : ST W) :
  Calls Tryz.prog 97 #[.string (str x), .string ⟨#[c]⟩] W fun e w' => e = .returned (.tuple #[.int .i64 (twoA c x), .int .i64 (twoB c x), .bool (Sc.two c x).isSome]) ∧ Below W.heap.size W w' := by
 obtain ⟨m, hm⟩ := ht.p.ct.ml
 have hcon := Any.strings_Cut { Tryz.cut with } (str x) ⟨#[c]⟩ m W (by rw [str_size]; omega) hm
 change Calls Tryz.prog 135 _ _ _ at hcon
 have HC : Hid (Calls Tryz.prog 135 #[.string (str x), .string ⟨#[c]⟩] W fun e w' => e = .returned (.tuple #[.string (str (Lib.cut x [c]).1), .string (str (Lib.cut x [c]).2.1), .bool (Lib.cut x [c]).2.2]) ∧ ∃ n, w' = W.drewN n) := hcon
 have hcl := cut_len c x
 rw [two_flag]
 unfold twoA twoB Sc.num30
 have HN1 := qh fun w (h : Below W.heap.size W w) => octet_Number (Lib.cut x [c]).1 (by omega) 1073741824 w (ht.p.tabs.next h (Nat.le_refl _))
 have HN2 := qh fun w (h : Below W.heap.size W w) => octet_Number (Lib.cut x [c]).2.1 (by omega) 1073741824 w (ht.p.tabs.next h (Nat.le_refl _))
 clear ht hm hcon hcl
 generalize (Lib.cut x [c]).1 = u at *
 generalize (Lib.cut x [c]).2.1 = v at *
 generalize (Lib.cut x [c]).2.2 = is at *
 generalize number u 1073741824 = a at *
 generalize number v 1073741824 = b at *
 go_enter Tryz.func97, Tryz.ntmps97
 go_wp2_with fail
 refine HC.out.mono ?_
 rintro e w1 ⟨rfl, n, rfl⟩
 go_wp2_with fail
 refine (HN1.out _ (below_drewN (Below.refl _ _) n)).mono ?_
 rintro e w2 ⟨rfl, hb2⟩
 have HB2 := qh ((below_drewN (Below.refl W.heap.size W) n).trans (hb2.mono (by simp)))
 clear hb2
 go_wp2_with fail
 refine (HN2.out _ HB2.out).mono ?_
 rintro e w3 ⟨rfl, hb3⟩
 have HB3 := qh (HB2.out.trans (hb3.mono HB2.out.size))
 clear hb3
 cases is <;> cases a <;> cases b <;> (go_wp2_with fail; exact bodyPost_ret (v := .tuple #[_, _, _]) (by simp [results, Tryz.results97, go_sem]; try (exact ⟨rfl, rfl, rfl⟩)) rfl ⟨rfl, HB3.out⟩)
structure StS (W0 : World) (X : Nat) (s : StV) (W : World) : Prop where
 S : StAt W X s
 bel : Below W0.heap.size W0 W
theorem StS.next {W0 W W' : World} {X : Nat} {s : StV} (h : StS W0 X s W) (hb : Below W.heap.size W W') : StS W0 X s W' := ⟨h.S.next hb, h.bel.trans (hb.mono h.bel.size)⟩
theorem StS.drew {W0 W : World} {X : Nat} {s : StV} (h : StS W0 X s W) : StS W0 X s W.drew := h.next (Below.refl _ _).drew
theorem spans_show (lo hi : Nat) (w : World) : ShowOK .S 95 #[] lo hi w := by
 intro W X s ha hh ht hs hi' hsb
 have HD1 := qh fun W' (h : Below W.heap.size W W') => octet_Digits s.t.s1 hsb.s1 W' (ht.p.tabs.next h (Nat.le_refl _))
 have HD2 := qh fun W' (h : Below W.heap.size W W') => octet_Digits s.t.s2 hsb.s2 W' (ht.p.tabs.next h (Nat.le_refl _))
 have HS0 : Hid (StS W X s W) := qh ⟨hs, Below.refl _ _⟩
 have HE : Hid (shwA .S s.t = [Lib.itoa s.t.s1 ++ 45 :: Lib.itoa s.t.s2]) := qh rfl
 rw [HE.out]
 have hA : ∀ a b : List UInt8, str a ++ ⟨#[45]⟩ ++ str b = str (a ++ 45 :: b) := fun a b => by rw [show (⟨#[45]⟩ : ByteArray) = str [45] from rfl, str_app, str_app]; simp
 have hl1 := Lib.itoa_length_le _ hsb.s1.1 hsb.s1.2
 have hl2 := Lib.itoa_length_le _ hsb.s2.1 hsb.s2.2
 clear ha hh ht hs hi' hsb HE
 generalize Lib.itoa s.t.s1 = d1 at *
 generalize Lib.itoa s.t.s2 = d2 at *
 have z1 : ¬ 9223372036854775807 < (str d1).size + 1 := by rw [str_size]; omega
 have z2 : ¬ 9223372036854775807 < (str d1).size + 1 + (str d2).size := by rw [str_size, str_size]; omega
 have z3 : ¬ 9223372036854775807 < (str d1 ++ ⟨#[45]⟩).size + (str d2).size := by rw [ByteArray.size_append, str_size, str_size]; show ¬ _ < _ + 1 + _; omega
 clear hl1 hl2
 simp only [List.append_toArray, List.append_nil]
 go_enter Tryz.func95, Tryz.ntmps95
 go_wp2_with fail
 refine wp_region_held_drew (S := StS W X s) (by kernel_rfl) HS0.out.drew (fun hHeld => ?_)
 refine kq 0 ?_; refine kq 1 ?_; refine kq 2 ?_; refine kq 3 ?_; refine kq 4 ?_
 refine kq 5 ?_ (hy := by intro w h; have c := h.S.c5; go_simp; try with_reducible rfl)
 refine kq 8 ?_; refine kq 9 ?_; refine kq 10 ?_; refine kq 11 ?_; refine kq 12 ?_
 refine kq 13 ?_ (hy := by intro w h; have c := h.S.c6; go_simp; try with_reducible rfl)
 refine zS 6 fun K hK => ?_
 go_simp
 refine (HD1.out _ hHeld.bel).mono ?_; rintro e w1 ⟨rfl, hb1⟩; have HV1 := hHeld.next hb1
 go_wp2_with fail
 refine hK.out _ _ (HV1) (fun hHeld => ?_)
 clear hK K
 try simp only [qA, qB, qC, qD, qE, qF, qG]
 refine kq 7 ?_
 refine zS 14 fun K hK => ?_
 go_simp
 refine (HD2.out _ hHeld.bel).mono ?_; rintro e w2 ⟨rfl, hb2⟩; have HV2 := hHeld.next hb2
 go_wp2_with fail
 refine hK.out _ _ (HV2) (fun hHeld => ?_)
 clear hK K
 try simp only [qA, qB, qC, qD, qE, qF, qG]
 refine kq 15 ?_
 refine zS 16 fun K hK => ?_
 go_simp
 refine hK.out _ _ (hHeld.next (belowA _ _)) (fun hHeld => ?_)
 clear hK K
 try simp only [qA, qB, qC, qD, qE, qF, qG]
 refine kq 17 ?_
 refine zD ?_
 go_wp2_with fail
 go_ret
 exact ⟨_, rfl, slr_lit encS_len w2 _ [d1 ++ 45 :: d2] (by simp) _ rfl, hHeld.bel⟩
theorem spans_read (lo hi : Nat) (w : World) : ReadOK .S 96 #[] lo hi w := by
 intro W X s v l Y hY hN ha hh ht hX hs hin hw hl hv
 replace ht := ht.st
 simp only [List.append_toArray, List.append_nil]
 cases l with
 | nil =>
  have HO : Hid (Sc.read .S s.t [] = none) := qh rfl
  rw [HO.out]
  obtain ⟨pp, cap, rfl, c1, c2, hR, hq⟩ := hv
  go_enter Tryz.func96, Tryz.ntmps96
  go_wp2_with fail
  exact bodyPost_ret (v := .tuple #[.slice none 0 0, .bool false]) (by simp [results, Tryz.results96, go_sem]) rfl (RetRead.none (grown_refl _ _) _)
 | cons x r =>
  have HO : Hid (Sc.read .S s.t (x :: r) = (Sc.two 45 x).map fun n => ({ s.t with s1 := n.1, s2 := n.2 }, r)) := qh (by simp only [Sc.read]; cases Sc.two 45 x <;> rfl)
  generalize Sc.read .S s.t (x :: r) = ro at *
  have hxl := hl.2.1 x List.mem_cons_self
  have HN := qh (scr_two 45 x (by omega) W ht)
  have HT := qh (fun p => two_val (c := 45) (x := x) (p := p))
  have HS := qh hs
  have HIn := qh hin
  obtain ⟨pp, cap, rfl, c1, c2, hR, hq⟩ := hv
  simp only [List.length_cons] at c1
  obtain ⟨b, off, rfl, hbl2, hc⟩ := hR.at (i := 0) (by simp)
  have hx := hc 0 (.string (str x)) rfl
  simp only [Nat.zero_mul, Nat.add_zero] at hx
  have hbY := hq _ rfl (by simp)
  have hbq := hY _ hbY
  have HR := qh hR
  have hl1 : r.length + 1 ≤ 1048576 := by have := hl.1; simpa using this
  have hn0 : ((r.length : Int) + 1 == 0) = false := by simp; omega
  clear hc hR hs hin ha hq ht hl
  generalize twoA 45 x = A at *
  generalize twoB 45 x = B at *
  generalize Sc.two 45 x = on at *
  have infoSp : (Tryz.prog.info? 23).map (·.size) = some 2 := by kernel_rfl
  go_enter Tryz.func96, Tryz.ntmps96
  go_wp2_with fail
  refine HN.out.mono ?_
  rintro e w2 ⟨rfl, hb2⟩
  have HS2 := qh (HS.out.next hb2)
  have HB2 := qh hb2
  clear hb2
  have hth := HS2.out.th (o := 5) (n := 2) (by omega)
  have HP := qh (HS2.out.setS A B)
  have HG : Hid (W.grownBy (w2.setCells X 5 [.int .i64 A, .int .i64 B]) (some X)) := qh (grown_trans (grown_below HB2.out _) (grown_sets _ _ _ _))
  have HV : Hid (RdP (w2.setCells X 5 [.int .i64 A, .int .i64 B]) 1 encS (some ⟨b, off, none⟩) (x :: r)) := qh (HR.out.grownS HG.out fun a e => by cases e; simp; exact fun h => hbq h.symm)
  have HI2 : Hid (Inner Y (w2.setCells X 5 [.int .i64 A, .int .i64 B]) { s with t := { s.t with s1 := A, s2 := B } }) := qh (by have h9 := HIn.out.grown HG.out (fun b hb => by simp; exact fun h => hY b hb h.symm); exact ⟨h9.l, h9.r, h9.ws, h9.b⟩)
  have key : Hid (∀ v, SlP Y (w2.setCells X 5 [.int .i64 A, .int .i64 B]) 1 encS v r → RetRead Y .S s X W ro (.returned (.tuple #[v, .bool on.isSome])) (w2.setCells X 5 [.int .i64 A, .int .i64 B])) := qh fun v hv => by
   rw [HO.out]
   cases on with
   | none => exact RetRead.none HG.out _
   | some n =>
    obtain rfl := HT.out n rfl
    exact RetRead.some HG.out v { s with t := { s.t with s1 := A, s2 := B } } r HP.out HI2.out hv fun _ => rfl
  have hone : (#[Value.int .i64 A, Value.int .i64 B] : Array Value).all (·.oneCell') = true := by simp [Value.oneCell']
  have HTH := qh hth
  have HON := qh hone
  have HIS := qh infoSp
  clear hone hth infoSp HI2 HP HG HO HT HIn HS HS2 HR
  go_wp2_with (refine wpList_store_mid rfl _ _ _ rfl X 5 #[.int .i64 A, .int .i64 B] rfl rfl HTH.out HIS.out HON.out ?_)
  ·subst_vars
   obtain rfl : r = [] := List.eq_nil_of_length_eq_zero (by omega)
   exact bodyPost_ret (v := .tuple #[.slice (some ⟨b, off, none⟩) 0 0, .bool on.isSome]) (by simp [results, Tryz.results96, go_sem]) rfl (key.out _ (SlP.tailA (by simp) HV.out hbY))
  ·exact bodyPost_ret (v := .tuple #[.slice (some ⟨b, off + 1, none⟩) r.length (cap - 1), .bool on.isSome]) (by simp [results, Tryz.results96, go_sem]) rfl (key.out _ (SlP.tailB c1 c2 HV.out hbY))
theorem infoPL {p : Pf} (h : p.addr.length = 16) : (Tryz.prog.info? 26).map (·.size) = some (pfA p).toList.length := by rw [Array.length_toList, pfA_size h]; exact infoP
theorem StAt.pfA {w : World} {X : Nat} {s : StV} (h : StAt w X s) : w.rangeAt X 7 (Go.Proofs.YtdbgeobolongmaaGreatDoor.pfA s.t.pf).toList := by
 have := h.pf
 rw [← pfL_eq h.p16]
 exact this
theorem prefixes_show (lo hi : Nat) (w : World) : ShowOK .P 104 #[] lo hi w := by
 intro W X s ha hh ht hs hi' hsb
 have HE : Hid (shwA .P s.t = [showP s.t.pf]) := qh rfl
 rw [HE.out]
 have HR := qh hs.pfA
 have HI := qh (infoPL hs.p16)
 have HC := qh (pfx_Show s.t.pf hs.p16 hsb.pl W ht.p)
 have HU := qh Tryz.underlying26
 clear ha hh ht hs hi' hsb HE
 generalize Go.Proofs.YtdbgeobolongmaaGreatDoor.pfA s.t.pf = pa at *
 generalize showP s.t.pf = sp at *
 simp only [List.append_toArray, List.append_nil]
 go_enter Tryz.func104, Tryz.ntmps104
 go_wp2_with (refine wpList_load_mid rfl _ _ rfl X 7 rfl pa.toList _ HR.out HU.out rfl HI.out ?_)
 refine HC.out.mono ?_
 rintro e w1 ⟨rfl, hb1⟩
 have HB1 := qh hb1
 clear hb1
 go_wp2_with fail
 go_ret
 exact ⟨_, rfl, slr_lit encS_len w1 _ [sp] (by simp) _ rfl, HB1.out.alloc HB1.out.size _⟩
theorem infoHL (h : Hp.Hop) (l r : Value) : (Tryz.prog.info? 29).map (·.size) = some (hopL h l r).length := by kernel_rfl
theorem hops_show (lo hi : Nat) (w : World) : ShowOK .H 98 #[] lo hi w := by
 intro W X s ha hh ht hs hi' hsb
 have HE : Hid (shwA .H s.t = Hp.spl (Hp.join (showWA s.t.hop))) := qh rfl
 rw [HE.out]
 have HR := qh hs.hop
 have HI := qh (infoHL s.t.hop s.vl s.vr)
 have HC := qh (hop_ShowA s.t.hop hsb.hop s.vl s.vr W ht.p.tabs ⟨by have := hsb.hop.n1; omega, by have := hsb.hop.n2; omega, hi'.l.sl, hi'.r.sl⟩)
 have HU := qh Tryz.underlying29
 have HL : Hid ((Hp.join (showWA s.t.hop)).length ≤ 1048576) := qh (by
  have h1 := showWA_len hsb.hop
  have h2 := hjoin_le _ h1.2
  omega)
 clear ha hh ht hs hi' hsb HE
 rw [← hopL_eq] at HC
 generalize hopL s.t.hop s.vl s.vr = pa at *
 generalize Hp.join (showWA s.t.hop) = sp at *
 have HW := qh fun W => scr_words sp HL.out W
 simp only [List.append_toArray, List.append_nil]
 go_enter Tryz.func98, Tryz.ntmps98
 go_wp2_with (refine wpList_load_mid rfl _ _ rfl X 25 rfl pa _ HR.out HU.out rfl HI.out ?_)
 refine HC.out.mono ?_
 rintro e w1 ⟨rfl, hb1⟩
 have HB1 := qh hb1
 clear hb1
 go_wp2_with fail
 refine (HW.out w1).mono ?_
 rintro e w2 ⟨v2, rfl, ho2, hb2⟩
 have HB2 := qh (HB1.out.trans (hb2.mono HB1.out.size))
 have HO2 := qh (SlR.of_owns encS_len ho2)
 clear hb2 ho2
 go_wp2_with fail
 go_ret
 exact ⟨_, rfl, HO2.out, HB2.out⟩
theorem texts_show (lo hi : Nat) (w : World) : ShowOK .T 109 #[] lo hi w := by
 intro W X s ha hh ht hs hi' hsb
 have HE : Hid (shwA .T s.t = [s.t.text]) := qh rfl
 rw [HE.out]
 have c32 := hs.c32
 clear ha hh ht hs hi' hsb HE
 simp only [List.append_toArray, List.append_nil]
 go_enter Tryz.func109, Tryz.ntmps109
 go_wp2_with fail
 go_ret
 exact ⟨_, rfl, slr_lit encS_len W _ [s.t.text] (by simp) _ rfl, (Below.refl _ _).alloc (Nat.le_refl _) _⟩
theorem packets_show (lo hi : Nat) (w : World) : ShowOK .B 112 #[] lo hi w := by
 intro W X s ha hh ht hs hi' hsb
 have HE : Hid (shwA .B s.t = [if s.t.bytes = [] then [45] else hex s.t.bytes]) := qh rfl
 rw [HE.out]
 have c35 := hs.c35
 have HC := qh (octet_Hex s.t.bytes (by have := hsb.bl; omega) s.vb W hi'.b.sl)
 obtain ⟨p, cap, hv, d1, d2, hR, -⟩ := hi'.b
 rw [hv] at c35 HC
 have hbl := hsb.bl
 clear ha hh ht hs hi' hsb HE hv hR
 simp only [List.append_toArray, List.append_nil]
 by_cases h0 : s.t.bytes = []
 ·rw [if_pos h0]
  have hn0 : s.t.bytes.length = 0 := by rw [h0]; rfl
  rw [hn0] at c35
  go_enter Tryz.func112, Tryz.ntmps112
  go_wp2_with fail
  go_ret
  exact ⟨_, rfl, slr_lit encS_len W _ [[45]] (by simp) _ rfl, (Below.refl _ _).alloc (Nat.le_refl _) _⟩
 ·rw [if_neg h0]
  have hn0 : 0 < s.t.bytes.length := List.length_pos_iff.2 h0
  have hn1 : ((s.t.bytes.length : Int) == 0) = false := by simp; omega
  clear h0
  generalize hex s.t.bytes = hx at *
  go_enter Tryz.func112, Tryz.ntmps112
  go_wp2_with fail
  refine HC.out.mono ?_
  rintro e w1 ⟨rfl, hb1⟩
  have HB1 := qh hb1
  clear hb1
  go_wp2_with fail
  go_ret
  exact ⟨_, rfl, slr_lit encS_len w1 _ [hx] (by simp) _ rfl, HB1.out.alloc HB1.out.size _⟩
theorem elemWy : ElemOk Tryz.prog 30 131 2 16 := .mk Tryz.underlying30 (z := .agg #[.int .i64 0, .int .i64 0]) (by kernel_rfl) (by omega) (by omega) rfl
theorem RdP.atW {w : World} {p : Option Addr} {xs : List (Int × Int)} (h : RdP w 2 encWy p xs) {i : Nat} (hi : i < xs.length) :
  ∃ b off, p = some ⟨b, off, none⟩ ∧ b < w.heap.size ∧ w.cell? ⟨b, off + i * 2, none⟩ = some (.int .i64 xs[i].1) ∧ w.cell? ⟨b, off + i * 2 + 1, none⟩ = some (.int .i64 xs[i].2) := by
 obtain ⟨b, off, h1, h2, h3⟩ := h.at hi
 exact ⟨b, off, h1, h2, h3 0 _ rfl, h3 1 _ rfl⟩
theorem owns_ne {w : World} {base : Nat} {e : TypeId} {size : Nat} {v : Value} {n : Nat} {xs : List Value} (h : w.ownsRow base e size v n xs) {g : Nat} (hg : w.heap.size ≤ g) : v.ownBlock ≠ some g := by
 rcases h.2 with h0 | ⟨k, cap, cur, hv, hb, hk, r⟩
 ·rw [h0.1]; simp [Value.ownBlock]
 ·rw [hv]
  have := (Array.getElem?_eq_some_iff.1 hk).1
  simp only [Value.ownBlock, ne_eq, Option.some.injEq]
  omega
structure WyS (W0 : World) (g : Nat) (a b : Int) (W : World) : Prop where
 box : Blk W g 131 #[.int .i64 a, .int .i64 b]
 bel : Below W0.heap.size W0 W
theorem WyS.next {W0 W W' : World} {g : Nat} {a b : Int} (h : WyS W0 g a b W) (hb : Below W.heap.size W W') : WyS W0 g a b W' := ⟨h.box.below hb h.box.lt, h.bel.trans (hb.mono h.bel.size)⟩
theorem lit_rd {α : Type} {enc : α → List Value} {k : Nat} (hk : ∀ x, (enc x).length = k) (w : World) (e : TypeId) (xs : List α) (hl : xs.length ≤ 1048576) (cs : Array Value) (hcs : cs = (flat enc xs).toArray) :
  RdP (w.alloc (.cells cs e)) k enc (some ⟨w.heap.size, 0, none⟩) xs := by
 obtain ⟨p, cap, hv, -, -, hR⟩ := slr_lit hk w e xs hl cs hcs
 cases hv
 exact hR
theorem Blk.grownO {w w' : World} {k : Nat} {t : TypeId} {cs : Array Value} {ob : Option Nat} (h : Blk w k t cs) (hg : w.grownBy w' ob) (hne : ob ≠ some k) : Blk w' k t cs := (hg.block k h.lt hne.symm).trans h
theorem wp_app_slG {α : Type} {P : Program} {w : World} {o : Oper} {a : Act} {K : Act → World → Prop} {Q : Exit → Act → World → Prop} {t e : TypeId} {size bytes : Nat} (hE : ElemOk P t e size bytes) (s x : Operand)
  (ho : o.op = .call { callee := .builtin .append, args := #[s, x], argTypes := #[t, t] })
  (base : Nat) (v : Value) (n : Nat) (xs : List Value) (hs : a.eval s = v) (hown : w.ownsRow base e size v n xs)
  (enc : α → List Value) (hk : ∀ x, (enc x).length = size) (p : Option Addr) (c : Nat) (ys : List α) (hx : a.eval x = .slice p ys.length c) (hr : RdP w size enc p ys) (h1 : ∀ y, ∀ u ∈ enc y, u.oneCell' = true)
  (hsm : n + ys.length ≤ 1099511627776) (hbase : base ≤ w.heap.size)
  (h : ∀ v' w', w'.ownsRow base e size v' (n + ys.length) (xs ++ flat enc ys) → w.grownBy w' v.ownBlock → K (a.put o.dst v') w') : o.wp P a w K Q := by
 have hE' := hE
 obtain ⟨ht, hb, hsz, i, z, hi, hz, hsize, hby, hzs⟩ := hE
 cases p with
 | none =>
  have h0 := hr.1 rfl
  have hys : ys = [] := List.eq_nil_of_length_eq_zero h0
  subst hys
  have hrun := run_append_none (ty := o.type) w hE' hown c
  unfold Oper.wp execOp
  simp only [List.length_nil] at hx
  simp only [ho, resolve, invoke, builtin, Sem.run_bind, Sem.run_pure, Result.andThen_ok, List.map_toArray, List.map_cons, List.map_nil, hs, hx, hrun]
  exact h v w (by simpa [flat] using hown) (grown_refl _ _)
 | some ad =>
  have hnews : ∀ j u, (flat enc ys)[j]? = some u → w.cell? (ad.add j) = some u := by
   intro j u hu
   have hjl : j < (flat enc ys).length := (List.getElem?_eq_some_iff.1 hu).1
   rw [flat_length hk] at hjl
   have hi' : j / size < ys.length := Nat.div_lt_of_lt_mul (by rw [Nat.mul_comm]; exact hjl)
   obtain ⟨hsp, _, hcell⟩ := hr.2 ad rfl (Nat.ne_of_gt (Nat.lt_of_le_of_lt (Nat.zero_le _) hi'))
   have hm : j % size < (enc ys[j / size]).length := by rw [hk]; exact Nat.mod_lt _ hsz
   have hfl := flat_at hk (List.getElem?_eq_getElem hi') (List.getElem?_eq_getElem hm)
   have hj : j / size * size + j % size = j := by rw [Nat.mul_comm]; exact Nat.div_add_mod j size
   rw [hj, hu] at hfl
   have := hcell _ _ (List.getElem?_eq_getElem hi') _ _ ((List.getElem?_eq_getElem hm).trans hfl.symm)
   rw [← this]
   congr 1
   unfold Addr.add
   split
   ·rename_i h0; subst h0; cases ad; simp_all
   ·cases ad; simp only [Addr.mk.injEq, true_and, and_true]; omega
  obtain ⟨v', w', hr', h2, h3, h4, h5⟩ := run_append_own_at (P := P) w base t o.type e i z size bytes ht hi hz hsize hby hzs hsz v n xs hown ad ys.length c (flat enc ys) (flat_length hk ys) hnews (by intro u hu; simp only [flat, List.mem_flatMap] at hu; obtain ⟨y, _, hy⟩ := hu; exact h1 y u hy) (by unfold maxLen; omega) (size_bytes hsm hb) hbase
  unfold Oper.wp execOp
  simp only [ho, resolve, invoke, builtin, Sem.run_bind, Sem.run_pure, Result.andThen_ok, List.map_toArray, List.map_cons, List.map_nil, hs, hx, hr']
  exact h v' w' h2 h3
theorem ways_show (lo hi : Nat) (w : World) : ShowOK .W 102 #[] lo hi w := by
 intro W X s ha hh ht hs hi' hsb
 have HT := qh ht
 have HE : Hid (shwA .W s.t = s.t.ways.map Sc.star) := qh rfl
 rw [HE.out]
 have HWI := qh hsb.wi
 have hwl := hsb.wl
 have c31 := hs.c31
 obtain ⟨p, cap, hv, d1, d2, hR, -⟩ := hi'.ws
 rw [hv] at c31
 have HR := qh hR
 have hA : ∀ a b : List UInt8, str a ++ ⟨#[42]⟩ ++ str b = str (a ++ 42 :: b) := fun a b => by rw [show (⟨#[42]⟩ : ByteArray) = str [42] from rfl, str_app, str_app]; simp
 generalize s.t.ways = L at *
 clear ha hh ht hs hi' hsb HE hv hR
 simp only [List.append_toArray, List.append_nil]
 go_enter Tryz.func102, Tryz.ntmps102
 go_wp2_with fail
 go_loopw [3, 5, 12] (fun vo _ vi wr => ∃ k : Nat, vi = .int .i64 k ∧ k ≤ L.length ∧ Hid (wr.ownsRow W.heap.size 9 1 vo k (flat encS ((L.take k).map Sc.star))) ∧ Hid (Below W.heap.size W wr)) (fun _ _ vi _ => L.length - (intOf vi).toNat)
 case atStart => exact ⟨0, rfl, Nat.zero_le _, qh (World.ownsRow_nil _ _ _ _), qh (Below.refl _ _)⟩
 case round =>
  obtain ⟨k, rfl, hk, HO, HB⟩ := hrel
  by_cases hlt : k < L.length
  ·obtain ⟨b, off, rfl, hbs, hx0, hx1⟩ := (HR.out.below HB.out (Nat.le_refl _)).atW hlt
   have HTK : Hid ((L.take (k + 1)).map Sc.star = (L.take k).map Sc.star ++ [Sc.star L[k]]) := qh (by rw [List.take_succ_eq_append_getElem hlt, List.map_append]; rfl)
   have hnb := HWI.out L[k] (List.getElem_mem hlt)
   generalize L[k] = y at *
   obtain ⟨a, c⟩ := y
   simp only at hx0 hx1 hnb
   have HD1 := qh fun W' (h : Below W.heap.size W W') => octet_Digits a hnb.1 W' (HT.out.p.tabs.next h (Nat.le_refl _))
   have HD2 := qh fun W' (h : Below W.heap.size W W') => octet_Digits c hnb.2 W' (HT.out.p.tabs.next h (Nat.le_refl _))
   have hl1 := Lib.itoa_length_le _ hnb.1.1 hnb.1.2
   have hl2 := Lib.itoa_length_le _ hnb.2.1 hnb.2.2
   have HST : Hid (Sc.star (a, c) = Lib.itoa a ++ 42 :: Lib.itoa c) := qh rfl
   rw [HST.out] at HTK
   generalize Lib.itoa a = e1 at *
   generalize Lib.itoa c = e2 at *
   have z1 : ¬ 9223372036854775807 < (str e1).size + 1 := by rw [str_size]; omega
   have z2 : ¬ 9223372036854775807 < (str e1).size + 1 + (str e2).size := by rw [str_size, str_size]; omega
   have z3 : ¬ 9223372036854775807 < (str e1 ++ ⟨#[42]⟩).size + (str e2).size := by rw [ByteArray.size_append, str_size, str_size]; show ¬ _ < _ + 1 + _; omega
   have hlk : ((L.take k).map Sc.star).length = k := by rw [List.length_map, List.length_take]; omega
   have HQ : Hid (WyS W wr.heap.size a c (wr.alloc (.cells #[.int .i64 a, .int .i64 c] 131))) := qh ⟨Blk.new _ _ _, HB.out.trans ((belowA wr _).mono HB.out.size)⟩
   have HO0 : Hid ((wr.alloc (.cells #[.int .i64 a, .int .i64 c] 131)).drew.ownsRow W.heap.size 9 1 u3 k (flat encS ((L.take k).map Sc.star))) := qh (owns_below HO.out ((belowA _ _).drew) (Nat.le_refl _))
   have HNE := qh (owns_ne HO.out (Nat.le_refl _))
   clear hl1 hl2 hnb HST
   go_wp2_with fail
   refine wp_region_held_drew (S := WyS W wr.heap.size a c) (by kernel_rfl) (HQ.out.next (Below.refl _ _).drew) (fun hHeld => ?_)
   refine kq 0 ?_; refine kq 1 ?_
   refine kq 2 ?_ (hy := by intro w h; have c := h.box.cell 0; go_simp; try with_reducible rfl)
   refine kq 5 ?_
   refine kq 6 ?_ (hy := by intro w h; have c := h.box.cell 1; go_simp; try with_reducible rfl)
   refine zS 3 fun K hK => ?_
   go_simp
   refine (HD1.out _ hHeld.bel).mono ?_; rintro e w1 ⟨rfl, hb1⟩; have HV1 := hHeld.next hb1; have HO1 := qh (owns_below HO0.out hb1 (Nat.le_refl _))
   go_wp2_with fail
   refine hK.out _ _ (HV1) (fun hHeld => ?_)
   clear hK K
   try simp only [qA, qB, qC, qD, qE, qF, qG]
   refine kq 4 ?_
   refine zS 7 fun K hK => ?_
   go_simp
   refine (HD2.out _ hHeld.bel).mono ?_; rintro e w2 ⟨rfl, hb2⟩; have HV2 := hHeld.next hb2; have HO2 := qh (owns_below HO1.out hb2 (Nat.le_refl _))
   go_wp2_with fail
   refine hK.out _ _ (HV2) (fun hHeld => ?_)
   clear hK K
   try simp only [qA, qB, qC, qD, qE, qF, qG]
   refine kq 8 ?_
   refine zS 9 fun K hK => ?_
   go_simp
   refine hK.out _ _ (hHeld.next (belowA _ _)) (fun hHeld => ?_)
   clear hK K
   try simp only [qA, qB, qC, qD, qE, qF, qG]
   refine zS 10 fun K hK => ?_
   have hRd := lit_rd encS_len w2 9 [e1 ++ 42 :: e2] (by simp) _ rfl
   refine wp_app_slG elemS _ _ rfl W.heap.size u3 k _ rfl (owns_below HO2.out (belowA w2 _) (Nat.le_refl _)) encS encS_len (some ⟨w2.heap.size, 0, none⟩) 1 [e1 ++ 42 :: e2] rfl hRd encS_one (by simp; omega) (by have := hHeld.bel.size; omega) ?_
   intro v4 w4 hown4 hgr4
   refine hK.out _ _ ⟨(hHeld.box.grownO hgr4 HNE.out), hHeld.bel.trans (below_grown (Below.refl _ _) hgr4 (owns_below HO2.out (belowA w2 _) (Nat.le_refl _)) (Nat.le_refl _) hHeld.bel.size)⟩ (fun hHeld => ?_)
   clear hK K
   try simp only [qA, qB, qC, qD, qE, qF, qG]
   refine kq 11 ?_
   refine zD ?_
   go_wp2_with fail
   exact ⟨⟨k + 1, by go_num, by omega, qh (by rw [HTK.out, flat_append]; exact hown4), qh hHeld.bel⟩, by simp [intOf]; omega⟩
  ·have hkl : k = L.length := by omega
   have hO := HO.out
   rw [hkl, List.take_length] at hO
   have HO2 : Hid (SlR wr 1 encS u3 (L.map Sc.star)) := qh (SlR.of_owns encS_len (by rw [List.length_map]; exact hO))
   clear hO
   go_wp2_with fail
   go_ret
   exact ⟨_, rfl, HO2.out, HB.out⟩
end Go.Proofs.YtdbgeobolongmaaGreatDoor
namespace Go.Proofs.YtdbgeobolongmaaGreatDoor
open Go.RowKit Go.Shelf Go.Proofs Go.OctetPlain
theorem rd_int {w : World} {p : Option Addr} {L : List Int} (h : RdP w 1 encI p L) {k : Nat} (hk : k < L.length) : ∃ b off, p = some ⟨b, off, none⟩ ∧ ∀ n, (w.drewN n).cell? ⟨b, off + k, none⟩ = some (.int .i64 L[k]) := by
 obtain ⟨b, off, rfl, _, hc⟩ := h.at hk
 refine ⟨b, off, rfl, fun n => ?_⟩
 have := hc 0 (.int .i64 L[k]) rfl
 simpa using this
theorem ref_ints (a b : List Int) (ha : a.length ≤ 1073741824) (hb : b.length ≤ 1073741824) (va vb : Value) (w : World) (hva : SlR w 1 encI va a) (hvb : SlR w 1 encI vb b) :
  Calls Tryz.prog 69 #[va, vb] w fun e w' => e = .returned (.bool (decide (a = b))) ∧ Below w.heap.size w w' := by
 obtain ⟨p1, c1, rfl, g1, g2, R1⟩ := hva
 obtain ⟨p2, c2, rfl, g3, g4, R2⟩ := hvb
 by_cases hl : a.length = b.length
 ·go_enter Tryz.func69, Tryz.ntmps69
  rw [← hl]
  have HL := qh hl
  clear hl g1 g3
  go_wp2_with fail
  go_loopw [5] (fun vi wr => ∃ k : Nat, vi = .int .i64 k ∧ k ≤ a.length ∧ Hid (a.take k = b.take k) ∧ Hid (Below w.heap.size w wr)) (fun vi _ => a.length - (intOf vi).toNat)
  case atStart => exact ⟨0, rfl, Nat.zero_le _, qh rfl, qh (Below.refl _ _)⟩
  case round =>
   obtain ⟨k, rfl, hk, HT, HB⟩ := hrel
   by_cases hlt : k < a.length
   ·have hltb : k < b.length := by rw [← HL.out]; exact hlt
    obtain ⟨b1, o1, rfl, hc1⟩ := rd_int (R1.below HB.out (Nat.le_refl _)) hlt
    obtain ⟨b2, o2, rfl, hc2⟩ := rd_int (R2.below HB.out (Nat.le_refl _)) hltb
    have hka : a[k]? = some a[k] := List.getElem?_eq_getElem hlt
    have hkb : b[k]? = some b[k] := List.getElem?_eq_getElem hltb
    have HKA := qh hka
    have HKB := qh hkb
    have HTA := qh (List.take_succ_eq_append_getElem hlt)
    have HTB := qh (List.take_succ_eq_append_getElem hltb)
    generalize a[k] = x at *
    generalize b[k] = y at *
    clear hka hkb
    by_cases hxy : x = y
    ·subst hxy
     go_wp2_with fail
     go_quiet (fail)
     go_wp2_with fail
     exact ⟨⟨k + 1, by go_num, by omega, qh (by rw [HTA.out, HTB.out, HT.out]), qh (below_drewN HB.out nq)⟩, by simp [intOf]; omega⟩
    ·have hne : (x != y) = true := by simpa using hxy
     have HN : Hid (decide (a = b) = false) := qh (decide_eq_false fun e => hxy (by
      have h1 := HKA.out
      rw [e, HKB.out] at h1
      exact (Option.some.inj h1).symm))
     clear hxy
     go_wp2_with fail
     go_quiet (fail)
     go_wp2_with fail
     go_ret
     exact ⟨by rw [HN.out]; first | done | rfl, below_drewN HB.out nq⟩
   ·obtain rfl : k = a.length := by omega
    have HE : Hid (decide (a = b) = true) := qh (decide_eq_true (by
     have h := HT.out
     rw [List.take_length] at h
     rw [h, HL.out, List.take_length]))
    go_wp2_with fail
    go_ret
    exact ⟨by rw [HE.out]; first | done | rfl, HB.out⟩
 ·have hne : ¬ (a.length : Int) = (b.length : Int) := by omega
  rw [decide_eq_false (fun e => hl (by rw [e]))]
  clear hl
  go_enter Tryz.func69, Tryz.ntmps69
  go_wp2_with fail
  go_ret
  exact ⟨rfl, Below.refl _ _⟩
theorem hop_eq2 (a b : Hp.Hop) : decide (a = b) = (decide (a.labels = b.labels) && decide (a.repair = b.repair) && decide (a.op = b.op) && decide (a.port = b.port) && decide (a.backup = b.backup) && decide (a.pipe = b.pipe)) := by
 rw [hop_eq]
 cases decide (a.labels = b.labels) <;> cases decide (a.repair = b.repair) <;> cases decide (a.op = b.op) <;> cases decide (a.port = b.port) <;> cases decide (a.backup = b.backup) <;> cases decide (a.pipe = b.pipe) <;> rfl
theorem ref_SameHop (a b : Hp.Hop) (l1 r1 l2 r2 : Value) (w : World) (A : HopIs w a l1 r1) (B : HopIs w b l2 r2) :
  Calls Tryz.prog 32 #[.agg (hopA a l1 r1), .agg (hopA b l2 r2)] w fun e w' => e = .returned (.bool (decide (a = b))) ∧ Below w.heap.size w w' := by
 rw [hop_eq2]
 have H1 : Hid (∀ W, Below w.heap.size w W → Calls Tryz.prog 69 #[l1, l2] W fun e w' => e = .returned (.bool (decide (a.labels = b.labels))) ∧ Below W.heap.size W w') := qh fun W hW => ref_ints _ _ A.n1 B.n1 l1 l2 W (A.sl.below hW (Nat.le_refl _)) (B.sl.below hW (Nat.le_refl _))
 have H2 : Hid (∀ W, Below w.heap.size w W → Calls Tryz.prog 69 #[r1, r2] W fun e w' => e = .returned (.bool (decide (a.repair = b.repair))) ∧ Below W.heap.size W w') := qh fun W hW => ref_ints _ _ A.n2 B.n2 r1 r2 W (A.sr.below hW (Nat.le_refl _)) (B.sr.below hW (Nat.le_refl _))
 obtain ⟨-, -, ⟨p1, c1, rfl, -, -, -⟩, ⟨p2, c2, rfl, -, -, -⟩⟩ := A
 obtain ⟨-, -, ⟨p3, c3, rfl, -, -, -⟩, ⟨p4, c4, rfl, -, -, -⟩⟩ := B
 obtain ⟨o1, L1, q1, k1, R1, s1⟩ := a
 obtain ⟨o2, L2, q2, k2, R2, s2⟩ := b
 unfold hopA
 simp only at *
 have hb0 : ∀ o o', Below w.heap.size w ((w.alloc o).alloc o') := fun o o' => (belowA w o).alloc (by simp) _
 have HB0 := qh hb0
 clear hb0
 generalize decide (L1 = L2) = e1 at *
 generalize decide (R1 = R2) = e2 at *
 go_enter Tryz.func32, Tryz.ntmps32
 go_wp2_with fail
 refine (H1.out _ (HB0.out _ _)).mono ?_
 rintro e w1 ⟨rfl, hb1⟩
 obtain ⟨hcc, hcf⟩ := bcell hb1
 have hz1 : w.heap.size + 1 < w1.heap.size := by have := hb1.size; simp at this; omega
 have hz1' : w.heap.size < w1.heap.size := by omega
 have B1 := qh ((HB0.out (.cells #[.int .i64 o1, .slice p1 L1.length c1, .int .i64 q1, .int .i64 k1, .slice p2 R1.length c2, .bool s1] 29) (.cells #[.int .i64 o2, .slice p3 L2.length c3, .int .i64 q2, .int .i64 k2, .slice p4 R2.length c4, .bool s2] 29)).trans (hb1.mono (by simp; omega)))
 go_wp2_with fail
 refine (H2.out _ B1.out).mono ?_
 rintro e w2 ⟨rfl, hb2⟩
 obtain ⟨hcc2, hcf2⟩ := bcell hb2
 have hz2 : w.heap.size + 1 < w2.heap.size := by have := hb2.size; omega
 have B2 := qh (B1.out.trans (hb2.mono B1.out.size))
 clear hb1 hb2
 cases e1
 ·go_wp2_with fail
  go_ret
  exact ⟨by simp, B2.out⟩
 cases e2
 ·go_wp2_with fail
  go_ret
  exact ⟨by simp, B2.out⟩
 by_cases x1 : o1 = o2
 rotate_left
 ·have d : (o1 == o2) = false := by simpa using x1
  have HX := qh (decide_eq_false x1)
  clear x1
  go_wp2_with fail
  go_ret
  exact ⟨by rw [HX.out]; simp, B2.out⟩
 subst x1
 by_cases x2 : q1 = q2
 rotate_left
 ·have d : (q1 == q2) = false := by simpa using x2
  have HX := qh (decide_eq_false x2)
  clear x2
  go_wp2_with fail
  go_ret
  exact ⟨by rw [HX.out]; simp, B2.out⟩
 subst x2
 by_cases x3 : k1 = k2
 rotate_left
 ·have d : (k1 == k2) = false := by simpa using x3
  have HX := qh (decide_eq_false x3)
  clear x3
  go_wp2_with fail
  go_ret
  exact ⟨by rw [HX.out]; simp, B2.out⟩
 subst x3
 by_cases x4 : s1 = s2
 rotate_left
 ·have d : (s1 == s2) = false := by simpa using x4
  have HX := qh (decide_eq_false x4)
  clear x4
  go_wp2_with fail
  go_ret
  exact ⟨by rw [HX.out]; simp, B2.out⟩
 subst x4
 go_wp2_with fail
 go_ret
 exact ⟨by simp, B2.out⟩
theorem owns_form {w : World} {base : Nat} {e : TypeId} {size : Nat} {v : Value} {n : Nat} {xs : List Value} (h : w.ownsRow base e size v n xs) : ∃ p c, v = .slice p n c := by
 rcases h.2 with ⟨rfl, rfl⟩ | ⟨g, cap, cur, rfl, _⟩
 ·exact ⟨_, _, rfl⟩
 ·exact ⟨_, _, rfl⟩
section
variable {w w2 W W' : World} {B H : Nat} {h : Hp.Hop} {part : Int} {l r : Value}
end
section
variable {w w2 W : World} {B H : Nat} {op P B' : Int} {L R : List Int} {C : Bool} {part : Int} {l r : Value}
end
end Go.Proofs.YtdbgeobolongmaaGreatDoor
