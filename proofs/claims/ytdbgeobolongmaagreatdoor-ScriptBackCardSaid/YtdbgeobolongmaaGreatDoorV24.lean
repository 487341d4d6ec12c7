/- Part of the proof: contracts of the functions that the statements of layer 32 reach. -/
import Derived.Shelf.Slices.Turned
import Derived.Shelf.GgClosure.StringsIndexFuncTop
import Derived.Shelf.SlicesQ.Equal
import Derived.Shelf.SlicesE.Equal
import Derived.Ground.GgwProg
import Derived.Ground.NamesProg
import Derived.Ground.SlgqProg
import Derived.Shelf.SlGeneric
import Derived.Test.YtdbgeobolongmaaGreatDoorProg
import Derived.Laws.EntriesVeiled
import Derived.Test.YtdbgeobolongmaaGreatDoorV23
set_option linter.unusedVariables false
set_option linter.unusedSimpArgs false
set_option maxRecDepth 100000
set_option maxHeartbeats 4000000
namespace Go.Proofs.YtdbgeobolongmaaGreatDoor
open Go.RowKit Go.Shelf Go.Proofs Go.OctetPlain Go.PrefixPlain
theorem unhex_len : ∀ (l out b : List UInt8), refUnhex out l = some b → b.length ≤ out.length + l.length
 | [], out, b, h => by injection h with h; subst h; simp
 | [_], out, b, h => by cases h
 | a :: c :: r, out, b, h => by
  simp only [refUnhex] at h
  split at h
  ·cases h
  ·have := unhex_len r _ b h
   simp only [List.length_append, List.length_cons, List.length_nil] at this ⊢
   omega
theorem unhex_len0 (x : List UInt8) : ((refUnhex [] x).getD []).length ≤ x.length := by
 cases h : refUnhex [] x with
 | none => simp
 | some b => have := unhex_len x [] b h; simpa using this
theorem read_B (t : Sc.Stp) {x : Hp.Wd} (h0 : x ≠ []) (h1 : x ≠ [45]) (r : List Hp.Wd) : Sc.read .B t (x :: r) = if (refUnhex [] x).isSome = true ∧ hex ((refUnhex [] x).getD []) = x then some ({ t with bytes := (refUnhex [] x).getD [] }, r) else none := by
 simp only [Sc.read]
 rw [if_neg h0, if_neg h1]
 cases refUnhex [] x with
 | none => simp
 | some p => simp only [Option.isSome_some, true_and, Option.getD_some]
theorem packets_read (lo hi : Nat) (w : World) : ReadOK .B 114 #[] lo hi w := by
 intro W X s v l Y hY hN ha hh ht hX hs hin hw hl hv
 replace ht := ht.st
 simp only [List.append_toArray, List.append_nil]
 cases l with
 | nil =>
  have HO : Hid (Sc.read .B s.t [] = none) := qh rfl
  rw [HO.out]
  obtain ⟨pp, cap, rfl, c1, c2, hR, hq⟩ := hv
  go_enter Tryz.func114, Tryz.ntmps114
  go_wp2_with fail
  exact bodyPost_ret (v := .tuple #[.slice none 0 0, .bool false]) (by simp [results, Tryz.results114, go_sem]) rfl (RetRead.none (grown_refl _ _) _)
 | cons x r =>
  have hxl := hl.2.1 x List.mem_cons_self
  have HS := qh hs
  have HIn := qh hin
  have hXl := hs.lt
  have HV := qh hv
  obtain ⟨pp, cap, rfl, c1, c2, hR, hq⟩ := hv
  simp only [List.length_cons] at c1
  obtain ⟨b, off, rfl, hbl2, hc⟩ := hR.at (i := 0) (by simp)
  have hx := hc 0 (.string (str x)) rfl
  simp only [Nat.zero_mul, Nat.add_zero] at hx
  have hbY := hq _ rfl (by simp)
  have hbq := hY _ hbY
  have HR := qh hR
  have hl1 : r.length + 1 ≤ 1048576 := by have := hl.1; simpa using this
  have hn0 : ((r.length : Int) + 1 == 0) = false := by simp; omega
  have htl := str_tl
  clear hc hR hs hin ha hq ht hl
  by_cases h0 : x = []
  ·have HL : Hid (Sc.read .B s.t (x :: r) = none) := qh (by subst h0; simp [Sc.read])
   have he0 : (x == ([] : List UInt8)) = true := by simpa using h0
   rw [HL.out]
   clear h0
   go_enter Tryz.func114, Tryz.ntmps114
   go_wp2_with fail
   exact bodyPost_ret (v := .tuple #[.slice none 0 0, .bool false]) (by simp [results, Tryz.results114, go_sem]) rfl (RetRead.none (grown_refl _ _) _)
  have he0 : (x == ([] : List UInt8)) = false := by simpa using h0
  have h1le : (1 : Int) ≤ (r.length : Int) + 1 := by omega
  by_cases h45 : x = [45]
  ·have HL : Hid (Sc.read .B s.t (x :: r) = some (s.t, r)) := qh (by subst h45; simp [Sc.read])
   have he1 : (x == ([45] : List UInt8)) = true := by simpa using h45
   rw [HL.out]
   clear h0 h45
   by_cases hcap : cap = 1
   ·subst hcap
    obtain rfl : r = [] := List.eq_nil_of_length_eq_zero (by omega)
    go_enter Tryz.func114, Tryz.ntmps114
    go_wp2_with fail
    exact bodyPost_ret (v := .tuple #[.slice (some ⟨b, off, none⟩) 0 0, .bool true]) (by simp [results, Tryz.results114, go_sem]) rfl (RetRead.some (grown_refl _ _) _ s [] HS.out HIn.out (SlP.tailA (by simp) HR.out hbY) (fun _ => rfl))
   ·go_enter Tryz.func114, Tryz.ntmps114
    go_wp2_with fail
    exact bodyPost_ret (v := .tuple #[.slice (some ⟨b, off + 1, none⟩) r.length (cap - 1), .bool true]) (by simp [results, Tryz.results114, go_sem]) rfl (RetRead.some (grown_refl _ _) _ s r HS.out HIn.out (SlP.tailB c1 c2 HR.out hbY) (fun _ => rfl))
  have he1 : (x == ([45] : List UInt8)) = false := by simpa using h45
  have HO := qh (read_B s.t h0 h45 r)
  generalize Sc.read .B s.t (x :: r) = ro at *
  have HN := qh (octet_Unhex x (by omega) W)
  have hbl := unhex_len0 x
  clear h0 h45
  generalize (refUnhex [] x).isSome = is at *
  generalize (refUnhex [] x).getD [] = bs at *
  generalize hsp : hex bs = sp at *
  have HSP := qh hsp
  clear hsp
  go_enter Tryz.func114, Tryz.ntmps114
  go_wp2_with fail
  refine HN.out.mono ?_
  rintro e w1 ⟨v1, rfl, ho1, hb1⟩
  have HSB := qh (SlP.of_owns encB_len ho1)
  obtain ⟨pb, cb, rfl⟩ := owns_form ho1
  have HS2 := qh (HS.out.next hb1)
  have HB2 := qh hb1
  have hw1 := hb1.size
  have c35 := HS2.out.c35
  have f35 := HS2.out.fz 35
  clear hb1 ho1
  go_wp2_with fail
  have HG5 : Hid (W.grownBy (w1.setCell ⟨X, 35, none⟩ (.slice pb bs.length cb)) (some X)) := qh (grown_trans (grown_below HB2.out _) (grown_set _ _ _ _))
  have HS5 : Hid (StAt (w1.setCell ⟨X, 35, none⟩ (.slice pb bs.length cb)) X { s with t := { s.t with bytes := bs }, vb := .slice pb bs.length cb }) := qh (HS2.out.setB bs _)
  have HV5 : Hid (RdP (w1.setCell ⟨X, 35, none⟩ (.slice pb bs.length cb)) 1 encS (some ⟨b, off, none⟩) (x :: r)) := qh (HR.out.grownS HG5.out fun a e => by cases e; simp; exact fun h => hbq h.symm)
  have HB5 : Hid (SlP Y (w1.setCell ⟨X, 35, none⟩ (.slice pb bs.length cb)) 1 encB (.slice pb bs.length cb) bs) := qh ((HSB.out.grown (grown_set w1 X 35 _) (fun b hb => by simp; omega)).imp (fun b hb => hN b (by omega)))
  have HI5 : Hid (Inner Y (w1.setCell ⟨X, 35, none⟩ (.slice pb bs.length cb)) { s with t := { s.t with bytes := bs }, vb := .slice pb bs.length cb }) := qh (by have h9 := HIn.out.grown HG5.out (fun b hb => by simp; exact fun h => hY b hb h.symm); exact ⟨h9.l, h9.r, h9.ws, HB5.out⟩)
  have HHX : Hid (∀ W', Below (w1.setCell ⟨X, 35, none⟩ (.slice pb bs.length cb)).heap.size (w1.setCell ⟨X, 35, none⟩ (.slice pb bs.length cb)) W' → Calls Tryz.prog 113 #[.slice pb bs.length cb] W' fun e w' => e = .returned (.string (str sp)) ∧ Below W'.heap.size W' w') := qh fun W' h => by
   have := octet_Hex bs (by omega) (.slice pb bs.length cb) W' (HB5.out.sl.below h (Nat.le_refl _))
   rw [HSP.out] at this; exact this
  generalize w1.setCell ⟨X, 35, none⟩ (.slice pb bs.length cb) = W5 at *
  have hX5 := HS5.out.lt
  obtain ⟨-, hbl5, hc5⟩ := HV5.out.2 _ rfl (by simp)
  have hx5 := hc5 0 x rfl 0 _ rfl
  simp only [Nat.zero_mul, Nat.add_zero] at hx5
  clear hc5 hx HS HIn HR HN HS2 HB2 HSB HB5 HV c35 f35
  have h1le : (1 : Int) ≤ (r.length : Int) + 1 := by omega
  by_cases hcap : cap = 1
  ·subst hcap
   obtain rfl : r = [] := List.eq_nil_of_length_eq_zero (by omega)
   cases is with
   | false =>
    have HL : Hid (ro = none) := qh (by rw [HO.out]; exact if_neg (fun h => by cases h.1))
    refine wp_region_held_drew (S := fun W' => Below W5.heap.size W5 W') (by kernel_rfl) (Below.refl _ _).drew (fun hHeld => ?_)
    refine kq 0 ?_; refine kq 1 ?_; refine kq 2 ?_; refine kq 3 ?_; refine tn 4 ?_; refine tn 5 ?_; refine tn 6 ?_; refine tn 7 ?_; refine tn 8 ?_; refine tn 9 ?_; refine kq 10 ?_; refine kq 11 ?_; refine kq 12 ?_
    refine zD ?_
    go_wp2_with fail
    exact bodyPost_ret (v := .tuple #[.slice (some ⟨b, off, none⟩) 0 0, .bool false]) (by simp [results, Tryz.results114, go_sem]) rfl (by rw [HL.out]; exact RetRead.none (grown_then HG5.out (hHeld.mono HG5.out.size)) _)
   | true =>
    by_cases hq2 : sp = x
    ·have heq : (sp == x) = true := by simpa using hq2
     have HL : Hid (ro = some ({ s.t with bytes := bs }, [])) := qh (by rw [HO.out]; exact if_pos ⟨rfl, hq2⟩)
     clear hq2
     refine wp_region_held_drew (S := fun W' => Below W5.heap.size W5 W') (by kernel_rfl) (Below.refl _ _).drew (fun hHeld => ?_)
     refine kq 0 ?_; refine kq 1 ?_; refine kq 2 ?_; refine kq 3 ?_; refine kq 4 ?_; refine kq 6 ?_; refine kq 7 ?_
     refine kq 8 ?_ (hy := by intro w h; have c := (h.cell (p := ⟨b, off, none⟩) hbl5).trans hx5; go_simp; try with_reducible rfl)
     refine zS 5 fun K hK => ?_
     go_simp
     refine (HHX.out _ hHeld).mono ?_; rintro e w6 ⟨rfl, hb6⟩; have HV6 := hHeld.trans (hb6.mono hHeld.size)
     go_wp2_with fail
     refine hK.out _ _ (HV6) (fun hHeld => ?_)
     clear hK K
     try simp only [qA, qB, qC, qD, qE, qF, qG]
     refine kq 9 ?_ (hy := by intro w h; have z := heq; have z2 := str_tl; go_simp; try with_reducible rfl)
     refine kq 10 ?_; refine kq 11 ?_; refine kq 12 ?_
     refine zD ?_
     go_wp2_with fail
     exact bodyPost_ret (v := .tuple #[.slice (some ⟨b, off, none⟩) 0 0, .bool true]) (by simp [results, Tryz.results114, go_sem]) rfl (by rw [HL.out]; exact RetRead.some (grown_then HG5.out (hHeld.mono HG5.out.size)) _ _ [] (HS5.out.below hHeld hX5) (HI5.out.below hHeld (Nat.le_refl _)) ((SlP.tailA (by simp) HV5.out hbY).below hHeld (Nat.le_refl _)) (fun _ => rfl))
    ·have heq : (sp == x) = false := by simpa using hq2
     have HL : Hid (ro = none) := qh (by rw [HO.out]; exact if_neg (fun h => hq2 h.2))
     clear hq2
     refine wp_region_held_drew (S := fun W' => Below W5.heap.size W5 W') (by kernel_rfl) (Below.refl _ _).drew (fun hHeld => ?_)
     refine kq 0 ?_; refine kq 1 ?_; refine kq 2 ?_; refine kq 3 ?_; refine kq 4 ?_; refine kq 6 ?_; refine kq 7 ?_
     refine kq 8 ?_ (hy := by intro w h; have c := (h.cell (p := ⟨b, off, none⟩) hbl5).trans hx5; go_simp; try with_reducible rfl)
     refine zS 5 fun K hK => ?_
     go_simp
     refine (HHX.out _ hHeld).mono ?_; rintro e w6 ⟨rfl, hb6⟩; have HV6 := hHeld.trans (hb6.mono hHeld.size)
     go_wp2_with fail
     refine hK.out _ _ (HV6) (fun hHeld => ?_)
     clear hK K
     try simp only [qA, qB, qC, qD, qE, qF, qG]
     refine kq 9 ?_ (hy := by intro w h; have z := heq; have z2 := str_tl; go_simp; try with_reducible rfl)
     refine kq 10 ?_; refine kq 11 ?_; refine kq 12 ?_
     refine zD ?_
     go_wp2_with fail
     exact bodyPost_ret (v := .tuple #[.slice (some ⟨b, off, none⟩) 0 0, .bool false]) (by simp [results, Tryz.results114, go_sem]) rfl (by rw [HL.out]; exact RetRead.none (grown_then HG5.out (hHeld.mono HG5.out.size)) _)
  ·cases is with
   | false =>
    have HL : Hid (ro = none) := qh (by rw [HO.out]; exact if_neg (fun h => by cases h.1))
    refine wp_region_held_drew (S := fun W' => Below W5.heap.size W5 W') (by kernel_rfl) (Below.refl _ _).drew (fun hHeld => ?_)
    refine kq 0 ?_; refine kq 1 ?_; refine kq 2 ?_; refine kq 3 ?_; refine tn 4 ?_; refine tn 5 ?_; refine tn 6 ?_; refine tn 7 ?_; refine tn 8 ?_; refine tn 9 ?_; refine kq 10 ?_; refine kq 11 ?_; refine kq 12 ?_
    refine zD ?_
    go_wp2_with fail
    exact bodyPost_ret (v := .tuple #[.slice (some ⟨b, off + 1, none⟩) r.length (cap - 1), .bool false]) (by simp [results, Tryz.results114, go_sem]) rfl (by rw [HL.out]; exact RetRead.none (grown_then HG5.out (hHeld.mono HG5.out.size)) _)
   | true =>
    by_cases hq2 : sp = x
    ·have heq : (sp == x) = true := by simpa using hq2
     have HL : Hid (ro = some ({ s.t with bytes := bs }, r)) := qh (by rw [HO.out]; exact if_pos ⟨rfl, hq2⟩)
     clear hq2
     refine wp_region_held_drew (S := fun W' => Below W5.heap.size W5 W') (by kernel_rfl) (Below.refl _ _).drew (fun hHeld => ?_)
     refine kq 0 ?_; refine kq 1 ?_; refine kq 2 ?_; refine kq 3 ?_; refine kq 4 ?_; refine kq 6 ?_; refine kq 7 ?_
     refine kq 8 ?_ (hy := by intro w h; have c := (h.cell (p := ⟨b, off, none⟩) hbl5).trans hx5; go_simp; try with_reducible rfl)
     refine zS 5 fun K hK => ?_
     go_simp
     refine (HHX.out _ hHeld).mono ?_; rintro e w6 ⟨rfl, hb6⟩; have HV6 := hHeld.trans (hb6.mono hHeld.size)
     go_wp2_with fail
     refine hK.out _ _ (HV6) (fun hHeld => ?_)
     clear hK K
     try simp only [qA, qB, qC, qD, qE, qF, qG]
     refine kq 9 ?_ (hy := by intro w h; have z := heq; have z2 := str_tl; go_simp; try with_reducible rfl)
     refine kq 10 ?_; refine kq 11 ?_; refine kq 12 ?_
     refine zD ?_
     go_wp2_with fail
     exact bodyPost_ret (v := .tuple #[.slice (some ⟨b, off + 1, none⟩) r.length (cap - 1), .bool true]) (by simp [results, Tryz.results114, go_sem]) rfl (by rw [HL.out]; exact RetRead.some (grown_then HG5.out (hHeld.mono HG5.out.size)) _ _ r (HS5.out.below hHeld hX5) (HI5.out.below hHeld (Nat.le_refl _)) ((SlP.tailB c1 c2 HV5.out hbY).below hHeld (Nat.le_refl _)) (fun _ => rfl))
    ·have heq : (sp == x) = false := by simpa using hq2
     have HL : Hid (ro = none) := qh (by rw [HO.out]; exact if_neg (fun h => hq2 h.2))
     clear hq2
     refine wp_region_held_drew (S := fun W' => Below W5.heap.size W5 W') (by kernel_rfl) (Below.refl _ _).drew (fun hHeld => ?_)
     refine kq 0 ?_; refine kq 1 ?_; refine kq 2 ?_; refine kq 3 ?_; refine kq 4 ?_; refine kq 6 ?_; refine kq 7 ?_
     refine kq 8 ?_ (hy := by intro w h; have c := (h.cell (p := ⟨b, off, none⟩) hbl5).trans hx5; go_simp; try with_reducible rfl)
     refine zS 5 fun K hK => ?_
     go_simp
     refine (HHX.out _ hHeld).mono ?_; rintro e w6 ⟨rfl, hb6⟩; have HV6 := hHeld.trans (hb6.mono hHeld.size)
     go_wp2_with fail
     refine hK.out _ _ (HV6) (fun hHeld => ?_)
     clear hK K
     try simp only [qA, qB, qC, qD, qE, qF, qG]
     refine kq 9 ?_ (hy := by intro w h; have z := heq; have z2 := str_tl; go_simp; try with_reducible rfl)
     refine kq 10 ?_; refine kq 11 ?_; refine kq 12 ?_
     refine zD ?_
     go_wp2_with fail
     exact bodyPost_ret (v := .tuple #[.slice (some ⟨b, off + 1, none⟩) r.length (cap - 1), .bool false]) (by simp [results, Tryz.results114, go_sem]) rfl (by rw [HL.out]; exact RetRead.none (grown_then HG5.out (hHeld.mono HG5.out.size)) _)
end Go.Proofs.YtdbgeobolongmaaGreatDoor
namespace Go.Proofs
open Go.Shelf
def Tryz.containsFunc_ren : Go.Shelf.Ren := ⟨fun | 17 => 111 | 15 => 147 | 20 => 171 | n => n, fun | 9 => 9 | 23 => 163 | 4 => 4 | 3 => 3 | 0 => 0 | 21 => 21 | n => n, fun | n => n⟩
theorem Tryz.containsFunc : Go.Proofs.LaysGw.n17 Tryz.prog Tryz.containsFunc_ren := {
 mixed := by kernel_rfl
 f15 := Tryz.func147.trans (congrArg some (by kernel_rfl))
 f17 := Tryz.func111.trans (congrArg some (by kernel_rfl))
 f20 := Tryz.func171.trans (congrArg some (by kernel_rfl))
 t0 := Tryz.underlying0
 a0 := Tryz.isAgg0
 z0 := Tryz.sizeOf0
 v0 := Tryz.zeroValue0
 i0 := by kernel_rfl
 t3 := Tryz.underlying3
 a3 := Tryz.isAgg3
 z3 := Tryz.sizeOf3
 v3 := Tryz.zeroValue3
 i3 := by kernel_rfl
 t4 := Tryz.underlying4
 a4 := Tryz.isAgg4
 z4 := Tryz.sizeOf4
 v4 := Tryz.zeroValue4
 i4 := by kernel_rfl
 t9 := Tryz.underlying9
 a9 := Tryz.isAgg9
 z9 := Tryz.sizeOf9
 v9 := Tryz.zeroValue9
 i9 := by kernel_rfl
 t21 := Tryz.underlying21
 a21 := Tryz.isAgg21
 z21 := Tryz.sizeOf21
 v21 := Tryz.zeroValue21
 i21 := by kernel_rfl
 t23 := Tryz.underlying163
 a23 := Tryz.isAgg163
 z23 := Tryz.sizeOf163
 v23 := Tryz.zeroValue163
 i23 := by kernel_rfl }
def Tryz.equalB_ren : Go.Shelf.Ren := ⟨fun | 33 => 75 | n => n, fun | 22 => 33 | 23 => 5 | 4 => 4 | 3 => 3 | 0 => 0 | n => n, fun | n => n⟩
theorem Tryz.equalB : Go.Proofs.SlLaysE.n33 Tryz.prog Tryz.equalB_ren := {
 mixed := by kernel_rfl
 f33 := ⟨Tryz.f75.name, by decide, Tryz.func75.trans (congrArg some (by kernel_rfl))⟩
 t0 := Tryz.underlying0
 a0 := Tryz.isAgg0
 z0 := Tryz.sizeOf0
 v0 := Tryz.zeroValue0
 t3 := Tryz.underlying3
 a3 := Tryz.isAgg3
 z3 := Tryz.sizeOf3
 v3 := Tryz.zeroValue3
 t4 := Tryz.underlying4
 a4 := Tryz.isAgg4
 z4 := Tryz.sizeOf4
 v4 := Tryz.zeroValue4
 t22 := Tryz.underlying33
 a22 := Tryz.isAgg33
 z22 := Tryz.sizeOf33
 v22 := Tryz.zeroValue33
 a23 := Tryz.isAgg5
 z23 := Tryz.sizeOf5 }
def Tryz.equalW_ren : Go.Shelf.Ren := ⟨fun | 8 => 74 | n => n, fun | 22 => 30 | 24 => 131 | 4 => 4 | 3 => 3 | 0 => 0 | n => n, fun | n => n⟩
theorem Tryz.equalW : Go.Proofs.SlLaysQ.n8 Tryz.prog Tryz.equalW_ren := {
 mixed := by kernel_rfl
 f8 := ⟨Tryz.f74.name, by decide, Tryz.func74.trans (congrArg some (by kernel_rfl))⟩
 t0 := Tryz.underlying0
 a0 := Tryz.isAgg0
 z0 := Tryz.sizeOf0
 v0 := Tryz.zeroValue0
 t3 := Tryz.underlying3
 a3 := Tryz.isAgg3
 z3 := Tryz.sizeOf3
 v3 := Tryz.zeroValue3
 t4 := Tryz.underlying4
 a4 := Tryz.isAgg4
 z4 := Tryz.sizeOf4
 v4 := Tryz.zeroValue4
 t22 := Tryz.underlying30
 a22 := Tryz.isAgg30
 z22 := Tryz.sizeOf30
 v22 := Tryz.zeroValue30 }
end Go.Proofs
namespace Go.Proofs.YtdbgeobolongmaaGreatDoor
open Go.RowKit Go.Shelf Go.Proofs Go.OctetPlain Go.PrefixPlain
def unp (n : Nat) : Bool := decide (n ≤ 32) || decide (126 < n)
theorem idx_unp (l : List UInt8) : ∀ f pos, l.length - pos ≤ f → decide (0 ≤ Lib.idxFuncFrom unp true (str l) f pos) = (l.drop pos).any fun c => unp c.toNat
 | 0, pos, h => by
  rw [List.drop_eq_nil_of_le (by omega)]
  rfl
 | f + 1, pos, h => by
  unfold Lib.idxFuncFrom
  by_cases hlt : pos < l.length
  ·have hps : pos < (str l).size := by rw [str_size]; exact hlt
   obtain ⟨c, hc0⟩ : ∃ c : UInt8, l[pos]'hlt = c := ⟨_, rfl⟩
   have hdr : l.drop pos = c :: l.drop (pos + 1) := by rw [List.drop_eq_getElem_cons hlt, hc0]
   have hgs := get_str l pos hlt
   rw [hc0] at hgs
   rw [if_pos hps, hdr, List.any_cons]
   by_cases hb : 128 ≤ c.toNat
   ·obtain ⟨d1, -, -, -, -⟩ := decode_skip (str l) pos hps (by rw [hgs]; exact hb)
    have e1 : unp (Utf8.decode (str l) pos).1 = true := by unfold unp; simp; omega
    have e2 : unp c.toNat = true := by unfold unp; simp; omega
    rw [if_pos e1, e2]
    simp
   ·have e : Utf8.decode (str l) pos = (c.toNat, 1) := by
     unfold Utf8.decode
     show (if ((str l).get! (pos + 0)).toNat < 128 then (((str l).get! (pos + 0)).toNat, 1) else _) = _
     rw [Nat.add_zero, hgs, if_pos (by omega)]
    rw [e]
    simp only
    split
    ·rename_i h1; rw [h1]; simp
    ·rename_i h1
     rw [idx_unp l f (pos + 1) (by omega), Bool.eq_false_iff.2 h1]
     rfl
  ·have hps : ¬ pos < (str l).size := by rw [str_size]; exact hlt
   rw [if_neg hps, List.drop_eq_nil_of_le (by omega)]
   rfl
theorem any_printed (l : List UInt8) (h : l ≠ []) : decide (0 ≤ Lib.idxFunc unp true (str l)) = !Sc.printed l := by
 unfold Lib.idxFunc
 rw [idx_unp l _ 0 (by rw [str_size]; omega), List.drop_zero]
 unfold Sc.printed
 simp only [ne_eq, h, not_false_eq_true, decide_true, Bool.true_and]
 rw [Bool.eq_iff_iff]
 simp only [List.any_eq_true, Bool.not_eq_true', List.all_eq_false]
 constructor
 ·rintro ⟨c, hc, h1⟩; refine ⟨c, hc, ?_⟩; unfold unp at h1; simp at h1 ⊢; omega
 ·rintro ⟨c, hc, h1⟩; refine ⟨c, hc, ?_⟩; unfold unp; simp at h1 ⊢; omega
theorem unp_at (w : World) : PredAt Tryz.prog 108 #[] encR unp w := fun W r _ => by
 unfold FnGives unp
 by_cases h1 : r ≤ 32 <;> by_cases h2 : 126 < r
 all_goals
  have z1 : (r : Int) ≤ 32 ↔ r ≤ 32 := by omega
  have z2 : (126 : Int) < (r : Int) ↔ 126 < r := by omega
  go_enter Tryz.func108, Tryz.ntmps108
  go_wp2
  all_goals first | (exfalso; omega) | (go_ret; exact ⟨by simp [h1, h2], 0, rfl⟩)
theorem contains_unp (x : List UInt8) (h : x ≠ []) (w : World) : Calls Tryz.prog 111 #[.string (str x), .func (.func 108) #[] #[]] w fun e w' => e = .returned (.bool (!Sc.printed x)) ∧ Below w.heap.size w w' := by
 have hcon := Any.strings_ContainsFunc Tryz.containsFunc 108 #[] (enters_of Tryz.func108 (by kernel_rfl) rfl) unp (str x) w (unp_at w)
 change Calls Tryz.prog 111 _ _ _ at hcon
 rw [any_printed x h] at hcon
 exact hcon
theorem texts_read (lo hi B : Nat) (w : World) (h1 : lo ≤ B) (h2 : B < hi) (hb : Blk w B 163 #[.func (.func 108) #[] #[]]) : ReadOK .T 110 #[.pointer (some ⟨B, 0, none⟩)] lo hi w := by
 intro W X s v l Y hY hN ha hh ht hX hs hin hw hl hv
 have hB := ha.blk hb h1 h2
 simp only [List.append_toArray, List.cons_append, List.nil_append]
 cases l with
 | nil =>
  have HO : Hid (Sc.read .T s.t [] = none) := qh rfl
  rw [HO.out]
  obtain ⟨pp, cap, rfl, c1, c2, hR, hq⟩ := hv
  go_enter Tryz.func110, Tryz.ntmps110
  go_wp2_with fail
  refine wp_region_held_drew (S := fun W' => Below W.heap.size W W') (by kernel_rfl) (Below.refl _ _).drew (fun hHeld => ?_)
  refine kq 0 ?_; refine kq 1 ?_; refine kq 2 ?_; refine kq 3 ?_; refine tn 4 ?_; refine tn 5 ?_; refine tn 6 ?_; refine tn 7 ?_; refine kq 8 ?_; refine kq 9 ?_; refine tn 10 ?_; refine tn 11 ?_; refine tn 12 ?_; refine tn 13 ?_; refine tn 14 ?_; refine kq 15 ?_
  refine zD ?_
  go_wp2_with fail
  exact bodyPost_ret (v := .tuple #[.slice none 0 0, .bool false]) (by simp [results, Tryz.results110, go_sem]) rfl (RetRead.none (grown_below hHeld _) _)
 | cons x r =>
  have HS := qh hs
  have HIn := qh hin
  have hXl := hs.lt
  obtain ⟨pp, cap, rfl, c1, c2, hR, hq⟩ := hv
  simp only [List.length_cons] at c1
  obtain ⟨b, off, rfl, hbl2, hc⟩ := hR.at (i := 0) (by simp)
  have hx := hc 0 (.string (str x)) rfl
  simp only [Nat.zero_mul, Nat.add_zero] at hx
  have hbY := hq _ rfl (by simp)
  have hbq := hY _ hbY
  have HR := qh hR
  have hl1 : r.length + 1 ≤ 1048576 := by have := hl.1; simpa using this
  have hn0 : ((r.length : Int) + 1 == 0) = false := by simp; omega
  have htl := str_tl
  have hBc := hB.cell 0
  simp only [List.getElem?_toArray, List.getElem?_cons_zero] at hBc
  have hBl := hB.lt
  have hx0 : (0 : Int) < (r.length : Int) + 1 := by omega
  clear hc hR hs hin ha hq ht hl hB hb
  by_cases h0 : x = []
  ·have HL : Hid (Sc.read .T s.t (x :: r) = none) := qh (by subst h0; simp [Sc.read, Sc.printed])
   have he0 : (x == ([] : List UInt8)) = true := by simpa using h0
   rw [HL.out]
   clear h0
   go_enter Tryz.func110, Tryz.ntmps110
   go_wp2_with fail
   refine wp_region_held_drew (S := fun W' => Below W.heap.size W W') (by kernel_rfl) (Below.refl _ _).drew (fun hHeld => ?_)
   refine kq 0 ?_; refine kq 1 ?_; refine kq 2 ?_; refine kq 3 ?_; refine kq 4 ?_; refine kq 5 ?_
   refine kq 6 ?_ (hy := by intro w h; have c := (h.cell (p := ⟨b, off, none⟩) hbl2).trans hx; go_simp; try with_reducible rfl)
   refine kq 7 ?_; refine kq 8 ?_; refine kq 9 ?_; refine tn 10 ?_; refine tn 11 ?_; refine tn 12 ?_; refine tn 13 ?_; refine tn 14 ?_; refine kq 15 ?_
   refine zD ?_
   go_wp2_with fail
   exact bodyPost_ret (v := .tuple #[.slice none 0 0, .bool false]) (by simp [results, Tryz.results110, go_sem]) rfl (RetRead.none (grown_below hHeld _) _)
  have he0 : (x == ([] : List UInt8)) = false := by simpa using h0
  have HC := qh fun W' => contains_unp x h0 W'
  clear h0
  have HO : Hid (Sc.read .T s.t (x :: r) = if Sc.printed x = true then some ({ s.t with text := x }, r) else none) := qh rfl
  generalize Sc.read .T s.t (x :: r) = ro at *
  generalize Sc.printed x = pr at *
  go_enter Tryz.func110, Tryz.ntmps110
  go_wp2_with fail
  refine wp_region_held_drew (S := fun W' => Below W.heap.size W W') (by kernel_rfl) (Below.refl _ _).drew (fun hHeld => ?_)
  refine kq 0 ?_; refine kq 1 ?_; refine kq 2 ?_; refine kq 3 ?_; refine kq 4 ?_; refine kq 5 ?_
  refine kq 6 ?_ (hy := by intro w h; have c := (h.cell (p := ⟨b, off, none⟩) hbl2).trans hx; go_simp; try with_reducible rfl)
  refine kq 7 ?_; refine kq 8 ?_; refine kq 9 ?_; refine kq 10 ?_; refine kq 11 ?_
  refine kq 12 ?_ (hy := by intro w h; have c := (h.cell (p := ⟨b, off, none⟩) hbl2).trans hx; go_simp; try with_reducible rfl)
  refine kq 13 ?_ (hy := by intro w h; have c := (h.cell (p := ⟨B, 0, none⟩) hBl).trans hBc; go_simp; try with_reducible rfl)
  refine zS 14 fun K hK => ?_
  go_simp
  refine (HC.out _).mono ?_; rintro e w6 ⟨rfl, hb6⟩; have HV6 := hHeld.trans (hb6.mono hHeld.size)
  go_wp2_with fail
  refine hK.out _ _ (HV6) (fun hHeld => ?_)
  clear hK K
  try simp only [qA, qB, qC, qD, qE, qF, qG]
  refine kq 15 ?_
  refine zD ?_
  cases pr with
  | false =>
   have HL : Hid (ro = none) := qh (by rw [HO.out]; rfl)
   go_wp2_with fail
   exact bodyPost_ret (v := .tuple #[.slice none 0 0, .bool false]) (by simp [results, Tryz.results110, go_sem]) rfl (by rw [HL.out]; exact RetRead.none (grown_below hHeld _) _)
  | true =>
   have HL : Hid (ro = some ({ s.t with text := x }, r)) := qh (by rw [HO.out]; rfl)
   have hx6 := (hHeld.cell (p := ⟨b, off, none⟩) hbl2).trans hx
   have HS6 := qh (HS.out.next hHeld)
   have c32 := HS6.out.c32
   have f32 := HS6.out.fz 32
   have HG : Hid (W.grownBy (w6.setCell ⟨X, 32, none⟩ (.string (str x))) (some X)) := qh (grown_trans (grown_below hHeld _) (grown_set _ _ _ _))
   have HV : Hid (RdP (w6.setCell ⟨X, 32, none⟩ (.string (str x))) 1 encS (some ⟨b, off, none⟩) (x :: r)) := qh (HR.out.grownS HG.out fun a e => by cases e; simp; exact fun h => hbq h.symm)
   have HI : Hid (Inner Y (w6.setCell ⟨X, 32, none⟩ (.string (str x))) { s with t := { s.t with text := x } }) := qh (by have h9 := HIn.out.grown HG.out (fun b hb => by simp; exact fun h => hY b hb h.symm); exact ⟨h9.l, h9.r, h9.ws, h9.b⟩)
   have h1le : (1 : Int) ≤ (r.length : Int) + 1 := by omega
   by_cases hcap : cap = 1
   ·subst hcap
    obtain rfl : r = [] := List.eq_nil_of_length_eq_zero (by omega)
    go_wp2_with fail
    exact bodyPost_ret (v := .tuple #[.slice (some ⟨b, off, none⟩) 0 0, .bool true]) (by simp [results, Tryz.results110, go_sem]) rfl (by rw [HL.out]; exact RetRead.some HG.out _ _ [] (HS6.out.setT x) HI.out (SlP.tailA (by simp) HV.out hbY) (fun _ => rfl))
   ·go_wp2_with fail
    exact bodyPost_ret (v := .tuple #[.slice (some ⟨b, off + 1, none⟩) r.length (cap - 1), .bool true]) (by simp [results, Tryz.results110, go_sem]) rfl (by rw [HL.out]; exact RetRead.some HG.out _ _ r (HS6.out.setT x) HI.out (SlP.tailB c1 c2 HV.out hbY) (fun _ => rfl))
def RetPart (p : Sc.Part) (W : World) (e : Ending) (W' : World) : Prop := ∃ vs vr, e = .returned (.agg #[vs, vr]) ∧ PartV W.heap.size W'.heap.size W' p vs vr ∧ Below W.heap.size W W'
theorem PartV.of {p : Sc.Part} {lo hi : Nat} {w : World} {f g : Nat} {cf cg : Array Value} (ef : Ent f) (eg : Ent g) (hs : ShowOK p f cf lo hi w) (hr : ReadOK p g cg lo hi w) : PartV lo hi w p (.func (.func f) #[] cf) (.func (.func g) #[] cg) := ⟨f, g, cf, cg, rfl, rfl, ef, eg, hs, hr⟩
theorem results_c1 {P : Program} {fn : Func} {p : Tmp} {ty : TypeId} (h : fn.results = #[.cell p ty]) (tmps : Array Value) (w : World) (g : Nat) (t : TypeId) (cs : Array Value) (fr : Nat × Nat) (d : TypeDesc)
  (hp : tmps.getD p undef = .pointer (some ⟨g, 0, none⟩)) (hg : w.heap[g]? = some (.cells cs t fr))
  (hu : P.underlying ty = some d) (hd : (match d with | .struct _ | .array _ _ => true | _ => false) = true) (hi : (P.info? ty).map (·.size) = some cs.size) :
  (results fn tmps).run P w = .ok (.agg cs) w := by
 have hp' : tmps[p]?.getD undef = .pointer (some ⟨g, 0, none⟩) := by simpa using hp
 simp [results, h, hp', asAddr, run_loadVar_row w g t ty cs fr d hg hu hd hi]
theorem oneF2 (f g : Fn) (a b c d : Array Value) : (#[Value.func f a b, Value.func g c d] : Array Value).all (·.oneCell') = true := by simp [Value.oneCell']
theorem infoPt : (Tryz.prog.info? 88).map (·.size) = some 2 := by kernel_rfl
theorem scr_spans (W : World) : Calls Tryz.prog 52 #[] W (RetPart .S W) := by
 have HK : Hid (∀ W', PartV W.heap.size W'.heap.size W' .S (.func (.func 95) #[] #[]) (.func (.func 96) #[] #[])) := qh fun W' => PartV.of (enters_of Tryz.func95 (by kernel_rfl) rfl) (enters_of Tryz.func96 (by kernel_rfl) rfl) (spans_show _ _ _) (spans_read _ _ _)
 go_enter Tryz.func52, Tryz.ntmps52
 go_wp2_with (refine wpList_store_new rfl _ _ _ rfl #[.func (.func 95) #[] #[], .func (.func 96) #[] #[]] rfl rfl _ _ infoPt rfl (oneF2 _ _ _ _ _ _) ?_)
 refine bodyPost_ret (results_c1 rfl _ _ W.heap.size 88 #[.func (.func 95) #[] #[], .func (.func 96) #[] #[]] (0, 0) _ rfl (heap_alloc_new W _) Tryz.underlying88 rfl infoPt) rfl ⟨_, _, rfl, HK.out _, (Below.refl _ _).alloc (Nat.le_refl _) _⟩
theorem scr_hops (W : World) : Calls Tryz.prog 53 #[] W (RetPart .H W) := by
 have HK : Hid (∀ W', PartV W.heap.size W'.heap.size W' .H (.func (.func 98) #[] #[]) (.func (.func 100) #[] #[])) := qh fun W' => PartV.of (enters_of Tryz.func98 (by kernel_rfl) rfl) (enters_of Tryz.func100 (by kernel_rfl) rfl) (hops_show _ _ _) (hops_read _ _ _)
 go_enter Tryz.func53, Tryz.ntmps53
 go_wp2_with (refine wpList_store_new rfl _ _ _ rfl #[.func (.func 98) #[] #[], .func (.func 100) #[] #[]] rfl rfl _ _ infoPt rfl (oneF2 _ _ _ _ _ _) ?_)
 refine bodyPost_ret (results_c1 rfl _ _ W.heap.size 88 #[.func (.func 98) #[] #[], .func (.func 100) #[] #[]] (0, 0) _ rfl (heap_alloc_new W _) Tryz.underlying88 rfl infoPt) rfl ⟨_, _, rfl, HK.out _, (Below.refl _ _).alloc (Nat.le_refl _) _⟩
theorem scr_ways (W : World) : Calls Tryz.prog 54 #[] W (RetPart .W W) := by
 have HK : Hid (∀ W', PartV W.heap.size W'.heap.size W' .W (.func (.func 102) #[] #[]) (.func (.func 103) #[] #[])) := qh fun W' => PartV.of (enters_of Tryz.func102 (by kernel_rfl) rfl) (enters_of Tryz.func103 (by kernel_rfl) rfl) (ways_show _ _ _) (ways_read _ _ _)
 go_enter Tryz.func54, Tryz.ntmps54
 go_wp2_with (refine wpList_store_new rfl _ _ _ rfl #[.func (.func 102) #[] #[], .func (.func 103) #[] #[]] rfl rfl _ _ infoPt rfl (oneF2 _ _ _ _ _ _) ?_)
 refine bodyPost_ret (results_c1 rfl _ _ W.heap.size 88 #[.func (.func 102) #[] #[], .func (.func 103) #[] #[]] (0, 0) _ rfl (heap_alloc_new W _) Tryz.underlying88 rfl infoPt) rfl ⟨_, _, rfl, HK.out _, (Below.refl _ _).alloc (Nat.le_refl _) _⟩
theorem scr_prefixes (W : World) : Calls Tryz.prog 55 #[] W (RetPart .P W) := by
 have HK : Hid (∀ W', PartV W.heap.size W'.heap.size W' .P (.func (.func 104) #[] #[]) (.func (.func 106) #[] #[])) := qh fun W' => PartV.of (enters_of Tryz.func104 (by kernel_rfl) rfl) (enters_of Tryz.func106 (by kernel_rfl) rfl) (prefixes_show _ _ _) (prefixes_read _ _ _)
 go_enter Tryz.func55, Tryz.ntmps55
 go_wp2_with (refine wpList_store_new rfl _ _ _ rfl #[.func (.func 104) #[] #[], .func (.func 106) #[] #[]] rfl rfl _ _ infoPt rfl (oneF2 _ _ _ _ _ _) ?_)
 refine bodyPost_ret (results_c1 rfl _ _ W.heap.size 88 #[.func (.func 104) #[] #[], .func (.func 106) #[] #[]] (0, 0) _ rfl (heap_alloc_new W _) Tryz.underlying88 rfl infoPt) rfl ⟨_, _, rfl, HK.out _, (Below.refl _ _).alloc (Nat.le_refl _) _⟩
theorem scr_packets (W : World) : Calls Tryz.prog 57 #[] W (RetPart .B W) := by
 have HK : Hid (∀ W', PartV W.heap.size W'.heap.size W' .B (.func (.func 112) #[] #[]) (.func (.func 114) #[] #[])) := qh fun W' => PartV.of (enters_of Tryz.func112 (by kernel_rfl) rfl) (enters_of Tryz.func114 (by kernel_rfl) rfl) (packets_show _ _ _) (packets_read _ _ _)
 go_enter Tryz.func57, Tryz.ntmps57
 go_wp2_with (refine wpList_store_new rfl _ _ _ rfl #[.func (.func 112) #[] #[], .func (.func 114) #[] #[]] rfl rfl _ _ infoPt rfl (oneF2 _ _ _ _ _ _) ?_)
 refine bodyPost_ret (results_c1 rfl _ _ W.heap.size 88 #[.func (.func 112) #[] #[], .func (.func 114) #[] #[]] (0, 0) _ rfl (heap_alloc_new W _) Tryz.underlying88 rfl infoPt) rfl ⟨_, _, rfl, HK.out _, (Below.refl _ _).alloc (Nat.le_refl _) _⟩
theorem two_blks (W : World) (o1 o2 : Obj) : ((W.alloc o1).alloc o2).heap[W.heap.size]? = some o1 ∧ ((W.alloc o1).alloc o2).heap[W.heap.size + 1]? = some o2 := by
 refine ⟨(Below.heap_alloc _ _ _ (by simp)).trans (heap_alloc_new W o1), ?_⟩
 have := heap_alloc_new (W.alloc o1) o2
 rw [World.size_alloc] at this
 exact this
theorem scr_texts (W : World) : Calls Tryz.prog 56 #[] W (RetPart .T W) := by
 have hmf : ∀ (fn : Fn) (first cap : Array Value) (w : World), (Instr.makeFunc fn first cap).run Tryz.prog w = .ok (.func fn first cap) w := fun _ _ _ _ => rfl
 have HK : Hid (∀ W', Blk W' (W.heap.size + 1) 163 #[.func (.func 108) #[] #[]] → W.heap.size + 2 ≤ W'.heap.size → PartV W.heap.size W'.heap.size W' .T (.func (.func 109) #[] #[]) (.func (.func 110) #[] #[.pointer (some ⟨W.heap.size + 1, 0, none⟩)])) := qh fun W' hb hz => PartV.of (enters_of Tryz.func109 (by kernel_rfl) rfl) (enters_of Tryz.func110 (by kernel_rfl) rfl) (texts_show _ _ _) (texts_read _ _ (W.heap.size + 1) _ (by omega) (by omega) hb)
 go_enter Tryz.func56, Tryz.ntmps56
 go_wp2_with fail
 have h2 := two_blks W (.cells #[.func (.func 109) #[] #[], .func (.func 110) #[] #[.pointer (some ⟨W.heap.size + 1, 0, none⟩)]] 88) (.cells #[.func (.func 108) #[] #[]] 163)
 refine bodyPost_ret (results_c1 rfl _ _ W.heap.size 88 _ (0, 0) _ rfl h2.1 Tryz.underlying88 rfl infoPt) rfl ⟨_, _, rfl, HK.out _ h2.2 (by simp), ((Below.refl _ _).alloc (Nat.le_refl _) _).alloc (by simp) _⟩
theorem scr_numberOf {p : Sc.Part} {k o : Nat} {get : Sc.Stp → Int} {set : Sc.Stp → Int → Sc.Stp} (N : NumAt p k o get set) (W : World) : Calls Tryz.prog 47 #[.func (.func k) #[] #[]] W (RetPart p W) := by
 have hmf : ∀ (fn : Fn) (first cap : Array Value) (w : World), (Instr.makeFunc fn first cap).run Tryz.prog w = .ok (.func fn first cap) w := fun _ _ _ _ => rfl
 have HK : Hid (∀ W', Blk W' W.heap.size 110 (boxAt k) → W.heap.size < W'.heap.size → PartV W.heap.size W'.heap.size W' p (.func (.func 92) #[] #[.pointer (some ⟨W.heap.size, 0, none⟩)]) (.func (.func 93) #[] #[.pointer (some ⟨W.heap.size, 0, none⟩)])) := qh fun W' hb hz => PartV.of (enters_of Tryz.func92 (by kernel_rfl) rfl) (enters_of Tryz.func93 (by kernel_rfl) rfl) (num_show N _ _ _ _ (Nat.le_refl _) hz hb) (num_read N _ _ _ _ (Nat.le_refl _) hz hb)
 go_enter Tryz.func47, Tryz.ntmps47
 go_wp2_with fail
 have h2 := two_blks W (.cells #[.func (.func k) #[] #[]] 110) (.cells #[.func (.func 92) #[] #[.pointer (some ⟨W.heap.size, 0, none⟩)], .func (.func 93) #[] #[.pointer (some ⟨W.heap.size, 0, none⟩)]] 88)
 refine bodyPost_ret (results_c1 rfl _ _ (W.heap.size + 1) 88 _ (0, 0) _ rfl h2.2 Tryz.underlying88 rfl infoPt) rfl ⟨_, _, rfl, HK.out _ h2.1 (by simp; omega), ((Below.refl _ _).alloc (Nat.le_refl _) _).alloc (by simp) _⟩
end Go.Proofs.YtdbgeobolongmaaGreatDoor
