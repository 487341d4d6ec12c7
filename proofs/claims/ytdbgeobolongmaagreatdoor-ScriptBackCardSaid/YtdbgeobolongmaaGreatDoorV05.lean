/- Part of the proof: contracts of the functions that the statements of layer 32 reach. -/
import Derived.Lib.FrozenHead2
import Derived.Shelf.Strings.BuilderK
import Derived.Test.YtdbgeobolongmaaGreatDoorV02
import Derived.Test.YtdbgeobolongmaaGreatDoorV03
import Derived.Test.YtdbgeobolongmaaGreatDoorV04
set_option linter.unusedVariables false
set_option linter.unusedSimpArgs false
set_option maxRecDepth 1000000
set_option maxHeartbeats 4000000
namespace Go.Proofs.YtdbgeobolongmaaGreatDoor
open Go.RowKit Go.Shelf Go.Proofs
theorem sizeBuilder : (Tryz.prog.info? 134).map (·.size) = some 2 := by kernel_rfl
theorem liesBuilder : liesAt Tryz.prog Tryz.prog.depth 134 (2 / Tryz.prog.cellsOf 134) 0 134 1 = true := by kernel_rfl
theorem infoByte : (Tryz.prog.info? 5).map (fun i => (i.zero, i.size, i.bytes)) = some (some (.int .u8 0), 1, 1) := by kernel_rfl
abbrev IsB (B b : Nat) (bs : List Value) (w : World) : Prop := Lib.IsBuilderF 134 5 B b bs w
abbrev BAt (B b : Nat) (bs : List Value) (w : World) : Prop := Lib.BuilderAtF 134 5 B b (.pointer (some ⟨b, 0, none⟩)) bs w
theorem copyCheck_used (b : Nat) (w : World) (h0 : w.cell? ⟨b, 0, none⟩ = some (.pointer (some ⟨b, 0, none⟩))) :
  Calls Tryz.prog 119 #[.pointer (some ⟨b, 0, none⟩)] w fun e w' => e = .returned (.tuple #[]) ∧ w' = w := by
 obtain ⟨j, hj, _⟩ := Option.map_eq_some_iff.1 sizeBuilder
 go_enter Tryz.func119, Tryz.ntmps119
 go_wp2
 rw [Lib.run_neq_ptr_same w _ Tryz.underlying132 hj]
 go_wp2
 go_end0
 exact ⟨rfl, rfl⟩
theorem copyCheck_fresh (b : Nat) (w : World) (h0 : w.cell? ⟨b, 0, none⟩ = some (.pointer none)) (hsh : w.shape? b = some (134, 2)) (hfz : w.frozen? ⟨b, 0, none⟩ = false) :
  Calls Tryz.prog 119 #[.pointer (some ⟨b, 0, none⟩)] w fun e w' => e = .returned (.tuple #[]) ∧ w' = w.setCell ⟨b, 0, none⟩ (.pointer (some ⟨b, 0, none⟩)) := by
 obtain ⟨j, hj, hjs⟩ := Option.map_eq_some_iff.1 sizeBuilder
 go_enter Tryz.func119, Tryz.ntmps119
 go_wp2
 rw [Lib.run_to_unsafe w ⟨b, 0, none⟩ Tryz.underlying132 Tryz.underlying198 hj (by rw [hjs]; decide) hsh (Nat.zero_lt_succ 1)]
 simp only [Result.andThen]
 rw [Oper.upon_value]
 go_wp2
 rw [run_callFunc_extern Tryz.func152 (by kernel_rfl) (by kernel_rfl) (by kernel_rfl) (e := Extern.AbiNoEscape.same) (by kernel_rfl)]
 rw [Lib.run_noEscape]
 simp only [Result.andThen]
 rw [Oper.upon_value]
 go_wp2
 rw [Lib.run_from_unsafe w ⟨b, 0, none⟩ Tryz.underlying198 Tryz.underlying132 hj hsh liesBuilder]
 simp only [Result.andThen]
 rw [Oper.upon_value]
 go_wp2
 go_end0
 exact ⟨rfl, rfl⟩
theorem copyCheck (B b : Nat) (bs : List Value) (w : World) (h : IsB B b bs w) :
  Calls Tryz.prog 119 #[.pointer (some ⟨b, 0, none⟩)] w fun e w' => e = .returned (.tuple #[]) ∧ (BAt B b bs w' ∧ Below B w w' ∧ Lib.OthersKept 5 (some b) w w') := by
 rcases h with h | h
 ·refine (copyCheck_fresh b w h.cell0 h.shape h.frozen0).mono ?_
  rintro e w' ⟨rfl, rfl⟩
  exact ⟨rfl, h.used _, (Below.refl B w).setCell (p := ⟨b, 0, none⟩) h.1 _, (Lib.OthersKept.refl _ _ w).setCell ⟨b, 0, none⟩ rfl _⟩
 ·refine (copyCheck_used b w h.cell0).mono ?_
  rintro e w' ⟨rfl, rfl⟩
  exact ⟨rfl, h, Below.refl B _, Lib.OthersKept.refl _ _ _⟩
theorem writeByte (B b : Nat) (bs : List Value) (c : Int) (w : World) (h : IsB B b bs w) (hlen : bs.length + 1 ≤ 140737488355328) (hBw : B ≤ w.heap.size) :
  Calls Tryz.prog 148 #[.pointer (some ⟨b, 0, none⟩), .int .u8 c] w fun e w' => e = .returned .nilIface ∧ (BAt B b (bs ++ [.int .u8 c]) w' ∧ Below B w w' ∧ Lib.OthersKept 5 (some b) w w') := by
 obtain ⟨i0, hi, hz0, hz1, hz2⟩ := info_parts infoByte
 go_enter Tryz.func148, Tryz.ntmps148
 go_wp2_with (go_at_call 119; refine (copyCheck B b bs _ h).mono ?_)
 rintro e w1 ⟨rfl, h1, hb1, hk1⟩
 obtain ⟨hB, v, hbk, hown, hne⟩ := h1
 have c0 : w1.cell? ⟨b, 0, none⟩ = some (.pointer (some ⟨b, 0, none⟩)) := by rw [Lib.cell_of_heap hbk]; rfl
 have c1 : w1.cell? ⟨b, 1, none⟩ = some v := by rw [Lib.cell_of_heap hbk]; rfl
 go_wp2_with (at_builtin; refine wpList_append_ownF _ rfl _ _ 33 rfl B 5 i0 (.int .u8 0) 1 1 Tryz.underlying33 hi hz0 hz1 hz2 rfl (by decide) _ _ _ rfl (hown.alloc _) ⟨w1.heap.size, 0, none⟩ 1 1 [.int .u8 c] rfl rfl ?c1 ?c2 ?c3 ?c4 ?c5 ?_)
 case c1 =>
  intro j u hj
  match j, hj with
  | 0, hj => simp at hj; subst hj; simp [Addr.add]
 case c2 => intro u hu; simp at hu; subst hu; rfl
 case c3 => unfold maxLen; omega
 case c4 => omega
 case c5 => have := hb1.size; simp; omega
 intro v' w2 hown' hgrow _
 have hlt : b < w1.heap.size := by
  rcases Nat.lt_or_ge b w1.heap.size with h' | h'
  ·exact h'
  ·simp [Array.getElem?_eq_none h'] at hbk
 have hb2 : w2.heap[b]? = some (.cells #[.pointer (some ⟨b, 0, none⟩), v] 134 (0, 0)) := by
  rw [hgrow.block b (by simp; omega) (fun e => hne e.symm), Lib.alloc_old w1 _ b hlt]
  exact hbk
 have d0 : w2.cell? ⟨b, 0, none⟩ = some (.pointer (some ⟨b, 0, none⟩)) := by rw [Lib.cell_of_heap hb2]; rfl
 have d1 : w2.cell? ⟨b, 1, none⟩ = some v := by rw [Lib.cell_of_heap hb2]; rfl
 have f1 : w2.frozen? ⟨b, 1, none⟩ = false := Lib.frozen_of_heap hb2 1
 obtain ⟨g, cap, rfl⟩ : ∃ g cap, v' = .slice (some ⟨g, 0, none⟩) (bs.length + 1) cap := by
  rcases hown'.2 with ⟨_, h0⟩ | ⟨g, cap, cur, fz, hv, _⟩
  ·omega
  ·exact ⟨g, cap, hv⟩
 go_wp2
 go_ret
 refine ⟨rfl, ?_, ?_, ((hk1.alloc _).grown hgrow (Lib.ownsRowF_kind (hown.alloc _))).setCell ⟨b, 1, none⟩ rfl _⟩
 ·exact Lib.BuilderAtF.put (T := 134) (e := 5) hB hb2 (bs' := bs ++ [.int .u8 c]) (by simpa using hown') (by decide)
 ·exact ((hb1.alloc (by have := hb1.size; omega) _).grown hgrow (by have := hb1.size; simp; omega) (fun k hk => (hown.lt k hk).1)).setCell (p := ⟨b, 1, none⟩) hB _
theorem builderExtra : Builder.Extra Tryz.prog Tryz.builderString_ren := {
 sizeBuilder := sizeBuilder
 liesBuilder := liesBuilder
 t5 := Tryz.underlying5
 a5 := fun w => run_isAgg_plain Tryz.underlying5 rfl w
 z5 := Tryz.sizeOf5
 v5 := Tryz.zeroValue5
 infoByte := infoByte
 cellsByte := by kernel_rfl
 sizeByte := by kernel_rfl
 neB5 := by decide }
end Go.Proofs.YtdbgeobolongmaaGreatDoor
namespace Go.Proofs.YtdbgeobolongmaaGreatDoor
open Go.RowKit Go.Shelf Go.Proofs Go.OctetPlain
theorem str_tl (l : List UInt8) : (str l).toList = l := ByteArray.toList_mk l
theorem octet_Number (l : List UInt8) (hl : l.length ≤ 1073741824) (most : Int) (w : World) (ht : Tabs w) :
  Calls Tryz.prog 94 #[.string (str l), .int .i64 most] w fun e w' => e = .returned (.tuple #[.int .i64 ((number l most).getD 0), .bool (number l most).isSome]) ∧ Below w.heap.size w w' := by
 have hsz : (str l).size = l.length := str_size l
 have hll : (str l).data.toList = l := list_str l
 match ha : Lib.atoiAll l with
 | Lib.NumEnd.syntax =>
  obtain ⟨tp, p, hv⟩ := ht.syn
  have hcon := Any.strconv_Atoi_syntax_var Tryz.atoi (str l) (by omega) (by rw [hll]; exact ha) tp p w hv
  change Calls Tryz.prog 134 _ _ _ at hcon
  rw [show number l most = none by unfold number; rw [ha]]
  have HC := qh hcon
  clear hcon hv ha ht
  go_enter Tryz.func94, Tryz.ntmps94
  go_wp2_with fail
  refine HC.out.mono ?_
  rintro e w1 ⟨g, rfl, _, _, hb⟩
  go_wp2_with fail
  exact bodyPost_ret (v := .tuple #[.int .i64 0, .bool false]) (by simp [results, Tryz.results94, go_sem]) rfl ⟨rfl, hb⟩
 | .range =>
  obtain ⟨tp, p, hv⟩ := ht.rng
  have hcon := Any.strconv_Atoi_range_var Tryz.atoi (str l) (by omega) (by rw [hll]; exact ha) tp p w hv
  change Calls Tryz.prog 134 _ _ _ at hcon
  rw [show number l most = none by unfold number; rw [ha]]
  have HC := qh hcon
  clear hcon hv ha ht
  go_enter Tryz.func94, Tryz.ntmps94
  go_wp2_with fail
  refine HC.out.mono ?_
  rintro e w1 ⟨g, rfl, _, _, hb⟩
  go_wp2_with fail
  exact bodyPost_ret (v := .tuple #[.int .i64 0, .bool false]) (by simp [results, Tryz.results94, go_sem]) rfl ⟨rfl, hb⟩
 | .ok v =>
  have hcon := Any.strconv_Atoi_ok Tryz.atoi (str l) (by omega) v (by rw [hll]; exact ha) w
  change Calls Tryz.prog 134 _ _ _ at hcon
  have hcon' : Calls Tryz.prog 134 #[.string (str l)] w fun e w' => e = .returned (.tuple #[.int .i64 v, .nilIface]) ∧ Below w.heap.size w w' := by
   refine hcon.mono ?_
   rintro e w' ⟨rfl, h⟩
   refine ⟨rfl, ?_⟩
   rcases h with rfl | ⟨t, rfl⟩
   ·exact Below.refl _ _
   ·exact Lib.below_freeze ((Below.drew (Below.refl _ w)).alloc (Nat.le_refl _) _) (p := ⟨w.heap.size, _, none⟩) (Nat.le_refl _) 1
  have hnum : number l most = if 0 ≤ v ∧ v ≤ most ∧ Lib.itoa v = l then some v else none := by unfold number; rw [ha]
  obtain ⟨hv0, hv1⟩ := Lib.atoiAll_bounds ha
  have HC := qh hcon'
  have HN := qh hnum
  clear hcon hcon' hnum ha
  by_cases h1 : v < 0
  ·rw [HN.out, if_neg (by omega)]
   go_enter Tryz.func94, Tryz.ntmps94
   go_wp2_with fail
   refine HC.out.mono ?_
   rintro e w1 ⟨rfl, hb⟩
   go_wp2_with fail
   exact bodyPost_ret (v := .tuple #[.int .i64 0, .bool false]) (by simp [results, Tryz.results94, go_sem]) rfl ⟨rfl, hb⟩
  by_cases h2 : most < v
  ·rw [HN.out, if_neg (by omega)]
   go_enter Tryz.func94, Tryz.ntmps94
   go_wp2_with fail
   refine HC.out.mono ?_
   rintro e w1 ⟨rfl, hb⟩
   go_wp2_with fail
   exact bodyPost_ret (v := .tuple #[.int .i64 0, .bool false]) (by simp [results, Tryz.results94, go_sem]) rfl ⟨rfl, hb⟩
  have HD := qh fun W (h : Tabs W) => octet_Digits v ⟨hv0, hv1⟩ W h
  by_cases h3 : Lib.itoa v = l
  ·rw [HN.out, if_pos ⟨by omega, by omega, h3⟩]
   have h3' : str (Lib.itoa v) = str l := by rw [h3]
   clear h3
   go_enter Tryz.func94, Tryz.ntmps94
   go_wp2_with fail
   refine HC.out.mono ?_
   rintro e w1 ⟨rfl, hb⟩
   go_wp2_with fail
   refine (HD.out _ (ht.below hb)).mono ?_
   rintro e w2 ⟨rfl, hb2⟩
   rw [h3']
   go_wp2_with fail
   exact bodyPost_ret (v := .tuple #[.int .i64 v, .bool true]) (by simp [results, Tryz.results94, go_sem]) rfl ⟨rfl, hb.trans (hb2.mono hb.size)⟩
  ·rw [HN.out, if_neg (fun h => h3 h.2.2)]
   have htl := str_tl
   have hbq : (Lib.itoa v == l) = false := by simp [h3]
   clear h3
   go_enter Tryz.func94, Tryz.ntmps94
   go_wp2_with fail
   refine HC.out.mono ?_
   rintro e w1 ⟨rfl, hb⟩
   go_wp2_with fail
   refine (HD.out _ (ht.below hb)).mono ?_
   rintro e w2 ⟨rfl, hb2⟩
   go_wp2_with fail
   exact bodyPost_ret (v := .tuple #[.int .i64 0, .bool false]) (by simp [results, Tryz.results94, go_sem]) rfl ⟨rfl, hb.trans (hb2.mono hb.size)⟩
theorem hexdig (n : Nat) (hn : n < 16) (h : n < ByteArray.size ⟨#[48, 49, 50, 51, 52, 53, 54, 55, 56, 57, 97, 98, 99, 100, 101, 102]⟩) : (⟨#[48, 49, 50, 51, 52, 53, 54, 55, 56, 57, 97, 98, 99, 100, 101, 102]⟩ : ByteArray)[n]'h = letter n := by
 match n, hn, h with
 | 0, _, _ => rfl
 | 1, _, _ => rfl
 | 2, _, _ => rfl
 | 3, _, _ => rfl
 | 4, _, _ => rfl
 | 5, _, _ => rfl
 | 6, _, _ => rfl
 | 7, _, _ => rfl
 | 8, _, _ => rfl
 | 9, _, _ => rfl
 | 10, _, _ => rfl
 | 11, _, _ => rfl
 | 12, _, _ => rfl
 | 13, _, _ => rfl
 | 14, _, _ => rfl
 | 15, _, _ => rfl
 | n + 16, hn, _ => exact absurd hn (by omega)
theorem hex_append : ∀ (xs ys : List UInt8), hex (xs ++ ys) = hex xs ++ hex ys
 | [], ys => rfl
 | c :: r, ys => by simp only [List.cons_append, hex]; rw [hex_append r ys]
theorem hex_take {l : List UInt8} {i : Nat} (h : i < l.length) : hex (l.take (i + 1)) = hex (l.take i) ++ [letter (l[i].toNat / 16)] ++ [letter (l[i].toNat % 16)] := by
 rw [List.take_succ_eq_append_getElem h, hex_append]
 simp [hex]
theorem hex_length : ∀ l : List UInt8, (hex l).length = 2 * l.length
 | [] => rfl
 | c :: r => by simp only [hex, List.length_cons]; rw [hex_length r]; omega
theorem cells_snoc (l : List UInt8) (c : UInt8) : Lib.byteCells l ++ [.int .u8 (c.toNat : Int)] = Lib.byteCells (l ++ [c]) := by simp [Lib.byteCells]
theorem cells_length (l : List UInt8) : (Lib.byteCells l).length = l.length := by simp [Lib.byteCells]
theorem and15 (c : Nat) (hc : c < 256) : bits .and .u8 (c : Int) 15 = ((c % 16 : Nat) : Int) := by
 have : ∀ c : Fin 256, bits .and .u8 ((c : Nat) : Int) 15 = (((c : Nat) % 16 : Nat) : Int) := by decide +kernel
 exact this ⟨c, hc⟩
theorem octet_Hex (l : List UInt8) (hl : l.length ≤ 1073741824) (v : Value) (w : World) (hv : SlR w 1 encB v l) :
  Calls Tryz.prog 113 #[v] w fun e w' => e = .returned (.string (str (hex l))) ∧ Below w.heap.size w w' := by
 have HV := qh hv
 obtain ⟨p, cap, rfl, hc1, hc2, hR⟩ := hv
 go_enter Tryz.func113, Tryz.ntmps113
 go_wp2_with fail
 go_loopw [8] (fun i wr => ∃ k : Nat, k ≤ l.length ∧ i = .int .i64 k ∧ Hid (IsB w.heap.size w.heap.size (Lib.byteCells (hex (l.take k))) wr ∧ Below w.heap.size w wr)) (fun i _ => l.length - (intOf i).toNat)
 case atStart => exact ⟨0, Nat.zero_le _, rfl, qh ⟨Lib.IsBuilderF.of (Lib.fresh_isBuilder _ _ w), (Below.refl _ _).alloc (Nat.le_refl _) _⟩⟩
 case round =>
  obtain ⟨k, hk, rfl, HI⟩ := hrel
  by_cases hlt : k < l.length
  ·obtain ⟨g, off, rfl, hbs, hx⟩ := SlR.atB (hR.below HI.out.2 (Nat.le_refl _)) hlt
   have hc : l[k].toNat < 256 := l[k].toNat_lt
   have hA := and15 l[k].toNat hc
   have h1 := hexdig (l[k].toNat / 16) (by omega)
   have h2 := hexdig (l[k].toNat % 16) (by omega)
   have hn : (hex (l.take k)).length ≤ 2147483648 := by rw [hex_length, List.length_take]; omega
   go_wp2_with fail
   refine (writeByte w.heap.size w.heap.size _ _ wr HI.out.1 (by rw [cells_length]; omega) HI.out.2.size).mono ?_
   rintro e w1 ⟨rfl, hat1, hb1, _⟩
   rw [cells_snoc] at hat1
   have HB1 := qh (HI.out.2.trans hb1)
   have HAT := qh hat1
   clear hat1 hb1
   go_wp2_with fail
   refine (writeByte w.heap.size w.heap.size _ _ w1 (Or.inr HAT.out) (by rw [cells_length, List.length_append]; simp; omega) HB1.out.size).mono ?_
   rintro e w2 ⟨rfl, hat2, hb2, _⟩
   rw [cells_snoc, ← hex_take hlt] at hat2
   have HB2 := qh (HB1.out.trans hb2)
   have HAT2 := qh hat2
   clear hat2 hb2
   go_wp2_with fail
   exact ⟨⟨k + 1, by omega, by go_num, qh ⟨Or.inr HAT2.out, HB2.out⟩⟩, by simp [intOf]; omega⟩
  ·have hk' : l.take k = l := List.take_of_length_le (by omega)
   rw [hk'] at HI
   have hcon := Any.Builder_String_any_k Tryz.builderString builderExtra w.heap.size w.heap.size (hex l) wr HI.out.1 HI.out.2.size
   change Calls Tryz.prog 72 _ _ _ at hcon
   have HC := qh hcon
   clear hcon
   go_wp2_with fail
   refine HC.out.mono ?_
   rintro e w1 ⟨rfl, _, hb1, _⟩
   go_wp2_with fail
   go_ret
   exact ⟨rfl, HI.out.2.trans hb1⟩
theorem encode_big (r : Int) (h : 128 ≤ r) : 2 ≤ (Utf8.encode r).size ∧ (Utf8.encode r).size ≤ 4 ∧ ∀ i (h : i < (Utf8.encode r).size), 128 ≤ ((Utf8.encode r)[i]'h).toNat := by
 have key : ∀ c : Nat, 128 ≤ c → ∀ s : ByteArray, s = (if c < 0x80 then (⟨#[UInt8.ofNat c]⟩ : ByteArray)
   else if c < 0x800 then ⟨#[UInt8.ofNat (0xC0 + c / 64), UInt8.ofNat (0x80 + c % 64)]⟩
   else if c < 0x10000 then ⟨#[UInt8.ofNat (0xE0 + c / 4096), UInt8.ofNat (0x80 + c / 64 % 64), UInt8.ofNat (0x80 + c % 64)]⟩
   else ⟨#[UInt8.ofNat (0xF0 + c / 262144 % 16), UInt8.ofNat (0x80 + c / 4096 % 64), UInt8.ofNat (0x80 + c / 64 % 64), UInt8.ofNat (0x80 + c % 64)]⟩) →
   2 ≤ s.size ∧ s.size ≤ 4 ∧ ∀ i (h : i < s.size), 128 ≤ (s[i]'h).toNat := by
  intro c hc s hs
  have hb : ∀ n, 128 ≤ n → n < 256 → 128 ≤ (UInt8.ofNat n).toNat := fun n h1 h2 => by rw [UInt8.toNat_ofNat']; omega
  rw [if_neg (by omega)] at hs
  split at hs
  ·subst hs
   refine ⟨show 2 ≤ 2 by omega, show 2 ≤ 4 by omega, fun i hi => ?_⟩
   match i, hi with
   | 0, _ => exact hb _ (by omega) (by omega)
   | 1, _ => exact hb _ (by omega) (by omega)
  ·split at hs
   ·subst hs
    refine ⟨show 2 ≤ 3 by omega, show 3 ≤ 4 by omega, fun i hi => ?_⟩
    match i, hi with
    | 0, _ => exact hb _ (by omega) (by omega)
    | 1, _ => exact hb _ (by omega) (by omega)
    | 2, _ => exact hb _ (by omega) (by omega)
   ·subst hs
    refine ⟨show 2 ≤ 4 by omega, show 4 ≤ 4 by omega, fun i hi => ?_⟩
    match i, hi with
    | 0, _ => exact hb _ (by omega) (by omega)
    | 1, _ => exact hb _ (by omega) (by omega)
    | 2, _ => exact hb _ (by omega) (by omega)
    | 3, _ => exact hb _ (by omega) (by omega)
 have hc : 128 ≤ (if Utf8.valid r then r.toNat else Utf8.runeError) ∧ (if Utf8.valid r then r.toNat else Utf8.runeError) ≤ 1114111 := by
  split
  ·rename_i hv
   unfold Utf8.valid at hv
   simp only [Bool.or_eq_true, Bool.and_eq_true, decide_eq_true_eq] at hv
   omega
  ·decide
 refine key _ hc.1 _ ?_
 unfold Utf8.encode
 simp only
 rw [show (if Utf8.valid r then r.toNat else Utf8.runeError) / 262144 % 16 = (if Utf8.valid r then r.toNat else Utf8.runeError) / 262144 by have := hc.2; omega]
abbrev hexS : ByteArray := ⟨#[48, 49, 50, 51, 52, 53, 54, 55, 56, 57, 97, 98, 99, 100, 101, 102]⟩
theorem hexS_small (i : Nat) (h : i < hexS.size) : (hexS[i]'h).toNat < 128 := by
 rw [hexdig i h h]
 have hi : i < 16 := h
 unfold letter
 split <;> (rw [UInt8.toNat_ofNat']; omega)
theorem indexByte_no : ∀ (l : List UInt8) (c : UInt8), (∀ b ∈ l, b.toNat < 128) → 128 ≤ c.toNat → Lib.indexByte l c = -1
 | [], _, _, _ => rfl
 | b :: r, c, h, hc => by
  have hb := h b (List.mem_cons_self ..)
  have hne : (b == c) = false := by
   rw [beq_eq_false_iff_ne]
   rintro rfl
   omega
  unfold Lib.indexByte
  rw [hne, indexByte_no r c (fun x hx => h x (List.mem_cons_of_mem _ hx)) hc]
  rfl
def iterPos (w : World) (k : Nat) : Nat := match w.heap[k]? with | some (.stringIter _ pos) => pos | _ => 0
theorem iterAt_pos {w : World} {k : Nat} {s : ByteArray} {pos : Nat} (hk : w.heap[k]? = some (.stringIter s pos)) (pos' : Nat) : (w.iterAt k s pos').heap[k]? = some (.stringIter s pos') ∧ iterPos (w.iterAt k s pos') k = pos' := by
 have h := Lib.iterAt_heap w k s pos pos' hk
 exact ⟨h, by unfold iterPos; rw [h]⟩
theorem indexRune_big (s : ByteArray) (hs4 : 4 ≤ s.size) (hs9 : s.size ≤ 1000) (hsm : ∀ i (h : i < s.size), (s[i]'h).toNat < 128) (r : Int) (h0 : 128 ≤ r) (h1 : r ≤ 1114111) (w : World) :
  Calls Tryz.prog 172 #[.string s, .int .i32 r] w fun e w' => e = .returned (.int .i64 (-1)) ∧ Below w.heap.size w w' := by
 have hVR := fun W => Any.utf8_ValidRune Tryz.validRune r W
 have HVR : Hid (∀ W, Calls Tryz.prog 193 #[.int .i32 r] W fun e w' => e = .returned (.bool (Lib.validRune r)) ∧ w' = W) := hVR
 clear hVR
 by_cases hre : r = 65533
 ·subst hre
  go_enter Tryz.func172, Tryz.ntmps172
  go_wp2_with fail
  go_loopw [5] (fun _ wr => ∃ pos : Nat, pos ≤ s.size ∧ wr.heap[w.heap.size]? = some (.stringIter s pos) ∧ Below w.heap.size w wr) (fun _ wr => s.size - iterPos wr w.heap.size)
  case atStart => exact ⟨0, Nat.zero_le _, heap_alloc_new w _, (Below.refl _ _).alloc (Nat.le_refl _) _⟩
  case round =>
   obtain ⟨pos, hpos, hk, hbl⟩ := hrel
   have hip : iterPos wr w.heap.size = pos := by unfold iterPos; rw [hk]
   by_cases hlt : pos < s.size
   ·have hc1 := hsm pos hlt
    have hnx := fun ty => Lib.run_next_ascii_at (P := Tryz.prog) wr w.heap.size s pos ty hk hlt hc1
    have HK := qh (iterAt_pos hk (pos + 1))
    have HB := qh (Lib.below_iterAt hbl (Nat.le_refl _) s (pos + 1))
    generalize s[pos].toNat = c at hc1 hnx
    clear hk hbl hsm
    go_wp2_with fail
    exact ⟨⟨pos + 1, by omega, HK.out.1, HB.out⟩, by rw [HK.out.2, hip]; omega⟩
   ·have hnx := fun ty => Lib.run_next_end_at (P := Tryz.prog) wr w.heap.size s pos ty hk hlt
    clear hk
    go_wp2_with fail
    go_ret
    exact ⟨rfl, hbl⟩
 cases hval : Lib.validRune r with
 | false =>
  go_enter Tryz.func172, Tryz.ntmps172
  go_wp2_with fail
  refine (HVR.out _).mono ?_
  rintro e w1 ⟨rfl, rfl⟩
  go_wp2_with fail
  go_ret
  exact ⟨rfl, Below.refl _ _⟩
 | true =>
  obtain ⟨g1, g2, g3⟩ := encode_big r h0
  go_enter Tryz.func172, Tryz.ntmps172
  go_wp2_with fail
  refine (HVR.out _).mono ?_
  rintro e w1 ⟨rfl, rfl⟩
  go_wp2_with fail
  refine wp_scope_straight ?_
  have G3 := qh g3
  have HSM := qh hsm
  clear g3 hsm
  obtain ⟨p, hn⟩ : ∃ p, (Utf8.encode r).size = p + 1 := ⟨(Utf8.encode r).size - 1, by omega⟩
  have hp3 : p ≤ 3 := by omega
  generalize hm : s.size = m at hs4 hs9
  have hpm : p < m := by omega
  clear g1 g2
  go_wp2_with fail
  refine wp_loop_rounds 1 ?_
  rw [rounds_succ]
  obtain ⟨c, hc⟩ : ∃ c, s[p]'(by omega) = c := ⟨_, rfl⟩
  obtain ⟨d, hd⟩ : ∃ d, (Utf8.encode r)[p]'(by omega) = d := ⟨_, rfl⟩
  have hc1 : c.toNat < 128 := by rw [← hc]; exact HSM.out _ _
  have hd1 : 128 ≤ d.toNat := by rw [← hd]; exact G3.out _ _
  have hc' : ∀ h, s[p]'h = c := fun h => hc
  have hd' : ∀ h, (Utf8.encode r)[p]'h = d := fun h => hd
  have hcd : ((c.toNat : Int) == (d.toNat : Int)) = false := by simp; omega
  clear hc hd
  have e1 : IntKind.i64.wrap ((p : Int) + 1) = (p : Int) + 1 := IntWalk.i64_in _ (by omega)
  have hsl : ∀ W, (Instr.slice 9 (.string s) (some (.int .i64 ((p : Int) + 1))) none none).run Tryz.prog W = .ok (.string (s.extract (p + 1) m)) W := fun W => by
   have h := run_slice_string_l (P := Tryz.prog) W 9 s Tryz.underlying9 .i64 ((p : Int) + 1) (by omega) (by rw [hm]; omega)
   rw [hm] at h
   exact h
  have hd2 : (d.toNat : Int).toNat.toUInt8 = d := by simp
  have HIB : Hid (∀ a b W, Calls Tryz.prog 192 #[.string (s.extract a b), .int .u8 (d.toNat : Int)] W fun e w' => e = .returned (.int .i64 (-1)) ∧ w' = W) := fun a b W => by
   have h := Any.strings_IndexByte Tryz.indexByte (s.extract a b) (d.toNat : Int) W
   rw [hd2, indexByte_no _ d (fun x hx => by
    have hx := mem_extract hx
    obtain ⟨i, hi, rfl⟩ := List.mem_iff_getElem.1 hx
    rw [Array.getElem_toList]
    exact HSM.out i (by rw [Array.length_toList] at hi; exact hi)) hd1] at h
   exact h
  go_wp2_with fail
  refine wp_scope_straight ?_
  go_wp2_with fail
  go_quiet (fail)
  go_wp2_with fail
  go_quiet ((go_at_call 192; go_must (exact (HIB.out _ _ _).mono fun _ _ h => ⟨h.1, _, h.2⟩)))
  go_wp2_with fail
  simp only [Exit.noGoto, Exit.inBlock, Exit.then]
  go_wp2_with fail
  go_ret
  exact ⟨rfl, below_drewN (Below.refl _ _) _⟩
theorem dig_index : ∀ n : Fin 128, Lib.indexByte [48, 49, 50, 51, 52, 53, 54, 55, 56, 57, 97, 98, 99, 100, 101, 102] ((if 65 ≤ (n : Nat) ∧ (n : Nat) ≤ 70 then (n : Nat) + 32 else (n : Nat)).toUInt8) = dig (UInt8.ofNat n) := by decide +kernel
theorem octet_digit (r : Int) (h0 : 0 ≤ r) (h1 : r ≤ 1114111) (w : World) :
  Calls Tryz.prog 149 #[.int .i32 r] w fun e w' => e = .returned (.int .i64 (if r < 128 then dig (UInt8.ofNat r.toNat) else -1)) ∧ Below w.heap.size w w' := by
 by_cases hr : r < 128
 ·have hd := dig_index ⟨r.toNat, by omega⟩
  simp only at hd
  rw [if_pos hr]
  by_cases hc : 65 ≤ r ∧ r ≤ 70
  ·rw [if_pos (by omega)] at hd
   have hcon := Any.strings_IndexRune_ascii Tryz.indexRune hexS (r + 32) w (by omega) (by omega)
   change Calls Tryz.prog 172 _ _ _ at hcon
   rw [show (r + 32).toNat = r.toNat + 32 by omega] at hcon
   change Calls Tryz.prog 172 _ _ (fun e w' => e = .returned (.int .i64 (Lib.indexByte [48, 49, 50, 51, 52, 53, 54, 55, 56, 57, 97, 98, 99, 100, 101, 102] _)) ∧ w' = w) at hcon
   rw [hd] at hcon
   have HC := qh hcon
   clear hcon hd
   obtain ⟨c1, c2⟩ := hc
   go_enter Tryz.func149, Tryz.ntmps149
   go_wp2_with fail
   refine HC.out.mono ?_
   rintro e w1 ⟨rfl, rfl⟩
   go_wp2_with fail
   go_ret
   exact ⟨rfl, Below.refl _ _⟩
  ·rw [if_neg (by omega)] at hd
   have hcon := Any.strings_IndexRune_ascii Tryz.indexRune hexS r w (by omega) (by omega)
   change Calls Tryz.prog 172 _ _ (fun e w' => e = .returned (.int .i64 (Lib.indexByte [48, 49, 50, 51, 52, 53, 54, 55, 56, 57, 97, 98, 99, 100, 101, 102] _)) ∧ w' = w) at hcon
   rw [hd] at hcon
   have HC := qh hcon
   clear hcon hd
   have hc' : r < 65 ∨ 70 < r := by omega
   clear hc
   rcases hc' with hc | hc
   all_goals
    go_enter Tryz.func149, Tryz.ntmps149
    go_wp2_with fail
    refine HC.out.mono ?_
    rintro e w1 ⟨rfl, rfl⟩
    go_wp2_with fail
    go_ret
    exact ⟨rfl, Below.refl _ _⟩
 ·rw [if_neg hr]
  have HC := qh (indexRune_big hexS (by decide) (by decide) hexS_small r (by omega) h1 w)
  go_enter Tryz.func149, Tryz.ntmps149
  go_wp2_with fail
  refine HC.out.mono ?_
  rintro e w1 ⟨rfl, hb⟩
  go_wp2_with fail
  go_ret
  exact ⟨rfl, hb⟩
theorem str_conv {w : World} {v : Value} {l : List UInt8} (h : SlR w 1 encB v l) : (convert 33 9 v).run Tryz.prog w = .ok (.string (str l)) w :=
 h.str Tryz.underlying33 Tryz.underlying5 Tryz.underlying9
end Go.Proofs.YtdbgeobolongmaaGreatDoor
namespace Go.Proofs.YtdbgeobolongmaaGreatDoor
open Go.RowKit Go.Shelf Go.Proofs Go.OctetPlain Go.ColonPlain
theorem dig36 (n : Nat) (hn : n < 16) (h : n < ByteArray.size ⟨#[48, 49, 50, 51, 52, 53, 54, 55, 56, 57, 97, 98, 99, 100, 101, 102, 103, 104, 105, 106, 107, 108, 109, 110, 111, 112, 113, 114, 115, 116, 117, 118, 119, 120, 121, 122]⟩) : (⟨#[48, 49, 50, 51, 52, 53, 54, 55, 56, 57, 97, 98, 99, 100, 101, 102, 103, 104, 105, 106, 107, 108, 109, 110, 111, 112, 113, 114, 115, 116, 117, 118, 119, 120, 121, 122]⟩ : ByteArray)[n]'h = letter n := by
 match n, hn, h with
 | 0, _, _ => rfl
 | 1, _, _ => rfl
 | 2, _, _ => rfl
 | 3, _, _ => rfl
 | 4, _, _ => rfl
 | 5, _, _ => rfl
 | 6, _, _ => rfl
 | 7, _, _ => rfl
 | 8, _, _ => rfl
 | 9, _, _ => rfl
 | 10, _, _ => rfl
 | 11, _, _ => rfl
 | 12, _, _ => rfl
 | 13, _, _ => rfl
 | 14, _, _ => rfl
 | 15, _, _ => rfl
 | n + 16, hn, _ => exact absurd hn (by omega)
theorem and15_64 (u : Nat) (h : u < 65536) : bits .and .u64 (u : Int) 15 = ((u % 16 : Nat) : Int) := by
 have h1 := bits_and_u64_nat u 15 (by omega) (by omega)
 rw [show u &&& 15 = u % 16 from Nat.and_two_pow_sub_one_eq_mod u 4] at h1
 exact h1
theorem tz64 (w : World) (ht : CT w) : Calls Tryz.prog 206 #[.int .u64 16] w fun e w' => e = .returned (.int .i64 4) ∧ w' = w := by
 have h0 := ht.tz.cell (show Tryz.prog.globalNamed "math/bits.deBruijn64tab" = some 8 by kernel_rfl) 15 (by decide)
 rw [show bruijn.getD 15 0 = 4 from rfl] at h0
 have hneg : bits .and .u64 16 (IntKind.u64.wrap (-16)) = 16 := by decide +kernel
 go_enter Tryz.func206, Tryz.ntmps206
 go_wp2_with fail
 go_ret
 exact ⟨rfl, rfl⟩
theorem tz (w : World) (ht : CT w) : Calls Tryz.prog 200 #[.int .u64 16] w fun e w' => e = .returned (.int .i64 4) ∧ w' = w := by
 have HC := qh (tz64 w ht)
 go_enter Tryz.func200, Tryz.ntmps200
 go_wp2_with fail
 refine HC.out.mono ?_
 rintro e w1 ⟨rfl, rfl⟩
 go_wp2_with fail
 go_ret
 exact ⟨rfl, rfl⟩
theorem pow2 (w : World) : Calls Tryz.prog 199 #[.int .i64 16] w fun e w' => e = .returned (.bool true) ∧ w' = w := by
 have h : bits .and .i64 16 15 = 0 := by decide +kernel
 go_enter Tryz.func199, Tryz.ntmps199
 go_wp2_with fail
 go_ret
 exact ⟨rfl, rfl⟩
theorem slr_of_blk {W : World} {g : Nat} {t : TypeId} {X Y : List UInt8} (h : Blk W g t (arrB (X ++ Y))) (hY : Y.length ≤ 1048576) : SlR W 1 encB (.slice (some ⟨g, X.length, none⟩) Y.length Y.length) Y := by
 refine ⟨_, _, rfl, Nat.le_refl _, by omega, (fun e => by cases e), fun a ha _ => ?_⟩
 cases ha
 refine ⟨rfl, h.lt, fun i x hx j u hu => ?_⟩
 have hj : j = 0 := by have := (List.getElem?_eq_some_iff.1 hu).1; simpa [encB] using this
 subst hj
 simp only [encB, List.getElem?_cons_zero, Option.some.injEq] at hu
 subst hu
 simp only [Nat.mul_one, Nat.add_zero]
 rw [h.cell (X.length + i)]
 apply arrB_get
 rw [List.getElem?_append_right (by omega), show X.length + i - X.length = i by omega]
 exact hx
theorem pad_set (m : Nat) (suf : List UInt8) (c : UInt8) : (List.replicate (m + 1) (0 : UInt8) ++ suf).set m c = List.replicate m 0 ++ c :: suf := by
 rw [List.replicate_succ', List.append_assoc, List.singleton_append, List.set_append_right _ _ (by simp), List.length_replicate, Nat.sub_self, List.set_cons_zero]
theorem pad_get (m : Nat) (suf : List UInt8) : (List.replicate (m + 1) (0 : UInt8) ++ suf)[m]? = some 0 := by
 rw [List.getElem?_append_left (by simp), List.getElem?_replicate, if_pos (by omega)]
theorem zero65 : Tryz.zeroCells236 = arrB (List.replicate 65 0) := by kernel_rfl
theorem formatBits16 (n : Nat) (hn : n < 65536) (w : World) (ht : CT w) :
  Calls Tryz.prog 182 #[.slice none 0 0, .int .u64 n, .int .i64 16, .bool false, .bool false] w fun e w' => e = .returned (.tuple #[.slice none 0 0, .string (str (hexN n))]) ∧ Below w.heap.size w w' := by
 have HT := qh (ht.below (belowA w (.cells Tryz.zeroCells236 236)))
 have hB : Blk (w.alloc (.cells Tryz.zeroCells236 236)) w.heap.size 236 (arrB (List.replicate 65 0)) := by rw [← zero65]; exact Blk.new _ _ _
 have HBl := qh hB
 clear hB ht
 go_enter Tryz.func182, Tryz.ntmps182
 go_wp2_with fail
 refine (pow2 _).mono ?_
 rintro e w1 ⟨rfl, rfl⟩
 go_wp2_with fail
 refine (tz _ HT.out).mono ?_
 rintro e w1 ⟨rfl, rfl⟩
 go_wp2_with fail
 go_loopw [1, 13] (fun vu vi wr => ∃ (u : Nat) (suf : List UInt8), vu = .int .u64 u ∧ vi = .int .i64 ((65 : Int) - suf.length) ∧ u < 65536 ∧ suf.length ≤ 3 ∧ Hid (hexN n = hexN u ++ suf) ∧ Hid (Blk wr w.heap.size 236 (arrB (List.replicate (65 - suf.length) 0 ++ suf))) ∧ Hid (Below w.heap.size w wr)) (fun vu _ _ => (intOf vu).toNat)
 case atStart => exact ⟨n, [], rfl, rfl, hn, by simp, qh (by simp), qh (by simpa using HBl.out), qh (belowA w _)⟩
 case round =>
  obtain ⟨u, suf, rfl, rfl, hu, hsl, HE, HA, HB⟩ := hrel
  have hda := dig36
  obtain ⟨m, hm⟩ : ∃ m : Nat, 65 - suf.length = m + 1 := ⟨64 - suf.length, by omega⟩
  rw [hm] at HA
  have hi : (65 : Int) - suf.length = (m : Int) + 1 := by omega
  rw [hi]
  have f0 := HA.out.frozen' m
  have c0 : wr.cell? ⟨w.heap.size, m, none⟩ = some (.int .u8 0) := (HA.out.cell m).trans (arrB_get (pad_get m suf))
  have b0 : (m : Int) < 65 := by omega
  have HM := qh hm
  have HI := qh hi
  have e1 : IntKind.i64.wrap ((m : Int) + 1 - 1) = (m : Int) := by rw [IntWalk.i64_in _ (by omega)]; omega
  have e2 : (m : Int) + 1 - 1 = (m : Int) := by omega
  clear hm hi
  by_cases hlt : 16 ≤ u
  ·have hand := and15_64 u hu
   have hm : u % 16 < 16 := by omega
   have HST := qh (hexN_step hlt hu)
   go_wp2_with fail
   have hsl3 : suf.length + 1 ≤ 3 := by
    have h1 := hexN_length n
    rw [HE.out, HST.out, List.length_append, List.length_append] at h1
    have h2 := hexN_length (u / 16)
    simp only [List.length_cons, List.length_nil] at h1
    omega
   refine ⟨⟨u / 16, letter (u % 16) :: suf, by go_num, ?_, by omega, by simpa using hsl3, qh (by rw [HE.out, HST.out]; simp), qh ?_, qh (HB.out.setCell (by simp) _)⟩, by simp [intOf]; omega⟩
   ·congr 1
    have := HI.out
    simp only [List.length_cons]
    omega
   ·have e : 65 - (letter (u % 16) :: suf).length = m := by have := HM.out; simp only [List.length_cons]; omega
    rw [e, ← pad_set, ← arrB_set]
    exact HA.out.set _ _
  ·have HH := qh (hexN_low1 (u := u) (by omega))
   have hult : u < 16 := by omega
   have hA2 := (HA.out.set m (.int .u8 ((letter u).toNat : Int)))
   rw [arrB_set, pad_set] at hA2
   have HA2 := qh hA2
   clear hA2
   have hal : Tryz.prog.arrayLen 236 = 65 := by kernel_rfl
   have hm65 : (m : Int) ≤ 65 := by omega
   have hne : ¬ 65 = m := by omega
   have hcv : (convert 33 9 (.slice (some ⟨w.heap.size, m, none⟩) (65 - m) (65 - m))).run Tryz.prog (wr.setCell ⟨w.heap.size, m, none⟩ (.int .u8 ((letter u).toNat : Int))) = .ok (.string (str (letter u :: suf))) (wr.setCell ⟨w.heap.size, m, none⟩ (.int .u8 ((letter u).toNat : Int))) := by
    have h := slr_of_blk HA2.out (by simp; omega)
    have e : (letter u :: suf).length = 65 - m := by have := HM.out; simp only [List.length_cons]; omega
    rw [List.length_replicate, e] at h
    exact str_conv h
   go_wp2_with fail
   refine bodyPost_ret (v := .tuple #[.slice none 0 0, .string (str (letter u :: suf))]) ?_ rfl ⟨by rw [HE.out, HH.out]; rfl, HB.out.setCell (by simp) _⟩
   simp [results, Tryz.results182, go_sem]
theorem formatInt_lib (n : Nat) (hn : n < 65536) (w : World) (ht : CT w) :
  Calls Tryz.prog 164 #[.int .i64 n, .int .i64 16] w fun e w' => e = .returned (.string (str (hexN n))) ∧ Below w.heap.size w w' := by
 have HC := qh (formatBits16 n hn w ht)
 go_enter Tryz.func164, Tryz.ntmps164
 go_wp2_with fail
 refine HC.out.mono ?_
 rintro e w1 ⟨rfl, hb⟩
 go_wp2_with fail
 go_ret
 exact ⟨rfl, hb⟩
theorem formatInt (n : Nat) (hn : n < 65536) (w : World) (ht : CT w) :
  Calls Tryz.prog 132 #[.int .i64 n, .int .i64 16] w fun e w' => e = .returned (.string (str (hexN n))) ∧ Below w.heap.size w w' := by
 have HC := qh (formatInt_lib n hn w ht)
 go_enter Tryz.func132, Tryz.ntmps132
 go_wp2_with fail
 refine HC.out.mono ?_
 rintro e w1 ⟨rfl, hb⟩
 go_wp2_with fail
 go_ret
 exact ⟨rfl, hb⟩
end Go.Proofs.YtdbgeobolongmaaGreatDoor
