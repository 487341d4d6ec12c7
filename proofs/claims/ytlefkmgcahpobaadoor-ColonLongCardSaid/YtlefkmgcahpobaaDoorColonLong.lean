/- The laws of layer 7: Long. -/
import Derived.Test.YtlefkmgcahpobaaDoorColonBack
import Derived.Test.YtlefkmgcahpobaaDoorOctetHex
import Derived.Test.YtlefkmgcahpobaaDoorOctetRef2
namespace Go.Proofs.YtlefkmgcahpobaaDoor
set_option linter.unusedVariables false
set_option linter.unusedSimpArgs false
open Go.RowKit Go.Shelf Go.Proofs Go.OctetPlain Go.ColonPlain

set_option maxRecDepth 100000 in
set_option maxHeartbeats 800000 in
theorem ref_Text (l : List UInt8) (hl : l.length = 16) (w : World) :
    Calls Tryd.prog 42 #[.agg (arrB l)] w fun e w' => e = .returned (.string (str l)) ∧ Below w.heap.size w w' := by
  go_enter Tryd.func42, Tryd.ntmps42
  go_wp2_with fail
  go_loopw [3, 4] (fun vs vi wr => ∃ k : Nat, k ≤ 16 ∧ vi = .int .i64 k ∧ vs = .string (str (l.take k)) ∧ Hid (Blk wr w.heap.size 50 (arrB l)) ∧ Hid (Below w.heap.size w wr)) (fun _ vi _ => 16 - (intOf vi).toNat)
  case atStart => exact ⟨0, by omega, rfl, rfl, Lib.hid (Blk.new _ _ _), Lib.hid (belowA w _)⟩
  case round =>
    obtain ⟨k, hk, rfl, rfl, HA, HB⟩ := hrel
    by_cases hlt : k < 16
    · obtain ⟨c, hc⟩ : ∃ c, l[k]? = some c := ⟨l[k], List.getElem?_eq_getElem (by omega)⟩
      have hcell : wr.cell? ⟨w.heap.size, k, none⟩ = some (.int .u8 (c.toNat : Int)) := (HA.out.cell k).trans (arrB_get hc)
      have HTK : Hid (l.take (k + 1) = l.take k ++ [c]) := by
        obtain ⟨h1, h2⟩ := List.getElem?_eq_some_iff.1 hc
        rw [List.take_succ_eq_append_getElem h1, h2]; exact Lib.hid rfl
      have h1 : (str (l.take k)).size = k := by rw [str_size, List.length_take]; omega
      have h2 : ∀ c, (str [c]).size = 1 := fun c => str_size _
      have hc2 : c.toNat < 256 := c.toNat_lt
      have hone := fun W => one_str W (c.toNat : Int) (by omega) (by omega)
      simp only [Int.toNat_natCast, UInt8.ofNat_toNat] at hone
      clear hc
      go_wp2_with fail
      exact ⟨⟨k + 1, by omega, by go_num, by rw [str_app, HTK.out], Lib.hid (HA.out.alloc _), Lib.hid (HB.out.alloc HB.out.size _)⟩, by simp [intOf]; omega⟩
    · obtain rfl : k = 16 := by omega
      go_wp2_with fail
      go_ret
      exact ⟨by rw [List.take_of_length_le (by omega)]; rfl, HB.out⟩

/-- the byte that is appended -/
theorem up_val (cap : Bool) (c : UInt8) : (up cap c).toNat = if cap = true ∧ 97 ≤ c.toNat then c.toNat - 32 else c.toNat := by
  unfold up
  split
  · rename_i h
    have := c.toNat_lt
    rw [UInt8.toNat_sub_of_le]
    · rfl
    · rw [UInt8.le_iff_toNat_le]
      have : (32 : UInt8).toNat = 32 := rfl
      omega
  · rfl
theorem long_take (cap : Bool) (h : List UInt8) (k : Nat) (c : UInt8) (hc : h[k]? = some c) : longFrom cap 0 (h.take (k + 1)) = longFrom cap 0 (h.take k) ++ ((if 0 < k ∧ k % 4 = 0 then [58] else []) ++ [up cap c]) := by
  obtain ⟨h1, h2⟩ := List.getElem?_eq_some_iff.1 hc
  rw [List.take_succ_eq_append_getElem h1, longFrom_app, h2]
  have : (h.take k).length = k := by rw [List.length_take]; omega
  rw [this, Nat.zero_add]
  simp [longFrom]
theorem long_le (cap : Bool) : ∀ (h : List UInt8) (j : Nat), (longFrom cap j h).length ≤ 2 * h.length
  | [], _ => by simp [longFrom]
  | c :: r, j => by
    have := long_le cap r (j + 1)
    rw [longFrom]
    split <;> simp <;> omega

set_option maxRecDepth 100000 in
set_option maxHeartbeats 2000000 in
theorem law_long (a : List UInt8) (ha : a.length = 16) (cap : Bool) (w : World) (ht : CT w) :
    Calls Tryd.prog 13 #[.agg (arrB a), .bool cap] w fun e w' => e = .returned (.bool true) ∧ Below w.heap.size w w' := by
  have hhl : (hex a).length = 32 := by rw [hex_length, ha]
  have hlong : longFrom cap 0 (hex a) = joinF (four cap) (groupsOf a) := by
    have := long_eq cap 8 a 0 (by omega) (by omega) (by omega)
    simpa using this
  have hll := long_le cap (hex a) 0
  have TX := Lib.hid fun W => ref_Text a ha W
  have HX := Lib.hid fun W => ref_Hex a (by omega) W
  have PA := Lib.hid fun W h => colon_Parse (longFrom cap 0 (hex a)) (by omega) W h
  have PB := Lib.hid fun W h => colon_Parse (longFrom cap 0 (hex a) ++ [58, 48]) (by simp; omega) W h
  have PC := Lib.hid fun W h => colon_Parse (48 :: longFrom cap 0 (hex a)) (by simp; omega) W h
  have e1 : parse (longFrom cap 0 (hex a)) = some a := by rw [hlong]; exact parse_join (good4 cap) ha
  have e2 : parse (longFrom cap 0 (hex a) ++ [58, 48]) = none := by rw [hlong]; exact parse_more (good4 cap) ha
  have e3 : parse (48 :: longFrom cap 0 (hex a)) = none := by rw [hlong]; exact parse_front cap ha
  rw [e1] at PA
  rw [e2] at PB
  rw [e3] at PC
  simp only [Option.getD_some, Option.isSome_some] at PA
  simp only [Option.getD_none, Option.isSome_none] at PB PC
  have kA := A16.of ha
  have kZ := A16.of (l := z16) rfl
  have QA := eq_self ha rfl
  have h0 : LB w (w.alloc (.cells (arrB a) 50)) w.heap.size (arrB a) := ⟨ht.below (belowA w _), belowA w _, Blk.new _ _ _⟩
  have H0 := Lib.hid h0
  clear h0 ht e1 e2 e3 hlong
  generalize arrB a = XA at TX PA kA QA H0 ⊢
  generalize arrB z16 = XZ at PB PC kZ
  generalize hhx : hex a = h at *
  clear hhx
  have KA := Lib.hid kA
  have KZ := Lib.hid kZ
  clear kA kZ
  go_enter Tryd.func13, Tryd.ntmps13
  go_wp2_with fail
  refine (law07_awake _ H0.out.ct).mono ?_
  rintro e w1 ⟨rfl, hb1⟩
  have H1 := Lib.hid (H0.out.next hb1)
  clear hb1
  go_wp2_with (refine wpList_load_want rfl _ _ rfl w.heap.size rfl _ XA (0, 0) _ H1.out.a Tryd.underlying50 rfl KA.out.info ?_)
  refine (TX.out _).mono ?_
  rintro e w2 ⟨rfl, hb2⟩
  have H2 := Lib.hid (H1.out.next hb2)
  clear hb2
  go_wp2_with fail
  refine (HX.out _).mono ?_
  rintro e w3 ⟨rfl, hb3⟩
  have H3 := Lib.hid (H2.out.next hb3)
  clear hb3
  have hhs : (str h).size = 32 := by rw [str_size]; exact hhl
  go_wp2_with fail
  go_loopw [7, 8, 9] (fun vs vi _ wr => ∃ k : Nat, k ≤ 32 ∧ vi = .int .i64 k ∧ vs = .string (str (longFrom cap 0 (h.take k))) ∧ Hid (LB w wr w.heap.size XA)) (fun _ vi _ _ => 32 - (intOf vi).toNat)
  case atStart => exact ⟨0, by omega, rfl, rfl, H3⟩
  case round =>
    obtain ⟨k, hk, rfl, rfl, HL⟩ := hrel
    by_cases hlt : k < 32
    · obtain ⟨c, hc⟩ : ∃ c, h[k]? = some c := ⟨h[k], List.getElem?_eq_getElem (by omega)⟩
      have hg' : ∀ q, (str h)[k]'q = c := fun q => (str_get h k q).trans (by obtain ⟨h1, h2⟩ := List.getElem?_eq_some_iff.1 hc; exact h2)
      have HTK := Lib.hid (long_take cap h k c hc)
      have hp := long_le cap (h.take k) 0
      rw [List.length_take] at hp
      have h1 : (str (longFrom cap 0 (h.take k))).size = (longFrom cap 0 (h.take k)).length := str_size _
      have hpl : (longFrom cap 0 (h.take k)).length ≤ 64 := by omega
      generalize longFrom cap 0 (h.take k) = P at HTK h1 hpl ⊢
      have h2 : ∀ c, (str [c]).size = 1 := fun c => str_size _
      have h3 : (str (P ++ [58])).size = P.length + 1 := by rw [str_size]; simp
      have hsep : str P ++ ⟨#[58]⟩ = str (P ++ [58]) := str_app P [58]
      have hc2 : c.toNat < 256 := c.toNat_lt
      have huv := up_val cap c
      have hk4 : (k : Int) % 4 = ((k % 4 : Nat) : Int) := by omega
      clear hc
      by_cases hsp : 0 < k ∧ k % 4 = 0
      · have hs0 : (0 : Int) < (k : Int) := by omega
        have hs4 : ((k % 4 : Nat) : Int) = 0 := by omega
        cases cap
        · have hx := hs0
          have hu : up false c = UInt8.ofNat ((c.toNat : Int)).toNat := by
            apply UInt8.toNat_inj.1
            rw [huv, if_neg (fun h => by simp at h), UInt8.toNat_ofNat']; omega
          have hone := fun W => one_str W ((c.toNat : Int)) (by omega) (by omega)
          have HU := Lib.hid hu
          clear huv hu
          go_wp2_with fail
          refine ⟨⟨k + 1, by omega, by go_num, ?_, Lib.hid (HL.out.next (belowA wr _))⟩, by simp [intOf]; omega⟩
          rw [HTK.out, if_pos hsp, HU.out, str_app]
          simp
        · by_cases h97 : (97 : Int) ≤ (c.toNat : Int)
          · have hx := hs0
            have hu : up true c = UInt8.ofNat ((c.toNat : Int) - 32).toNat := by
              apply UInt8.toNat_inj.1
              rw [huv, if_pos ⟨rfl, by omega⟩, UInt8.toNat_ofNat']; omega
            have hone := fun W => one_str W ((c.toNat : Int) - 32) (by omega) (by omega)
            have HU := Lib.hid hu
            clear huv hu
            go_wp2_with fail
            refine ⟨⟨k + 1, by omega, by go_num, ?_, Lib.hid (HL.out.next (belowA wr _))⟩, by simp [intOf]; omega⟩
            rw [HTK.out, if_pos hsp, HU.out, str_app]
            simp [show ((c.toNat : Int) - 32).toNat = c.toNat - 32 by omega]
          · have hx := hs0
            have hu : up true c = UInt8.ofNat ((c.toNat : Int)).toNat := by
              apply UInt8.toNat_inj.1
              rw [huv, if_neg (fun h => by omega), UInt8.toNat_ofNat']; omega
            have hone := fun W => one_str W ((c.toNat : Int)) (by omega) (by omega)
            have HU := Lib.hid hu
            clear huv hu
            go_wp2_with fail
            refine ⟨⟨k + 1, by omega, by go_num, ?_, Lib.hid (HL.out.next (belowA wr _))⟩, by simp [intOf]; omega⟩
            rw [HTK.out, if_pos hsp, HU.out, str_app]
            simp
      · have hns : k = 0 ∨ ((k % 4 : Nat) : Int) ≠ 0 := by omega
        rcases hns with hz | hz
        · subst hz
          cases cap
          · have hx := hsp
            have hu : up false c = UInt8.ofNat ((c.toNat : Int)).toNat := by
              apply UInt8.toNat_inj.1
              rw [huv, if_neg (fun h => by simp at h), UInt8.toNat_ofNat']; omega
            have hone := fun W => one_str W ((c.toNat : Int)) (by omega) (by omega)
            have HU := Lib.hid hu
            clear huv hu
            go_wp2_with fail
            refine ⟨⟨1, by omega, rfl, ?_, Lib.hid (HL.out.next (belowA wr _))⟩, by simp [intOf]⟩
            rw [HTK.out, if_neg hsp, HU.out, str_app]
            simp
          · by_cases h97 : (97 : Int) ≤ (c.toNat : Int)
            · have hx := hsp
              have hu : up true c = UInt8.ofNat ((c.toNat : Int) - 32).toNat := by
                apply UInt8.toNat_inj.1
                rw [huv, if_pos ⟨rfl, by omega⟩, UInt8.toNat_ofNat']; omega
              have hone := fun W => one_str W ((c.toNat : Int) - 32) (by omega) (by omega)
              have HU := Lib.hid hu
              clear huv hu
              go_wp2_with fail
              refine ⟨⟨1, by omega, rfl, ?_, Lib.hid (HL.out.next (belowA wr _))⟩, by simp [intOf]⟩
              rw [HTK.out, if_neg hsp, HU.out, str_app]
              simp [show ((c.toNat : Int) - 32).toNat = c.toNat - 32 by omega]
            · have hx := hsp
              have hu : up true c = UInt8.ofNat ((c.toNat : Int)).toNat := by
                apply UInt8.toNat_inj.1
                rw [huv, if_neg (fun h => by omega), UInt8.toNat_ofNat']; omega
              have hone := fun W => one_str W ((c.toNat : Int)) (by omega) (by omega)
              have HU := Lib.hid hu
              clear huv hu
              go_wp2_with fail
              refine ⟨⟨1, by omega, rfl, ?_, Lib.hid (HL.out.next (belowA wr _))⟩, by simp [intOf]⟩
              rw [HTK.out, if_neg hsp, HU.out, str_app]
              simp
        · have hs0 : (0 : Int) < (k : Int) := by omega
          have hzb : ((k : Int) % 4 == 0) = false := by rw [beq_eq_false_iff_ne]; omega
          clear hk4
          cases cap
          · have hx := hsp
            have hu : up false c = UInt8.ofNat ((c.toNat : Int)).toNat := by
              apply UInt8.toNat_inj.1
              rw [huv, if_neg (fun h => by simp at h), UInt8.toNat_ofNat']; omega
            have hone := fun W => one_str W ((c.toNat : Int)) (by omega) (by omega)
            have HU := Lib.hid hu
            clear huv hu
            go_wp2_with fail
            refine ⟨⟨k + 1, by omega, by go_num, ?_, Lib.hid (HL.out.next (belowA wr _))⟩, by simp [intOf]; omega⟩
            rw [HTK.out, if_neg hsp, HU.out, str_app]
            simp
          · by_cases h97 : (97 : Int) ≤ (c.toNat : Int)
            · have hx := hsp
              have hu : up true c = UInt8.ofNat ((c.toNat : Int) - 32).toNat := by
                apply UInt8.toNat_inj.1
                rw [huv, if_pos ⟨rfl, by omega⟩, UInt8.toNat_ofNat']; omega
              have hone := fun W => one_str W ((c.toNat : Int) - 32) (by omega) (by omega)
              have HU := Lib.hid hu
              clear huv hu
              go_wp2_with fail
              refine ⟨⟨k + 1, by omega, by go_num, ?_, Lib.hid (HL.out.next (belowA wr _))⟩, by simp [intOf]; omega⟩
              rw [HTK.out, if_neg hsp, HU.out, str_app]
              simp [show ((c.toNat : Int) - 32).toNat = c.toNat - 32 by omega]
            · have hx := hsp
              have hu : up true c = UInt8.ofNat ((c.toNat : Int)).toNat := by
                apply UInt8.toNat_inj.1
                rw [huv, if_neg (fun h => by omega), UInt8.toNat_ofNat']; omega
              have hone := fun W => one_str W ((c.toNat : Int)) (by omega) (by omega)
              have HU := Lib.hid hu
              clear huv hu
              go_wp2_with fail
              refine ⟨⟨k + 1, by omega, by go_num, ?_, Lib.hid (HL.out.next (belowA wr _))⟩, by simp [intOf]; omega⟩
              rw [HTK.out, if_neg hsp, HU.out, str_app]
              simp
    · obtain rfl : k = 32 := by omega
      rw [List.take_of_length_le (by omega)]
      have hA : Hid (LB w wr w.heap.size XA) := HL
      have h1 : (str (longFrom cap 0 h)).size = (longFrom cap 0 h).length := str_size _
      generalize longFrom cap 0 h = P at *
      have c1 : str P ++ ⟨#[58, 48]⟩ = str (P ++ [58, 48]) := str_app P [58, 48]
      have c2 : (⟨#[48]⟩ : ByteArray) ++ str P = str (48 :: P) := str_app [48] P
      go_wp2_with fail
      refine (PA.out _ hA.out.ct).mono ?_
      rintro e w4 ⟨rfl, hb4⟩
      have H4 := Lib.hid ((hA.out.next hb4).next (belowA w4 (.cells XA 50)))
      have HB4 := Lib.hid (Blk.new w4 50 XA)
      clear hb4
      go_wp2_with (refine wpList_store_new rfl _ _ _ rfl XA rfl rfl _ _ KA.out.info KA.out.size.symm KA.out.one ?_)
      refine (PB.out _ H4.out.ct).mono ?_
      rintro e w5 ⟨rfl, hb5⟩
      have H5 := Lib.hid ((H4.out.next hb5).next (belowA w5 (.cells XZ 50)))
      have HB5 := Lib.hid ((HB4.out.below hb5 HB4.out.lt).alloc (.cells XZ 50))
      clear hb5
      go_wp2_with (refine wpList_store_new rfl _ _ _ rfl XZ rfl rfl _ _ KZ.out.info KZ.out.size.symm KZ.out.one ?_)
      refine (PC.out _ H5.out.ct).mono ?_
      rintro e w6 ⟨rfl, hb6⟩
      have H6 := Lib.hid ((H5.out.next hb6).next (belowA w6 (.cells XZ 50)))
      have HB6 := Lib.hid ((HB5.out.below hb6 HB5.out.lt).alloc (.cells XZ 50))
      clear hb6
      go_wp2_with (first
        | (refine wpList_store_new rfl _ _ _ rfl XZ rfl rfl _ _ KZ.out.info KZ.out.size.symm KZ.out.one ?_)
        | (refine wpList_load_want rfl _ _ rfl w4.heap.size rfl _ XA (0, 0) _ HB6.out Tryd.underlying50 rfl KA.out.info ?_)
        | (refine wpList_load_want rfl _ _ rfl w.heap.size rfl _ XA (0, 0) _ H6.out.a Tryd.underlying50 rfl KA.out.info ?_))
      go_ret
      exact ⟨rfl, H6.out.below⟩
end Go.Proofs.YtlefkmgcahpobaaDoor
