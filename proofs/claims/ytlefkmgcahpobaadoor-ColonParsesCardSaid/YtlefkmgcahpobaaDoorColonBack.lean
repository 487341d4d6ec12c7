/- The laws of layer 7: Back. -/
import Derived.Test.YtlefkmgcahpobaaDoorColonLaw
namespace Go.Proofs.YtlefkmgcahpobaaDoor
set_option linter.unusedVariables false
set_option linter.unusedSimpArgs false
open Go.RowKit Go.Shelf Go.Proofs Go.OctetPlain Go.ColonPlain

theorem eq_self {X : Array Value} {l : List UInt8} (hl : l.length = 16) (h : arrB l = X) (W : World) : (Op.equalIn 10000 50 (.agg X) (.agg X)).run Tryd.prog W = .ok true W := by
  have q := eq_bytes hl hl W
  rw [decide_eq_true rfl, h] at q
  exact q
theorem eq_zero (W : World) : (Op.equalIn 10000 50 (.agg (arrB z16)) (.agg #[.int .u8 0, .int .u8 0, .int .u8 0, .int .u8 0, .int .u8 0, .int .u8 0, .int .u8 0, .int .u8 0, .int .u8 0, .int .u8 0, .int .u8 0, .int .u8 0, .int .u8 0, .int .u8 0, .int .u8 0, .int .u8 0])).run Tryd.prog W = .ok true W := by
  rw [← aZ]
  exact eq_self (l := z16) rfl rfl W
/-- the laws' state: arrays in blocks -/
structure LB (w W : World) (g1 : Nat) (X : Array Value) : Prop where
  ct : CT W
  below : Below w.heap.size w W
  a : Blk W g1 50 X
theorem LB.next {w W W' : World} {g1 : Nat} {X : Array Value} (h : LB w W g1 X) (hb : Below W.heap.size W W') : LB w W' g1 X :=
  ⟨h.ct.below hb, h.below.trans (hb.mono h.below.size), h.a.below hb h.a.lt⟩

set_option maxRecDepth 100000 in
set_option maxHeartbeats 2000000 in
theorem law_back7 (a : List UInt8) (ha : a.length = 16) (s : List UInt8) (w : World) (ht : CT w) :
    Calls Tryd.prog 12 #[.agg (arrB a), .string (str s)] w fun e w' => e = .returned (.bool true) ∧ Below w.heap.size w w' := by
  have hsz : (str s).size = s.length := str_size s
  have hle := show_le ha
  have hT : (str (show_ a)).size = (show_ a).length := str_size _
  have hlow := show_low a
  have SA := Lib.hid fun W h => colon_Show a ha W h
  have PA := Lib.hid fun W h => colon_Parse (show_ a) (by omega) W h
  rw [parse_show ha] at PA
  simp only [Option.getD_some, Option.isSome_some] at PA
  have kA := A16.of ha
  have QA := eq_self ha rfl
  have h0 : LB w (w.alloc (.cells (arrB a) 50)) w.heap.size (arrB a) := ⟨ht.below (belowA w _), belowA w _, Blk.new _ _ _⟩
  have H0 := Lib.hid h0
  have HLOW := Lib.hid hlow
  clear h0 ht hlow
  generalize arrB a = XA at SA PA kA QA H0 ⊢
  generalize hsh : show_ a = T at SA PA hle hT HLOW
  have KA := Lib.hid kA
  clear kA hsh
  go_enter Tryd.func12, Tryd.ntmps12
  go_wp2_with fail
  refine (law07_awake _ H0.out.ct).mono ?_
  rintro e w1 ⟨rfl, hb1⟩
  have H1 := Lib.hid (H0.out.next hb1)
  clear hb1
  by_cases hl : 100 < (s.length : Int)
  · go_wp2_with fail
    go_ret
    exact ⟨rfl, H1.out.below⟩
  · go_wp2_with (refine wpList_load_want rfl _ _ rfl w.heap.size rfl _ XA (0, 0) _ H1.out.a Tryd.underlying50 rfl KA.out.info ?_)
    refine (SA.out _ H1.out.ct).mono ?_
    rintro e w2 ⟨rfl, hb2⟩
    have H2 := Lib.hid (H1.out.next hb2)
    clear hb2
    go_wp2_with fail
    refine (PA.out _ H2.out.ct).mono ?_
    rintro e w3 ⟨rfl, hb3⟩
    have H3 := Lib.hid ((H2.out.next hb3).next (belowA w3 (.cells XA 50)))
    have HB3 := Lib.hid (Blk.new w3 50 XA)
    clear hb3
    have hl1 : ¬ (T.length : Int) < 2 := by omega
    have hl2 : ¬ (39 : Int) < (T.length : Int) := by omega
    -- the text's own address
    obtain ⟨c, was, hc16, hcD, hcS, hcz⟩ : ∃ (c : List UInt8) (was : Bool), c.length = 16 ∧ (parse s).getD z16 = c ∧ (parse s).isSome = was ∧ (was = false → c = z16) := by
      cases hps : parse s with
      | none => exact ⟨z16, false, rfl, rfl, rfl, fun _ => rfl⟩
      | some c => exact ⟨c, true, parse_length hps, rfl, rfl, fun h => by cases h⟩
    have PS := Lib.hid fun W h => colon_Parse s (by omega) W h
    rw [hcD, hcS] at PS
    have SC := Lib.hid fun W h => colon_Show c hc16 W h
    have hle2 := show_le hc16
    have PC := Lib.hid fun W h => colon_Parse (show_ c) (by omega) W h
    rw [parse_show hc16] at PC
    simp only [Option.getD_some, Option.isSome_some] at PC
    have kC := A16.of hc16
    have QC := eq_self hc16 rfl
    have QZ : was = false → ∀ W, (Op.equalIn 10000 50 (.agg (arrB c)) (.agg #[.int .u8 0, .int .u8 0, .int .u8 0, .int .u8 0, .int .u8 0, .int .u8 0, .int .u8 0, .int .u8 0, .int .u8 0, .int .u8 0, .int .u8 0, .int .u8 0, .int .u8 0, .int .u8 0, .int .u8 0, .int .u8 0])).run Tryd.prog W = .ok true W := fun h => by rw [hcz h]; exact eq_zero
    have HQZ := Lib.hid QZ
    clear QZ hcD hcS hcz
    generalize arrB c = XC at PS SC PC kC QC HQZ
    generalize show_ c = TC at SC PC hle2
    have KC := Lib.hid kC
    clear kC
    go_wp2_with (first
      | (refine wpList_store_new rfl _ _ _ rfl XA rfl rfl _ _ KA.out.info KA.out.size.symm KA.out.one ?_)
      | (refine wpList_load_want rfl _ _ rfl w3.heap.size rfl _ XA (0, 0) _ HB3.out Tryd.underlying50 rfl KA.out.info ?_)
      | (refine wpList_load_want rfl _ _ rfl w.heap.size rfl _ XA (0, 0) _ H3.out.a Tryd.underlying50 rfl KA.out.info ?_))
    refine (PS.out _ H3.out.ct).mono ?_
    rintro e w4 ⟨rfl, hb4⟩
    have H4 := Lib.hid ((H3.out.next hb4).next (belowA w4 (.cells XC 50)))
    have HC4 := Lib.hid (Blk.new w4 50 XC)
    clear hb4
    go_wp2_with (refine wpList_store_new rfl _ _ _ rfl XC rfl rfl _ _ KC.out.info KC.out.size.symm KC.out.one ?_)
    go_loopw [11] (fun vi wr => ∃ k : Nat, k ≤ T.length ∧ vi = .int .i64 k ∧ wr = w4.alloc (.cells XC 50)) (fun vi _ => T.length - (intOf vi).toNat)
    case atStart => exact ⟨0, Nat.zero_le _, rfl, rfl⟩
    case round =>
      obtain ⟨k, hk, rfl, rfl⟩ := hrel
      by_cases hlt : k < T.length
      · obtain ⟨d, hd⟩ : ∃ d : UInt8, T[k] = d := ⟨_, rfl⟩
        have hg' : ∀ h, (str T)[k]'h = d := fun h => (str_get T k h).trans hd
        have hno := HLOW.out d (by rw [← hd]; exact List.getElem_mem hlt)
        have hd2 : d.toNat < 256 := d.toNat_lt
        clear hd
        by_cases h65 : (65 : Int) ≤ (d.toNat : Int)
        · have h70 : ¬ (d.toNat : Int) ≤ 70 := by omega
          go_wp2_with fail
          exact ⟨⟨k + 1, by omega, by go_num, trivial⟩, by simp [intOf]; omega⟩
        · go_wp2_with fail
          exact ⟨⟨k + 1, by omega, by go_num, trivial⟩, by simp [intOf]; omega⟩
      · go_wp2_with (refine wpList_load_want rfl _ _ rfl w4.heap.size rfl _ XC (0, 0) _ HC4.out Tryd.underlying50 rfl KC.out.info ?_)
        refine (SC.out _ H4.out.ct).mono ?_
        rintro e w5 ⟨rfl, hb5⟩
        have H5 := Lib.hid (H4.out.next hb5)
        have HC5 := Lib.hid (HC4.out.below hb5 HC4.out.lt)
        clear hb5
        go_wp2_with fail
        refine (PC.out _ H5.out.ct).mono ?_
        rintro e w6 ⟨rfl, hb6⟩
        have H6 := Lib.hid ((H5.out.next hb6).next (belowA w6 (.cells XC 50)))
        have HC6 := Lib.hid ((HC5.out.below hb6 HC5.out.lt).alloc (.cells XC 50))
        have HD6 := Lib.hid (Blk.new w6 50 XC)
        clear hb6
        cases was
        · have QZ := HQZ.out rfl
          go_wp2_with (first
            | (refine wpList_store_new rfl _ _ _ rfl XC rfl rfl _ _ KC.out.info KC.out.size.symm KC.out.one ?_)
            | (refine wpList_load_want rfl _ _ rfl w6.heap.size rfl _ XC (0, 0) _ HD6.out Tryd.underlying50 rfl KC.out.info ?_)
            | (refine wpList_load_want rfl _ _ rfl w4.heap.size rfl _ XC (0, 0) _ HC6.out Tryd.underlying50 rfl KC.out.info ?_))
          go_ret
          exact ⟨rfl, H6.out.below⟩
        · go_wp2_with (first
            | (refine wpList_store_new rfl _ _ _ rfl XC rfl rfl _ _ KC.out.info KC.out.size.symm KC.out.one ?_)
            | (refine wpList_load_want rfl _ _ rfl w6.heap.size rfl _ XC (0, 0) _ HD6.out Tryd.underlying50 rfl KC.out.info ?_)
            | (refine wpList_load_want rfl _ _ rfl w4.heap.size rfl _ XC (0, 0) _ HC6.out Tryd.underlying50 rfl KC.out.info ?_))
          go_ret
          exact ⟨rfl, H6.out.below⟩
end Go.Proofs.YtlefkmgcahpobaaDoor
