/- The laws of layer 7: awake. -/
import Derived.Test.YtlefkmgcahpobaaDoorColonParse
import Derived.Test.YtlefkmgcahpobaaDoorColonShow
import Derived.Test.YtlefkmgcahpobaaDoorOctetLaw2
import Derived.Test.YtlefkmgcahpobaaDoorColonConst
import Derived.Test.YtlefkmgcahpobaaDoorColonPlainF
namespace Go.Proofs.YtlefkmgcahpobaaDoor
set_option linter.unusedVariables false
set_option linter.unusedSimpArgs false
open Go.RowKit Go.Shelf Go.Proofs Go.OctetPlain Go.ColonPlain

theorem aA : arrB adA = #[.int .u8 0, .int .u8 0, .int .u8 0, .int .u8 0, .int .u8 0, .int .u8 0, .int .u8 0, .int .u8 0, .int .u8 0, .int .u8 0, .int .u8 255, .int .u8 255, .int .u8 10, .int .u8 0, .int .u8 0, .int .u8 1] := rfl
theorem aB : arrB adB = #[.int .u8 0, .int .u8 1, .int .u8 0, .int .u8 0, .int .u8 0, .int .u8 0, .int .u8 0, .int .u8 2, .int .u8 0, .int .u8 0, .int .u8 0, .int .u8 0, .int .u8 0, .int .u8 0, .int .u8 0, .int .u8 3] := rfl
theorem aZ : arrB z16 = #[.int .u8 0, .int .u8 0, .int .u8 0, .int .u8 0, .int .u8 0, .int .u8 0, .int .u8 0, .int .u8 0, .int .u8 0, .int .u8 0, .int .u8 0, .int .u8 0, .int .u8 0, .int .u8 0, .int .u8 0, .int .u8 0] := rfl
theorem gB : arrI (ints (groupsOf adB)) = #[.int .i64 1, .int .i64 0, .int .i64 0, .int .i64 2, .int .i64 0, .int .i64 0, .int .i64 0, .int .i64 3] := rfl
/-- awake's state -/
structure AW (w W : World) (n : Nat) : Prop where
  ct : CT W
  below : Below w.heap.size w W
theorem AW.next {w W W' : World} {n : Nat} (h : AW w W n) (hb : Below W.heap.size W W') : AW w W' n := ⟨h.ct.below hb, h.below.trans (hb.mono h.below.size)⟩

/-- an array's cells: sixteen, one value each -/
structure A16 (X : Array Value) : Prop where
  info : (Tryd.prog.info? 50).map (·.size) = some X.size
  size : X.size = 16
  one : X.all (·.oneCell') = true
theorem A16.of {l : List UInt8} (h : l.length = 16) : A16 (arrB l) := ⟨by rw [arrB_size, h]; exact info16, by rw [arrB_size, h], arrB_one l⟩

/-- awake's state: the two addresses -/
structure AWB (w W : World) (g1 g2 : Nat) (XA XB : Array Value) : Prop where
  ct : CT W
  below : Below w.heap.size w W
  a : Blk W g1 50 XA
  b : Blk W g2 50 XB
theorem AWB.next {w W W' : World} {g1 g2 : Nat} {XA XB : Array Value} (h : AWB w W g1 g2 XA XB) (hb : Below W.heap.size W W') : AWB w W' g1 g2 XA XB :=
  ⟨h.ct.below hb, h.below.trans (hb.mono h.below.size), h.a.below hb h.a.lt, h.b.below hb h.b.lt⟩

set_option maxRecDepth 100000 in
set_option maxHeartbeats 2000000 in
theorem law07_awake (w : World) (ht : CT w) : Calls Tryd.prog 29 #[] w fun e w' => e = .returned (.bool true) ∧ Below w.heap.size w w' := by
  have h0 : AW w w 0 := ⟨ht, Below.refl _ _⟩
  have H0 := Lib.hid h0
  have SA := Lib.hid fun W h => colon_Show adA rfl W h
  have SB := Lib.hid fun W h => colon_Show adB rfl W h
  have SZ := Lib.hid fun W h => colon_Show z16 rfl W h
  have GB := Lib.hid fun W => colon_Groups adB rfl W
  have LA := Lib.hid fun W => colon_Plain adA rfl W
  have ma := fun W => colon_Multi 0 0 0 0 0 0 0 0 0 0 255 255 10 0 0 1 W
  rw [← aA, show ((0 : Int) == 255) = false from rfl] at ma
  have MA := Lib.hid ma
  clear ma
  have kA := A16.of (l := adA) rfl
  have kB := A16.of (l := adB) rfl
  have kZ := A16.of (l := z16) rfl
  have PA := Lib.hid fun W h => colon_Parse [58, 58, 70, 70, 70, 70, 58, 49, 48, 46, 48, 46, 48, 46, 49] (by decide) W h
  have PB := Lib.hid fun W h => colon_Parse [49, 58, 48, 58, 48, 58, 50, 58, 58, 51] (by decide) W h
  have PC := Lib.hid fun W h => colon_Parse [49, 58, 58, 50, 58, 58, 51] (by decide) W h
  have Q := fun W => eq_ints (a := ints (groupsOf adB)) (b := ints (groupsOf adB)) rfl rfl W
  rw [gB, decide_eq_true rfl] at Q
  rw [pA] at PA
  rw [pB] at PB
  rw [pC] at PC
  rw [sA] at SA
  rw [sB] at SB
  rw [sZ, aZ] at SZ
  rw [gB] at GB
  rw [show plainB adA = true by decide] at LA
  simp only [Option.getD_some, Option.isSome_some] at PA PB
  simp only [Option.getD_none, Option.isSome_none] at PC
  generalize arrB adA = XA at SA kA PA LA MA
  generalize arrB adB = XB at SB kB PB GB
  generalize arrB z16 = XZ at kZ PC
  have KA := Lib.hid kA
  have KB := Lib.hid kB
  have KZ := Lib.hid kZ
  have htl := str_tl
  have hs0 : (⟨#[58, 58, 102, 102, 102, 102, 58, 97, 48, 48, 58, 49]⟩ : ByteArray).toList = [58, 58, 102, 102, 102, 102, 58, 97, 48, 48, 58, 49] := str_tl [58, 58, 102, 102, 102, 102, 58, 97, 48, 48, 58, 49]
  have hs1 : (⟨#[49, 58, 48, 58, 48, 58, 50, 58, 58, 51]⟩ : ByteArray).toList = [49, 58, 48, 58, 48, 58, 50, 58, 58, 51] := str_tl [49, 58, 48, 58, 48, 58, 50, 58, 58, 51]
  have hs2 : (⟨#[58, 58]⟩ : ByteArray).toList = [58, 58] := str_tl [58, 58]
  clear h0 ht kA kB kZ
  go_enter Tryd.func29, Tryd.ntmps29
  go_wp2_with fail
  refine (PA.out _ H0.out.ct).mono ?_
  rintro e w1 ⟨rfl, hb1⟩
  have H1 := Lib.hid ((H0.out.next hb1).next (belowA w1 (.cells XA 50)))
  have HA1 := Lib.hid (Blk.new w1 50 XA)
  clear hb1
  go_wp2_with (refine wpList_store_new rfl _ _ _ rfl XA rfl rfl _ _ KA.out.info KA.out.size.symm KA.out.one ?_)
  refine (PB.out _ H1.out.ct).mono ?_
  rintro e w2 ⟨rfl, hb2⟩
  have H2 := Lib.hid ((H1.out.next hb2).next (belowA w2 (.cells XB 50)))
  have HW2 : Hid (AWB w (w2.alloc (.cells XB 50)) w1.heap.size w2.heap.size XA XB) := Lib.hid ⟨H2.out.ct, H2.out.below, (HA1.out.below hb2 HA1.out.lt).alloc _, Blk.new _ _ _⟩
  clear hb2
  go_wp2_with (refine wpList_store_new rfl _ _ _ rfl XB rfl rfl _ _ KB.out.info KB.out.size.symm KB.out.one ?_)
  refine (PC.out _ H2.out.ct).mono ?_
  rintro e w3 ⟨rfl, hb3⟩
  have H3 := Lib.hid ((HW2.out.next hb3).next (belowA w3 (.cells XZ 50)))
  clear hb3
  go_wp2_with (first
    | (refine wpList_store_new rfl _ _ _ rfl XZ rfl rfl _ _ KZ.out.info KZ.out.size.symm KZ.out.one ?_)
    | (refine wpList_load_want rfl _ _ rfl w1.heap.size rfl _ XA (0, 0) _ H3.out.a Tryd.underlying50 rfl KA.out.info ?_))
  refine (SA.out _ H3.out.ct).mono ?_
  rintro e w4 ⟨rfl, hb4⟩
  have H4 := Lib.hid (H3.out.next hb4)
  clear hb4
  go_wp2_with (refine wpList_load_want rfl _ _ rfl w2.heap.size rfl _ XB (0, 0) _ H4.out.b Tryd.underlying50 rfl KB.out.info ?_)
  refine (SB.out _ H4.out.ct).mono ?_
  rintro e w5 ⟨rfl, hb5⟩
  have H5 := Lib.hid (H4.out.next hb5)
  clear hb5
  go_wp2_with fail
  refine (SZ.out _ H5.out.ct).mono ?_
  rintro e w6 ⟨rfl, hb6⟩
  have H6 := Lib.hid (H5.out.next hb6)
  clear hb6
  go_wp2_with (refine wpList_load_want rfl _ _ rfl w2.heap.size rfl _ XB (0, 0) _ H6.out.b Tryd.underlying50 rfl KB.out.info ?_)
  refine (GB.out _).mono ?_
  rintro e w7 ⟨rfl, hb7⟩
  have H7 := Lib.hid (H6.out.next hb7)
  clear hb7
  go_wp2_with (refine wpList_load_want rfl _ _ rfl w1.heap.size rfl _ XA (0, 0) _ H7.out.a Tryd.underlying50 rfl KA.out.info ?_)
  refine (LA.out _).mono ?_
  rintro e w8 ⟨rfl, hb8⟩
  have H8 := Lib.hid (H7.out.next hb8)
  clear hb8
  go_wp2_with (refine wpList_load_want rfl _ _ rfl w1.heap.size rfl _ XA (0, 0) _ H8.out.a Tryd.underlying50 rfl KA.out.info ?_)
  refine (MA.out _).mono ?_
  rintro e w9 ⟨rfl, hb9⟩
  have H9 := Lib.hid (H8.out.next hb9)
  clear hb9
  go_wp2_with fail
  refine (colon_Multi 255 0 0 0 0 0 0 0 0 0 0 0 0 0 0 0 _).mono ?_
  rintro e w10 ⟨rfl, hb10⟩
  have H10 := Lib.hid (H9.out.next hb10)
  clear hb10
  go_wp2_with fail
  go_ret
  exact ⟨rfl, H10.out.below⟩
end Go.Proofs.YtlefkmgcahpobaaDoor
