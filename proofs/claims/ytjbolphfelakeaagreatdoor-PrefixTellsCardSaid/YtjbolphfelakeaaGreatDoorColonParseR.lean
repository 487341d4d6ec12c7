import Derived.Test.YtjbolphfelakeaaGreatDoorColonDot
import Derived.Test.YtjbolphfelakeaaGreatDoorColonParts
import Derived.Test.YtjbolphfelakeaaGreatDoorColonOf
import Derived.Test.YtjbolphfelakeaaGreatDoorColonParse
import Derived.Test.YtjbolphfelakeaaGreatDoorColonOf2
import Derived.Test.YtjbolphfelakeaaGreatDoorArrEq
/- The document's dotted Parse; a group of digits. -/
namespace Go.Proofs.YtjbolphfelakeaaGreatDoor
set_option linter.unusedVariables false
set_option linter.unusedSimpArgs false
open Go.RowKit Go.Shelf Go.Proofs Go.OctetPlain Go.ColonPlain

/-- the parts from a place on, behind a part that is begun -/
def restOf (d : UInt8) (part r : List UInt8) : List (List UInt8) := (part ++ (splitC d r).headD []) :: (splitC d r).tail
theorem rest_nil (d : UInt8) (part : List UInt8) : restOf d part [] = [part] := by simp [restOf, splitC]
theorem rest_start (d : UInt8) (l : List UInt8) : restOf d [] l = splitC d l := by
  unfold restOf
  have := splitC_ne d l
  cases h : splitC d l with
  | nil => exact absurd h this
  | cons a b => simp
theorem rest_sep (d : UInt8) (part r : List UInt8) : restOf d part (d :: r) = part :: restOf d [] r := by
  rw [rest_start]; simp [restOf, splitC]
theorem rest_step {d c : UInt8} (h : c ≠ d) (part r : List UInt8) : restOf d part (c :: r) = restOf d (part ++ [c]) r := by
  simp [restOf, splitC, h]
/-- the parts that a walk over a text has yet to meet -/
def restAt (d : UInt8) (l part : List UInt8) (i : Nat) : List (List UInt8) := if i ≤ l.length then restOf d part (l.drop i) else []
theorem restAt_zero (d : UInt8) (l : List UInt8) : restAt d l [] 0 = splitC d l := by
  unfold restAt; rw [if_pos (Nat.zero_le _), List.drop_zero, rest_start]
theorem restAt_step {d c : UInt8} {l part : List UInt8} {i : Nat} (hc : l[i]? = some c) (h : c ≠ d) : restAt d l part i = restAt d l (part ++ [c]) (i + 1) := by
  obtain ⟨h1, h2⟩ := List.getElem?_eq_some_iff.1 hc
  unfold restAt
  rw [if_pos (by omega), if_pos (by omega), List.drop_eq_getElem_cons h1, h2, rest_step h]
theorem restAt_sep {d : UInt8} {l part : List UInt8} {i : Nat} (hc : l[i]? = some d) : restAt d l part i = part :: restAt d l [] (i + 1) := by
  obtain ⟨h1, h2⟩ := List.getElem?_eq_some_iff.1 hc
  unfold restAt
  rw [if_pos (by omega), if_pos (by omega), List.drop_eq_getElem_cons h1, h2, rest_sep]
theorem restAt_end (d : UInt8) (l part : List UInt8) : restAt d l part l.length = part :: restAt d l [] (l.length + 1) := by
  unfold restAt
  rw [if_pos (Nat.le_refl _), if_neg (by omega), List.drop_length, rest_nil]
theorem restAt_over (d : UInt8) (l part : List UInt8) : restAt d l part (l.length + 1) = [] := by
  unfold restAt; rw [if_neg (by omega)]

/-- ref06's Parse, at a place -/
structure DR (w : World) (l : List UInt8) (W : World) (i : Nat) (part out : List UInt8) : Prop where
  le : i ≤ l.length + 1
  pl : part.length ≤ i
  ol : out.length ≤ 4
  eq : dotted l = dotParts out (restAt 46 l part i)
  res : Blk W w.heap.size 42 (arrB [0, 0, 0, 0])
  arr : Blk W (w.heap.size + 1) 42 (arrB (pad4 out))
  below : Below w.heap.size w W

set_option maxRecDepth 100000 in
set_option maxHeartbeats 4000000 in
theorem ref_dotted (l : List UInt8) (hl : l.length ≤ 1000000) (w : World) :
    Calls Tryz.prog 41 #[.string (str l)] w fun e w' => e = .returned (.tuple #[.agg (arrB ((dotted l).getD [0, 0, 0, 0])), .bool (dotted l).isSome]) ∧ Below w.heap.size w w' := by
  have hsz : (str l).size = l.length := str_size l
  have hz0 : ByteArray.size ⟨#[]⟩ = 0 := rfl
  have hu4 := Tryz.underlying42
  have KZ : (Tryz.prog.info? 42).map (·.size) = some (arrB [0, 0, 0, 0]).size ∧ (arrB [0, 0, 0, 0]).all (·.oneCell') = true := ⟨info4, arrB_one _⟩
  go_enter Tryz.func41, Tryz.ntmps41
  go_wp2_with fail
  go_loopw [5, 6, 7, 8, 9] (fun vp vk vi _ _ wr => ∃ (i : Nat) (part out : List UInt8), vp = .string (str part) ∧ vk = .int .i64 (out.length : Nat) ∧ vi = .int .i64 i ∧ Hid (DR w l wr i part out)) (fun _ _ vi _ _ _ => l.length + 2 - (intOf vi).toNat)
  case atStart =>
    refine ⟨0, [], [], rfl, rfl, rfl, Lib.hid ⟨by omega, Nat.le_refl _, by simp, by rw [restAt_zero]; rfl, (Blk.new _ _ _).alloc _, ?_, (belowA w _).alloc (by simp) _⟩⟩
    have h := Blk.new (w.alloc (.cells (arrB [0, 0, 0, 0]) 42)) 42 (arrB (pad4 []))
    simp only [World.size_alloc] at h
    exact h
  case round =>
    obtain ⟨i, part, out, rfl, rfl, rfl, HD⟩ := hrel
    have hps : (str part).size = part.length := str_size part
    have hpl := HD.out.pl
    have hol := HD.out.ol
    have hle := HD.out.le
    by_cases hi : i ≤ l.length
    · by_cases hc : ∃ c, l[i]? = some c ∧ c ≠ 46
      · obtain ⟨c, hc1, hc2⟩ := hc
        have hlt : i < l.length := (List.getElem?_eq_some_iff.1 hc1).1
        have hg' : ∀ h, (str l)[i]'h = c := fun h => (str_get l i h).trans (by obtain ⟨h1, h2⟩ := List.getElem?_eq_some_iff.1 hc1; exact h2)
        have hcut : (str l).extract i (i + 1) = str [c] := by
          rw [str_cut]
          obtain ⟨h1, h2⟩ := List.getElem?_eq_some_iff.1 hc1
          rw [List.drop_eq_getElem_cons h1, h2]; simp
        have hne : ((c.toNat : Int) != 46) = true := by
          rw [bne_iff_ne]; intro h; exact hc2 (UInt8.toNat_inj.1 (Int.ofNat.inj h))
        have HE : Hid (dotted l = dotParts out (restAt 46 l (part ++ [c]) (i + 1))) := by rw [HD.out.eq, restAt_step hc1 hc2]; exact Lib.hid rfl
        have hs1 : ∀ c, (str [c]).size = 1 := fun c => str_size _
        have w1 : IntKind.i64.wrap ((i : Int) + 1) = (i : Int) + 1 := IntWalk.i64_in _ (by omega)
        have hi1 : ((i : Int) + 1).toNat = i + 1 := by omega
        clear hc1 hc2
        go_wp2_with fail
        refine ⟨⟨i + 1, part ++ [c], out, by rw [str_app], rfl, by go_num, Lib.hid ⟨by omega, by simp; omega, hol, HE.out, HD.out.res, HD.out.arr, HD.out.below⟩⟩, by simp [intOf]; omega⟩
      · have hsep : (i < l.length ∧ l[i]? = some 46) ∨ i = l.length := by
          rcases Nat.lt_or_ge i l.length with h | h
          · left
            refine ⟨h, ?_⟩
            have h2 := List.getElem?_eq_getElem h
            by_cases h3 : l[i] = 46
            · rw [h2, h3]
            · exact absurd ⟨l[i], h2, h3⟩ hc
          · right; omega
        have HE : Hid (dotted l = dotParts out (part :: restAt 46 l [] (i + 1))) := by
          rcases hsep with ⟨_, h⟩ | h
          · rw [HD.out.eq, restAt_sep h]; exact Lib.hid rfl
          · subst h; rw [HD.out.eq, restAt_end]; exact Lib.hid rfl
        have hfact : (i < l.length ∧ ∀ h, (str l)[i]'h = 46) ∨ ¬ i < l.length := by
          rcases hsep with ⟨h, hc1⟩ | h
          · exact Or.inl ⟨h, fun h => (str_get l i h).trans (by obtain ⟨h1, h2⟩ := List.getElem?_eq_some_iff.1 hc1; exact h2)⟩
          · right; omega
        have NB := Lib.hid fun W => ref_Number part (by omega) 255 W
        clear hc hsep
        cases hnum : number part 255 with
        | none =>
          rw [hnum] at NB
          have HN : Hid (dotted l = none) := by rw [HE.out, dotParts, hnum]; exact Lib.hid rfl
          simp only [Option.getD_none, Option.isSome_none] at NB
          have hres := HD.out.res
          clear hnum
          rcases hfact with ⟨hlt, hg'⟩ | hlt
          all_goals
            go_wp2_with fail
            refine (NB.out _).mono ?_
            rintro e w1 ⟨rfl, rfl⟩
            go_wp2_with (refine wpList_store_row rfl _ _ _ rfl w.heap.size (arrB [0, 0, 0, 0]) rfl rfl 42 (arrB [0, 0, 0, 0]) hres KZ.1 rfl KZ.2 ?_)
            refine bodyPost_ret (results_cell_tmp rfl _ _ _ _ _ _ _ rfl (hres.setRow _) hu4 rfl KZ.1) rfl ⟨by rw [HN.out]; rfl, below_setRow HD.out.below (Nat.le_refl _) _⟩
        | some n =>
          rw [hnum] at NB
          simp only [Option.getD_some, Option.isSome_some] at NB
          have hn0 := (number_some.1 hnum).1
          have hn1 := (number_some.1 hnum).2.2.1
          obtain ⟨x, rfl⟩ : ∃ x : Nat, n = x := ⟨n.toNat, by omega⟩
          have HE2 : Hid (dotted l = if out.length = 4 then none else dotParts (out ++ [UInt8.ofNat x]) (restAt 46 l [] (i + 1))) := by
            rw [HE.out, dotParts, hnum]; exact Lib.hid rfl
          clear hnum
          rcases hfact with ⟨hlt, hg'⟩ | hlt
          all_goals
            go_wp2_with fail
            refine (NB.out _).mono ?_
            rintro e w1 ⟨rfl, rfl⟩
            by_cases h4 : out.length = 4
            · have HN : Hid (dotted l = none) := by rw [HE2.out, if_pos h4]; exact Lib.hid rfl
              have h4' : ((out.length : Int) == 4) = true := by rw [beq_iff_eq]; omega
              have hres := HD.out.res
              clear h4
              go_wp2_with (refine wpList_store_row rfl _ _ _ rfl w.heap.size (arrB [0, 0, 0, 0]) rfl rfl 42 (arrB [0, 0, 0, 0]) hres KZ.1 rfl KZ.2 ?_)
              refine bodyPost_ret (results_cell_tmp rfl _ _ _ _ _ _ _ rfl (hres.setRow _) hu4 rfl KZ.1) rfl ⟨by rw [HN.out]; rfl, below_setRow HD.out.below (Nat.le_refl _) _⟩
            · have HN : Hid (dotted l = dotParts (out ++ [UInt8.ofNat x]) (restAt 46 l [] (i + 1))) := by rw [HE2.out, if_neg h4]; exact Lib.hid rfl
              have h4' : ((out.length : Int) == 4) = false := by rw [beq_eq_false_iff_ne]; omega
              have hlt4 : (out.length : Int) < 4 := by omega
              obtain ⟨z, hz⟩ : ∃ z, (pad4 out)[out.length]? = some z := ⟨_, List.getElem?_eq_getElem (by rw [pad4_len hol]; omega)⟩
              have a0 := (HD.out.arr.cell _).trans (arrB_get hz)
              have fA := HD.out.arr.frozen'
              have wx : IntKind.u8.wrap (x : Int) = (x : Int) := IntWalk.u8_in _ (by omega)
              have HS := Lib.hid (pad4_set (out := out) (by omega) (UInt8.ofNat x))
              have HX : Hid ((((UInt8.ofNat x).toNat : Nat) : Int) = x) := Lib.hid (by rw [UInt8.toNat_ofNat']; omega)
              clear hz h4
              go_wp2_with fail
              refine ⟨⟨i + 1, [], out ++ [UInt8.ofNat x], rfl, by simp, by go_num, Lib.hid ⟨by omega, by simp, by simp; omega, HN.out, HD.out.res.other _ _ (by simp), ?_, HD.out.below.setCell (by simp) _⟩⟩, by simp [intOf]; omega⟩
              have ha := HD.out.arr.set out.length (.int .u8 ((UInt8.ofNat x).toNat : Int))
              rw [arrB_set, HS.out, HX.out] at ha
              exact ha
    · obtain rfl : i = l.length + 1 := by omega
      have hie : ¬ ((l.length + 1 : Nat) : Int) ≤ (l.length : Int) := by omega
      have HE : Hid (dotted l = if out.length = 4 then some out else none) := by rw [HD.out.eq, restAt_over, dotParts]; exact Lib.hid rfl
      obtain ⟨r0, r1, r2, r3⟩ := HD.out.res.cells4
      have fr := HD.out.res.frozen'
      by_cases h4 : out.length = 4
      · have HN : Hid (dotted l = some out) := by rw [HE.out, if_pos h4]; exact Lib.hid rfl
        have ha := HD.out.arr
        rw [pad4_full h4] at ha
        obtain ⟨a0, a1, a2, a3, rfl⟩ := list4 h4
        obtain ⟨d0, d1, d2, d3⟩ := ha.cells4
        clear ha
        go_wp2_with fail
        have hr := Blk.setV4 (x0 := .int .u8 (a0.toNat : Int)) (x1 := .int .u8 (a1.toNat : Int)) (x2 := .int .u8 (a2.toNat : Int)) (x3 := .int .u8 (a3.toNat : Int)) (show Blk wr w.heap.size _ #[.int .u8 0, .int .u8 0, .int .u8 0, .int .u8 0] from HD.out.res)
        refine bodyPost_ret (results_cell_tmp rfl _ _ _ _ _ _ _ rfl hr Tryz.underlying42 rfl info4) rfl ⟨by rw [HN.out]; rfl, below_setV4 HD.out.below (Nat.le_refl _)⟩
      · have HN : Hid (dotted l = none) := by rw [HE.out, if_neg h4]; exact Lib.hid rfl
        have h4' : ((out.length : Int) == 4) = false := by rw [beq_eq_false_iff_ne]; omega
        have h4b : ((out.length : Int) != 4) = true := by rw [bne_iff_ne]; omega
        go_wp2_with fail
        have hr := Blk.setV4 (x0 := .int .u8 0) (x1 := .int .u8 0) (x2 := .int .u8 0) (x3 := .int .u8 0) (show Blk wr w.heap.size _ #[.int .u8 0, .int .u8 0, .int .u8 0, .int .u8 0] from HD.out.res)
        refine bodyPost_ret (results_cell_tmp rfl _ _ _ _ _ _ _ rfl hr Tryz.underlying42 rfl info4) rfl ⟨by rw [HN.out]; rfl, below_setV4 HD.out.below (Nat.le_refl _)⟩
end Go.Proofs.YtjbolphfelakeaaGreatDoor

/- The document's group and row of layer 7. -/
namespace Go.Proofs.YtjbolphfelakeaaGreatDoor
set_option linter.unusedVariables false
set_option linter.unusedSimpArgs false
open Go.RowKit Go.Shelf Go.Proofs Go.OctetPlain Go.ColonPlain

/-- a group's number; below 0: none -/
def grpI (l : List UInt8) : Int := match group l with
  | some n => (n : Int)
  | none => -1
theorem grpI_none {l : List UInt8} (h : group l = none) : grpI l = -1 := by unfold grpI; rw [h]
theorem grpI_some {l : List UInt8} {n : Nat} (h : group l = some n) : grpI l = n := by unfold grpI; rw [h]
structure GR (l : List UInt8) (i n : Nat) : Prop where
  le : i ≤ l.length
  lt : n < 16 ^ i
  eq : group l = groupFrom n i (l.drop i)

set_option maxRecDepth 100000 in
set_option maxHeartbeats 800000 in
theorem ref_group (l : List UInt8) (hl : l.length ≤ 1000000) (w : World) :
    Calls Tryz.prog 72 #[.string (str l)] w fun e w' => e = .returned (.int .i64 (grpI l)) ∧ w' = w := by
  have hsz : (str l).size = l.length := str_size l
  have htl := str_tl
  by_cases hnil : l = []
  · subst hnil
    have HN : Hid (grpI [] = -1) := Lib.hid rfl
    go_enter Tryz.func72, Tryz.ntmps72
    go_wp2_with fail
    go_ret
    exact ⟨by rw [HN.out]; rfl, rfl⟩
  · have hne : (l == []) = false := by simpa using hnil
    by_cases hlong : 4 < l.length
    · have HN : Hid (grpI l = -1) := Lib.hid (grpI_none (group_long hlong))
      have hl4 : (4 : Int) < (l.length : Int) := by omega
      go_enter Tryz.func72, Tryz.ntmps72
      go_wp2_with fail
      go_ret
      exact ⟨by rw [HN.out]; rfl, rfl⟩
    · have hl4 : ¬ (4 : Int) < (l.length : Int) := by omega
      have hpos : 0 < l.length := by cases l with
        | nil => exact absurd rfl hnil
        | cons a b => simp
      go_enter Tryz.func72, Tryz.ntmps72
      go_wp2_with fail
      go_loopw [3, 4, 5] (fun vn vi _ wr => ∃ (i n : Nat), vn = .int .i64 n ∧ vi = .int .i64 i ∧ wr = w ∧ Hid (GR l i n)) (fun _ vi _ _ => l.length - (intOf vi).toNat)
      case atStart => exact ⟨0, 0, rfl, rfl, rfl, Lib.hid ⟨Nat.zero_le _, by omega, by rw [List.drop_zero]; rfl⟩⟩
      case round =>
        obtain ⟨i, n, rfl, rfl, rfl, HG⟩ := hrel
        have hle := HG.out.le
        have hn : n < 65536 := by
          have h1 := HG.out.lt
          have : 16 ^ i ≤ 16 ^ 4 := Nat.pow_le_pow_right (by omega) (by omega)
          omega
        by_cases hlt : i < l.length
        · obtain ⟨c, hc⟩ : ∃ c, l[i]? = some c := ⟨l[i], List.getElem?_eq_getElem hlt⟩
          have hg' : ∀ h, (str l)[i]'h = c := fun h => (str_get l i h).trans (by obtain ⟨h1, h2⟩ := List.getElem?_eq_some_iff.1 hc; exact h2)
          have hdr : l.drop i = c :: l.drop (i + 1) := by
            obtain ⟨h1, h2⟩ := List.getElem?_eq_some_iff.1 hc
            rw [List.drop_eq_getElem_cons h1, h2]
          have HE : Hid (group l = if dig c < 0 ∨ 4 < i + 1 then none else groupFrom (n * 16 + (dig c).toNat) (i + 1) (l.drop (i + 1))) := by
            rw [HG.out.eq, hdr, groupFrom]; exact Lib.hid rfl
          have HD := Lib.hid fun W => ref_Digit c W
          obtain ⟨hd1, hd2⟩ := dig_bounds c
          clear hc hdr
          generalize dig c = d at HD HE hd1 hd2
          by_cases hd0 : d < 0
          · have HN : Hid (grpI l = -1) := Lib.hid (grpI_none (by rw [HE.out, if_pos (Or.inl hd0)]))
            go_wp2_with fail
            refine (HD.out _).mono ?_
            rintro e w1 ⟨rfl, rfl⟩
            go_wp2_with fail
            go_ret
            exact ⟨by rw [HN.out]; rfl, rfl⟩
          · obtain ⟨x, rfl⟩ : ∃ x : Nat, d = x := ⟨d.toNat, by omega⟩
            have HE2 : Hid (group l = groupFrom (n * 16 + x) (i + 1) (l.drop (i + 1))) := by rw [HE.out, if_neg (by omega)]; exact Lib.hid rfl
            have HL2 : Hid (n * 16 + x < 16 ^ (i + 1)) := by
              have := HG.out.lt
              refine Lib.hid ?_
              rw [Nat.pow_succ]; omega
            have w1 : IntKind.i64.wrap ((16 : Int) * n) = (16 : Int) * n := IntWalk.i64_in _ (by omega)
            have w2 : IntKind.i64.wrap ((16 : Int) * n + x) = (16 : Int) * n + x := IntWalk.i64_in _ (by omega)
            go_wp2_with fail
            refine (HD.out _).mono ?_
            rintro e w1 ⟨rfl, rfl⟩
            go_wp2_with fail
            refine ⟨⟨i + 1, n * 16 + x, by go_num, by go_num, trivial, Lib.hid ⟨by omega, HL2.out, HE2.out⟩⟩, by simp [intOf]; omega⟩
        · obtain rfl : i = l.length := by omega
          have HN : Hid (grpI l = n) := Lib.hid (grpI_some (by rw [HG.out.eq, List.drop_length, groupFrom, if_pos hpos]))
          go_wp2_with fail
          go_ret
          exact ⟨by rw [HN.out]; rfl, rfl⟩

theorem restAt_ne {d : UInt8} {l : List UInt8} {i : Nat} (h : i ≤ l.length) : restAt d l [] i ≠ [] := by
  unfold restAt; rw [if_pos h]; unfold restOf; simp
/-- the document's row, at a place -/
structure RR (w : World) (l : List UInt8) (last : Bool) (W : World) (i : Nat) (part : List UInt8) (out : List Nat) (vo : Value) : Prop where
  le : i ≤ l.length + 1
  pl : part.length ≤ i
  own : W.ownsRow w.heap.size 3 1 vo out.length (flat encN out)
  ol : out.length ≤ 2 * i
  eq : row last l = rowParts last out (restAt 58 l part i)
  below : Below w.heap.size w W

set_option maxRecDepth 100000 in
set_option maxHeartbeats 2000000 in
theorem ref_row (l : List UInt8) (hl : l.length ≤ 1000000) (last : Bool) (w : World) :
    Calls Tryz.prog 58 #[.string (str l), .bool last] w fun e w' => ∃ v, e = .returned (.tuple #[v, .bool (row last l).isSome]) ∧ w'.ownsRow w.heap.size 3 1 v ((row last l).getD []).length (flat encN ((row last l).getD [])) ∧ Below w.heap.size w w' := by
  have hsz : (str l).size = l.length := str_size l
  have hz0 : ByteArray.size ⟨#[]⟩ = 0 := rfl
  have htl := str_tl
  by_cases hnil : l = []
  · subst hnil
    go_enter Tryz.func58, Tryz.ntmps58
    go_wp2_with fail
    refine bodyPost_ret (v := .tuple #[.slice none 0 0, .bool true]) ?_ rfl ⟨_, rfl, World.ownsRow_nil _ _ _ _, Below.refl _ _⟩
    simp [results, Tryz.results58, go_sem]
  · have hne : (l == []) = false := by simpa using hnil
    have hrow : Hid (row last l = rowParts last [] (restAt 58 l [] 0)) := by unfold row; rw [if_neg hnil, restAt_zero]; exact Lib.hid rfl
    go_enter Tryz.func58, Tryz.ntmps58
    go_wp2_with fail
    clear hne htl hnil
    go_loopw [6, 7, 8, 9, 10, 11] (fun vo vp vi _ _ _ wr => ∃ (i : Nat) (part : List UInt8) (out : List Nat), vp = .string (str part) ∧ vi = .int .i64 i ∧ Hid (RR w l last wr i part out vo)) (fun _ _ vi _ _ _ _ => l.length + 2 - (intOf vi).toNat)
    case atStart =>
      exact ⟨0, [], [], rfl, rfl, Lib.hid ⟨by omega, Nat.le_refl _, World.ownsRow_nil _ _ _ _, by simp, hrow.out, Below.refl _ _⟩⟩
    case round =>
      obtain ⟨i, part, out, rfl, rfl, HR⟩ := hrel
      have hps : (str part).size = part.length := str_size part
      have hpl := HR.out.pl
      have hol := HR.out.ol
      have hle := HR.out.le
      by_cases hi : i ≤ l.length
      · by_cases hc : ∃ c, l[i]? = some c ∧ c ≠ 58
        · obtain ⟨c, hc1, hc2⟩ := hc
          have hlt : i < l.length := (List.getElem?_eq_some_iff.1 hc1).1
          have hg' : ∀ h, (str l)[i]'h = c := fun h => (str_get l i h).trans (by obtain ⟨h1, h2⟩ := List.getElem?_eq_some_iff.1 hc1; exact h2)
          have hcut : (str l).extract i (i + 1) = str [c] := by
            rw [str_cut]
            obtain ⟨h1, h2⟩ := List.getElem?_eq_some_iff.1 hc1
            rw [List.drop_eq_getElem_cons h1, h2]; simp
          have hne : ((c.toNat : Int) != 58) = true := by
            rw [bne_iff_ne]; intro h; exact hc2 (UInt8.toNat_inj.1 (Int.ofNat.inj h))
          have HE : Hid (row last l = rowParts last out (restAt 58 l (part ++ [c]) (i + 1))) := by rw [HR.out.eq, restAt_step hc1 hc2]; exact Lib.hid rfl
          have hs1 : ∀ c, (str [c]).size = 1 := fun c => str_size _
          have w1 : IntKind.i64.wrap ((i : Int) + 1) = (i : Int) + 1 := IntWalk.i64_in _ (by omega)
          have hi1 : ((i : Int) + 1).toNat = i + 1 := by omega
          clear hc1 hc2
          go_wp2_with fail
          refine ⟨⟨i + 1, part ++ [c], out, by rw [str_app], by go_num, Lib.hid ⟨by omega, by simp; omega, HR.out.own, by omega, HE.out, HR.out.below⟩⟩, by simp [intOf]; omega⟩
        · have hsep : (i < l.length ∧ l[i]? = some 58) ∨ i = l.length := by
            rcases Nat.lt_or_ge i l.length with h | h
            · left
              refine ⟨h, ?_⟩
              have h2 := List.getElem?_eq_getElem h
              by_cases h3 : l[i] = 58
              · rw [h2, h3]
              · exact absurd ⟨l[i], h2, h3⟩ hc
            · right; omega
          have HE : Hid (row last l = rowParts last out (part :: restAt 58 l [] (i + 1))) := by
            rcases hsep with ⟨_, h⟩ | h
            · rw [HR.out.eq, restAt_sep h]; exact Lib.hid rfl
            · subst h; rw [HR.out.eq, restAt_end]; exact Lib.hid rfl
          have hfact : (i < l.length ∧ (∀ h, (str l)[i]'h = 58) ∧ ((i : Int) == l.length) = false ∧ restAt 58 l [] (i + 1) ≠ []) ∨ (¬ i < l.length ∧ ((i : Int) == l.length) = true ∧ restAt 58 l [] (i + 1) = []) := by
            rcases hsep with ⟨h, hc1⟩ | h
            · exact Or.inl ⟨h, fun h => (str_get l i h).trans (by obtain ⟨h1, h2⟩ := List.getElem?_eq_some_iff.1 hc1; exact h2), by rw [beq_eq_false_iff_ne]; omega, restAt_ne (by omega)⟩
            · exact Or.inr ⟨by omega, by rw [beq_iff_eq]; omega, by rw [h, restAt_over]⟩
          clear hc hsep
          have HG := Lib.hid fun W => ref_group part (by omega) W
          have HD := Lib.hid fun W => ref_dotted part (by omega) W
          obtain ⟨a0, a1, a2, a3, is, had, his, hasm⟩ : ∃ (a0 a1 a2 a3 : UInt8) (is : Bool), (dotted part).getD [0, 0, 0, 0] = [a0, a1, a2, a3] ∧ (dotted part).isSome = is ∧ dotted part = if is then some [a0, a1, a2, a3] else none := by
            cases hd : dotted part with
            | none => exact ⟨0, 0, 0, 0, false, rfl, rfl, by simp⟩
            | some a =>
              obtain ⟨a0, a1, a2, a3, rfl⟩ := list4 (dotParts_length _ _ a hd)
              exact ⟨a0, a1, a2, a3, true, rfl, rfl, by simp⟩
          rw [had, his] at HD
          have HD2 : Hid (∀ W, Calls Tryz.prog 41 #[.string (str part)] W fun e w' => e = .returned (.tuple #[.agg #[.int .u8 (a0.toNat : Int), .int .u8 (a1.toNat : Int), .int .u8 (a2.toNat : Int), .int .u8 (a3.toNat : Int)], .bool is]) ∧ Below W.heap.size W w') := HD
          clear HD had his
          have HB4 : ∀ (W W' : World), Below W.heap.size W W' → Below W.heap.size W (W'.alloc (.cells #[.int .u8 (a0.toNat : Int), .int .u8 (a1.toNat : Int), .int .u8 (a2.toNat : Int), .int .u8 (a3.toNat : Int)] 42)) := fun W W' h => h.trans (belowA2' _ h.size)
          cases hg : group part with
          | some n =>
            have HE2 : Hid (row last l = rowParts last (out ++ [n]) (restAt 58 l [] (i + 1))) := by rw [HE.out, rowParts, hg]; exact Lib.hid rfl
            have hgn := grpI_some hg
            rw [hgn] at HG
            clear hg hgn
            rcases hfact with ⟨hlt, hg', _, _⟩ | ⟨hlt, _, _⟩
            all_goals
              go_wp2_with fail
              refine (HG.out _).mono ?_
              rintro e w1 ⟨rfl, rfl⟩
              go_wp2_with fail
              refine (HD2.out _).mono ?_
              rintro e w2 ⟨rfl, hb2⟩
              have hb3 := HB4 _ _ hb2
              have HO3 := Lib.hid (owns_below HR.out.own hb3 (Nat.le_refl _))
              have HB3 := Lib.hid (HR.out.below.trans (hb3.mono HR.out.below.size))
              clear hb2 hb3
              go_wp2_with (at_builtin; go_loud (refine wpList_appB elemN rfl (.tmp 47) (.tmp 49) rfl w.heap.size u6 _ _ rfl HO3.out 1 1 (w2.heap.size + 1) (by simp) [.int .i64 _] rfl rfl (by simp [Value.oneCell']) (by omega) HB3.out.size ?_; intro v4 w4 hown4 _ _ hb4))
              refine ⟨⟨i + 1, [], out ++ [n], rfl, by go_num, Lib.hid ⟨by omega, by simp, ?_, by simp; omega, HE2.out, HB3.out.trans hb4⟩⟩, by simp [intOf]; omega⟩
              rw [flat_append, List.length_append]
              exact hown4
          | none =>
            have HE2 : Hid (row last l = if is = true ∧ last = true ∧ restAt 58 l [] (i + 1) = [] then some (out ++ [256 * a0.toNat + a1.toNat, 256 * a2.toNat + a3.toNat]) else none) := by
              rw [HE.out, rowParts, hg, hasm]
              cases is
              · exact Lib.hid (by simp)
              · simp only [if_true, true_and]; exact Lib.hid rfl
            have hgn := grpI_none hg
            rw [hgn] at HG
            clear hg hgn hasm
            rcases hfact with ⟨hlt, hg', heq, hrs⟩ | ⟨hlt, heq, hrs⟩
            · have HN : Hid (row last l = none) := by rw [HE2.out, if_neg (fun h => hrs h.2.2)]; exact Lib.hid rfl
              clear hrs
              go_wp2_with fail
              refine (HG.out _).mono ?_
              rintro e w1 ⟨rfl, rfl⟩
              go_wp2_with fail
              refine (HD2.out _).mono ?_
              rintro e w2 ⟨rfl, hb2⟩
              have hb3 := HB4 _ _ hb2
              have HB3 := Lib.hid (HR.out.below.trans (hb3.mono HR.out.below.size))
              clear hb2 hb3
              go_wp2_with fail
              refine bodyPost_ret (v := .tuple #[.slice none 0 0, .bool false]) ?_ rfl ⟨.slice none 0 0, by rw [HN.out]; rfl, by rw [HN.out]; exact World.ownsRow_nil _ _ _ _, HB3.out⟩
              simp [results, Tryz.results58, go_sem, HN.out]
            · by_cases hboth : is = true ∧ last = true
              · obtain ⟨rfl, rfl⟩ := hboth
                have HE3 : Hid (row true l = rowParts true (out ++ [256 * a0.toNat + a1.toNat, 256 * a2.toNat + a3.toNat]) (restAt 58 l [] (i + 1))) := by
                  rw [HE2.out, if_pos ⟨rfl, rfl, hrs⟩, hrs]; exact Lib.hid rfl
                have q0 : a0.toNat < 256 := a0.toNat_lt
                have q1 : a1.toNat < 256 := a1.toNat_lt
                have q2 : a2.toNat < 256 := a2.toNat_lt
                have q3 : a3.toNat < 256 := a3.toNat_lt
                clear HE2 HE hrs
                generalize a0.toNat = b0 at *
                generalize a1.toNat = b1 at *
                generalize a2.toNat = b2 at *
                generalize a3.toNat = b3 at *
                go_wp2_with fail
                refine (HG.out _).mono ?_
                rintro e w1 ⟨rfl, rfl⟩
                go_wp2_with fail
                refine (HD2.out _).mono ?_
                rintro e w2 ⟨rfl, hb2⟩
                have hb3 := HB4 _ _ hb2
                have HO3 := Lib.hid (owns_below HR.out.own hb3 (Nat.le_refl _))
                have HB3 := Lib.hid (HR.out.below.trans (hb3.mono HR.out.below.size))
                clear hb2 hb3
                go_wp2_with (at_builtin; go_loud (refine wpList_appB elemN rfl (.tmp 62) (.tmp 79) rfl w.heap.size u6 _ _ rfl HO3.out 2 2 (w2.heap.size + 1) (by simp) [.int .i64 _, .int .i64 _] rfl rfl (by simp [Value.oneCell']) (by omega) HB3.out.size ?_; intro v4 w4 hown4 _ _ hb4))
                refine ⟨⟨i + 1, [], out ++ [256 * b0 + b1, 256 * b2 + b3], rfl, by go_num, Lib.hid ⟨by omega, by simp, ?_, by simp; omega, HE3.out, HB3.out.trans hb4⟩⟩, by simp [intOf]; omega⟩
                rw [flat_append, List.length_append]
                exact hown4
              · have HN : Hid (row last l = none) := by rw [HE2.out, if_neg (fun h => hboth ⟨h.1, h.2.1⟩)]; exact Lib.hid rfl
                clear hrs
                have hcs : last = false ∨ (last = true ∧ is = false) := by cases last <;> cases is <;> simp_all
                clear hboth
                rcases hcs with rfl | ⟨rfl, rfl⟩
                all_goals
                  go_wp2_with fail
                  refine (HG.out _).mono ?_
                  rintro e w1 ⟨rfl, rfl⟩
                  go_wp2_with fail
                  refine (HD2.out _).mono ?_
                  rintro e w2 ⟨rfl, hb2⟩
                  have hb3 := HB4 _ _ hb2
                  have HB3 := Lib.hid (HR.out.below.trans (hb3.mono HR.out.below.size))
                  clear hb2 hb3
                  go_wp2_with fail
                  refine bodyPost_ret (v := .tuple #[.slice none 0 0, .bool false]) ?_ rfl ⟨.slice none 0 0, by rw [HN.out]; rfl, by rw [HN.out]; exact World.ownsRow_nil _ _ _ _, HB3.out⟩
                  simp [results, Tryz.results58, go_sem, HN.out]
      · obtain rfl : i = l.length + 1 := by omega
        have hie : ¬ ((l.length + 1 : Nat) : Int) ≤ (l.length : Int) := by omega
        have HN : Hid (row last l = some out) := by rw [HR.out.eq, restAt_over, rowParts]; exact Lib.hid rfl
        go_wp2_with fail
        refine bodyPost_ret (v := .tuple #[u6, .bool true]) ?_ rfl ⟨u6, by rw [HN.out]; rfl, by rw [HN.out]; exact HR.out.own, HR.out.below⟩
        simp [results, Tryz.results58, go_sem]
end Go.Proofs.YtjbolphfelakeaaGreatDoor

/- Plain law of the document's Parse of layer 7. -/
namespace Go.Proofs.YtjbolphfelakeaaGreatDoor
set_option linter.unusedVariables false
set_option linter.unusedSimpArgs false
open Go.RowKit Go.Shelf Go.Proofs Go.OctetPlain Go.ColonPlain

def fillA (a : List Nat) (k : Nat) : List Int := upto (ints a) k ++ List.replicate (8 - a.length) 0
def fillB (a b : List Nat) (k : Nat) : List Int := (ints a ++ List.replicate (8 - a.length - b.length) 0) ++ upto (ints b) k
theorem fillA_zero {a : List Nat} (h : a.length ≤ 8) : fillA a 0 = List.replicate 8 0 := by
  unfold fillA upto
  rw [List.take_zero, List.nil_append, ints_len', Nat.sub_zero, List.replicate_append_replicate]
  congr 1; omega
theorem fillA_len {a : List Nat} {k : Nat} (h : a.length ≤ 8) (hk : k ≤ a.length) : (fillA a k).length = 8 := by
  unfold fillA
  rw [List.length_append, upto_len _ _ (by rw [ints_len']; exact hk), ints_len', List.length_replicate]; omega
theorem fillB_len {a b : List Nat} {k : Nat} (h : a.length + b.length ≤ 8) (hk : k ≤ b.length) : (fillB a b k).length = 8 := by
  unfold fillB
  rw [List.length_append, List.length_append, upto_len _ _ (by rw [ints_len']; exact hk), ints_len', ints_len', List.length_replicate]; omega
theorem ints_at {l : List Nat} {k n : Nat} (h : l[k]? = some n) : (ints l)[k]? = some (n : Int) := by simp [ints, h]
theorem fillA_set {a : List Nat} {k n : Nat} (h : a[k]? = some n) : (fillA a k).set k (n : Int) = fillA a (k + 1) := by
  unfold fillA
  have hk := (List.getElem?_eq_some_iff.1 h).1
  rw [List.set_append_left _ _ (by rw [upto_len _ _ (by rw [ints_len']; omega), ints_len']; exact hk), upto_set (ints_at h)]
theorem fillB_set {a b : List Nat} {k n q : Nat} (hs : a.length + b.length ≤ 8) (hq : q + b.length = 8) (h : b[k]? = some n) : (fillB a b k).set (q + k) (n : Int) = fillB a b (k + 1) := by
  unfold fillB
  have hp : (ints a ++ List.replicate (8 - a.length - b.length) (0 : Int)).length = q := by rw [List.length_append, ints_len', List.length_replicate]; omega
  rw [List.set_append_right _ _ (by omega), hp, Nat.add_sub_cancel_left, upto_set (ints_at h)]
theorem fillA_all {a b : List Nat} (hs : a.length + b.length ≤ 8) : fillA a a.length = fillB a b 0 := by
  unfold fillA fillB
  have := upto_all (ints a)
  rw [ints_len'] at this
  rw [this, upto, List.take_zero, List.nil_append, ints_len', Nat.sub_zero, List.append_assoc, List.replicate_append_replicate]
  congr 2; omega
theorem fillB_all (a b : List Nat) : fillB a b b.length = ints (a ++ List.replicate (8 - a.length - b.length) 0 ++ b) := by
  unfold fillB
  have := upto_all (ints b)
  rw [ints_len'] at this
  rw [this, ints_app, ints_app, ints_rep]
theorem parse_no_dd {l : List UInt8} (h : ∀ j, ¬ ddAt l j) : parse l = match row true l with
    | none => none
    | some a => if a.length = 8 then of (ints a) else none := by
  have hc := cut_no_dd h
  cases hr : row true l with
  | none => exact parse_none_a (by rw [hc]; exact hr)
  | some a =>
    rw [parse_some (a := a) (b := []) (by rw [hc]; exact hr) (by rw [hc]; rfl), hc]
    by_cases h8 : a.length = 8
    · rw [if_neg (by simp [h8])]
      simp [h8]
    · rw [if_pos (Or.inr ⟨rfl, by simpa using h8⟩)]
      simp [h8]
theorem parse_at_dd {l : List UInt8} {j : Nat} (h : ddAt l j) (hn : ∀ i, i < j → ¬ ddAt l i) : parse l = match row false (l.take j) with
    | none => none
    | some a => match row true (l.drop (j + 2)) with
      | none => none
      | some b => if 7 < a.length + b.length then none else of (ints (a ++ List.replicate (8 - a.length - b.length) 0 ++ b)) := by
  have hc := cut_at_dd h hn
  cases hr : row false (l.take j) with
  | none => exact parse_none_a (by rw [hc]; exact hr)
  | some a =>
    cases hr2 : row true (l.drop (j + 2)) with
    | none => exact parse_none_b (by rw [hc]; exact hr2)
    | some b =>
      rw [parse_some (a := a) (b := b) (by rw [hc]; exact hr) (by rw [hc]; exact hr2), hc]
      by_cases h7 : 7 < a.length + b.length
      · rw [if_pos (Or.inl ⟨rfl, h7⟩)]; simp [h7]
      · rw [if_neg (by simp; omega)]; simp [h7]
/-- the first place of two colons, as far as was looked -/
def ddSeen (l : List UInt8) (a : Int) (i : Nat) : Prop := (a = -1 ∧ ∀ j, j < i → ¬ ddAt l j) ∨ ∃ j : Nat, a = j ∧ j < i ∧ ddAt l j ∧ ∀ k, k < j → ¬ ddAt l k
theorem ddSeen_zero (l : List UInt8) : ddSeen l (-1) 0 := Or.inl ⟨rfl, fun j h => by omega⟩
theorem ddSeen_yes {l : List UInt8} {i : Nat} (h : ddSeen l (-1) i) (hd : ddAt l i) : ddSeen l i (i + 1) := by
  rcases h with ⟨_, h⟩ | ⟨j, h, _⟩
  · exact Or.inr ⟨i, rfl, by omega, hd, h⟩
  · omega
theorem ddSeen_no {l : List UInt8} {i : Nat} {a : Int} (h : ddSeen l a i) (hd : 0 ≤ a ∨ ¬ ddAt l i) : ddSeen l a (i + 1) := by
  rcases h with ⟨rfl, h⟩ | ⟨j, rfl, h1, h2⟩
  · refine Or.inl ⟨rfl, fun j hj => ?_⟩
    rcases Nat.lt_or_ge j i with h3 | h3
    · exact h j h3
    · obtain rfl : j = i := by omega
      rcases hd with hd | hd
      · omega
      · exact hd
  · exact Or.inr ⟨j, rfl, by omega, h2⟩
theorem ddSeen_end {l : List UInt8} {i : Nat} {a : Int} (h : ddSeen l a i) (hi : l.length ≤ i + 1) : (a = -1 ∧ ∀ j, ¬ ddAt l j) ∨ ∃ j : Nat, a = j ∧ j + 2 ≤ l.length ∧ ddAt l j ∧ ∀ k, k < j → ¬ ddAt l k := by
  have hlt : ∀ j, ddAt l j → j + 2 ≤ l.length := fun j hj => by
    have := (List.getElem?_eq_some_iff.1 hj.2).1; omega
  rcases h with ⟨rfl, h⟩ | ⟨j, rfl, h1, h2, h3⟩
  · refine Or.inl ⟨rfl, fun j hj => h j ?_ hj⟩
    have := hlt j hj; omega
  · exact Or.inr ⟨j, rfl, hlt j h2, h2, h3⟩
theorem cut2 {l : List UInt8} {i : Nat} (h : i + 1 < l.length) : (str l).extract i (i + 2) = str [l[i]'(by omega), l[i + 1]] := by
  rw [str_cut, show i + 2 - i = 2 by omega, List.drop_eq_getElem_cons (by omega : i < l.length), List.drop_eq_getElem_cons h]
  rfl
theorem dd_iff {l : List UInt8} {i : Nat} (h : i + 1 < l.length) : ddAt l i ↔ str [l[i]'(by omega), l[i + 1]] = str [58, 58] := by
  unfold ddAt
  rw [List.getElem?_eq_getElem (by omega : i < l.length), List.getElem?_eq_getElem h]
  constructor
  · rintro ⟨h1, h2⟩
    simp only [Option.some.injEq] at h1 h2
    rw [h1, h2]
  · intro h
    have := str_inj.1 h
    simp only [List.cons.injEq, and_true] at this
    rw [this.1, this.2]; simp
end Go.Proofs.YtjbolphfelakeaaGreatDoor

/- The document's Parse of layer 7. -/
namespace Go.Proofs.YtjbolphfelakeaaGreatDoor
set_option linter.unusedVariables false
set_option linter.unusedSimpArgs false
open Go.RowKit Go.Shelf Go.Proofs Go.OctetPlain Go.ColonPlain

theorem RdP.setOther {α : Type} {w : World} {k : Nat} {enc : α → List Value} {p : Option Addr} {xs : List α} (h : RdP w k enc p xs) (a : Addr) (v : Value) (hne : ∀ q, p = some q → q.block ≠ a.block) : RdP (w.setCell a v) k enc p xs := by
  refine ⟨h.1, fun q hq => ?_⟩
  obtain ⟨h1, h2, h3⟩ := h.2 q hq
  refine ⟨h1, Nat.lt_of_lt_of_le h2 (by simp), fun i x hx j u hu => ?_⟩
  rw [← h3 i x hx j u hu]
  have := Below.heap_setCell w a v q.block (hne q hq)
  unfold World.cell?
  simp only [this]
theorem owns_rd {w : World} {base : Nat} {e : TypeId} {v : Value} {l : List Nat} (h : w.ownsRow base e 1 v l.length (flat encN l)) : ∃ p cap, v = .slice p l.length cap ∧ l.length ≤ cap ∧ cap ≤ 9223372036854775807 ∧ RdP w 1 encN p l ∧ ∀ q, p = some q → base ≤ q.block := by
  obtain ⟨p, cap, hv, h1, h2, h3⟩ := SlR.of_owns encN_len h
  refine ⟨p, cap, hv, h1, h2, h3, fun q hq => ?_⟩
  rcases h.2 with ⟨h0, _⟩ | ⟨g, cap', cur, hv', hb, _⟩
  · rw [hv, hq] at h0; cases h0
  · rw [hv, hq] at hv'; cases hv'; exact hb
/-- the state: the result's array and the groups' -/
structure P7 (w W : World) (X : Array Value) : Prop where
  below : Below w.heap.size w W
  b1 : Blk W w.heap.size 22 (arrB z16)
  b2 : Blk W (w.heap.size + 1) 64 X
theorem P7.next {w W W' : World} {X : Array Value} (h : P7 w W X) (hb : Below W.heap.size W W') : P7 w W' X := ⟨h.below.trans (hb.mono h.below.size), h.b1.below hb h.b1.lt, h.b2.below hb h.b2.lt⟩
theorem P7.set {w W : World} {L : List Int} (h : P7 w W (arrI L)) (i : Nat) (n : Int) : P7 w (W.setCell ⟨w.heap.size + 1, i, none⟩ (.int .i64 n)) (arrI (L.set i n)) :=
  ⟨h.below.setCell (by simp) _, h.b1.other _ _ (by simp), by rw [← arrI_set]; exact h.b2.set _ _⟩

theorem of_len16 {L : List Int} (h : L.length = 8) : ((of L).getD z16).length = 16 := by
  cases ho : of L with
  | none => rfl
  | some c => have := of_length _ c ho; rw [h] at this; exact this
theorem ints_bd {a : List Nat} (h : ∀ n ∈ a, n < 65536) : ∀ (k : Nat) (n : Int), (ints a)[k]? = some n → -9223372036854775808 ≤ n ∧ n ≤ 9223372036854775807 := by
  intro k n hn
  have hmem := List.mem_of_getElem? hn
  unfold ints at hmem
  obtain ⟨x, hx, rfl⟩ := List.mem_map.1 hmem
  have hx6 := h x hx
  simp only [Int.ofNat_eq_natCast]
  omega

set_option maxRecDepth 100000 in
set_option maxHeartbeats 4000000 in
theorem ref_Parse7 (l : List UInt8) (hl : l.length ≤ 100000) (w : World) :
    Calls Tryz.prog 42 #[.string (str l)] w fun e w' => e = .returned (.tuple #[.agg (arrB ((parse l).getD z16)), .bool (parse l).isSome]) ∧ Below w.heap.size w w' := by
  have hsz : (str l).size = l.length := str_size l
  have hs2 : ∀ a b : UInt8, (str [a, b]).size = 2 := fun a b => str_size _
  have htl := str_tl
  have hu16 := Tryz.underlying22
  have hu8 := Tryz.underlying64
  have hal : Tryz.prog.arrayLen 64 = 8 := by kernel_rfl
  have KZ : A16 (arrB z16) := A16.of rfl
  go_enter Tryz.func42, Tryz.ntmps42
  go_wp2_with fail
  go_loopw [4, 5] (fun va vi wr => ∃ (a : Int) (i : Nat), va = .int .i64 a ∧ vi = .int .i64 i ∧ i ≤ l.length ∧ wr = w.alloc (.cells (arrB z16) 22) ∧ Hid (ddSeen l a i)) (fun _ vi _ => l.length + 1 - (intOf vi).toNat)
  case atStart => exact ⟨-1, 0, rfl, rfl, Nat.zero_le _, rfl, Lib.hid (ddSeen_zero l)⟩
  case round =>
    obtain ⟨a, i, rfl, rfl, hi, rfl, HD⟩ := hrel
    have w1 : IntKind.i64.wrap ((i : Int) + 1) = (i : Int) + 1 := IntWalk.i64_in _ (by omega)
    by_cases hlt : i + 1 < l.length
    · have w2 : IntKind.i64.wrap ((i : Int) + 2) = (i : Int) + 2 := IntWalk.i64_in _ (by omega)
      have hi2 : ((i : Int) + 2).toNat = i + 2 := by omega
      have hlt' : (i : Int) + 1 < (l.length : Int) := by omega
      have hcut := cut2 hlt
      have hdi := dd_iff hlt
      generalize l[i]'(by omega) = x at hcut hdi
      generalize l[i + 1] = y at hcut hdi
      by_cases hdd : ddAt l i
      · have hxy : str [x, y] = str [58, 58] := hdi.1 hdd
        rw [hxy] at hcut
        by_cases ha : a < 0
        · have HE : Hid (ddSeen l i (i + 1)) := by
            have h := HD.out
            have ha1 : a = -1 := by
              rcases h with ⟨h, _⟩ | ⟨j, h, _⟩
              · exact h
              · omega
            rw [ha1] at h
            exact Lib.hid (ddSeen_yes h hdd)
          clear hdi hdd hxy
          go_wp2_with fail
          exact ⟨⟨i, i + 1, rfl, by go_num, by omega, trivial, HE⟩, by simp [intOf]; omega⟩
        · have HE : Hid (ddSeen l a (i + 1)) := Lib.hid (ddSeen_no HD.out (Or.inl (by omega)))
          clear hdi hdd hxy
          go_wp2_with fail
          exact ⟨⟨a, i + 1, rfl, by go_num, by omega, trivial, HE⟩, by simp [intOf]; omega⟩
      · have HE : Hid (ddSeen l a (i + 1)) := Lib.hid (ddSeen_no HD.out (Or.inr hdd))
        have hxy : ([x, y] == ([58, 58] : List UInt8)) = false := by
          rw [beq_eq_false_iff_ne]
          intro h
          exact hdd (hdi.2 (by rw [h]))
        clear hdi hdd
        go_wp2_with fail
        exact ⟨⟨a, i + 1, rfl, by go_num, by omega, trivial, HE⟩, by simp [intOf]; omega⟩
    · have hlt' : ¬ (i : Int) + 1 < (l.length : Int) := by omega
      have hend := ddSeen_end HD.out (show l.length ≤ i + 1 by omega)
      have hz16 : P7 w ((w.alloc (.cells (arrB z16) 22)).alloc (.cells (arrI (List.replicate 8 0)) 64)) (arrI (List.replicate 8 0)) := by
        refine ⟨(belowA w _).trans (belowA2' _ (by simp)), (Blk.new _ _ _).alloc _, ?_⟩
        have h := Blk.new (w.alloc (.cells (arrB z16) 22)) 64 (arrI (List.replicate 8 0))
        rw [World.size_alloc] at h
        exact h
      have HZ := Lib.hid hz16
      clear hz16 HD
      rcases hend with ⟨rfl, hno⟩ | ⟨j, rfl, hjl, hdj, hfst⟩
      · have hpe := parse_no_dd hno
        clear hno
        have HR := Lib.hid fun W => ref_row l (by omega) true W
        cases hr : row true l with
        | none =>
          rw [hr] at hpe HR
          have HN : Hid (parse l = none) := Lib.hid hpe
          clear hpe hr
          go_wp2_with fail
          refine (HR.out _).mono ?_
          rintro e w1 ⟨v, rfl, hown, hb1⟩
          obtain ⟨p, cap, rfl, hc1, hc2, _, _⟩ := owns_rd hown
          have H1 := HZ.out.next hb1
          have hb16 := H1.b1
          have HBL := Lib.hid H1.below
          clear hown hb1 H1 HZ
          go_wp2_with (refine wpList_store_row rfl _ _ _ rfl w.heap.size (arrB z16) rfl rfl 22 (arrB z16) hb16 KZ.info rfl KZ.one ?_)
          refine bodyPost_ret (results_cell_tmp rfl _ _ _ _ _ _ _ rfl (hb16.setRow _) hu16 rfl KZ.info) rfl ⟨by rw [HN.out]; rfl, below_setRow HBL.out (Nat.le_refl _) _⟩
        | some a =>
          rw [hr] at hpe HR
          have hlt := row_lt hr
          have hle := row_le hr
          simp only at hpe
          clear hr
          by_cases h8 : a.length = 8
          · have HN : Hid (parse l = of (ints a)) := by rw [hpe, if_pos h8]; exact Lib.hid rfl
            have hF : (ints a).length = 8 := by rw [ints_len', h8]
            have HO := Lib.hid fun W => ref_Of (ints a) hF (ints_bd hlt) W
            have KX := Lib.hid (A16.of (of_len16 hF))
            have hi8 : (Tryz.prog.info? 64).map (·.size) = some (arrI (ints a)).size := by rw [arrI_size, hF]; exact info8
            have HI8 := Lib.hid hi8
            have e8 : ints a ++ List.replicate (8 - a.length) (0 : Int) = ints a := by rw [h8]; simp
            have h8' : ((a.length : Int) != 8) = false := by rw [h8]; rfl
            clear hpe hF hlt hi8
            go_wp2_with fail
            refine (HR.out _).mono ?_
            rintro e w1 ⟨v, rfl, hown, hb1⟩
            simp only [Option.getD_some] at hown
            have H1 := HZ.out.next hb1
            obtain ⟨W1, hr1, hB1, hbel1, hs1⟩ := copy_nums H1.b2 (SlR.of_owns encN_len hown) 0 8 8 (by omega) (by simp; omega) 3
            rw [fill_front (by omega), e8] at hB1
            obtain ⟨p, cap, rfl, hc1, hc2, _, _⟩ := owns_rd hown
            rw [h8] at hr1
            have HB1 := Lib.hid hB1
            have hb16 : Blk W1 w.heap.size 22 (arrB z16) := (hs1 _ (by omega)).trans H1.b1
            have HB16 := Lib.hid hb16
            have HBL := Lib.hid (H1.below.trans (hbel1.mono (Nat.le_succ _)))
            clear hB1 hb16 hbel1 hs1 H1 hown hb1 HZ e8
            go_wp2_with (refine wpList_load_want rfl _ _ rfl (w.heap.size + 1) rfl _ (arrI (ints a)) (0, 0) _ HB1.out hu8 rfl HI8.out ?_)
            refine (HO.out _).mono ?_
            rintro e w2 ⟨rfl, hb2⟩
            have hb16 := HB16.out.below hb2 HB16.out.lt
            have HBL2 := Lib.hid (HBL.out.trans (hb2.mono HBL.out.size))
            clear hb2
            go_wp2_with (refine wpList_store_row rfl _ _ _ rfl w.heap.size _ rfl rfl 22 (arrB z16) hb16 KX.out.info KX.out.size.symm KX.out.one ?_)
            refine bodyPost_ret (results_cell_tmp rfl _ _ _ _ _ _ _ rfl (hb16.setRow _) hu16 rfl KX.out.info) rfl ⟨by rw [HN.out]; rfl, below_setRow HBL2.out (Nat.le_refl _) _⟩
          · have HN : Hid (parse l = none) := by rw [hpe, if_neg h8]; exact Lib.hid rfl
            have h8' : ((a.length : Int) != 8) = true := by rw [bne_iff_ne]; omega
            clear hpe hlt
            go_wp2_with fail
            refine (HR.out _).mono ?_
            rintro e w1 ⟨v, rfl, hown, hb1⟩
            simp only [Option.getD_some] at hown
            obtain ⟨p, cap, rfl, hc1, hc2, _, _⟩ := owns_rd hown
            have H1 := HZ.out.next hb1
            have hb16 := H1.b1
            have HBL := Lib.hid H1.below
            clear hown hb1 H1 HZ
            go_wp2_with (refine wpList_store_row rfl _ _ _ rfl w.heap.size (arrB z16) rfl rfl 22 (arrB z16) hb16 KZ.info rfl KZ.one ?_)
            refine bodyPost_ret (results_cell_tmp rfl _ _ _ _ _ _ _ rfl (hb16.setRow _) hu16 rfl KZ.info) rfl ⟨by rw [HN.out]; rfl, below_setRow HBL.out (Nat.le_refl _) _⟩
      · have hpe := parse_at_dd hdj hfst
        have hcA : (str l).extract 0 j = str (l.take j) := by rw [str_cut]; simp
        have hcB : (str l).extract (j + 2) l.length = str (l.drop (j + 2)) := by
          rw [str_cut, List.take_of_length_le (by simp)]
        have hlA : (l.take j).length ≤ 100000 := by rw [List.length_take]; omega
        have hlB : (l.drop (j + 2)).length ≤ 100000 := by rw [List.length_drop]; omega
        have w2 : IntKind.i64.wrap ((j : Int) + 2) = (j : Int) + 2 := IntWalk.i64_in _ (by omega)
        have hj2 : ((j : Int) + 2).toNat = j + 2 := by omega
        have hj0 : ¬ (j : Int) < 0 := by omega
        clear hdj hfst
        generalize l.take j = front at hpe hcA hlA
        generalize l.drop (j + 2) = back at hpe hcB hlB
        have HRA := Lib.hid fun W => ref_row front (by omega) false W
        have HRB := Lib.hid fun W => ref_row back (by omega) true W
        have hleA : ((row false front).getD []).length ≤ 300000 := by
          cases hr : row false front with
          | none => simp
          | some a => have := row_le hr; simp only [Option.getD_some]; omega
        have hleB : ((row true back).getD []).length ≤ 300000 := by
          cases hr : row true back with
          | none => simp
          | some a => have := row_le hr; simp only [Option.getD_some]; omega
        have HLA := Lib.hid hleA
        have HLB := Lib.hid hleB
        clear hleA hleB
        go_wp2_with fail
        refine (HRA.out _).mono ?_
        rintro e w1 ⟨va, rfl, hoa, hb1⟩
        have P1 := Lib.hid (HZ.out.next hb1)
        have HOA := Lib.hid hoa
        clear hb1 hoa
        go_wp2_with fail
        refine (HRB.out _).mono ?_
        rintro e w3 ⟨vb, rfl, hob, hb3⟩
        have P3 := Lib.hid (P1.out.next hb3)
        obtain ⟨pa, capa, rfl, ha1, ha2, hRa, hpa⟩ := owns_rd (owns_below HOA.out hb3 (Nat.le_refl _))
        obtain ⟨pb, capb, rfl, hb1, hb2, hRb, hpb⟩ := owns_rd hob
        have hz1 := P1.out.b2.lt
        have HRA2 := Lib.hid hRa
        have HRB2 := Lib.hid hRb
        have HPA := Lib.hid fun q hq => Nat.lt_of_lt_of_le (show w.heap.size + 1 < w.heap.size + 1 + 1 by omega) (Nat.le_trans (by simp : w.heap.size + 1 + 1 ≤ _) (hpa q hq))
        have HPB := Lib.hid fun q hq => Nat.lt_of_lt_of_le hz1 (hpb q hq)
        clear hob hb3 HOA hRa hRb hpa hpb P1
        have hlA2 := HLA.out
        have hlB2 := HLB.out
        cases hra : row false front with
        | none =>
          rw [hra] at hpe
          have HN : Hid (parse l = none) := Lib.hid hpe
          generalize ((row false front).getD []).length = la at *
          generalize ((row true back).getD []).length = lb at *
          generalize (row true back).isSome = sb at *
          clear hpe hra
          have hb16 := P3.out.b1
          go_wp2_with (refine wpList_store_row rfl _ _ _ rfl w.heap.size (arrB z16) rfl rfl 22 (arrB z16) hb16 KZ.info rfl KZ.one ?_)
          refine bodyPost_ret (results_cell_tmp rfl _ _ _ _ _ _ _ rfl (hb16.setRow _) hu16 rfl KZ.info) rfl ⟨by rw [HN.out]; rfl, below_setRow P3.out.below (Nat.le_refl _) _⟩
        | some a =>
          have hlta := row_lt hra
          rw [hra] at hpe hlA2 HRA2
          simp only [Option.getD_some] at hlA2 HRA2
          clear hra
          cases hrb : row true back with
          | none =>
            rw [hrb] at hpe
            have HN : Hid (parse l = none) := Lib.hid hpe
            clear hpe hrb
            have hb16 := P3.out.b1
            go_wp2_with (refine wpList_store_row rfl _ _ _ rfl w.heap.size (arrB z16) rfl rfl 22 (arrB z16) hb16 KZ.info rfl KZ.one ?_)
            refine bodyPost_ret (results_cell_tmp rfl _ _ _ _ _ _ _ rfl (hb16.setRow _) hu16 rfl KZ.info) rfl ⟨by rw [HN.out]; rfl, below_setRow P3.out.below (Nat.le_refl _) _⟩
          | some b =>
            have hltb := row_lt hrb
            rw [hrb] at hpe hlB2 HRB2
            simp only [Option.getD_some] at hlB2 HRB2
            simp only at hpe
            clear hrb
            have ws : IntKind.i64.wrap ((a.length : Int) + b.length) = (a.length : Int) + b.length := IntWalk.i64_in _ (by omega)
            by_cases h7 : 7 < a.length + b.length
            · have HN : Hid (parse l = none) := by rw [hpe, if_pos h7]; exact Lib.hid rfl
              have h7' : (7 : Int) < (a.length : Int) + b.length := by omega
              clear hpe hlta hltb
              have hb16 := P3.out.b1
              go_wp2_with (refine wpList_store_row rfl _ _ _ rfl w.heap.size (arrB z16) rfl rfl 22 (arrB z16) hb16 KZ.info rfl KZ.one ?_)
              refine bodyPost_ret (results_cell_tmp rfl _ _ _ _ _ _ _ rfl (hb16.setRow _) hu16 rfl KZ.info) rfl ⟨by rw [HN.out]; rfl, below_setRow P3.out.below (Nat.le_refl _) _⟩
            · have HN : Hid (parse l = of (ints (a ++ List.replicate (8 - a.length - b.length) 0 ++ b))) := by rw [hpe, if_neg h7]; exact Lib.hid rfl
              have h7' : ¬ (7 : Int) < (a.length : Int) + b.length := by omega
              have hlx : ∀ n ∈ a ++ List.replicate (8 - a.length - b.length) 0 ++ b, n < 65536 := by
                intro x hx
                rcases List.mem_append.1 hx with hx | hx
                · rcases List.mem_append.1 hx with hx | hx
                  · exact hlta x hx
                  · rw [(List.mem_replicate.1 hx).2]; omega
                · exact hltb x hx
              have hF : (ints (a ++ List.replicate (8 - a.length - b.length) 0 ++ b)).length = 8 := by rw [ints_len', List.length_append, List.length_append, List.length_replicate]; omega
              have HO := Lib.hid fun W => ref_Of _ hF (ints_bd hlx) W
              have KX := Lib.hid (A16.of (of_len16 hF))
              have hi8 : (Tryz.prog.info? 64).map (·.size) = some (arrI (ints (a ++ List.replicate (8 - a.length - b.length) 0 ++ b))).size := by rw [arrI_size, hF]; exact info8
              have HI8 := Lib.hid hi8
              have HFB := Lib.hid (fillB_all a b)
              clear hpe hlta hltb hlx hF hi8 HLA HLB HRA HRB HZ hal
              generalize ints (a ++ List.replicate (8 - a.length - b.length) 0 ++ b) = F at *
              go_wp2_with fail
              go_loopw [13] (fun vi wr => ∃ k : Nat, k ≤ a.length ∧ vi = .int .i64 k ∧ Hid (P7 w wr (arrI (fillA a k))) ∧ Hid (RdP wr 1 encN pa a) ∧ Hid (RdP wr 1 encN pb b)) (fun vi _ => a.length - (intOf vi).toNat)
              case atStart => exact ⟨0, Nat.zero_le _, rfl, by rw [fillA_zero (by omega)]; exact P3, HRA2, HRB2⟩
              case round =>
                obtain ⟨k, hk, rfl, HP, HA, HB⟩ := hrel
                clear P3 HRA2 HRB2
                by_cases hlt : k < a.length
                · obtain ⟨x, hx⟩ : ∃ x, a[k]? = some x := ⟨a[k], List.getElem?_eq_getElem hlt⟩
                  obtain ⟨g, off, rfl, hbs, hc⟩ := HA.out.at hlt
                  have hcell : wr.cell? ⟨g, off + k, none⟩ = some (.int .i64 (x : Int)) := by
                    have := hc 0 (.int .i64 (a[k] : Int)) rfl
                    simp only [Nat.mul_one, Nat.add_zero] at this
                    have e : a[k] = x := (List.getElem?_eq_some_iff.1 hx).2
                    rw [this, e]
                  have HS := Lib.hid (fillA_set hx)
                  have hL : (fillA a k).length = 8 := fillA_len (by omega) (by omega)
                  obtain ⟨o, ho⟩ : ∃ o, (fillA a k)[k]? = some o := ⟨_, List.getElem?_eq_getElem (by omega)⟩
                  have ce0 : wr.cell? ⟨w.heap.size + 1, k, none⟩ = some (.int .i64 o) := (HP.out.b2.cell k).trans (arrI_get ho)
                  have f0 := HP.out.b2.frozen' k
                  have hk8 : (k : Int) < 8 := by omega
                  clear hx hc ho hL
                  go_wp2_with fail
                  refine ⟨⟨k + 1, by omega, by go_num, Lib.hid ?_, Lib.hid (HA.out.setOther _ _ ?_), Lib.hid (HB.out.setOther _ _ ?_)⟩, by simp [intOf]; omega⟩
                  · have h := HP.out.set k (x : Int)
                    rw [HS.out] at h
                    exact h
                  · intro q hq h
                    have h1 := HPA.out q hq
                    rw [h] at h1
                    exact Nat.lt_irrefl _ h1
                  · intro q hq h
                    have h1 := HPB.out q hq
                    rw [h] at h1
                    exact Nat.lt_irrefl _ h1
                · obtain rfl : k = a.length := by omega
                  rw [fillA_all (b := b) (by omega)] at HP
                  obtain ⟨q, hq⟩ : ∃ q : Nat, q + b.length = 8 := ⟨8 - b.length, by omega⟩
                  have hqi : (8 : Int) - b.length = (q : Int) := by omega
                  have wq : IntKind.i64.wrap (q : Int) = q := IntWalk.i64_in _ (by omega)
                  go_wp2_with fail
                  go_loopw [14] (fun vi wr => ∃ k : Nat, k ≤ b.length ∧ vi = .int .i64 k ∧ Hid (P7 w wr (arrI (fillB a b k))) ∧ Hid (RdP wr 1 encN pb b)) (fun vi _ => b.length - (intOf vi).toNat)
                  case atStart => exact ⟨0, Nat.zero_le _, rfl, HP, HB⟩
                  case round =>
                    obtain ⟨k, hk, rfl, HP2, HB2⟩ := hrel
                    clear HP HA HB
                    by_cases hlt2 : k < b.length
                    · obtain ⟨x, hx⟩ : ∃ x, b[k]? = some x := ⟨b[k], List.getElem?_eq_getElem hlt2⟩
                      obtain ⟨g, off, rfl, hbs, hc⟩ := HB2.out.at hlt2
                      have hcell : wr.cell? ⟨g, off + k, none⟩ = some (.int .i64 (x : Int)) := by
                        have := hc 0 (.int .i64 (b[k] : Int)) rfl
                        simp only [Nat.mul_one, Nat.add_zero] at this
                        have e : b[k] = x := (List.getElem?_eq_some_iff.1 hx).2
                        rw [this, e]
                      have HS := Lib.hid (fillB_set (a := a) (by omega) hq hx)
                      have hL : (fillB a b k).length = 8 := fillB_len (by omega) (by omega)
                      obtain ⟨o, ho⟩ : ∃ o, (fillB a b k)[q + k]? = some o := ⟨_, List.getElem?_eq_getElem (by omega)⟩
                      have ce0 : wr.cell? ⟨w.heap.size + 1, q + k, none⟩ = some (.int .i64 o) := (HP2.out.b2.cell _).trans (arrI_get ho)
                      have f0 := HP2.out.b2.frozen' (q + k)
                      have hk8 : (q : Int) + k < 8 := by omega
                      have wqk : IntKind.i64.wrap ((q : Int) + k) = (q : Int) + k := IntWalk.i64_in _ (by omega)
                      have hqk : ((q : Int) + k).toNat = q + k := by omega
                      clear hx hc ho hL
                      go_wp2_with fail
                      refine ⟨⟨k + 1, by omega, by go_num, Lib.hid ?_, Lib.hid (HB2.out.setOther _ _ ?_)⟩, by simp [intOf]; omega⟩
                      · have h := HP2.out.set (q + k) (x : Int)
                        rw [HS.out] at h
                        exact h
                      · intro q hq h
                        have h1 := HPB.out q hq
                        rw [h] at h1
                        exact Nat.lt_irrefl _ h1
                    · obtain rfl : k = b.length := by omega
                      rw [HFB.out] at HP2
                      have HB1 := Lib.hid HP2.out.b2
                      have HB16 := Lib.hid HP2.out.b1
                      have HBL := Lib.hid HP2.out.below
                      go_wp2_with (refine wpList_load_want rfl _ _ rfl (w.heap.size + 1) rfl _ (arrI F) (0, 0) _ HB1.out hu8 rfl HI8.out ?_)
                      refine (HO.out _).mono ?_
                      rintro e w5 ⟨rfl, hb5⟩
                      have hb16 := HB16.out.below hb5 HB16.out.lt
                      have HBL2 := Lib.hid (HBL.out.trans (hb5.mono HBL.out.size))
                      clear hb5
                      go_wp2_with (refine wpList_store_row rfl _ _ _ rfl w.heap.size _ rfl rfl 22 (arrB z16) hb16 KX.out.info KX.out.size.symm KX.out.one ?_)
                      refine bodyPost_ret (results_cell_tmp rfl _ _ _ _ _ _ _ rfl (hb16.setRow _) hu16 rfl KX.out.info) rfl ⟨by rw [HN.out]; rfl, below_setRow HBL2.out (Nat.le_refl _) _⟩
end Go.Proofs.YtjbolphfelakeaaGreatDoor
