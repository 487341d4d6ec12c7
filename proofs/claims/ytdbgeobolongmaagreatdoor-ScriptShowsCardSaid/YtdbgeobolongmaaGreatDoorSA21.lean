/- Part of the proof: ScriptLines, ScriptParses, ScriptShows. -/
import Derived.Test.YtdbgeobolongmaaGreatDoorSA12
import Derived.Test.YtdbgeobolongmaaGreatDoorSA15
set_option linter.unusedVariables false
set_option linter.unusedSimpArgs false
set_option maxRecDepth 100000
set_option maxHeartbeats 4000000
namespace Go.Proofs.YtdbgeobolongmaaGreatDoor
open Go.RowKit Go.Shelf Go.Proofs Go.OctetPlain Go.ColonPlain Go.Proofs.Tryz
def wO (d : UInt8) (part r : List UInt8) : List (List UInt8) := (part ++ (yY d r).headD []) :: (yY d r).tail
theorem rest_nil (d : UInt8) (part : List UInt8) : wO d part [] = [part] := by simp [wO, yY]
theorem rest_start (d : UInt8) (l : List UInt8) : wO d [] l = yY d l := by
 unfold wO; have := bH d l
 cases h : yY d l with
 | nil => exact absurd h this
 | cons a b => simp
theorem rest_sep (d : UInt8) (part r : List UInt8) : wO d part (d :: r) = part :: wO d [] r := by
 rw [rest_start]; simp [wO, yY]
theorem rest_step {d c : UInt8} (h : c ≠ d) (part r : List UInt8) : wO d part (c :: r) = wO d (part ++ [c]) r := by
 simp [wO, yY, h]
def kP (d : UInt8) (l part : List UInt8) (i : Nat) : List (List UInt8) := if i <= l.length then wO d part (l.drop i) else []
theorem zFt (d : UInt8) (l : List UInt8) : kP d l [] 0 = yY d l := by
 unfold kP; rw [zN (yQ _), xU, rest_start]
theorem zFh {d c : UInt8} {l part : List UInt8} {i : Nat} (hc : l[i]? = some c) (h : c ≠ d) : kP d l part i = kP d l (part ++ [c]) (i + 1) := by
 obtain ⟨h1, h2⟩ := zL.1 hc; unfold kP; rw [zN om, zN om, yE h1, h2, rest_step h]
theorem restAt_sep {d : UInt8} {l part : List UInt8} {i : Nat} (hc : l[i]? = some d) : kP d l part i = part :: kP d l [] (i + 1) := by
 obtain ⟨h1, h2⟩ := zL.1 hc; unfold kP; rw [zN om, zN om, yE h1, h2, rest_sep]
theorem restAt_end (d : UInt8) (l part : List UInt8) : kP d l part l.length = part :: kP d l [] (l.length + 1) := by
 unfold kP; rw [zN zn, zH om, qO, rest_nil]
theorem zAf (d : UInt8) (l part : List UInt8) : kP d l part (l.length + 1) = [] := by
 unfold kP; rw [zH om]
structure DR (w : World) (l : List UInt8) (W : World) (i : Nat) (part out : List UInt8) : Prop where
 le : i <= l.length + 1
 pl : part.length <= i
 ol : out.length <= 4
 eq : xZ l = uY out (kP 46 l part i)
 res : Blk W w.heap.size 56 (arrB [0, 0, 0, 0])
 arr : Blk W (w.heap.size + 1) 56 (arrB (pad4 out))
 below : zW w W
theorem zBw (l : List UInt8) (hl : l.length <= 1000000) (w : World) :
  zCB 82 #[.string (str l)] w (.tuple #[.agg (arrB ((xZ l).getD [0, 0, 0, 0])), .bool (xZ l).isSome]) := by
 have hsz : (str l).size = l.length := zZ l; have hz0 : ByteArray.size ⟨#[]⟩ = 0 := rfl; have hu4 := underlying56; have KZ : (prog.info? 56).map (·.size) = some (arrB [0, 0, 0, 0]).size /\ (arrB [0, 0, 0, 0]).all (·.oneCell') = true := ⟨info4, zCu _⟩
 go_enter func82, ntmps82
 go_wp2_with fail
 go_loopw [5, 6, 7, 8, 9] (fun vp vk vi _ _ wr => ∃ (i : Nat) (part out : List UInt8), vp = .string (str part) /\ vk = .int .i64 (out.length : Nat) /\ vi = .int .i64 i /\ Hid (DR w l wr i part out)) (fun _ _ vi _ _ _ => l.length + 2 - (intOf vi).toNat)
 case atStart =>
  refine ⟨0, [], [], rfl, rfl, rfl, qh ⟨om, yZ _, zi, by rw [zFt]; rfl, (Blk.new _ _ _).alloc _, ?_, (yD w _).alloc zi _⟩⟩; have h := Blk.new (w.alloc (.cells (arrB [0, 0, 0, 0]) 56)) 56 (arrB (pad4 [])); simp only [xG] at h; exact h
 case round =>
  obtain ⟨i, part, out, rfl, rfl, rfl, HD⟩ := hrel; have hps : (str part).size = part.length := zZ part; have hpl := HD.o.pl; have hol := HD.o.ol; have hle := HD.o.le
  by_cases hi : i <= l.length
  ·by_cases hc : ∃ c, l[i]? = some c /\ c ≠ 46
   ·obtain ⟨c, hc1, hc2⟩ := hc
    have hlt : i < l.length := (zL.1 hc1).1; have hg' : ∀ h, (str l)[i]'h = c := fun h => (jS l i h).trans (by obtain ⟨h1, h2⟩ := zL.1 hc1; exact h2)
    have hcut : (str l).extract i (i + 1) = str [c] := by
     rw [aP]; obtain ⟨h1, h2⟩ := zL.1 hc1; rw [yE h1, h2]; simp
    have hne : ((c.toNat : Int) != 46) = true := by
     rw [jZ]; intro h; exact hc2 (uH.1 (zAm h))
    have HE : Hid (xZ l = uY out (kP 46 l (part ++ [c]) (i + 1))) := by rw [HD.o.eq, zFh hc1 hc2]; exact qh rfl
    have hs1 : ∀ c, (str [c]).size = 1 := fun c => zZ _; have w1 : IntKind.i64.wrap ((i : Int) + 1) = (i : Int) + 1 := yT _ om; have hi1 : ((i : Int) + 1).toNat = i + 1 := om; clear hc1 hc2
    go_wp2
    refine ⟨⟨i + 1, part ++ [c], out, by rw [xJ], rfl, by go_num, qh ⟨om, zo, hol, HE.o, HD.o.res, HD.o.arr, HD.o.below⟩⟩, by simp [intOf]; omega⟩
   ·have hsep : (i < l.length /\ l[i]? = some 46) ∨ i = l.length := by
     rcases jQ i l.length with h | h
     ·left
      refine ⟨h, ?_⟩; have h2 := zA h
      by_cases h3 : l[i] = 46
      ·rw [h2, h3]
      ·exact absurd ⟨l[i], h2, h3⟩ hc
     ·right; omega
    have HE : Hid (xZ l = uY out (part :: kP 46 l [] (i + 1))) := by
     rcases hsep with ⟨_, h⟩ | h
     ·rw [HD.o.eq, restAt_sep h]; exact qh rfl
     ·subst h; rw [HD.o.eq, restAt_end]; exact qh rfl
    have hfact : (i < l.length /\ ∀ h, (str l)[i]'h = 46) ∨ ¬ i < l.length := by
     rcases hsep with ⟨h, hc1⟩ | h
     ·exact Or.inl ⟨h, fun h => (jS l i h).trans (by obtain ⟨h1, h2⟩ := zL.1 hc1; exact h2)⟩
     ·right; omega
    have NB := qh fun W => pX part om 255 W; clear hc hsep
    cases hnum : number part 255 with
    |none =>
     rw [hnum] at NB; have HN : Hid (xZ l = none) := by rw [HE.o, uY, hnum]; exact qh rfl
     simp only [Option.getD_none, Option.isSome_none] at NB; have hres := HD.o.res; clear hnum
     rcases hfact with ⟨hlt, hg'⟩ | hlt
     all_goals
      go_wp2_with fail
      refine zU (NB.o _) ?_
      go_wp2_with (refine uZ rfl _ _ _ rfl w.heap.size (arrB [0, 0, 0, 0]) rfl rfl 56 (arrB [0, 0, 0, 0]) hres KZ.1 rfl KZ.2 ?_)
      refine zC (results_cell_tmp rfl _ _ _ _ _ _ _ rfl (hres.setRow _) hu4 rfl KZ.1) rfl ⟨by rw [HN.o]; rfl, below_setRow HD.o.below zn _⟩
    |some n =>
     rw [hnum] at NB; simp only [vI, aA] at NB; have hn0 := (uD.1 hnum).1; have hn1 := (uD.1 hnum).2.2.1; obtain ⟨x, rfl⟩ : ∃ x : Nat, n = x := ⟨n.toNat, om⟩
     have HE2 : Hid (xZ l = if out.length = 4 then none else uY (out ++ [UInt8.ofNat x]) (kP 46 l [] (i + 1))) := by
      rw [HE.o, uY, hnum]; exact qh rfl
     clear hnum
     rcases hfact with ⟨hlt, hg'⟩ | hlt
     all_goals
      go_wp2_with fail
      refine zU (NB.o _) ?_
      by_cases h4 : out.length = 4
      ·have HN : Hid (xZ l = none) := by rw [HE2.o, zN h4]; exact qh rfl
       have h4' : ((out.length : Int) == 4) = true := by rw [uP]; omega
       have hres := HD.o.res; clear h4
       go_wp2_with (refine uZ rfl _ _ _ rfl w.heap.size (arrB [0, 0, 0, 0]) rfl rfl 56 (arrB [0, 0, 0, 0]) hres KZ.1 rfl KZ.2 ?_)
       refine zC (results_cell_tmp rfl _ _ _ _ _ _ _ rfl (hres.setRow _) hu4 rfl KZ.1) rfl ⟨by rw [HN.o]; rfl, below_setRow HD.o.below zn _⟩
      ·have HN : Hid (xZ l = uY (out ++ [UInt8.ofNat x]) (kP 46 l [] (i + 1))) := by rw [HE2.o, zH h4]; exact qh rfl
       have h4' : ((out.length : Int) == 4) = false := by rw [yF]; omega
       have hlt4 : (out.length : Int) < 4 := om; obtain ⟨z, hz⟩ : ∃ z, (pad4 out)[out.length]? = some z := ⟨_, zA (by rw [pad4_len hol]; omega)⟩; have a0 := (HD.o.arr.cell _).trans (kQ hz); have fA := HD.o.arr.frozen'; have wx : IntKind.u8.wrap (x : Int) = (x : Int) := IntWalk.u8_in _ om; have HS := qh (pad4_set (out := out) om (UInt8.ofNat x)); have HX : Hid ((((UInt8.ofNat x).toNat : Nat) : Int) = x) := qh (by rw [xM]; omega); clear hz h4
       go_wp2
       refine ⟨⟨i + 1, [], out ++ [UInt8.ofNat x], rfl, zi, by go_num, qh ⟨om, zi, zo, HN.o, HD.o.res.other _ _ zi, ?_, HD.o.below.setCell zi _⟩⟩, by simp [intOf]; omega⟩; have ha := HD.o.arr.set out.length (.int .u8 ((UInt8.ofNat x).toNat : Int)); rw [wF, HS.o, HX.o] at ha; exact ha
  ·obtain rfl : i = l.length + 1 := om
   have hie : ¬ ((l.length + 1 : Nat) : Int) <= (l.length : Int) := om; have HE : Hid (xZ l = if out.length = 4 then some out else none) := by rw [HD.o.eq, zAf, uY]; exact qh rfl
   obtain ⟨r0, r1, r2, r3⟩ := HD.o.res.cells4; have fr := HD.o.res.frozen'
   by_cases h4 : out.length = 4
   ·have HN : Hid (xZ l = some out) := by rw [HE.o, zN h4]; exact qh rfl
    have ha := HD.o.arr; rw [pad4_full h4] at ha; obtain ⟨a0, a1, a2, a3, rfl⟩ := zBg h4; obtain ⟨d0, d1, d2, d3⟩ := ha.cells4; clear ha
    go_wp2
    refine zC (results_cell_tmp rfl _ _ _ _ _ _ _ rfl (Blk.setV4 (Blk.z4 (HD.o.res))) underlying56 rfl info4) rfl ⟨by rw [HN.o]; rfl, jU HD.o.below zn⟩
   ·have HN : Hid (xZ l = none) := by rw [HE.o, zH h4]; exact qh rfl
    have h4' : ((out.length : Int) == 4) = false := by rw [yF]; omega
    have h4b : ((out.length : Int) != 4) = true := by rw [jZ]; omega
    go_wp2
    refine zC (results_cell_tmp rfl _ _ _ _ _ _ _ rfl (Blk.setV4 (Blk.z4 (HD.o.res))) underlying56 rfl info4) rfl ⟨by rw [HN.o]; rfl, jU HD.o.below zn⟩
def grpI (l : List UInt8) : Int := match group l with
 | some n => (n : Int)
 | none => -1
theorem zEr {l : List UInt8} (h : group l = none) : grpI l = -1 := by unfold grpI; rw [h]
theorem grpI_some {l : List UInt8} {n : Nat} (h : group l = some n) : grpI l = n := by unfold grpI; rw [h]
structure GR (l : List UInt8) (i n : Nat) : Prop where
 le : i <= l.length
 lt : n < 16 ^ i
 eq : group l = jC n i (l.drop i)
theorem ref_group (l : List UInt8) (hl : l.length <= 1000000) (w : World) :
  zCQ 161 #[.string (str l)] w (.int .i64 (grpI l)) := by
 have hsz : (str l).size = l.length := zZ l; have htl := vX
 by_cases hnil : l = []
 ·subst hnil
  have HN : Hid (grpI [] = -1) := qh rfl
  go_enter func161, ntmps161
  go_wp2
  go_ret
  exact ⟨by rw [HN.o]; rfl, rfl⟩
 ·have hne : (l == []) = false := by simpa using hnil
  by_cases hlong : 4 < l.length
  ·have HN : Hid (grpI l = -1) := qh (zEr (group_long hlong))
   have hl4 : (4 : Int) < (l.length : Int) := om
   go_enter func161, ntmps161
   go_wp2
   go_ret
   exact ⟨by rw [HN.o]; rfl, rfl⟩
  ·have hl4 : ¬ (4 : Int) < (l.length : Int) := om
   have hpos : 0 < l.length := by cases l with
    | nil => exact absurd rfl hnil
    | cons a b => simp
   go_enter func161, ntmps161
   go_wp2_with fail
   go_loopw [3, 4, 5] (fun vn vi _ wr => ∃ (i n : Nat), vn = .int .i64 n /\ vi = .int .i64 i /\ wr = w /\ Hid (GR l i n)) (fun _ vi _ _ => l.length - (intOf vi).toNat)
   case atStart => exact ⟨0, 0, rfl, rfl, rfl, qh ⟨yQ _, om, by rw [xU]; rfl⟩⟩
   case round =>
    obtain ⟨i, n, rfl, rfl, rfl, HG⟩ := hrel; have hle := HG.o.le
    have hn : n < 65536 := by
     have h1 := HG.o.lt; have : 16 ^ i <= 16 ^ 4 := Nat.pow_le_pow_right om om; omega
    by_cases hlt : i < l.length
    ·obtain ⟨c, hc⟩ : ∃ c, l[i]? = some c := ⟨l[i], zA hlt⟩
     have hg' : ∀ h, (str l)[i]'h = c := fun h => (jS l i h).trans (by obtain ⟨h1, h2⟩ := zL.1 hc; exact h2)
     have hdr : l.drop i = c :: l.drop (i + 1) := by
      obtain ⟨h1, h2⟩ := zL.1 hc; rw [yE h1, h2]
     have HE : Hid (group l = if dig c < 0 ∨ 4 < i + 1 then none else jC (n * 16 + (dig c).toNat) (i + 1) (l.drop (i + 1))) := by
      rw [HG.o.eq, hdr, jC]; exact qh rfl
     have HD := qh fun W => zDs c W; obtain ⟨hd1, hd2⟩ := tT c; clear hc hdr; generalize dig c = d at HD HE hd1 hd2
     by_cases hd0 : d < 0
     ·have HN : Hid (grpI l = -1) := qh (zEr (by rw [HE.o, zN (Or.inl hd0)]))
      go_wp2_with fail
      refine (HD.o _).mono ?_; rintro e w1 ⟨rfl, rfl⟩
      go_wp2
      go_ret
      exact ⟨by rw [HN.o]; rfl, rfl⟩
     ·obtain ⟨x, rfl⟩ : ∃ x : Nat, d = x := ⟨d.toNat, om⟩
      have HE2 : Hid (group l = jC (n * 16 + x) (i + 1) (l.drop (i + 1))) := by rw [HE.o, zH om]; exact qh rfl
      have HL2 : Hid (n * 16 + x < 16 ^ (i + 1)) := by
       have := HG.o.lt; refine qh ?_; rw [zCf]; omega
      have w1 : IntKind.i64.wrap ((16 : Int) * n) = (16 : Int) * n := yT _ om; have w2 : IntKind.i64.wrap ((16 : Int) * n + x) = (16 : Int) * n + x := yT _ om; go_wp2_with fail
      refine zU (HD.o _) ?_
      go_wp2
      refine ⟨⟨i + 1, n * 16 + x, by go_num, by go_num, trivial, qh ⟨om, HL2.o, HE2.o⟩⟩, by simp [intOf]; omega⟩
    ·obtain rfl : i = l.length := om
     have HN : Hid (grpI l = n) := qh (grpI_some (by rw [HG.o.eq, qO, jC, zN hpos]))
     go_wp2
     go_ret
     exact ⟨by rw [HN.o]; rfl, rfl⟩
theorem restAt_ne {d : UInt8} {l : List UInt8} {i : Nat} (h : i <= l.length) : kP d l [] i ≠ [] := by
 unfold kP; rw [zN h]; unfold wO; simp
structure RR (w : World) (l : List UInt8) (last : Bool) (W : World) (i : Nat) (part : List UInt8) (out : List Nat) (vo : Value) : Prop where
 le : i <= l.length + 1
 pl : part.length <= i
 own : W.ownsRow w.heap.size 3 1 vo out.length (flat encN out)
 ol : out.length <= 2 * i
 eq : row last l = uL last out (kP 58 l part i)
 below : zW w W
theorem ref_row (l : List UInt8) (hl : l.length <= 1000000) (last : Bool) (w : World) :
  Calls prog 129 #[.string (str l), .bool last] w fun e w' => ∃ v, e = .returned (.tuple #[v, .bool (row last l).isSome]) /\ w'.ownsRow w.heap.size 3 1 v ((row last l).getD []).length (flat encN ((row last l).getD [])) /\ zW w w' := by
 have hsz : (str l).size = l.length := zZ l; have hz0 : ByteArray.size ⟨#[]⟩ = 0 := rfl; have htl := vX
 by_cases hnil : l = []
 ·subst hnil
  go_enter func129, ntmps129
  go_wp2
  refine zC (v := .tuple #[.slice none 0 0, .bool true]) ?_ rfl ⟨_, rfl, xL _ _ _ _, xE _ _⟩; simp [results, results129, go_sem]
 ·have hne : (l == []) = false := by simpa using hnil
  have hrow : Hid (row last l = uL last [] (kP 58 l [] 0)) := by unfold row; rw [zH hnil, zFt]; exact qh rfl
  go_enter func129, ntmps129
  go_wp2_with fail
  clear hne htl hnil
  go_loopw [6, 7, 8, 9, 10, 11] (fun vo vp vi _ _ _ wr => ∃ (i : Nat) (part : List UInt8) (out : List Nat), vp = .string (str part) /\ vi = .int .i64 i /\ Hid (RR w l last wr i part out vo)) (fun _ _ vi _ _ _ _ => l.length + 2 - (intOf vi).toNat)
  case atStart =>
   exact ⟨0, [], [], rfl, rfl, qh ⟨om, yZ _, xL _ _ _ _, zi, hrow.o, xE _ _⟩⟩
  case round =>
   obtain ⟨i, part, out, rfl, rfl, HR⟩ := hrel; have hps : (str part).size = part.length := zZ part; have hpl := HR.o.pl; have hol := HR.o.ol; have hle := HR.o.le
   by_cases hi : i <= l.length
   ·by_cases hc : ∃ c, l[i]? = some c /\ c ≠ 58
    ·obtain ⟨c, hc1, hc2⟩ := hc
     have hlt : i < l.length := (zL.1 hc1).1; have hg' : ∀ h, (str l)[i]'h = c := fun h => (jS l i h).trans (by obtain ⟨h1, h2⟩ := zL.1 hc1; exact h2)
     have hcut : (str l).extract i (i + 1) = str [c] := by
      rw [aP]; obtain ⟨h1, h2⟩ := zL.1 hc1; rw [yE h1, h2]; simp
     have hne : ((c.toNat : Int) != 58) = true := by
      rw [jZ]; intro h; exact hc2 (uH.1 (zAm h))
     have HE : Hid (row last l = uL last out (kP 58 l (part ++ [c]) (i + 1))) := by rw [HR.o.eq, zFh hc1 hc2]; exact qh rfl
     have hs1 : ∀ c, (str [c]).size = 1 := fun c => zZ _; have w1 : IntKind.i64.wrap ((i : Int) + 1) = (i : Int) + 1 := yT _ om; have hi1 : ((i : Int) + 1).toNat = i + 1 := om; clear hc1 hc2
     go_wp2
     refine ⟨⟨i + 1, part ++ [c], out, by rw [xJ], by go_num, qh ⟨om, zo, HR.o.own, om, HE.o, HR.o.below⟩⟩, by simp [intOf]; omega⟩
    ·have hsep : (i < l.length /\ l[i]? = some 58) ∨ i = l.length := by
      rcases jQ i l.length with h | h
      ·left
       refine ⟨h, ?_⟩; have h2 := zA h
       by_cases h3 : l[i] = 58
       ·rw [h2, h3]
       ·exact absurd ⟨l[i], h2, h3⟩ hc
      ·right; omega
     have HE : Hid (row last l = uL last out (part :: kP 58 l [] (i + 1))) := by
      rcases hsep with ⟨_, h⟩ | h
      ·rw [HR.o.eq, restAt_sep h]; exact qh rfl
      ·subst h; rw [HR.o.eq, restAt_end]; exact qh rfl
     have hfact : (i < l.length /\ (∀ h, (str l)[i]'h = 58) /\ ((i : Int) == l.length) = false /\ kP 58 l [] (i + 1) ≠ []) ∨ (¬ i < l.length /\ ((i : Int) == l.length) = true /\ kP 58 l [] (i + 1) = []) := by
      rcases hsep with ⟨h, hc1⟩ | h
      ·exact Or.inl ⟨h, fun h => (jS l i h).trans (by obtain ⟨h1, h2⟩ := zL.1 hc1; exact h2), by rw [yF]; omega, restAt_ne om⟩
      ·exact Or.inr ⟨om, by rw [uP]; omega, by rw [h, zAf]⟩
     clear hc hsep; have HG := qh fun W => ref_group part om W; have HD := qh fun W => zBw part om W
     obtain ⟨a0, a1, a2, a3, is, had, his, hasm⟩ : ∃ (a0 a1 a2 a3 : UInt8) (is : Bool), (xZ part).getD [0, 0, 0, 0] = [a0, a1, a2, a3] /\ (xZ part).isSome = is /\ xZ part = if is then some [a0, a1, a2, a3] else none := by
      cases hd : xZ part with
      | none => exact ⟨0, 0, 0, 0, false, rfl, rfl, zi⟩
      |some a =>
       obtain ⟨a0, a1, a2, a3, rfl⟩ := zBg (kE _ _ a hd); exact ⟨a0, a1, a2, a3, true, rfl, rfl, zi⟩
     rw [had, his] at HD; have HD2 : Hid (∀ W, zCB 82 #[.string (str part)] W (.tuple #[.agg #[.int .u8 (a0.toNat : Int), .int .u8 (a1.toNat : Int), .int .u8 (a2.toNat : Int), .int .u8 (a3.toNat : Int)], .bool is])) := HD; clear HD had his; have HB4 : ∀ (W W' : World), zW W W' -> zW W (W'.alloc (.cells #[.int .u8 (a0.toNat : Int), .int .u8 (a1.toNat : Int), .int .u8 (a2.toNat : Int), .int .u8 (a3.toNat : Int)] 56)) := fun W W' h => h.trans (belowA2' _ h.size)
     cases hg : group part with
     |some n =>
      have HE2 : Hid (row last l = uL last (out ++ [n]) (kP 58 l [] (i + 1))) := by rw [HE.o, uL, hg]; exact qh rfl
      have hgn := grpI_some hg; rw [hgn] at HG; clear hg hgn
      rcases hfact with ⟨hlt, hg', _, _⟩ | ⟨hlt, _, _⟩
      all_goals
       go_wp2_with fail
       refine zU (HG.o _) ?_; go_wp2_with fail
       refine zT (HD2.o _) fun w2 hb2 => ?_; have hb3 := HB4 _ _ hb2; have HO3 := qh (vL HR.o.own hb3 zn); have HB3 := qh (HR.o.below.trans (hb3.mono HR.o.below.size)); clear hb2 hb3
       go_wp2_with (at_builtin; go_loud (refine lS elemN rfl (.tmp 47) (.tmp 49) rfl w.heap.size u6 _ _ rfl HO3.o 1 1 (w2.heap.size + 1) zi [.int .i64 _] rfl rfl (by simp [Value.oneCell']) om HB3.o.size ?_; intro v4 w4 hown4 _ _ hb4))
       refine ⟨⟨i + 1, [], out ++ [n], rfl, by go_num, qh ⟨om, zi, ?_, zo, HE2.o, HB3.o.trans hb4⟩⟩, by simp [intOf]; omega⟩; rw [vK, zG]; exact hown4
     |none =>
      have HE2 : Hid (row last l = if is = true /\ last = true /\ kP 58 l [] (i + 1) = [] then some (out ++ [256 * a0.toNat + a1.toNat, 256 * a2.toNat + a3.toNat]) else none) := by
       rw [HE.o, uL, hg, hasm]
       cases is
       ·exact qh zi
       ·simp only [aB, rX]; exact qh rfl
      have hgn := zEr hg; rw [hgn] at HG; clear hg hgn hasm
      rcases hfact with ⟨hlt, hg', heq, hrs⟩ | ⟨hlt, heq, hrs⟩
      ·have HN : Hid (row last l = none) := by rw [HE2.o, zH (fun h => hrs h.2.2)]; exact qh rfl
       clear hrs; go_wp2_with fail
       refine zU (HG.o _) ?_; go_wp2_with fail
       refine zT (HD2.o _) fun w2 hb2 => ?_; have hb3 := HB4 _ _ hb2; have HB3 := qh (HR.o.below.trans (hb3.mono HR.o.below.size)); clear hb2 hb3
       go_wp2
       refine zC (v := .tuple #[.slice none 0 0, .bool false]) ?_ rfl ⟨.slice none 0 0, by rw [HN.o]; rfl, by rw [HN.o]; exact xL _ _ _ _, HB3.o⟩; simp [results, results129, go_sem, HN.o]
      ·by_cases hboth : is = true /\ last = true
       ·obtain ⟨rfl, rfl⟩ := hboth
        have HE3 : Hid (row true l = uL true (out ++ [256 * a0.toNat + a1.toNat, 256 * a2.toNat + a3.toNat]) (kP 58 l [] (i + 1))) := by
         rw [HE2.o, zN ⟨rfl, rfl, hrs⟩, hrs]; exact qh rfl
        have q0 : a0.toNat < 256 := a0.toNat_lt; have q1 : a1.toNat < 256 := a1.toNat_lt; have q2 : a2.toNat < 256 := a2.toNat_lt; have q3 : a3.toNat < 256 := a3.toNat_lt; clear HE2 HE hrs; generalize a0.toNat = b0 at *; generalize a1.toNat = b1 at *; generalize a2.toNat = b2 at *; generalize a3.toNat = b3 at *; go_wp2_with fail
        refine zU (HG.o _) ?_; go_wp2_with fail
        refine zT (HD2.o _) fun w2 hb2 => ?_; have hb3 := HB4 _ _ hb2; have HO3 := qh (vL HR.o.own hb3 zn); have HB3 := qh (HR.o.below.trans (hb3.mono HR.o.below.size)); clear hb2 hb3
        go_wp2_with (at_builtin; go_loud (refine lS elemN rfl (.tmp 62) (.tmp 79) rfl w.heap.size u6 _ _ rfl HO3.o 2 2 (w2.heap.size + 1) zi [.int .i64 _, .int .i64 _] rfl rfl (by simp [Value.oneCell']) om HB3.o.size ?_; intro v4 w4 hown4 _ _ hb4))
        refine ⟨⟨i + 1, [], out ++ [256 * b0 + b1, 256 * b2 + b3], rfl, by go_num, qh ⟨om, zi, ?_, zo, HE3.o, HB3.o.trans hb4⟩⟩, by simp [intOf]; omega⟩; rw [vK, zG]; exact hown4
       ·have HN : Hid (row last l = none) := by rw [HE2.o, zH (fun h => hboth ⟨h.1, h.2.1⟩)]; exact qh rfl
        clear hrs; have hcs : last = false ∨ (last = true /\ is = false) := by cases last <;> cases is <;> simp_all
        clear hboth
        rcases hcs with rfl | ⟨rfl, rfl⟩
        all_goals
         go_wp2_with fail
         refine zU (HG.o _) ?_; go_wp2_with fail
         refine zT (HD2.o _) fun w2 hb2 => ?_; have hb3 := HB4 _ _ hb2; have HB3 := qh (HR.o.below.trans (hb3.mono HR.o.below.size)); clear hb2 hb3
         go_wp2
         refine zC (v := .tuple #[.slice none 0 0, .bool false]) ?_ rfl ⟨.slice none 0 0, by rw [HN.o]; rfl, by rw [HN.o]; exact xL _ _ _ _, HB3.o⟩; simp [results, results129, go_sem, HN.o]
   ·obtain rfl : i = l.length + 1 := om
    have hie : ¬ ((l.length + 1 : Nat) : Int) <= (l.length : Int) := om; have HN : Hid (row last l = some out) := by rw [HR.o.eq, zAf, uL]; exact qh rfl
    go_wp2
    refine zC (v := .tuple #[u6, .bool true]) ?_ rfl ⟨u6, by rw [HN.o]; rfl, by rw [HN.o]; exact HR.o.own, HR.o.below⟩; simp [results, results129, go_sem]
def oV (a : List Nat) (k : Nat) : List Int := upto (ints a) k ++ List.replicate (8 - a.length) 0
def oP (a b : List Nat) (k : Nat) : List Int := (ints a ++ List.replicate (8 - a.length - b.length) 0) ++ upto (ints b) k
theorem fillA_zero {a : List Nat} (h : a.length <= 8) : oV a 0 = List.replicate 8 0 := by
 unfold oV upto; rw [pU, yJ, ints_len', Nat.sub_zero, List.replicate_append_replicate]
 congr 1; omega
theorem fillA_len {a : List Nat} {k : Nat} (h : a.length <= 8) (hk : k <= a.length) : (oV a k).length = 8 := by
 unfold oV; rw [zG, zAc _ _ (by rw [ints_len']; exact hk), ints_len', vM]; omega
theorem fillB_len {a b : List Nat} {k : Nat} (h : a.length + b.length <= 8) (hk : k <= b.length) : (oP a b k).length = 8 := by
 unfold oP; rw [zG, zG, zAc _ _ (by rw [ints_len']; exact hk), ints_len', ints_len', vM]; omega
theorem ints_at {l : List Nat} {k n : Nat} (h : l[k]? = some n) : (ints l)[k]? = some (n : Int) := by simp [ints, h]
theorem fillA_set {a : List Nat} {k n : Nat} (h : a[k]? = some n) : (oV a k).set k (n : Int) = oV a (k + 1) := by
 unfold oV; have hk := (zL.1 h).1; rw [List.set_append_left _ _ (by rw [zAc _ _ (by rw [ints_len']; omega), ints_len']; exact hk), zCo (ints_at h)]
theorem fillB_set {a b : List Nat} {k n q : Nat} (hs : a.length + b.length <= 8) (hq : q + b.length = 8) (h : b[k]? = some n) : (oP a b k).set (q + k) (n : Int) = oP a b (k + 1) := by
 unfold oP; have hp : (ints a ++ List.replicate (8 - a.length - b.length) (0 : Int)).length = q := by rw [zG, ints_len', vM]; omega
 rw [tK _ _ om, hp, Nat.add_sub_cancel_left, zCo (ints_at h)]
theorem fillA_all {a b : List Nat} (hs : a.length + b.length <= 8) : oV a a.length = oP a b 0 := by
 unfold oV oP; have := zCz (ints a); rw [ints_len'] at this; rw [this, upto, pU, yJ, ints_len', Nat.sub_zero, xQ, List.replicate_append_replicate]
 congr 2; omega
theorem fillB_all (a b : List Nat) : oP a b b.length = ints (a ++ List.replicate (8 - a.length - b.length) 0 ++ b) := by
 unfold oP; have := zCz (ints b); rw [ints_len'] at this; rw [this, pG, pG, ints_rep]
theorem parse_no_dd {l : List UInt8} (h : ∀ j, ¬ ddAt l j) : parse l = match row true l with
  | none => none
  | some a => if a.length = 8 then of (ints a) else none := by
 have hc := cut_no_dd h
 cases hr : row true l with
 | none => exact rJ (by rw [hc]; exact hr)
 |some a =>
  rw [oC (a := a) (b := []) (by rw [hc]; exact hr) (by rw [hc]; rfl), hc]
  by_cases h8 : a.length = 8
  ·rw [zH (by simp [h8])]
   simp [h8]
  ·rw [zN (Or.inr ⟨rfl, by simpa using h8⟩)]
   simp [h8]
theorem parse_at_dd {l : List UInt8} {j : Nat} (h : ddAt l j) (hn : ∀ i, i < j -> ¬ ddAt l i) : parse l = match row false (l.take j) with
  | none => none
  |some a => match row true (l.drop (j + 2)) with
   | none => none
   | some b => if 7 < a.length + b.length then none else of (ints (a ++ List.replicate (8 - a.length - b.length) 0 ++ b)) := by
 have hc := cut_at_dd h hn
 cases hr : row false (l.take j) with
 | none => exact rJ (by rw [hc]; exact hr)
 |some a =>
  cases hr2 : row true (l.drop (j + 2)) with
  | none => exact pY (by rw [hc]; exact hr2)
  |some b =>
   rw [oC (a := a) (b := b) (by rw [hc]; exact hr) (by rw [hc]; exact hr2), hc]
   by_cases h7 : 7 < a.length + b.length
   ·rw [zN (Or.inl ⟨rfl, h7⟩)]; simp [h7]
   ·rw [zH zo]; simp [h7]
def nM (l : List UInt8) (a : Int) (i : Nat) : Prop := (a = -1 /\ ∀ j, j < i -> ¬ ddAt l j) ∨ ∃ j : Nat, a = j /\ j < i /\ ddAt l j /\ ∀ k, k < j -> ¬ ddAt l k
theorem ddSeen_zero (l : List UInt8) : nM l (-1) 0 := Or.inl ⟨rfl, fun j h => om⟩
theorem ddSeen_yes {l : List UInt8} {i : Nat} (h : nM l (-1) i) (hd : ddAt l i) : nM l i (i + 1) := by
 rcases h with ⟨_, h⟩ | ⟨j, h, _⟩
 ·exact Or.inr ⟨i, rfl, om, hd, h⟩
 ·omega
theorem ddSeen_no {l : List UInt8} {i : Nat} {a : Int} (h : nM l a i) (hd : 0 <= a ∨ ¬ ddAt l i) : nM l a (i + 1) := by
 rcases h with ⟨rfl, h⟩ | ⟨j, rfl, h1, h2⟩
 ·refine Or.inl ⟨rfl, fun j hj => ?_⟩
  rcases jQ j i with h3 | h3
  ·exact h j h3
  ·obtain rfl : j = i := om
   rcases hd with hd | hd
   ·omega
   ·exact hd
 ·exact Or.inr ⟨j, rfl, om, h2⟩
theorem ddSeen_end {l : List UInt8} {i : Nat} {a : Int} (h : nM l a i) (hi : l.length <= i + 1) : (a = -1 /\ ∀ j, ¬ ddAt l j) ∨ ∃ j : Nat, a = j /\ j + 2 <= l.length /\ ddAt l j /\ ∀ k, k < j -> ¬ ddAt l k := by
 have hlt : ∀ j, ddAt l j -> j + 2 <= l.length := fun j hj => by
  have := (zL.1 hj.2).1; omega
 rcases h with ⟨rfl, h⟩ | ⟨j, rfl, h1, h2, h3⟩
 ·refine Or.inl ⟨rfl, fun j hj => h j ?_ hj⟩
  have := hlt j hj; omega
 ·exact Or.inr ⟨j, rfl, hlt j h2, h2, h3⟩
theorem cut2 {l : List UInt8} {i : Nat} (h : i + 1 < l.length) : (str l).extract i (i + 2) = str [l[i]'om, l[i + 1]] := by
 rw [aP, show i + 2 - i = 2 from om, yE (by omega : i < l.length), yE h]
 rfl
theorem dd_iff {l : List UInt8} {i : Nat} (h : i + 1 < l.length) : ddAt l i ↔ str [l[i]'om, l[i + 1]] = str [58, 58] := by
 unfold ddAt; rw [zA (by omega : i < l.length), zA h]
 constructor
 ·rintro ⟨h1, h2⟩
  simp only [uX] at h1 h2; rw [h1, h2]
 ·intro h
  have := str_inj.1 h; simp only [rY, pQ] at this; rw [this.1, this.2]; simp
theorem RdP.setOther {α : Type} {w : World} {k : Nat} {enc : α -> List Value} {p : Option Addr} {xs : List α} (h : RdP w k enc p xs) (a : Addr) (v : Value) (hne : ∀ q, p = some q -> q.block ≠ a.block) : RdP (w.setCell a v) k enc p xs := by
 refine ⟨h.1, fun q hq hn => ?_⟩; obtain ⟨h1, h2, h3⟩ := h.2 q hq hn; refine ⟨h1, xC h2 zi, fun i x hx j u hu => ?_⟩; rw [← h3 i x hx j u hu]; have := zBd w a v q.block (hne q hq); unfold World.cell?; simp only [this]
theorem zCr {w : World} {base : Nat} {e : TypeId} {v : Value} {l : List Nat} (h : w.ownsRow base e 1 v l.length (flat encN l)) : ∃ p cap, v = .slice p l.length cap /\ l.length <= cap /\ cap <= 9223372036854775807 /\ RdP w 1 encN p l /\ ∀ q, p = some q -> base <= q.block := by
 obtain ⟨p, cap, hv, h1, h2, h3⟩ := SlR.of_owns bW h; refine ⟨p, cap, hv, h1, h2, h3, fun q hq => ?_⟩
 rcases h.2 with ⟨h0, _⟩ | ⟨g, cap', cur, hv', hb, _⟩
 ·rw [hv, hq] at h0; cases h0
 ·rw [hv, hq] at hv'; cases hv'; exact hb
structure P7 (w W : World) (X : Array Value) : Prop where
 below : zW w W
 b1 : Blk W w.heap.size 24 (arrB z16)
 b2 : Blk W (w.heap.size + 1) 155 X
theorem P7.next {w W W' : World} {X : Array Value} (h : P7 w W X) (hb : zW W W') : P7 w W' X := ⟨h.below.trans (hb.mono h.below.size), h.b1.below hb h.b1.lt, h.b2.below hb h.b2.lt⟩
theorem P7.set {w W : World} {L : List Int} (h : P7 w W (arrI L)) (i : Nat) (n : Int) : P7 w (W.setCell ⟨w.heap.size + 1, i, none⟩ (.int .i64 n)) (arrI (L.set i n)) :=
 ⟨h.below.setCell zi _, h.b1.other _ _ zi, by rw [← arrI_set]; exact h.b2.set _ _⟩
theorem of_len16 {L : List Int} (h : L.length = 8) : ((of L).getD z16).length = 16 := by
 cases ho : of L with
 | none => rfl
 | some c => have := zBc _ c ho; rw [h] at this; exact this
theorem ints_bd {a : List Nat} (h : ∀ n ∈ a, n < 65536) : ∀ (k : Nat) (n : Int), (ints a)[k]? = some n -> -9223372036854775808 <= n /\ n <= 9223372036854775807 := by
 intro k n hn; have hmem := uA hn; unfold ints at hmem; obtain ⟨x, hx, rfl⟩ := vB.1 hmem; have hx6 := h x hx; simp only [wI]; omega
theorem A16.fin {X old : Array Value} {a : Act} {w W : World} (K : A16 X) (B : Blk W w.heap.size 24 old) (S : zW w W) {l : List UInt8} {r : Option (List UInt8)} (H : Hid (parse l = r)) {fn : Func} {p q : Tmp} (hr : fn.results = #[.cell p 24, .tmp q] := by rfl)
  (hp : a.tmps.getD p undef = .pointer (some ⟨w.heap.size, 0, none⟩) := by rfl) (hX : arrB (r.getD z16) = X := by rfl) (hb : a.tmps.getD q undef = .bool r.isSome := by rfl) (hd : a.defers = [] := by rfl) :
  bodyPost prog fn (fun e w' => e = .returned (.tuple #[.agg (arrB ((parse l).getD z16)), .bool (parse l).isSome]) /\ zW w w') .ret a (W.setRow w.heap.size X) := by
 refine zC (results_cell_tmp hr _ _ _ _ _ _ _ hp (B.setRow _) underlying24 rfl K.info) hd ⟨?_, below_setRow S zn _⟩; rw [H.o, hX, hb]
theorem ref_Parse7 (l : List UInt8) (hl : l.length <= 100000) (w : World) :
  zCB 83 #[.string (str l)] w (.tuple #[.agg (arrB ((parse l).getD z16)), .bool (parse l).isSome]) := by
 have hsz : (str l).size = l.length := zZ l; have hs2 : ∀ a b : UInt8, (str [a, b]).size = 2 := fun a b => zZ _; have htl := vX; have hu16 := underlying24; have hu8 := underlying155; have hal : prog.arrayLen 155 = 8 := kf; have KZ : A16 (arrB z16) := A16.of rfl
 go_enter func83, ntmps83
 go_wp2_with fail
 go_loopw [4, 5] (fun va vi wr => ∃ (a : Int) (i : Nat), va = .int .i64 a /\ vi = .int .i64 i /\ i <= l.length /\ wr = w.alloc (.cells (arrB z16) 24) /\ Hid (nM l a i)) (fun _ vi _ => l.length + 1 - (intOf vi).toNat)
 case atStart => exact ⟨-1, 0, rfl, rfl, yQ _, rfl, qh (ddSeen_zero l)⟩
 case round =>
  obtain ⟨a, i, rfl, rfl, hi, rfl, HD⟩ := hrel; have w1 : IntKind.i64.wrap ((i : Int) + 1) = (i : Int) + 1 := yT _ om
  by_cases hlt : i + 1 < l.length
  ·have w2 : IntKind.i64.wrap ((i : Int) + 2) = (i : Int) + 2 := yT _ om
   have hi2 : ((i : Int) + 2).toNat = i + 2 := om; have hlt' : (i : Int) + 1 < (l.length : Int) := om; have hcut := cut2 hlt; have hdi := dd_iff hlt; generalize l[i]'om = x at hcut hdi; generalize l[i + 1] = y at hcut hdi
   by_cases hdd : ddAt l i
   ·have hxy : str [x, y] = str [58, 58] := hdi.1 hdd
    rw [hxy] at hcut
    by_cases ha : a < 0
    ·have HE : Hid (nM l i (i + 1)) := by
      have h := HD.o
      have ha1 : a = -1 := by
       rcases h with ⟨h, _⟩ | ⟨j, h, _⟩
       ·exact h
       ·omega
      rw [ha1] at h; exact qh (ddSeen_yes h hdd)
     clear hdi hdd hxy
     go_wp2
     exact ⟨⟨i, i + 1, rfl, by go_num, om, trivial, HE⟩, by simp [intOf]; omega⟩
    ·have HE : Hid (nM l a (i + 1)) := qh (ddSeen_no HD.o (Or.inl om))
     clear hdi hdd hxy
     go_wp2
     exact ⟨⟨a, i + 1, rfl, by go_num, om, trivial, HE⟩, by simp [intOf]; omega⟩
   ·have HE : Hid (nM l a (i + 1)) := qh (ddSeen_no HD.o (Or.inr hdd))
    have hxy : ([x, y] == ([58, 58] : List UInt8)) = false := by
     rw [yF]; intro h; exact hdd (hdi.2 (by rw [h]))
    clear hdi hdd
    go_wp2
    exact ⟨⟨a, i + 1, rfl, by go_num, om, trivial, HE⟩, by simp [intOf]; omega⟩
  ·have hlt' : ¬ (i : Int) + 1 < (l.length : Int) := om
   have hend := ddSeen_end HD.o (show l.length <= i + 1 from om)
   have hz16 : P7 w ((w.alloc (.cells (arrB z16) 24)).alloc (.cells (arrI (List.replicate 8 0)) 155)) (arrI (List.replicate 8 0)) := by
    refine ⟨(yD w _).trans (belowA2' _ zi), (Blk.new _ _ _).alloc _, ?_⟩; have h := Blk.new (w.alloc (.cells (arrB z16) 24)) 155 (arrI (List.replicate 8 0)); rw [xG] at h; exact h
   have HZ := qh hz16; clear hz16 HD
   rcases hend with ⟨rfl, hno⟩ | ⟨j, rfl, hjl, hdj, hfst⟩
   ·have hpe := parse_no_dd hno
    clear hno; have HR := qh fun W => ref_row l om true W
    cases hr : row true l with
    |none =>
     rw [hr] at hpe HR; have HN : Hid (parse l = none) := qh hpe; clear hpe hr; go_wp2_with fail
     refine (HR.o _).mono ?_; rintro e w1 ⟨v, rfl, hown, hb1⟩; obtain ⟨p, cap, rfl, hc1, hc2, _, _⟩ := zCr hown; have H1 := HZ.o.next hb1; have hb16 := H1.b1; have HBL := qh H1.below; clear hown hb1 H1 HZ
     go_wp2_with (refine KZ.st hb16 ?_)
     refine KZ.fin hb16 HBL.o HN
    |some a =>
     rw [hr] at hpe HR; have hlt := row_lt hr; have hle := zEb hr; simp only at hpe; clear hr
     by_cases h8 : a.length = 8
     ·have HN : Hid (parse l = of (ints a)) := by rw [hpe, zN h8]; exact qh rfl
      have hF : (ints a).length = 8 := by rw [ints_len', h8]
      have HO := qh fun W => ref_Of (ints a) hF (ints_bd hlt) W; have KX := qh (A16.of (of_len16 hF)); have hi8 : (prog.info? 155).map (·.size) = some (arrI (ints a)).size := by rw [zEf, hF]; exact zFg
      have HI8 := qh hi8; have e8 : ints a ++ List.replicate (8 - a.length) (0 : Int) = ints a := by rw [h8]; simp
      have h8' : ((a.length : Int) != 8) = false := by rw [h8]; rfl
      clear hpe hF hlt hi8; go_wp2_with fail
      refine (HR.o _).mono ?_; rintro e w1 ⟨v, rfl, hown, hb1⟩; simp only [vI] at hown; have H1 := HZ.o.next hb1; obtain ⟨W1, hr1, hB1, hbel1, hs1⟩ := zAy H1.b2 (SlR.of_owns bW hown) 0 8 8 om zo 3; rw [fill_front om, e8] at hB1; obtain ⟨p, cap, rfl, hc1, hc2, _, _⟩ := zCr hown; rw [h8] at hr1; have HB1 := qh hB1; have hb16 : Blk W1 w.heap.size 24 (arrB z16) := (hs1 _ om).trans H1.b1; have HB16 := qh hb16; have HBL := qh (H1.below.trans (hbel1.mono (wH _))); clear hB1 hb16 hbel1 hs1 H1 hown hb1 HZ e8
      go_wp2_with (refine yI rfl _ _ rfl (w.heap.size + 1) rfl _ (arrI (ints a)) (0, 0) _ HB1.o hu8 rfl HI8.o ?_)
      refine zT (HO.o _) fun w2 hb2 => ?_; have hb16 := HB16.o.below hb2 HB16.o.lt; have HBL2 := qh (HBL.o.trans (hb2.mono HBL.o.size)); clear hb2
      go_wp2_with (refine KX.o.st hb16 ?_)
      refine KX.o.fin hb16 HBL2.o HN
     ·have HN : Hid (parse l = none) := by rw [hpe, zH h8]; exact qh rfl
      have h8' : ((a.length : Int) != 8) = true := by rw [jZ]; omega
      clear hpe hlt; go_wp2_with fail
      refine (HR.o _).mono ?_; rintro e w1 ⟨v, rfl, hown, hb1⟩; simp only [vI] at hown; obtain ⟨p, cap, rfl, hc1, hc2, _, _⟩ := zCr hown; have H1 := HZ.o.next hb1; have hb16 := H1.b1; have HBL := qh H1.below; clear hown hb1 H1 HZ
      go_wp2_with (refine KZ.st hb16 ?_)
      refine KZ.fin hb16 HBL.o HN
   ·have hpe := parse_at_dd hdj hfst
    have hcA : (str l).extract 0 j = str (l.take j) := by rw [aP]; simp
    have hcB : (str l).extract (j + 2) l.length = str (l.drop (j + 2)) := by
     rw [aP, xY zi]
    have hlA : (l.take j).length <= 100000 := by rw [yV]; omega
    have hlB : (l.drop (j + 2)).length <= 100000 := by rw [vZ]; omega
    have w2 : IntKind.i64.wrap ((j : Int) + 2) = (j : Int) + 2 := yT _ om; have hj2 : ((j : Int) + 2).toNat = j + 2 := om; have hj0 : ¬ (j : Int) < 0 := om; clear hdj hfst; generalize l.take j = front at hpe hcA hlA; generalize l.drop (j + 2) = back at hpe hcB hlB; have HRA := qh fun W => ref_row front om false W; have HRB := qh fun W => ref_row back om true W
    have hleA : ((row false front).getD []).length <= 300000 := by
     cases hr : row false front with
     | none => simp
     | some a => have := zEb hr; simp only [vI]; omega
    have hleB : ((row true back).getD []).length <= 300000 := by
     cases hr : row true back with
     | none => simp
     | some a => have := zEb hr; simp only [vI]; omega
    have HLA := qh hleA; have HLB := qh hleB; clear hleA hleB; go_wp2_with fail
    refine (HRA.o _).mono ?_; rintro e w1 ⟨va, rfl, hoa, hb1⟩; have P1 := qh (HZ.o.next hb1); have HOA := qh hoa; clear hb1 hoa; go_wp2_with fail
    refine (HRB.o _).mono ?_; rintro e w3 ⟨vb, rfl, hob, hb3⟩; have P3 := qh (P1.o.next hb3); obtain ⟨pa, capa, rfl, ha1, ha2, hRa, hpa⟩ := zCr (vL HOA.o hb3 zn); obtain ⟨pb, capb, rfl, hb1, hb2, hRb, hpb⟩ := zCr hob; have hz1 := P1.o.b2.lt; have HRA2 := qh hRa; have HRB2 := qh hRb; have HPA := qh fun q hq => xC (show w.heap.size + 1 < w.heap.size + 1 + 1 from om) (yK (by simp : w.heap.size + 1 + 1 <= _) (hpa q hq)); have HPB := qh fun q hq => xC hz1 (hpb q hq); clear hob hb3 HOA hRa hRb hpa hpb P1; have hlA2 := HLA.o; have hlB2 := HLB.o
    cases hra : row false front with
    |none =>
     rw [hra] at hpe; have HN : Hid (parse l = none) := qh hpe; generalize ((row false front).getD []).length = la at *; generalize ((row true back).getD []).length = lb at *; generalize (row true back).isSome = sb at *; clear hpe hra; have hb16 := P3.o.b1
     go_wp2_with (refine KZ.st hb16 ?_)
     refine KZ.fin hb16 P3.o.below HN
    |some a =>
     have hlta := row_lt hra; rw [hra] at hpe hlA2 HRA2; simp only [vI] at hlA2 HRA2; clear hra
     cases hrb : row true back with
     |none =>
      rw [hrb] at hpe; have HN : Hid (parse l = none) := qh hpe; clear hpe hrb; have hb16 := P3.o.b1
      go_wp2_with (refine KZ.st hb16 ?_)
      refine KZ.fin hb16 P3.o.below HN
     |some b =>
      have hltb := row_lt hrb; rw [hrb] at hpe hlB2 HRB2; simp only [vI] at hlB2 HRB2; simp only at hpe; clear hrb; have ws : IntKind.i64.wrap ((a.length : Int) + b.length) = (a.length : Int) + b.length := yT _ om
      by_cases h7 : 7 < a.length + b.length
      ·have HN : Hid (parse l = none) := by rw [hpe, zN h7]; exact qh rfl
       have h7' : (7 : Int) < (a.length : Int) + b.length := om; clear hpe hlta hltb; have hb16 := P3.o.b1
       go_wp2_with (refine KZ.st hb16 ?_)
       refine KZ.fin hb16 P3.o.below HN
      ·have HN : Hid (parse l = of (ints (a ++ List.replicate (8 - a.length - b.length) 0 ++ b))) := by rw [hpe, zH h7]; exact qh rfl
       have h7' : ¬ (7 : Int) < (a.length : Int) + b.length := om
       have hlx : ∀ n ∈ a ++ List.replicate (8 - a.length - b.length) 0 ++ b, n < 65536 := by
        intro x hx
        rcases xR.1 hx with hx | hx
        ·rcases xR.1 hx with hx | hx
         ·exact hlta x hx
         ·rw [(List.mem_replicate.1 hx).2]; omega
        ·exact hltb x hx
       have hF : (ints (a ++ List.replicate (8 - a.length - b.length) 0 ++ b)).length = 8 := by rw [ints_len', zG, zG, vM]; omega
       have HO := qh fun W => ref_Of _ hF (ints_bd hlx) W; have KX := qh (A16.of (of_len16 hF)); have hi8 : (prog.info? 155).map (·.size) = some (arrI (ints (a ++ List.replicate (8 - a.length - b.length) 0 ++ b))).size := by rw [zEf, hF]; exact zFg
       have HI8 := qh hi8; have HFB := qh (fillB_all a b); clear hpe hlta hltb hlx hF hi8 HLA HLB HRA HRB HZ hal; generalize ints (a ++ List.replicate (8 - a.length - b.length) 0 ++ b) = F at *; go_wp2_with fail
       go_loopw [13] (fun vi wr => ∃ k : Nat, k <= a.length /\ vi = .int .i64 k /\ Hid (P7 w wr (arrI (oV a k))) /\ Hid (RdP wr 1 encN pa a) /\ Hid (RdP wr 1 encN pb b)) (fun vi _ => a.length - (intOf vi).toNat)
       case atStart => exact ⟨0, yQ _, rfl, by rw [fillA_zero om]; exact P3, HRA2, HRB2⟩
       case round =>
        obtain ⟨k, hk, rfl, HP, HA, HB⟩ := hrel; clear P3 HRA2 HRB2
        by_cases hlt : k < a.length
        ·obtain ⟨x, hx⟩ : ∃ x, a[k]? = some x := ⟨a[k], zA hlt⟩
         obtain ⟨g, off, rfl, hbs, hc⟩ := HA.o.at hlt
         have hcell : wr.cell? ⟨g, off + k, none⟩ = some (.int .i64 (x : Int)) := by
          have := hc 0 (.int .i64 (a[k] : Int)) rfl; simp only [jN, xN] at this; have e : a[k] = x := (zL.1 hx).2; rw [this, e]
         have HS := qh (fillA_set hx); have hL : (oV a k).length = 8 := fillA_len om om; obtain ⟨o, ho⟩ : ∃ o, (oV a k)[k]? = some o := ⟨_, zA om⟩; have ce0 : wr.cell? ⟨w.heap.size + 1, k, none⟩ = some (.int .i64 o) := (HP.o.b2.cell k).trans (sF ho); have f0 := HP.o.b2.frozen' k; have hk8 : (k : Int) < 8 := om; clear hx hc ho hL
         go_wp2
         refine ⟨⟨k + 1, om, by go_num, qh ?_, qh (HA.o.setOther _ _ ?_), qh (HB.o.setOther _ _ ?_)⟩, by simp [intOf]; omega⟩
         ·have h := HP.o.set k (x : Int)
          rw [HS.o] at h; exact h
         ·intro q hq h
          have h1 := HPA.o q hq; rw [h] at h1; exact tC _ h1
         ·intro q hq h
          have h1 := HPB.o q hq; rw [h] at h1; exact tC _ h1
        ·obtain rfl : k = a.length := om
         rw [fillA_all (b := b) om] at HP; obtain ⟨q, hq⟩ : ∃ q : Nat, q + b.length = 8 := ⟨8 - b.length, om⟩; have hqi : (8 : Int) - b.length = (q : Int) := om; have wq : IntKind.i64.wrap (q : Int) = q := yT _ om; go_wp2_with fail
         go_loopw [14] (fun vi wr => ∃ k : Nat, k <= b.length /\ vi = .int .i64 k /\ Hid (P7 w wr (arrI (oP a b k))) /\ Hid (RdP wr 1 encN pb b)) (fun vi _ => b.length - (intOf vi).toNat)
         case atStart => exact ⟨0, yQ _, rfl, HP, HB⟩
         case round =>
          obtain ⟨k, hk, rfl, HP2, HB2⟩ := hrel; clear HP HA HB
          by_cases hlt2 : k < b.length
          ·obtain ⟨x, hx⟩ : ∃ x, b[k]? = some x := ⟨b[k], zA hlt2⟩
           obtain ⟨g, off, rfl, hbs, hc⟩ := HB2.o.at hlt2
           have hcell : wr.cell? ⟨g, off + k, none⟩ = some (.int .i64 (x : Int)) := by
            have := hc 0 (.int .i64 (b[k] : Int)) rfl; simp only [jN, xN] at this; have e : b[k] = x := (zL.1 hx).2; rw [this, e]
           have HS := qh (fillB_set (a := a) om hq hx); have hL : (oP a b k).length = 8 := fillB_len om om; obtain ⟨o, ho⟩ : ∃ o, (oP a b k)[q + k]? = some o := ⟨_, zA om⟩; have ce0 : wr.cell? ⟨w.heap.size + 1, q + k, none⟩ = some (.int .i64 o) := (HP2.o.b2.cell _).trans (sF ho); have f0 := HP2.o.b2.frozen' (q + k); have hk8 : (q : Int) + k < 8 := om; have wqk : IntKind.i64.wrap ((q : Int) + k) = (q : Int) + k := yT _ om; have hqk : ((q : Int) + k).toNat = q + k := om; clear hx hc ho hL
           go_wp2
           refine ⟨⟨k + 1, om, by go_num, qh ?_, qh (HB2.o.setOther _ _ ?_)⟩, by simp [intOf]; omega⟩
           ·have h := HP2.o.set (q + k) (x : Int)
            rw [HS.o] at h; exact h
           ·intro q hq h
            have h1 := HPB.o q hq; rw [h] at h1; exact tC _ h1
          ·obtain rfl : k = b.length := om
           rw [HFB.o] at HP2; have HB1 := qh HP2.o.b2; have HB16 := qh HP2.o.b1; have HBL := qh HP2.o.below
           go_wp2_with (refine yI rfl _ _ rfl (w.heap.size + 1) rfl _ (arrI F) (0, 0) _ HB1.o hu8 rfl HI8.o ?_)
           refine zT (HO.o _) fun w5 hb5 => ?_; have hb16 := HB16.o.below hb5 HB16.o.lt; have HBL2 := qh (HBL.o.trans (hb5.mono HBL.o.size)); clear hb5
           go_wp2_with (refine KX.o.st hb16 ?_)
           refine KX.o.fin hb16 HBL2.o HN
end Go.Proofs.YtdbgeobolongmaaGreatDoor
