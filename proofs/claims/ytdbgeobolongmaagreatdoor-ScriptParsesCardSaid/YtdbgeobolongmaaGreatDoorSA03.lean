/- Part of the proof: ScriptLines, ScriptParses, ScriptShows. -/
import Derived.Test.YtdbgeobolongmaaGreatDoorSA01
set_option linter.unusedVariables false
set_option linter.unusedSimpArgs false
namespace Go.Proofs.YtdbgeobolongmaaGreatDoor.Sc
open Go Go.OctetPlain Go.ColonPlain Go.PrefixPlain Go.Proofs.YtdbgeobolongmaaGreatDoor.Hp Go.Lib
theorem join_cons : ∀ (w : Wd) (l : List Wd), join (w :: l) = w ++ l.flatMap fun v => 32 :: v
 | w, [] => by simp [join]
 | w, v :: l => by rw [join, join_cons v l]; simp
def numsD (f : List UInt8) (x : Stp) : List UInt8 := f.flatMap fun c => 32 :: itoa (getD' c x)
def waysD (x : Stp) : List UInt8 := x.ways.flatMap fun p => 32 :: star p
def tailD (c : UInt8) (x : Stp) : List UInt8 :=
 (if c = 83 then 32 :: dash x.s1 x.s2 else []) ++ (if c = 72 then 32 :: showR x.hop else []) ++ (if c = 80 ∨ c = 81 then 32 :: fC x.pf else []) ++ (if c = 84 then 32 :: x.text else []) ++ (if c = 87 ∨ c = 81 then waysD x else [])
def textD (x : Stp) : List UInt8 :=
 if x.is = true then (if x.mpls = true then wMpls else wIp) ++ 32 :: (itoa x.port ++ 32 :: (if x.bytes = [] then [45] else hex x.bytes))
 else if x.kind < 0 ∨ 15 < x.kind then []
 else if restL.getD x.kind.toNat 0 = 72 /\ checkR x.hop ≠ 0 then []
 else names.getD x.kind.toNat [] ++ numsD (fieldsL.getD x.kind.toNat []) x ++ tailD (restL.getD x.kind.toNat 0) x
def lineD (x : Stp) : List UInt8 := if oneR (textD x) = some x then textD x else []
theorem flat_ways (x : Stp) : (x.ways.map star).flatMap (fun v => (32 : UInt8) :: v) = waysD x := by
 unfold waysD; rw [List.flatMap_map]
theorem flat_spl (s : List UInt8) : (spl s).flatMap (fun v => (32 : UInt8) :: v) = 32 :: s := by
 cases h : spl s with
 | nil => exact absurd h (spl_ne s)
 |cons w l =>
  have e := join_spl s; rw [h, join_cons] at e; rw [vT, yC, e]
theorem tail_shw : ∀ c ∈ restL, ∀ x : Stp, ((jX c).flatMap fun p => shw p x).flatMap (fun v => (32 : UInt8) :: v) = tailD c x := by
 intro c hc x; have k : c = 46 ∨ c = 83 ∨ c = 72 ∨ c = 87 ∨ c = 81 ∨ c = 80 ∨ c = 84 := by revert c; decide
 rcases k with rfl | rfl | rfl | rfl | rfl | rfl | rfl
 ·simp [jX, tailD]
 ·simp [jX, tailD, shw]
 ·simp [jX, tailD, shw, flat_spl]
 ·simp only [jX, tailD, shw]; simp [flat_ways]
 ·simp only [jX, tailD, shw]; simp [flat_ways]
 ·simp [jX, tailD, shw]
 ·simp [jX, tailD, shw]
theorem field_shw (c : UInt8) (x : Stp) : shw (nS c) x = [itoa (getD' c x)] := by
 unfold nS getD'
 split
 ·rfl
 ·split <;> rfl
theorem nums_shw (f : List UInt8) (x : Stp) : ((f.map nS).flatMap fun p => shw p x).flatMap (fun v => (32 : UInt8) :: v) = numsD f x := by
 induction f with
 | nil => rfl
 | cons c f ih => rw [yM, vT, uI, ih, field_shw]; simp [numsD]
theorem names_idx : ∀ k, k < 16 -> idx (names.getD k []) = k /\ names.getD k [] ≠ wIp /\ names.getD k [] ≠ wMpls := zd
theorem partsOf_name {k : Nat} (h : k < 16) : partsOf (names.getD k []) = partsK.getD k [] := by
 obtain ⟨h1, h2, h3⟩ := names_idx k h; unfold partsOf; rw [zH (fun e => e.elim h2 h3), h1]
theorem textD_eq {x : Stp} (h : x.is = false -> x.kind = 8 -> checkR x.hop = 0) : textD x = textR x := by
 unfold textD textR wordOf
 by_cases hi : x.is = true
 ·rw [zN hi, zN hi]
  have e : partsOf (if x.mpls = true then wMpls else wIp) = [.Q, .B] := by split <;> decide
  simp only [textW, e, join_cons]; simp [shw]
 ·rw [zH hi, zH hi]
  by_cases hk : x.kind < 0 ∨ 15 < x.kind
  ·rw [zN hk, zH (show ¬ (0 <= x.kind /\ x.kind <= 15) from om)]
  ·rw [zH hk, zN (show 0 <= x.kind /\ x.kind <= 15 from om)]
   have hlt : x.kind.toNat < 16 := om; have h72 : ∀ k, k < 16 -> restL.getD k 0 = 72 -> k = 8 := zd; rw [zH (fun hh => hh.2 (h (by simpa using hi) (by have := h72 _ hlt hh.1; omega)))]
   have eg : names[x.kind.toNat]? = some (names.getD x.kind.toNat []) := by
    have h16 : x.kind.toNat < names.length := hlt; rw [vP, zA h16]
    rfl
   rw [eg]; simp only; unfold textW; rw [partsOf_name hlt, zEw _ hlt, join_cons, uI, uI, nums_shw, tail_shw _ (by rw [vP, zA (show x.kind.toNat < restL.length from hlt)]; exact yU _), xQ]
theorem one_hop {s : List UInt8} {x : Stp} (h : oneR s = some x) (hi : x.is = false) (hk : x.kind = 8) : checkR x.hop = 0 := by
 obtain ⟨w, l, hs, hp, hr⟩ := oneR_some h; obtain ⟨-, hw⟩ := one_word hs hp hr; unfold wordOf at hw; rw [hi, hk] at hw; simp only [sZ, zDk] at hw; have e : some (names.getD 8 []) = some w := hw; injection e with e
 have hpo : partsOf w = [.H] := by rw [← e]; decide
 rw [hpo, reads] at hr
 split at hr
 ·rename_i y r hy
  have hy : (match parseR (join l) with | some h => some ({ x0 w with hop := h }, []) | none => none) = some (y, r) := by cases l <;> exact hy
  cases hn : parseR (join l) with
  | none => rw [hn] at hy; cases hy
  |some q =>
   rw [hn] at hy; injection hy with hy
   injection hy with h1 h2
   injection hr with hr
   injection hr with h3 _
   rw [← h3, ← h1]; exact ((parseR_iff _ _).1 hn).1
 ·cases hr
theorem lineD_eq (x : Stp) : lineD x = lineR x := by
 by_cases h : x.is = false -> x.kind = 8 -> checkR x.hop = 0
 ·unfold lineD lineR
  rw [textD_eq h]
 ·have hb : x.is = false /\ x.kind = 8 /\ checkR x.hop ≠ 0 := by
   refine ⟨jO fun k => h fun a => absurd a k, jO fun k => h fun _ a => absurd a k, fun k => h fun _ _ => k⟩
  have no : ∀ s, oneR s ≠ some x := fun s hs => hb.2.2 (one_hop hs hb.1 hb.2.1); unfold lineD lineR; rw [zH (no _), zH (no _)]
end Go.Proofs.YtdbgeobolongmaaGreatDoor.Sc
