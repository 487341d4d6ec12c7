/- Part of the proof: contracts of the functions that the statements of layer 32 reach. -/
import Derived.Test.YtdbgeobolongmaaGreatDoorV08
set_option linter.unusedVariables false
set_option linter.unusedSimpArgs false
namespace Go.Proofs.YtdbgeobolongmaaGreatDoor.Sc
open Go Go.OctetPlain Go.ColonPlain Go.PrefixPlain Go.Proofs.YtdbgeobolongmaaGreatDoor.Hp Go.Lib
theorem body_app : ∀ (a b : List Wd), body (a ++ b) = body a ++ body b
 | [], b => rfl
 | w :: a, b => by rw [List.cons_append, body, body, body_app a b, List.append_assoc, List.cons_append]
theorem body_split : ∀ s : List UInt8, (body (splitC 10 s)).length = s.length + 1
 | [] => rfl
 | c :: r => by
  have ih := body_split r
  unfold splitC
  split
  ·simp only [body, List.nil_append, List.length_cons]; omega
  ·cases hs : splitC 10 r with
   | nil => exact absurd hs (splitC_ne 10 r)
   | cons w ws =>
    rw [hs] at ih
    simp only [body, List.headD_cons, List.tail_cons, List.length_append, List.length_cons, List.cons_append] at ih ⊢
    omega
structure Inv (x : Scr) : Prop where
 z : Sized x
 b1 : 0 ≤ x.r1 ∧ x.r1 ≤ 1073741824
 b2 : 0 ≤ x.r2 ∧ x.r2 ≤ 1073741824
 b3 : 0 ≤ x.r3 ∧ x.r3 ≤ 1073741824
 n : x.steps.length ≤ 1000
 s : ∀ t ∈ x.steps, oneR (lineR t) = some t
theorem roomsR_some {l : List Wd} {r : Int × Int × Int} (h : roomsR l = some r) : (0 ≤ r.1 ∧ r.1 ≤ 1073741824) ∧ (0 ≤ r.2.1 ∧ r.2.1 ≤ 1073741824) ∧ (0 ≤ r.2.2 ∧ r.2.2 ≤ 1073741824) := by
 unfold roomsR at h
 split at h
 ·split at h
  ·split at h
   ·rename_i h1 h2 h3
    injection h with h
    subst h
    exact ⟨(num30_some h1).2, (num30_some h2).2, (num30_some h3).2⟩
   ·cases h
  ·cases h
 ·cases h
theorem selfR_some {l : List Wd} {r : List UInt8 × List UInt8} (h : selfR l = some r) : r.1.length = 4 ∧ r.2.length = 16 := by
 unfold selfR at h
 split at h
 ·split at h
  ·split at h
   ·rename_i h1 h2
    split at h
    ·injection h with h
     subst h
     exact ⟨dotParts_length _ _ _ h1, parse_length h2⟩
    ·cases h
   ·cases h
  ·cases h
 ·cases h
theorem take_cases {x y : Scr} {s : List UInt8} (h : takeR x s = some y) : (∃ r, roomsR (spl s) = some r ∧ y = { x with r1 := r.1, r2 := r.2.1, r3 := r.2.2 }) ∨ (∃ a, selfR (spl s) = some a ∧ y = { x with four := a.1, six := a.2 }) ∨ (∃ t, oneR s = some t ∧ x.steps.length ≠ 1000 ∧ y = { x with steps := x.steps ++ [t] }) := by
 unfold takeR at h
 split at h
 ·rename_i r hr
  injection h with h
  exact Or.inl ⟨r, hr, h.symm⟩
 ·split at h
  ·rename_i a ha
   injection h with h
   exact Or.inr (Or.inl ⟨a, ha, h.symm⟩)
  ·split at h
   ·rename_i t ht
    split at h
    ·cases h
    ·rename_i hn
     injection h with h
     exact Or.inr (Or.inr ⟨t, ht, hn, h.symm⟩)
   ·cases h
theorem take_inv {x y : Scr} {s : List UInt8} (h : takeR x s = some y) (i : Inv x) : Inv y := by
 rcases take_cases h with ⟨r, hr, rfl⟩ | ⟨a, ha, rfl⟩ | ⟨t, ht, hn, rfl⟩
 ·obtain ⟨h1, h2, h3⟩ := roomsR_some hr
  exact ⟨⟨i.z.four, i.z.six⟩, h1, h2, h3, i.n, i.s⟩
 ·have := selfR_some ha
  exact ⟨⟨this.1, this.2⟩, i.b1, i.b2, i.b3, i.n, i.s⟩
 ·refine ⟨⟨i.z.four, i.z.six⟩, i.b1, i.b2, i.b3, ?_, ?_⟩
  ·have := i.n
   simp only [List.length_append, List.length_singleton]
   omega
  ·intro u hu
   rcases List.mem_append.1 hu with hu | hu
   ·exact i.s u hu
   ·rw [List.mem_singleton.1 hu, one_line ht]; exact ht
def wt (x : Scr) : Nat := (body (x.steps.map lineR)).length
theorem take_wt {x y : Scr} {s : List UInt8} (h : takeR x s = some y) : wt y ≤ wt x + (s.length + 1) := by
 rcases take_cases h with ⟨r, hr, rfl⟩ | ⟨a, ha, rfl⟩ | ⟨t, ht, hn, rfl⟩
 ·unfold wt; simp only; omega
 ·unfold wt; simp only; omega
 ·unfold wt
  simp only [List.map_append, body_app, List.length_append, List.map_cons, List.map_nil, one_line ht, body, List.length_cons, List.length_nil]
  omega
theorem lines_inv : ∀ {l : List Wd} {x y : Scr} {i : Nat}, linesR x i l = .ok y → Inv x → Inv y ∧ wt y ≤ wt x + (body l).length
 | [], x, y, i, h, v => by injection h with h; subst h; exact ⟨v, by omega⟩
 | s :: l, x, y, i, h, v => by
  unfold linesR at h
  have e : (body (s :: l)).length = s.length + 1 + (body l).length := by simp only [body, List.length_append, List.length_cons]; omega
  split at h
  ·obtain ⟨h1, h2⟩ := lines_inv h v
   exact ⟨h1, by omega⟩
  ·split at h
   ·rename_i u hu
    obtain ⟨h1, h2⟩ := lines_inv h (take_inv hu v)
    have := take_wt hu
    exact ⟨h1, by omega⟩
   ·cases h
theorem inv0 : Inv scr0 := ⟨⟨by decide, by decide⟩, by decide, by decide, by decide, by decide, fun t ht => by cases ht⟩
theorem parse_ok {s : List UInt8} {x : Scr} (h : parseX s = .ok x) : s.length ≤ 65536 ∧ linesR scr0 0 (splitC 10 s) = .ok x := by
 unfold parseX at h
 split at h
 ·cases h
 ·rename_i hn
  split at h
  ·rename_i y hy; injection h with h; subst h; exact ⟨by omega, hy⟩
  ·cases h
theorem parse_inv {s : List UInt8} {x : Scr} (h : parseX s = .ok x) : Inv x ∧ wt x ≤ s.length + 1 := by
 obtain ⟨-, h2⟩ := parse_ok h
 have := lines_inv h2 inv0
 rw [body_split] at this
 exact ⟨this.1, by have e : wt scr0 = 0 := rfl; omega⟩
theorem num30_itoa {n : Int} (h : 0 ≤ n ∧ n ≤ 1073741824) : num30 (itoa n) = some n := by
 unfold num30
 refine number_some.2 ⟨h.1, by omega, h.2, ?_⟩
 unfold itoa
 rw [if_neg (by omega)]
theorem rooms_len {x : Scr} (i : Inv x) : (roomsL x).length ≤ 71 := by
 have h1 := itoa_length_le x.r1 (by have := i.b1; omega) (by have := i.b1; omega)
 have h2 := itoa_length_le x.r2 (by have := i.b2; omega) (by have := i.b2; omega)
 have h3 := itoa_length_le x.r3 (by have := i.b3; omega) (by have := i.b3; omega)
 have h0 : wRooms.length = 5 := rfl
 simp only [roomsL, join, List.length_append, List.length_cons]
 omega
theorem dec_le (c : UInt8) : (decDigits c.toNat).length ≤ 21 := by
 have := c.toNat_lt
 have h := itoa_length_le (c.toNat : Int) (by omega) (by omega)
 unfold itoa at h
 rw [if_neg (by omega)] at h
 exact h
theorem self_len {x : Scr} (z : Sized x) : (selfL x).length ≤ 140 := by
 have h1 := (show_le z.six).2
 have h2 : (showD x.four).length ≤ 87 := by
  match hx : x.four, z.four with
  | [a, b, c, d], _ =>
   have := dec_le a
   have := dec_le b
   have := dec_le c
   have := dec_le d
   simp only [showD, dotJ, List.map_cons, List.map_nil, List.length_append, List.length_cons]
   omega
 have h0 : wSelf.length = 4 := rfl
 simp only [selfL, join, List.length_append, List.length_cons]
 omega
theorem inv_back {x : Scr} (i : Inv x) (hw : wt x ≤ 60000) : showX x = body (linesOf x) ∧ parseX (body (linesOf x)) = .ok x := by
 have h1 : [] ∉ x.steps.map lineR := by
  intro h
  obtain ⟨t, ht, e⟩ := List.mem_map.1 h
  have := i.s t ht
  rw [e, oneR_nil] at this
  cases this
 have hp : parseX (body (linesOf x)) = .ok x := by
  unfold parseX
  have hl : (body (linesOf x)).length ≤ 65536 := by
   have a := rooms_len i
   have b := self_len i.z
   unfold wt at hw
   unfold linesOf
   simp only [body, List.length_append, List.length_cons]
   omega
  rw [if_neg (by omega), split_body _ (body_no10 i.z h1), lines_app]
  unfold linesOf
  rw [linesR, skip_rooms, if_neg (by simp), rooms_take, num30_itoa i.b1, num30_itoa i.b2, num30_itoa i.b3]
  simp only
  rw [linesR, skip_self, if_neg (by simp), self_take i.z]
  simp only
  rw [lines_steps _ _ _ i.s rfl (by simp only [scr0, List.length_nil]; have := i.n; omega)]
  simp [linesR, skipped, scr0]
 refine ⟨?_, hp⟩
 unfold showX
 rw [if_neg h1, hp]
 simp
theorem parse_back {s : List UInt8} {x : Scr} (hs : s.length ≤ 4000) (h : parseX s = .ok x) : parseX (showX x) = .ok x := by
 obtain ⟨i, hw⟩ := parse_inv h
 obtain ⟨e, hp⟩ := inv_back i (by omega)
 rw [e, hp]
theorem split_cat : ∀ (a b : List UInt8), splitC 10 (a ++ 10 :: b) = splitC 10 a ++ splitC 10 b
 | [], b => by simp [splitC]
 | c :: a, b => by
  rw [List.cons_append, splitC, splitC, split_cat a b]
  split
  ·rfl
  ·cases hs : splitC 10 a with
   | nil => exact absurd hs (splitC_ne 10 a)
   | cons w ws => simp
theorem reads_nil {ps : List Part} {x y : Stp} {r : List Wd} (h0 : ps ≠ []) : reads ps x [] ≠ some (y, r) := by
 cases ps with
 | nil => exact absurd rfl h0
 | cons p ps =>
  unfold reads
  have : read p x [] = none := by cases p <;> rfl
  rw [this]
  simp
theorem word_len {w : Wd} (h : partsOf w ≠ []) (h1 : w ≠ wIp) : 3 ≤ w.length := by
 rcases parts_word h with h2 | ⟨-, -, h3⟩
 ·rcases h2 with rfl | rfl
  ·exact absurd rfl h1
  ·decide
 ·have : ∀ w ∈ names, 3 ≤ w.length := by decide
  exact this w (List.mem_of_getElem? (idx_get h3))
theorem one_len {s : List UInt8} {t : Stp} (h : oneR s = some t) : 4 ≤ s.length := by
 obtain ⟨w, l, hs, hp, hr⟩ := oneR_some h
 rw [← join_spl s, hs]
 cases l with
 | nil => exact absurd hr (reads_nil hp)
 | cons v l =>
  by_cases h1 : w = wIp
  ·subst h1
   cases l with
   | nil =>
    exfalso
    have e : partsOf wIp = [.Q, .B] := by decide
    rw [e, reads] at hr
    split at hr
    ·rename_i y m hy
     have : m = [] := by
      simp only [read] at hy
      split at hy
      ·injection hy with hy; injection hy with _ hy; exact hy.symm
      ·cases hy
     subst this
     exact reads_nil (by simp) hr
    ·cases hr
   | cons u l =>
    simp only [join, wIp, List.length_append, List.length_cons, List.length_nil]
    omega
  ·have := word_len hp h1
   simp only [join, List.length_append, List.length_cons]
   omega
theorem lines_shift : ∀ (l : List Wd) (x y : Scr) (i j : Nat), 5 * x.steps.length + (body l).length ≤ 5000 → 5 * y.steps.length + (body l).length ≤ 5000 →
  (∃ x' y' ts, linesR x i l = .ok x' ∧ linesR y j l = .ok y' ∧ x'.steps = x.steps ++ ts ∧ y'.steps = y.steps ++ ts) ∨ (∃ d, linesR x i l = .error (i + d) ∧ linesR y j l = .error (j + d))
 | [], x, y, i, j, _, _ => Or.inl ⟨x, y, [], rfl, rfl, by simp, by simp⟩
 | s :: l, x, y, i, j, hx, hy => by
  have e : (body (s :: l)).length = s.length + 1 + (body l).length := by simp only [body, List.length_append, List.length_cons]; omega
  rw [e] at hx hy
  have up : ∀ (x1 y1 : Scr), ((∃ x' y' ts, linesR x1 (i + 1) l = .ok x' ∧ linesR y1 (j + 1) l = .ok y' ∧ x'.steps = x1.steps ++ ts ∧ y'.steps = y1.steps ++ ts) ∨ (∃ d, linesR x1 (i + 1) l = .error (i + 1 + d) ∧ linesR y1 (j + 1) l = .error (j + 1 + d))) →
    ∀ us, x1.steps = x.steps ++ us → y1.steps = y.steps ++ us → (∃ x' y' ts, linesR x1 (i + 1) l = .ok x' ∧ linesR y1 (j + 1) l = .ok y' ∧ x'.steps = x.steps ++ ts ∧ y'.steps = y.steps ++ ts) ∨ (∃ d, linesR x1 (i + 1) l = .error (i + d) ∧ linesR y1 (j + 1) l = .error (j + d)) := by
   intro x1 y1 h us e1 e2
   rcases h with ⟨x', y', ts, a, b, c, d⟩ | ⟨d, a, b⟩
   ·exact Or.inl ⟨x', y', us ++ ts, a, b, by rw [c, e1, List.append_assoc], by rw [d, e2, List.append_assoc]⟩
   ·exact Or.inr ⟨1 + d, by rw [a]; congr 1; omega, by rw [b]; congr 1; omega⟩
  rw [linesR, linesR]
  split
  ·exact up x y (lines_shift l x y _ _ (by omega) (by omega)) [] (by simp) (by simp)
  ·unfold takeR
   cases hr : roomsR (spl s) with
   | some r => exact up _ _ (lines_shift l _ _ _ _ (by simp only; omega) (by simp only; omega)) [] (by simp) (by simp)
   | none =>
    cases ha : selfR (spl s) with
    | some a => exact up _ _ (lines_shift l _ _ _ _ (by simp only; omega) (by simp only; omega)) [] (by simp) (by simp)
    | none =>
     cases ho : oneR s with
     | some t =>
      have := one_len ho
      simp only
      rw [if_neg (by omega), if_neg (by omega)]
      exact up _ _ (lines_shift l _ _ _ _ (by simp only [List.length_append, List.length_singleton]; omega) (by simp only [List.length_append, List.length_singleton]; omega)) [t] rfl rfl
     | none => exact Or.inr ⟨1, rfl, rfl⟩
theorem step_wt : ∀ (ts : List Stp), (∀ t ∈ ts, oneR (lineR t) = some t) → 5 * ts.length ≤ (body (ts.map lineR)).length
 | [], _ => by simp
 | t :: ts, h => by
  have h1 := one_len (h t List.mem_cons_self)
  have h2 := step_wt ts fun u hu => h u (List.mem_cons_of_mem _ hu)
  simp only [List.map_cons, body, List.length_append, List.length_cons]
  omega
theorem parse_small {s : List UInt8} (h : s.length ≤ 65536) : parseX s = (match linesR scr0 0 (splitC 10 s) with | .ok x => .ok x | .error i => .error (20, i)) := by
 unfold parseX
 rw [if_neg (by omega)]
 cases linesR scr0 0 (splitC 10 s) <;> rfl
theorem two_texts (a b : List UInt8) (ha : a.length ≤ 2000) (hb : b.length ≤ 2000) :
  (∃ k n, parseX a = .error (20, k) ∧ parseX (a ++ 10 :: b) = .error (20, n)) ∨
  (∃ x k, parseX a = .ok x ∧ parseX b = .error (20, k) ∧ parseX (a ++ 10 :: b) = .error (20, k + (splitC 10 a).length)) ∨
  (∃ x y z, parseX a = .ok x ∧ parseX b = .ok y ∧ parseX (a ++ 10 :: b) = .ok z ∧ z.steps = x.steps ++ y.steps) := by
 have hab : (a ++ 10 :: b).length ≤ 65536 := by simp only [List.length_append, List.length_cons]; omega
 have pab := parse_small hab
 rw [split_cat, lines_app] at pab
 have pa := parse_small (show a.length ≤ 65536 by omega)
 have pb := parse_small (show b.length ≤ 65536 by omega)
 cases hx : linesR scr0 0 (splitC 10 a) with
 | error k => rw [hx] at pa pab; exact Or.inl ⟨k, k, pa, pab⟩
 | ok x =>
  rw [hx] at pa pab
  simp only at pa pab
  obtain ⟨i, hw⟩ := parse_inv pa
  have h5 := step_wt x.steps i.s
  have hwx : (body (x.steps.map lineR)).length ≤ a.length + 1 := hw
  have hbl := body_split b
  rcases lines_shift (splitC 10 b) scr0 x 0 (0 + (splitC 10 a).length) (by simp only [scr0, List.length_nil]; omega) (by omega) with ⟨y, z, ts, e1, e2, e3, e4⟩ | ⟨d, e1, e2⟩
  ·rw [e1] at pb
   rw [e2] at pab
   refine Or.inr (Or.inr ⟨x, y, z, pa, pb, pab, ?_⟩)
   rw [e4, e3]
   rfl
  ·rw [e1] at pb
   rw [e2] at pab
   refine Or.inr (Or.inl ⟨x, 0 + d, pa, pb, ?_⟩)
   rw [pab, Nat.zero_add, Nat.zero_add, Nat.add_comm]
def fieldsL : List (List UInt8) := [[65, 78], [65], [65, 78], [65], [65], [79, 65, 78], [79], [79], [], [65], [65], [65], [], [], [65], [65]]
def restL : List UInt8 := [46, 46, 46, 83, 46, 46, 83, 83, 72, 46, 87, 46, 81, 80, 84, 87]
def getD' (c : UInt8) (x : Stp) : Int := if c = 65 then x.a else if c = 78 then x.n else x.owner
def toPart (c : UInt8) : Part := if c = 65 then .A else if c = 78 then .N else .O
def restParts (c : UInt8) : List Part := if c = 83 then [.S] else if c = 72 then [.H] else if c = 87 then [.W] else if c = 80 then [.P] else if c = 81 then [.P, .W] else if c = 84 then [.T] else []
theorem parts_split : ∀ k, k < 16 → partsK.getD k [] = (fieldsL.getD k []).map toPart ++ restParts (restL.getD k 0) := by decide
theorem join_cons : ∀ (w : Wd) (l : List Wd), join (w :: l) = w ++ l.flatMap fun v => 32 :: v
 | w, [] => by simp [join]
 | w, v :: l => by rw [join, join_cons v l]; simp
def numsD (f : List UInt8) (x : Stp) : List UInt8 := f.flatMap fun c => 32 :: itoa (getD' c x)
def waysD (x : Stp) : List UInt8 := x.ways.flatMap fun p => 32 :: star p
def tailD (c : UInt8) (x : Stp) : List UInt8 :=
 (if c = 83 then 32 :: dash x.s1 x.s2 else []) ++ (if c = 72 then 32 :: showR x.hop else []) ++ (if c = 80 ∨ c = 81 then 32 :: showP x.pf else []) ++ (if c = 84 then 32 :: x.text else []) ++ (if c = 87 ∨ c = 81 then waysD x else [])
def textD (x : Stp) : List UInt8 :=
 if x.is = true then (if x.mpls = true then wMpls else wIp) ++ 32 :: (itoa x.port ++ 32 :: (if x.bytes = [] then [45] else hex x.bytes))
 else if x.kind < 0 ∨ 15 < x.kind then []
 else if restL.getD x.kind.toNat 0 = 72 ∧ checkR x.hop ≠ 0 then []
 else names.getD x.kind.toNat [] ++ numsD (fieldsL.getD x.kind.toNat []) x ++ tailD (restL.getD x.kind.toNat 0) x
theorem flat_ways (x : Stp) : (x.ways.map star).flatMap (fun v => (32 : UInt8) :: v) = waysD x := by
 unfold waysD
 rw [List.flatMap_map]
theorem flat_spl (s : List UInt8) : (spl s).flatMap (fun v => (32 : UInt8) :: v) = 32 :: s := by
 cases h : spl s with
 | nil => exact absurd h (spl_ne s)
 | cons w l =>
  have e := join_spl s
  rw [h, join_cons] at e
  rw [List.flatMap_cons, List.cons_append, e]
theorem tail_shw : ∀ c ∈ restL, ∀ x : Stp, ((restParts c).flatMap fun p => shw p x).flatMap (fun v => (32 : UInt8) :: v) = tailD c x := by
 intro c hc x
 have k : c = 46 ∨ c = 83 ∨ c = 72 ∨ c = 87 ∨ c = 81 ∨ c = 80 ∨ c = 84 := by revert c; decide
 rcases k with rfl | rfl | rfl | rfl | rfl | rfl | rfl
 ·simp [restParts, tailD]
 ·simp [restParts, tailD, shw]
 ·simp [restParts, tailD, shw, flat_spl]
 ·simp only [restParts, tailD, shw]; simp [flat_ways]
 ·simp only [restParts, tailD, shw]; simp [flat_ways]
 ·simp [restParts, tailD, shw]
 ·simp [restParts, tailD, shw]
theorem field_shw (c : UInt8) (x : Stp) : shw (toPart c) x = [itoa (getD' c x)] := by
 unfold toPart getD'
 split
 ·rfl
 ·split <;> rfl
theorem nums_shw (f : List UInt8) (x : Stp) : ((f.map toPart).flatMap fun p => shw p x).flatMap (fun v => (32 : UInt8) :: v) = numsD f x := by
 induction f with
 | nil => rfl
 | cons c f ih => rw [List.map_cons, List.flatMap_cons, List.flatMap_append, ih, field_shw]; simp [numsD]
theorem names_idx : ∀ k, k < 16 → idx (names.getD k []) = k ∧ names.getD k [] ≠ wIp ∧ names.getD k [] ≠ wMpls := by decide
theorem partsOf_name {k : Nat} (h : k < 16) : partsOf (names.getD k []) = partsK.getD k [] := by
 obtain ⟨h1, h2, h3⟩ := names_idx k h
 unfold partsOf
 rw [if_neg (fun e => e.elim h2 h3), h1]
theorem textD_eq {x : Stp} (h : x.is = false → x.kind = 8 → checkR x.hop = 0) : textD x = textR x := by
 unfold textD textR wordOf
 by_cases hi : x.is = true
 ·rw [if_pos hi, if_pos hi]
  have e : partsOf (if x.mpls = true then wMpls else wIp) = [.Q, .B] := by split <;> decide
  simp only [textW, e, join_cons]
  simp [shw]
 ·rw [if_neg hi, if_neg hi]
  by_cases hk : x.kind < 0 ∨ 15 < x.kind
  ·rw [if_pos hk, if_neg (show ¬ (0 ≤ x.kind ∧ x.kind ≤ 15) by omega)]
  ·rw [if_neg hk, if_pos (show 0 ≤ x.kind ∧ x.kind ≤ 15 by omega)]
   have hlt : x.kind.toNat < 16 := by omega
   have h72 : ∀ k, k < 16 → restL.getD k 0 = 72 → k = 8 := by decide
   rw [if_neg (fun hh => hh.2 (h (by simpa using hi) (by have := h72 _ hlt hh.1; omega)))]
   have eg : names[x.kind.toNat]? = some (names.getD x.kind.toNat []) := by
    have h16 : x.kind.toNat < names.length := hlt
    rw [List.getD_eq_getElem?_getD, List.getElem?_eq_getElem h16]
    rfl
   rw [eg]
   simp only
   unfold textW
   rw [partsOf_name hlt, parts_split _ hlt, join_cons, List.flatMap_append, List.flatMap_append, nums_shw, tail_shw _ (by rw [List.getD_eq_getElem?_getD, List.getElem?_eq_getElem (show x.kind.toNat < restL.length from hlt)]; exact List.getElem_mem _), List.append_assoc]
theorem one_hop {s : List UInt8} {x : Stp} (h : oneR s = some x) (hi : x.is = false) (hk : x.kind = 8) : checkR x.hop = 0 := by
 obtain ⟨w, l, hs, hp, hr⟩ := oneR_some h
 obtain ⟨-, hw⟩ := one_word hs hp hr
 unfold wordOf at hw
 rw [hi, hk] at hw
 simp only [Bool.false_eq_true, if_false] at hw
 have e : some (names.getD 8 []) = some w := hw
 injection e with e
 have hpo : partsOf w = [.H] := by rw [← e]; decide
 rw [hpo, reads] at hr
 split at hr
 ·rename_i y r hy
  have hy : (match parseR (join l) with | some h => some ({ x0 w with hop := h }, []) | none => none) = some (y, r) := by cases l <;> exact hy
  cases hn : parseR (join l) with
  | none => rw [hn] at hy; cases hy
  | some q =>
   rw [hn] at hy
   injection hy with hy
   injection hy with h1 h2
   injection hr with hr
   injection hr with h3 _
   rw [← h3, ← h1]
   exact ((parseR_iff _ _).1 hn).1
 ·cases hr
end Go.Proofs.YtdbgeobolongmaaGreatDoor.Sc
