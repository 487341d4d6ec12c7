import Derived.Test.YtilahcnpjbnjiaaGreatDoorMOctP
import Derived.Test.YtilahcnpjbnjiaaGreatDoorMSpanP
/- Plain law of layer 15: hops as words; what is shown is parsed. -/
namespace Go.Proofs.YtilahcnpjbnjiaaGreatDoor.Hp
open Go Go.OctetPlain
set_option linter.unusedVariables false
set_option linter.unusedSimpArgs false

abbrev Wd := List UInt8
/-- a text cut at its spaces; words joined -/
def spl : List UInt8 → List Wd
  | [] => [[]]
  | c :: r => if c = 32 then [] :: spl r else match spl r with
    | w :: ws => (c :: w) :: ws
    | [] => [[c]]
def join : List Wd → List UInt8
  | [] => []
  | [w] => w
  | w :: v :: ws => w ++ 32 :: join (v :: ws)
theorem spl_ne : ∀ l, spl l ≠ []
  | [] => by simp [spl]
  | c :: r => by
    unfold spl
    split
    · simp
    · split <;> simp
theorem join_spl : ∀ l, join (spl l) = l
  | [] => rfl
  | c :: r => by
    have ih := join_spl r
    unfold spl
    split
    · rename_i h
      cases hs : spl r with
      | nil => exact absurd hs (spl_ne r)
      | cons w ws =>
        rw [hs] at ih
        simp only [join, List.nil_append, h]
        rw [ih]
    · cases hs : spl r with
      | nil => exact absurd hs (spl_ne r)
      | cons w ws =>
        rw [hs] at ih
        cases ws with
        | nil => simp only [join] at ih ⊢; rw [ih]
        | cons v vs => simp only [join, List.cons_append] at ih ⊢; rw [ih]
theorem spl_word : ∀ (w : Wd), (∀ c ∈ w, c ≠ 32) → spl w = [w]
  | [], _ => rfl
  | c :: r, h => by
    have ih := spl_word r fun d hd => h d (List.mem_cons_of_mem _ hd)
    simp [spl, h c List.mem_cons_self, ih]
theorem spl_app : ∀ (w : Wd) (l : List UInt8), (∀ c ∈ w, c ≠ 32) → spl (w ++ 32 :: l) = w :: spl l
  | [], l, _ => by simp [spl]
  | c :: r, l, h => by
    have ih := spl_app r l fun d hd => h d (List.mem_cons_of_mem _ hd)
    simp [spl, h c List.mem_cons_self, ih]
theorem spl_join : ∀ (ws : List Wd), ws ≠ [] → (∀ w ∈ ws, ∀ c ∈ w, c ≠ 32) → spl (join ws) = ws
  | [], h, _ => absurd rfl h
  | [w], _, h => spl_word w (h w List.mem_cons_self)
  | w :: v :: ws, _, h => by
    rw [join, spl_app w _ (h w List.mem_cons_self), spl_join (v :: ws) (by simp) fun u hu => h u (List.mem_cons_of_mem _ hu)]

/-- a hop -/
structure Hop where
  op : Int
  labels : List Int
  port : Int
  backup : Int
  repair : List Int
  pipe : Bool
deriving DecidableEq
def wPush : Wd := [112, 117, 115, 104]
def wSwap : Wd := [115, 119, 97, 112]
def wPop : Wd := [112, 111, 112]
def wHere : Wd := [104, 101, 114, 101]
def wPort : Wd := [112, 111, 114, 116]
def wBackup : Wd := [98, 97, 99, 107, 117, 112]
def wPipe : Wd := [112, 105, 112, 101]
def opW (n : Int) : Wd := if n = 0 then wPush else if n = 1 then wSwap else if n = 2 then wPop else if n = 3 then wHere else []
def opOf (w : Wd) : Option Int := if w = wPush then some 0 else if w = wSwap then some 1 else if w = wPop then some 2 else if w = wHere then some 3 else none
def pushed (n : Int) : Bool := decide (n = 0) || decide (n = 2) || (decide (16 ≤ n) && decide (n ≤ 1048575))
/-- may a hop be? the error -/
def checkR (h : Hop) : Int :=
  if h.op < 0 ∨ 3 < h.op ∨ (h.op = 1 ∧ h.labels = []) ∨ (1 < h.op ∧ h.labels ≠ []) then 54
  else if 16 < h.labels.length ∨ 16 < h.repair.length then 51
  else if (h.labels.all pushed && h.repair.all pushed) = false then 40
  else if h.port < 0 ∨ 63 < h.port ∨ (h.op = 3 ∧ h.port ≠ 0) ∨ 63 < h.backup ∨ (h.op = 3 ∧ 0 ≤ h.backup) then 50
  else if h.backup < -1 ∨ (h.backup = -1 ∧ h.repair ≠ []) ∨ h.backup = h.port then 54
  else 0
/-- it may be -/
structure Valid (h : Hop) : Prop where
  o0 : 0 ≤ h.op
  o3 : h.op ≤ 3
  l1 : h.op = 1 → h.labels ≠ []
  l2 : 1 < h.op → h.labels = []
  n1 : h.labels.length ≤ 16
  n2 : h.repair.length ≤ 16
  p1 : ∀ n ∈ h.labels, pushed n = true
  p2 : ∀ n ∈ h.repair, pushed n = true
  q0 : 0 ≤ h.port
  q1 : h.port ≤ 63
  q3 : h.op = 3 → h.port = 0
  b0 : -1 ≤ h.backup
  b1 : h.backup ≤ 63
  b3 : h.op = 3 → h.backup < 0
  b4 : h.backup = -1 → h.repair = []
  b5 : h.backup ≠ h.port
theorem check_iff (h : Hop) : checkR h = 0 ↔ Valid h := by
  unfold checkR
  constructor
  · intro hc
    split at hc
    · simp at hc
    rename_i c1
    split at hc
    · simp at hc
    rename_i c2
    split at hc
    · simp at hc
    rename_i c3
    split at hc
    · simp at hc
    rename_i c4
    split at hc
    · simp at hc
    rename_i c5
    simp only [Bool.not_eq_false, Bool.and_eq_true, List.all_eq_true] at c3
    simp only [not_or, not_and] at c1 c2 c4 c5
    refine ⟨by omega, by omega, c1.2.2.1, fun h1 => ?_, by omega, by omega, c3.1, c3.2, by omega, by omega, fun h1 => ?_, by omega, by omega, fun h1 => ?_, fun h1 => ?_, c5.2.2⟩
    · exact Decidable.not_not.1 (c1.2.2.2 h1)
    · exact Decidable.not_not.1 (c4.2.2.1 h1)
    · have := c4.2.2.2.2 h1; omega
    · exact Decidable.not_not.1 (c5.2.1 h1)
  · intro v
    have a1 := v.o0
    have a2 := v.o3
    have a3 := v.q0
    have a4 := v.q1
    have a5 := v.b0
    have a6 := v.b1
    have a7 := v.n1
    have a8 := v.n2
    rw [if_neg, if_neg, if_neg, if_neg, if_neg]
    · rintro (h1 | ⟨h1, h2⟩ | h1)
      · omega
      · exact h2 (v.b4 h1)
      · exact v.b5 h1
    · rintro (h1 | h1 | ⟨h1, h2⟩ | h1 | ⟨h1, h2⟩)
      · omega
      · omega
      · exact h2 (v.q3 h1)
      · omega
      · have := v.b3 h1; omega
    · simp only [Bool.not_eq_false, Bool.and_eq_true, List.all_eq_true]
      exact ⟨v.p1, v.p2⟩
    · omega
    · rintro (h1 | h1 | ⟨h1, h2⟩ | ⟨h1, h2⟩)
      · omega
      · omega
      · exact v.l1 h1 h2
      · exact h2 (v.l2 h1)
def dec (n : Int) : Wd := Lib.decDigits n.toNat
def showW (h : Hop) : List Wd :=
  [opW h.op] ++ h.labels.map dec ++ (if h.op ≠ 3 then [wPort, dec h.port] else []) ++ (if h.backup ≠ -1 then wBackup :: dec h.backup :: h.repair.map dec else []) ++ (if h.pipe then [wPipe] else [])
def showR (h : Hop) : List UInt8 := join (showW h)
/-- all numbers that come next; what is left -/
def nums : List Wd → List Int × List Wd
  | [] => ([], [])
  | w :: ws => match number w 1048575 with
    | some n => (n :: (nums ws).1, (nums ws).2)
    | none => ([], w :: ws)
theorem number_dec {n : Int} (h0 : 0 ≤ n) (h1 : n ≤ 1048575) : number (dec n) 1048575 = some n := number_some.2 ⟨h0, by omega, h1, rfl⟩
theorem nums_eq : ∀ ws, ws = (nums ws).1.map dec ++ (nums ws).2
  | [] => rfl
  | w :: ws => by
    unfold nums
    cases hn : number w 1048575 with
    | none => simp
    | some n =>
      have := (number_some.1 hn).2.2.2
      simp only [List.map_cons, List.cons_append]
      rw [← nums_eq ws, this]
      rfl
theorem nums_ok : ∀ ws, ∀ n ∈ (nums ws).1, 0 ≤ n ∧ n ≤ 1048575
  | [], n, h => by simp [nums] at h
  | w :: ws, n, h => by
    unfold nums at h
    cases hn : number w 1048575 with
    | none => rw [hn] at h; simp at h
    | some m =>
      rw [hn] at h
      obtain ⟨h1, -, h3, -⟩ := number_some.1 hn
      rcases List.mem_cons.1 h with rfl | h
      · exact ⟨h1, h3⟩
      · exact nums_ok ws n h
theorem nums_app : ∀ (l : List Int) (rest : List Wd), (∀ n ∈ l, 0 ≤ n ∧ n ≤ 1048575) → (nums rest).1 = [] → nums (l.map dec ++ rest) = (l, rest)
  | [], rest, _, hr => by
    have := nums_eq rest
    rw [hr] at this
    simp only [List.map_nil, List.nil_append] at this ⊢
    rw [Prod.ext_iff]
    exact ⟨hr, this.symm⟩
  | n :: l, rest, hl, hr => by
    have hn := hl n List.mem_cons_self
    have ih := nums_app l rest (fun k hk => hl k (List.mem_cons_of_mem _ hk)) hr
    rw [List.map_cons, List.cons_append, nums, number_dec hn.1 hn.2, ih]
theorem nums_stop {w : Wd} {ws : List Wd} (h : number w 1048575 = none) : (nums (w :: ws)).1 = [] := by rw [nums, h]
/-- the code's parse, part by part: (number, bad, rest) -/
def partP (op : Int) (r : List Wd) : Int × Bool × List Wd :=
  if op ≠ 3 ∧ r.head? = some wPort then (match (nums r.tail).1 with | [] => (-1, true, (nums r.tail).2) | n :: more => (n, decide (more ≠ []), (nums r.tail).2)) else (0, decide (op ≠ 3), r)
def partB (r : List Wd) : Int × List Int × Bool × List Wd :=
  if r.head? = some wBackup then (match (nums r.tail).1 with | [] => (-1, [], true, (nums r.tail).2) | n :: more => (n, more, false, (nums r.tail).2)) else (-1, [], false, r)
def partC (r : List Wd) : Bool × List Wd := if r.head? = some wPipe then (true, r.tail) else (false, r)
def mk (op : Int) (ws : List Wd) : Hop := ⟨op, (nums ws).1, (partP op (nums ws).2).1, (partB (partP op (nums ws).2).2.2).1, (partB (partP op (nums ws).2).2.2).2.1, (partC (partB (partP op (nums ws).2).2.2).2.2.2).1⟩
def bad (op : Int) (ws : List Wd) : Bool := (partP op (nums ws).2).2.1 || (partB (partP op (nums ws).2).2.2).2.2.1 || decide ((partC (partB (partP op (nums ws).2).2.2).2.2.2).2 ≠ [])
def parseW : List Wd → Option Hop
  | [] => none
  | w :: ws => match opOf w with
    | none => none
    | some op => if bad op ws = true ∨ checkR (mk op ws) ≠ 0 then none else some (mk op ws)
def parseR (s : List UInt8) : Option Hop := parseW (spl s)
theorem dec_no32 (n : Int) : ∀ c ∈ dec n, c ≠ 32 := fun c hc e => by
  have := decDigits_dig _ c hc
  subst e
  simp at this
theorem num_wPort : number wPort 1048575 = none := by
  rw [Option.eq_none_iff_forall_ne_some]
  intro v hv
  have h := (number_some.1 hv).2.2.2
  have := decDigits_dig v.toNat 112 (by rw [← h]; simp [wPort])
  simp at this
theorem num_wBackup : number wBackup 1048575 = none := by
  rw [Option.eq_none_iff_forall_ne_some]
  intro v hv
  have h := (number_some.1 hv).2.2.2
  have := decDigits_dig v.toNat 98 (by rw [← h]; simp [wBackup])
  simp at this
theorem num_wPipe : number wPipe 1048575 = none := by
  rw [Option.eq_none_iff_forall_ne_some]
  intro v hv
  have h := (number_some.1 hv).2.2.2
  have := decDigits_dig v.toNat 112 (by rw [← h]; simp [wPipe])
  simp at this
theorem head_tail {r : List Wd} {w : Wd} (h : r.head? = some w) : r = w :: r.tail := by cases r with | nil => simp at h | cons a b => simp at h; rw [h]; rfl
theorem partP_ok {op : Int} {r : List Wd} (h : (partP op r).2.1 = false) :
    (op ≠ 3 ∧ r = wPort :: dec (partP op r).1 :: (partP op r).2.2 ∧ 0 ≤ (partP op r).1) ∨ (op = 3 ∧ (partP op r).1 = 0 ∧ (partP op r).2.2 = r) := by
  unfold partP at h ⊢
  by_cases hc : op ≠ 3 ∧ r.head? = some wPort
  · rw [if_pos hc] at h ⊢
    have ht := head_tail hc.2
    have hn := nums_eq r.tail
    have hk := nums_ok r.tail
    cases hl : (nums r.tail).1 with
    | nil => rw [hl] at h; simp at h
    | cons n more =>
      rw [hl] at h hn hk
      simp only [decide_eq_false_iff_not, ne_eq, Decidable.not_not] at h
      subst h
      refine Or.inl ⟨hc.1, ?_, (hk n List.mem_cons_self).1⟩
      simp only
      rw [ht, List.tail_cons]
      congr 1
  · rw [if_neg hc] at h ⊢
    simp only [decide_eq_false_iff_not, ne_eq, Decidable.not_not] at h
    exact Or.inr ⟨h, rfl, rfl⟩
theorem partB_ok {r : List Wd} (h : (partB r).2.2.1 = false) :
    (r = wBackup :: dec (partB r).1 :: ((partB r).2.1.map dec ++ (partB r).2.2.2) ∧ 0 ≤ (partB r).1) ∨ ((partB r).1 = -1 ∧ (partB r).2.1 = [] ∧ (partB r).2.2.2 = r) := by
  unfold partB at h ⊢
  by_cases hc : r.head? = some wBackup
  · rw [if_pos hc] at h ⊢
    have ht := head_tail hc
    have hn := nums_eq r.tail
    have hk := nums_ok r.tail
    cases hl : (nums r.tail).1 with
    | nil => rw [hl] at h; simp at h
    | cons n more =>
      rw [hl] at h hn hk
      refine Or.inl ⟨?_, (hk n List.mem_cons_self).1⟩
      simp only
      rw [ht, List.tail_cons]
      congr 1
  · rw [if_neg hc] at h ⊢
    exact Or.inr ⟨rfl, rfl, rfl⟩
theorem partC_ok {r : List Wd} (h : (partC r).2 = []) : r = if (partC r).1 = true then [wPipe] else [] := by
  unfold partC at h ⊢
  by_cases hc : r.head? = some wPipe
  · rw [if_pos hc] at h ⊢
    have ht := head_tail hc
    simp only at h
    rw [h] at ht
    simpa using ht
  · rw [if_neg hc] at h ⊢
    simpa using h
theorem opOf_some {w : Wd} {n : Int} (h : opOf w = some n) : w = opW n ∧ 0 ≤ n ∧ n ≤ 3 := by
  unfold opOf at h
  split at h
  · cases h; exact ⟨by assumption, by omega, by omega⟩
  split at h
  · cases h; exact ⟨by assumption, by omega, by omega⟩
  split at h
  · cases h; exact ⟨by assumption, by omega, by omega⟩
  split at h
  · cases h; exact ⟨by assumption, by omega, by omega⟩
  · cases h
theorem opOf_opW {n : Int} (h0 : 0 ≤ n) (h3 : n ≤ 3) : opOf (opW n) = some n := by
  have : n = 0 ∨ n = 1 ∨ n = 2 ∨ n = 3 := by omega
  rcases this with rfl | rfl | rfl | rfl <;> decide
/-- what is parsed may be, and is shown so -/
theorem parseW_sound {s : List Wd} {h : Hop} (hp : parseW s = some h) : checkR h = 0 ∧ s = showW h := by
  cases s with
  | nil => cases hp
  | cons w ws =>
    simp only [parseW] at hp
    cases ho : opOf w with
    | none => rw [ho] at hp; cases hp
    | some op =>
      rw [ho] at hp
      simp only at hp
      split at hp
      · cases hp
      rename_i hc
      cases hp
      simp only [not_or, Bool.not_eq_true, ne_eq, Decidable.not_not] at hc
      obtain ⟨hb, hck⟩ := hc
      refine ⟨hck, ?_⟩
      obtain ⟨hw, h0, h3⟩ := opOf_some ho
      unfold bad at hb
      simp only [Bool.or_eq_false_iff, decide_eq_false_iff_not, ne_eq, Decidable.not_not] at hb
      obtain ⟨⟨hb1, hb2⟩, hb3⟩ := hb
      have e0 := nums_eq ws
      have e1 := partP_ok hb1
      have e2 := partB_ok hb2
      have e3 := partC_ok hb3
      have key : ∀ (L : List Int) (r1 r2 r3 : List Wd) (P B : Int) (R : List Int) (C : Bool), ws = L.map dec ++ r1 → ((op ≠ 3 ∧ r1 = wPort :: dec P :: r2 ∧ 0 ≤ P) ∨ (op = 3 ∧ P = 0 ∧ r2 = r1)) → ((r2 = wBackup :: dec B :: (R.map dec ++ r3) ∧ 0 ≤ B) ∨ (B = -1 ∧ R = [] ∧ r3 = r2)) → (r3 = if C = true then [wPipe] else []) → w :: ws = showW ⟨op, L, P, B, R, C⟩ := by
        intro L r1 r2 r3 P B R C g0 g1 g2 g3
        unfold showW
        simp only
        rw [g0, hw]
        rcases g1 with ⟨g1, g1', -⟩ | ⟨g1, -, g1'⟩ <;> rcases g2 with ⟨g2, g2'⟩ | ⟨g2, g2', g2''⟩
        · rw [if_pos g1, if_pos (by omega), g1', g2, g3]; simp
        · rw [if_pos g1, if_neg (by omega), g1', ← g2'', g3]; simp
        · rw [if_neg (by omega), if_pos (by omega), ← g1', g2, g3]; simp
        · rw [if_neg (by omega), if_neg (by omega), ← g1', ← g2'', g3]; simp
      exact key _ _ _ _ _ _ _ _ e0 e1 e2 e3
theorem pushed_bd {n : Int} (h : pushed n = true) : 0 ≤ n ∧ n ≤ 1048575 := by
  unfold pushed at h
  simp only [Bool.or_eq_true, Bool.and_eq_true, decide_eq_true_eq] at h
  omega
/-- what may be is parsed out of its words -/
theorem parseW_show {h : Hop} (v : Valid h) : parseW (showW h) = some h := by
  obtain ⟨op, L, P, B, R, C⟩ := h
  have hck := (check_iff _).2 v
  obtain ⟨o0, o3, l1, l2, n1, n2, p1, p2, q0, q1, q3, b0, b1, b3, b4, b5⟩ := v
  simp only at *
  have hC : (nums (if C = true then [wPipe] else [])).1 = [] := by
    cases C
    · rfl
    · simp only [if_true]; exact nums_stop num_wPipe
  have hpc : ∀ x, partC (if x = true then [wPipe] else []) = (x, []) := by intro x; cases x <;> rfl
  have hhb : ∀ x : Bool, (if x = true then [wPipe] else ([] : List Wd)).head? ≠ some wBackup := by intro x; cases x <;> decide
  have hhp : ∀ x : Bool, (if x = true then [wPipe] else ([] : List Wd)).head? ≠ some wPort := by intro x; cases x <;> decide
  -- the tail from the backup on
  obtain ⟨tB, htB⟩ : ∃ tB, tB = (if B ≠ -1 then wBackup :: dec B :: R.map dec else []) ++ (if C = true then [wPipe] else []) := ⟨_, rfl⟩
  have hB : partB tB = (B, R, false, if C = true then [wPipe] else []) := by
    rw [htB]
    by_cases hb : B = -1
    · rw [if_neg (by simpa using hb), List.nil_append]
      unfold partB
      rw [if_neg (hhb C), b4 hb, hb]
    · rw [if_pos hb]
      unfold partB
      rw [if_pos (by rfl)]
      have := nums_app (B :: R) (if C = true then [wPipe] else []) (fun n hn => by
        rcases List.mem_cons.1 hn with rfl | hn
        · omega
        · exact pushed_bd (p2 n hn)) hC
      simp only [List.cons_append, List.tail_cons]
      rw [show dec B :: (R.map dec ++ if C = true then [wPipe] else []) = (B :: R).map dec ++ (if C = true then [wPipe] else []) from rfl, this]
  have htB1 : (nums tB).1 = [] := by
    rw [htB]
    by_cases hb : B = -1
    · rw [if_neg (by simpa using hb), List.nil_append]; exact hC
    · rw [if_pos hb]; exact nums_stop num_wBackup
  obtain ⟨tP, htP⟩ : ∃ tP, tP = (if op ≠ 3 then [wPort, dec P] else []) ++ tB := ⟨_, rfl⟩
  have hP : partP op tP = (P, false, tB) := by
    rw [htP]
    by_cases ho : op = 3
    · rw [if_neg (by simpa using ho), List.nil_append]
      unfold partP
      rw [if_neg (by simp [ho]), q3 ho]
      simp [ho]
    · rw [if_pos ho]
      unfold partP
      rw [if_pos ⟨ho, rfl⟩]
      have := nums_app [P] tB (fun n hn => by simp at hn; omega) htB1
      simp only [List.cons_append, List.nil_append, List.tail_cons]
      rw [show dec P :: tB = [P].map dec ++ tB from rfl, this]
      simp
  have htP1 : (nums tP).1 = [] := by
    rw [htP]
    by_cases ho : op = 3
    · rw [if_neg (by simpa using ho), List.nil_append]; exact htB1
    · rw [if_pos ho]; exact nums_stop num_wPort
  have hN := nums_app L tP (fun n hn => pushed_bd (p1 n hn)) htP1
  have hs : showW ⟨op, L, P, B, R, C⟩ = opW op :: (L.map dec ++ tP) := by
    unfold showW
    simp only
    rw [htP, htB]
    simp
  have hmk : mk op (L.map dec ++ tP) = ⟨op, L, P, B, R, C⟩ := by
    unfold mk
    rw [hN]
    simp only [hP, hB, hpc]
  have hbad : bad op (L.map dec ++ tP) = false := by
    unfold bad
    rw [hN]
    simp only [hP, hB, hpc]
    rfl
  rw [hs]
  simp only [parseW, opOf_opW o0 o3, hmk, hbad, hck]
  simp
theorem showW_ne (h : Hop) : showW h ≠ [] := by simp [showW]
theorem opW_no32 (n : Int) : ∀ c ∈ opW n, c ≠ 32 := by
  unfold opW
  split
  · decide
  split
  · decide
  split
  · decide
  split
  · decide
  · intro c hc; cases hc
theorem showW_no32 (h : Hop) : ∀ w ∈ showW h, ∀ c ∈ w, c ≠ 32 := by
  intro w hw
  unfold showW at hw
  simp only [List.mem_append, List.mem_singleton, List.mem_map] at hw
  rcases hw with (((rfl | ⟨n, -, rfl⟩) | hw) | hw) | hw
  · exact opW_no32 _
  · exact dec_no32 n
  · split at hw
    · simp only [List.mem_cons, List.not_mem_nil, or_false] at hw
      rcases hw with rfl | rfl
      · decide
      · exact dec_no32 _
    · cases hw
  · split at hw
    · simp only [List.mem_cons, List.mem_map] at hw
      rcases hw with rfl | rfl | ⟨n, -, rfl⟩
      · decide
      · exact dec_no32 _
      · exact dec_no32 n
    · cases hw
  · split at hw
    · simp only [List.mem_singleton] at hw; subst hw; decide
    · cases hw
/-- a text is parsed as a hop just if that may be, and is shown so -/
theorem parseR_iff (s : List UInt8) (h : Hop) : parseR s = some h ↔ checkR h = 0 ∧ showR h = s := by
  unfold parseR
  constructor
  · intro hp
    obtain ⟨h1, h2⟩ := parseW_sound hp
    exact ⟨h1, by unfold showR; rw [← h2, join_spl]⟩
  · rintro ⟨h1, rfl⟩
    unfold showR
    rw [spl_join _ (showW_ne h) (showW_no32 h)]
    exact parseW_show ((check_iff h).1 h1)
end Go.Proofs.YtilahcnpjbnjiaaGreatDoor.Hp

/- Plain law of layer 26: segments as text, as labels. -/
namespace Go.Proofs.YtilahcnpjbnjiaaGreatDoor.Sg
open Go Go.OctetPlain
set_option linter.unusedVariables false
set_option linter.unusedSimpArgs false

abbrev Wd := List UInt8
/-- a text cut at each sign d; parts joined -/
def spl (d : UInt8) : List UInt8 → List Wd
  | [] => [[]]
  | c :: r => if c = d then [] :: spl d r else match spl d r with
    | w :: ws => (c :: w) :: ws
    | [] => [[c]]
def join (d : UInt8) : List Wd → List UInt8
  | [] => []
  | [w] => w
  | w :: v :: ws => w ++ d :: join d (v :: ws)
theorem spl_ne (d : UInt8) : ∀ l, spl d l ≠ []
  | [] => by simp [spl]
  | c :: r => by
    unfold spl
    split
    · simp
    · split <;> simp
theorem join_spl (d : UInt8) : ∀ l, join d (spl d l) = l
  | [] => rfl
  | c :: r => by
    have ih := join_spl d r
    unfold spl
    split
    · rename_i h
      cases hs : spl d r with
      | nil => exact absurd hs (spl_ne d r)
      | cons w ws =>
        rw [hs] at ih
        simp only [join, List.nil_append, h]
        rw [ih]
    · cases hs : spl d r with
      | nil => exact absurd hs (spl_ne d r)
      | cons w ws =>
        rw [hs] at ih
        cases ws with
        | nil => simp only [join] at ih ⊢; rw [ih]
        | cons v vs => simp only [join, List.cons_append] at ih ⊢; rw [ih]
/-- a segment -/
structure Seg where
  link : Bool
  n : Int
deriving DecidableEq
/-- one, of a part of the text -/
def one (w : Wd) : Option Seg := match w with
  | 42 :: r => (number r 1048575).map fun n => ⟨true, n⟩
  | _ => (number w 1048575).map fun n => ⟨false, n⟩
def allOf : List Wd → Option (List Seg)
  | [] => some []
  | w :: ws => match one w, allOf ws with
    | some x, some l => some (x :: l)
    | _, _ => none
def parseR (s : List UInt8) : Option (List Seg) := if s = [] then some [] else allOf (spl 62 s)
def showOne (x : Seg) : Wd := (if x.link then [42] else []) ++ Lib.decDigits x.n.toNat
def showR (l : List Seg) : List UInt8 := join 62 (l.map showOne)
theorem one_show {w : Wd} {x : Seg} (h : one w = some x) : showOne x = w ∧ 0 ≤ x.n ∧ x.n ≤ 1048575 := by
  unfold one at h
  split at h
  · rename_i r
    cases hn : number r 1048575 with
    | none => rw [hn] at h; cases h
    | some n =>
      rw [hn] at h
      cases h
      obtain ⟨h0, -, h1, h2⟩ := number_some.1 hn
      exact ⟨by unfold showOne; simp only [if_true]; rw [h2]; rfl, h0, h1⟩
  · cases hn : number w 1048575 with
    | none => rw [hn] at h; cases h
    | some n =>
      rw [hn] at h
      cases h
      obtain ⟨h0, -, h1, h2⟩ := number_some.1 hn
      exact ⟨by unfold showOne; rw [h2]; rfl, h0, h1⟩
theorem allOf_show : ∀ {ws : List Wd} {l : List Seg}, allOf ws = some l → l.map showOne = ws
  | [], l, h => by cases h; rfl
  | w :: ws, l, h => by
    unfold allOf at h
    cases h1 : one w with
    | none => rw [h1] at h; cases h
    | some x =>
      cases h2 : allOf ws with
      | none => rw [h1, h2] at h; cases h
      | some r =>
        rw [h1, h2] at h
        cases h
        rw [List.map_cons, (one_show h1).1, allOf_show h2]
/-- what is parsed is shown so -/
theorem parse_show {s : List UInt8} {l : List Seg} (h : parseR s = some l) : showR l = s := by
  unfold parseR at h
  by_cases hs : s = []
  · rw [if_pos hs] at h
    cases h
    rw [hs]
    rfl
  · rw [if_neg hs] at h
    unfold showR
    rw [allOf_show h, join_spl]

/-- a segment's label in a space, or its error -/
def labelR (m : Sp.Spc) (x : Seg) : Int × Int :=
  if x.link = false then (if (Sp.indexR m x.n).2 = false then (0, 52) else ((Sp.indexR m x.n).1, 0))
  else if (Sp.ownerR m x.n).1 = 0 ∨ (Sp.ownerR m x.n).2 ≠ 2 then (0, 41) else (x.n, 0)
/-- all labels, from the bottom up, or the first error -/
def labelsF (m : Sp.Spc) : List Seg → List Int → List Int × Int
  | [], out => (out, 0)
  | x :: r, out => if (labelR m x).2 ≠ 0 then ([], (labelR m x).2) else labelsF m r ((labelR m x).1 :: out)
def labelsR (m : Sp.Spc) (l : List Seg) : List Int × Int := if 16 < l.length then ([], 51) else labelsF m l []
/-- the segment of a label -/
def segR (m : Sp.Spc) (n : Int) : Option Seg :=
  if (Sp.areaR m 1).2 = true ∧ (Sp.areaR m 1).1.1 ≤ n ∧ n ≤ (Sp.areaR m 1).1.2 then some ⟨false, n - (Sp.areaR m 1).1.1⟩
  else if (Sp.ownerR m n).1 = 0 ∨ (Sp.ownerR m n).2 ≠ 2 then none else some ⟨true, n⟩
def ofF (m : Sp.Spc) : List Int → Option (List Seg)
  | [] => some []
  | n :: r => match segR m n, ofF m r with
    | some x, some l => some (x :: l)
    | _, _ => none
def ofR (m : Sp.Spc) (labels : List Int) : Option (List Seg) := ofF m labels.reverse
/-- without those that follow themselves -/
def shortF : Seg → List Seg → List Seg
  | _, [] => []
  | p, x :: r => if x = p then shortF x r else x :: shortF x r
def shortR : List Seg → List Seg
  | [] => []
  | x :: r => x :: shortF x r
theorem shortF_short (p : Seg) : ∀ l, shortF p (shortF p l) = shortF p l := by
  intro l
  induction l generalizing p with
  | nil => rfl
  | cons x r ih =>
    by_cases h : x = p
    · simp only [shortF, h, if_true]
      exact ih p
    · simp only [shortF, h, if_false]
      rw [ih x]
theorem short_short (l : List Seg) : shortR (shortR l) = shortR l := by
  cases l with
  | nil => rfl
  | cons x r => simp only [shortR, shortF_short]
end Go.Proofs.YtilahcnpjbnjiaaGreatDoor.Sg

/- Plain law of layer 26: what has labels is told by these; shortened rows. -/
namespace Go.Proofs.YtilahcnpjbnjiaaGreatDoor.Sg
open Go Go.OctetPlain
set_option linter.unusedVariables false
set_option linter.unusedSimpArgs false

theorem owner_in {m : Sp.Spc} {n : Int} (h : (Sp.ownerR m n).1 ≠ 0) : ∃ b ∈ m.L, b.sp.1 ≤ n ∧ n ≤ b.sp.2 ∧ Sp.ownerR m n = (b.owner, b.area) := by
  unfold Sp.ownerR at h ⊢
  cases hf : m.L.find? (Sp.hasL n) with
  | none => rw [hf] at h; exact absurd rfl h
  | some b =>
    have h1 := List.mem_of_find?_eq_some hf
    have h2 := List.find?_some hf
    unfold Sp.hasL at h2
    simp only [Bool.and_eq_true, decide_eq_true_eq] at h2
    exact ⟨b, h1, h2.1, h2.2, rfl⟩
theorem seg_label {m : Sp.Spc} (hm : Sp.WF m) {x : Seg} {n : Int} (h : labelR m x = (n, 0)) : segR m n = some x := by
  obtain ⟨lk, k⟩ := x
  unfold labelR at h
  cases lk
  · simp only [if_true] at h
    unfold Sp.indexR at h
    by_cases hc : m.a1.1 = 0 ∨ k < 0 ∨ m.a1.2 - m.a1.1 < k
    · rw [if_pos hc] at h
      simp at h
    · rw [if_neg hc] at h
      simp only [Bool.true_eq_false, if_false, Prod.mk.injEq, and_true] at h
      have ha : Sp.areaR m 1 = (m.a1, true) := by
        unfold Sp.areaR
        rw [if_neg (by simp only [Sp.Spc.at, if_true]; omega)]
        rfl
      unfold segR
      rw [ha]
      rw [if_pos ⟨rfl, by simp only; omega, by simp only; omega⟩]
      simp only [Option.some.injEq, Seg.mk.injEq, true_and]
      omega
  · simp only [Bool.true_eq_false, if_false] at h
    by_cases hc : (Sp.ownerR m k).1 = 0 ∨ (Sp.ownerR m k).2 ≠ 2
    · rw [if_pos hc] at h; simp at h
    · rw [if_neg hc] at h
      simp only [Prod.mk.injEq, and_true] at h
      subst h
      obtain ⟨b, hb, h1, h2, h3⟩ := owner_in (m := m) (n := k) (fun e => hc (Or.inl e))
      have har : b.area = 2 := by
        have : (Sp.ownerR m k).2 = 2 := Decidable.not_not.1 fun e => hc (Or.inr e)
        rw [h3] at this
        exact this
      have hin := hm.inn b hb (by omega)
      rw [har] at hin
      simp only [Sp.Spc.at] at hin
      have h12 : ¬ ((2 : Int) = 1) := by decide
      simp only [h12, if_false, if_true] at hin
      have hno : ¬ ((Sp.areaR m 1).2 = true ∧ (Sp.areaR m 1).1.1 ≤ k ∧ k ≤ (Sp.areaR m 1).1.2) := by
        rintro ⟨h4, h5, h6⟩
        unfold Sp.areaR at h4 h5 h6
        by_cases hz : (1 : Int) < 1 ∨ 2 < (1 : Int) ∨ (m.at 1).1 = 0
        · rw [if_pos hz] at h4; cases h4
        · rw [if_neg hz] at h5 h6
          simp only [Sp.Spc.at, if_true] at h5 h6 hz
          have hd := hm.dis
          rcases hd with hd | hd | hd | hd
          · omega
          · omega
          · rw [hd] at hz; simp at hz
          · rw [hd] at hin; simp at hin
      unfold segR
      rw [if_neg hno, if_neg hc]
theorem labelsF_eq {m : Sp.Spc} : ∀ {l : List Seg} {out x : List Int}, labelsF m l out = (x, 0) → ∃ ns : List Int, x = ns.reverse ++ out ∧ ns.length = l.length ∧ ∀ (i : Nat) (s : Seg) (n : Int), l[i]? = some s → ns[i]? = some n → labelR m s = (n, 0)
  | [], out, x, h => by
    simp only [labelsF, Prod.mk.injEq, and_true] at h
    exact ⟨[], by simp [h], rfl, fun i s n hs _ => by simp at hs⟩
  | y :: r, out, x, h => by
    unfold labelsF at h
    by_cases he : (labelR m y).2 ≠ 0
    · rw [if_pos he] at h
      simp only [Prod.mk.injEq] at h
      exact absurd h.2 he
    · rw [if_neg he] at h
      obtain ⟨ns, h1, h2, h3⟩ := labelsF_eq h
      refine ⟨(labelR m y).1 :: ns, by rw [h1]; simp, by simp [h2], fun i s n hs hn => ?_⟩
      cases i with
      | zero =>
        simp only [List.getElem?_cons_zero, Option.some.injEq] at hs hn
        subst hs hn
        have : (labelR m y).2 = 0 := Decidable.not_not.1 he
        rw [← this]
      | succ i => exact h3 i s n (by simpa using hs) (by simpa using hn)
theorem ofF_all {m : Sp.Spc} : ∀ {ns : List Int} {l : List Seg}, ns.length = l.length → (∀ (i : Nat) (s : Seg) (n : Int), l[i]? = some s → ns[i]? = some n → segR m n = some s) → ofF m ns = some l
  | [], [], _, _ => rfl
  | n :: ns, s :: l, hl, h => by
    have h0 := h 0 s n rfl rfl
    have ih := ofF_all (ns := ns) (l := l) (by simpa using hl) fun i s' n' hs hn => h (i + 1) s' n' (by simpa using hs) (by simpa using hn)
    rw [ofF, h0, ih]
  | [], s :: l, hl, _ => by simp at hl
  | n :: ns, [], hl, _ => by simp at hl
/-- what has labels is told by these again -/
theorem of_labels {m : Sp.Spc} (hm : Sp.WF m) {l : List Seg} {x : List Int} (h : labelsR m l = (x, 0)) : ofR m x = some l ∧ x.length = l.length := by
  unfold labelsR at h
  by_cases hl : 16 < l.length
  · rw [if_pos hl] at h; simp at h
  · rw [if_neg hl] at h
    obtain ⟨ns, h1, h2, h3⟩ := labelsF_eq h
    rw [List.append_nil] at h1
    refine ⟨?_, by rw [h1]; simp [h2]⟩
    unfold ofR
    rw [h1, List.reverse_reverse]
    exact ofF_all h2 fun i s n hs hn => seg_label hm (h3 i s n hs hn)
end Go.Proofs.YtilahcnpjbnjiaaGreatDoor.Sg

/- Plain law of layer 26: shortened rows. -/
namespace Go.Proofs.YtilahcnpjbnjiaaGreatDoor.Sg
set_option linter.unusedVariables false
set_option linter.unusedSimpArgs false

/-- what is left of a row when another one has been gone through -/
def scanL : List Seg → List Seg → List Seg
  | rem, [] => rem
  | [], _ :: _ => []
  | y :: t, x :: r => if y = x then scanL t r else scanL (y :: t) r
theorem scan_nil : ∀ l, scanL [] l = []
  | [] => rfl
  | _ :: _ => rfl
theorem shortF_head {p y : Seg} : ∀ {l t : List Seg}, shortF p l = y :: t → y ≠ p
  | [], t, h => by simp [shortF] at h
  | x :: r, t, h => by
    by_cases hx : x = p
    · simp only [shortF, hx, if_true] at h
      exact shortF_head h
    · simp only [shortF, hx, if_false, List.cons.injEq] at h
      rw [← h.1]
      exact hx
theorem scan_skip {s : List Seg} {x : Seg} {r : List Seg} (h : ∀ y t, s = y :: t → y ≠ x) : scanL s (x :: r) = scanL s r := by
  cases s with
  | nil => rw [scan_nil, scan_nil]
  | cons y t => rw [scanL, if_neg (h y t rfl)]
theorem scan_shortF : ∀ (r : List Seg) (p : Seg), scanL (shortF p r) r = []
  | [], p => rfl
  | x :: r, p => by
    by_cases hx : x = p
    · simp only [shortF, hx, if_true]
      rw [scan_skip fun y t e => shortF_head e]
      exact scan_shortF r p
    · simp only [shortF, hx, if_false]
      rw [scanL, if_pos rfl]
      exact scan_shortF r x
theorem scan_short (l : List Seg) : scanL (shortR l) l = [] := by
  cases l with
  | nil => rfl
  | cons x r =>
    rw [shortR, scanL, if_pos rfl]
    exact scan_shortF r x
theorem scan_snoc : ∀ (l : List Seg) (s : List Seg) (x : Seg), scanL s (l ++ [x]) = match scanL s l with | [] => [] | y :: t => if y = x then t else y :: t
  | [], [], x => rfl
  | [], y :: t, x => by
    simp only [List.nil_append, scanL]
  | z :: r, [], x => by rw [scan_nil, scan_nil]
  | z :: r, y :: t, x => by
    rw [List.cons_append, scanL, scanL]
    split
    · exact scan_snoc r t x
    · exact scan_snoc r (y :: t) x
/-- no two that follow one another are the same -/
theorem shortF_adj : ∀ (r : List Seg) (p : Seg) (i : Nat) (a b : Seg), (p :: shortF p r)[i]? = some a → (p :: shortF p r)[i + 1]? = some b → a ≠ b
  | [], p, i, a, b, ha, hb => by simp [shortF] at hb
  | x :: r, p, i, a, b, ha, hb => by
    by_cases hx : x = p
    · simp only [shortF, hx, if_true] at ha hb
      exact shortF_adj r p i a b ha hb
    · simp only [shortF, hx, if_false] at ha hb
      cases i with
      | zero =>
        simp at ha hb
        subst ha hb
        exact fun e => hx e.symm
      | succ i => exact shortF_adj r x i a b (by simpa using ha) (by simpa using hb)
theorem short_adj (l : List Seg) (i : Nat) (a b : Seg) (ha : (shortR l)[i]? = some a) (hb : (shortR l)[i + 1]? = some b) : a ≠ b := by
  cases l with
  | nil => simp [shortR] at ha
  | cons x r => exact shortF_adj r x i a b ha hb
theorem shortF_last : ∀ (r : List Seg) (p : Seg), (p :: shortF p r).getLast? = (p :: r).getLast?
  | [], p => rfl
  | x :: r, p => by
    by_cases hx : x = p
    · simp only [shortF, hx, if_true]
      rw [shortF_last r p]
      simp [List.getLast?_cons_cons]
    · simp only [shortF, hx, if_false]
      rw [List.getLast?_cons_cons, shortF_last r x, List.getLast?_cons_cons]
theorem short_last (l : List Seg) : (shortR l).getLast? = l.getLast? := by
  cases l with
  | nil => rfl
  | cons x r => exact shortF_last r x
theorem short_head (l : List Seg) : (shortR l).head? = l.head? := by
  cases l with
  | nil => rfl
  | cons x r => rfl
end Go.Proofs.YtilahcnpjbnjiaaGreatDoor.Sg

/- Plain law of layer 26: the parse, byte by byte; a rune that is no byte. -/
namespace Go.Proofs.YtilahcnpjbnjiaaGreatDoor.Sg
open Go Go.OctetPlain
set_option linter.unusedVariables false
set_option linter.unusedSimpArgs false

/-- parse, behind what was told, with the part that is under way -/
def goP (acc : List Seg) (cur : Wd) : List UInt8 → Option (List Seg)
  | [] => (one cur).map fun x => acc ++ [x]
  | c :: r => if c = 62 then (match one cur with
    | some x => goP (acc ++ [x]) [] r
    | none => none) else goP acc (cur ++ [c]) r
theorem goP_spl : ∀ (r : List UInt8) (acc : List Seg) (cur : Wd), goP acc cur r = (match spl 62 r with
    | w :: ws => (allOf ((cur ++ w) :: ws)).map (acc ++ ·)
    | [] => none)
  | [], acc, cur => by
    simp only [goP, spl, List.append_nil, allOf]
    cases one cur <;> rfl
  | c :: r, acc, cur => by
    unfold goP spl
    by_cases h : c = 62
    · simp only [h, if_true, List.append_nil, allOf]
      cases hs : spl 62 r with
      | nil => exact absurd hs (spl_ne 62 r)
      | cons w ws =>
        cases hc : one cur with
        | none => rfl
        | some x =>
          simp only
          rw [goP_spl r, hs]
          simp only [List.nil_append]
          cases allOf (w :: ws) with
          | none => rfl
          | some l => simp
    · simp only [h, if_false]
      rw [goP_spl r]
      cases hs : spl 62 r with
      | nil => exact absurd hs (spl_ne 62 r)
      | cons w ws => simp
theorem parse_goP {s : List UInt8} (h : s ≠ []) : parseR s = goP [] [] s := by
  unfold parseR
  rw [if_neg h, goP_spl]
  cases hs : spl 62 s with
  | nil => exact absurd hs (spl_ne 62 s)
  | cons w ws => simp
theorem goP_skip : ∀ (d r : List UInt8) (acc : List Seg) (cur : Wd), (∀ c ∈ d, c ≠ 62) → goP acc cur (d ++ r) = goP acc (cur ++ d) r
  | [], r, acc, cur, _ => by simp
  | c :: d, r, acc, cur, h => by
    have hc := h c (by simp)
    rw [List.cons_append, goP, if_neg hc, goP_skip d r acc _ fun x hx => h x (by simp [hx])]
    simp
/-- a sign of more than one byte, or a byte that is none: all its bytes are great -/
theorem decode_skip (s : ByteArray) (i : Nat) (hi : i < s.size) (hb : 128 ≤ (s.get! i).toNat) :
    128 ≤ (Utf8.decode s i).1 ∧ (Utf8.decode s i).1 < 2097152 ∧ 1 ≤ (Utf8.decode s i).2 ∧ i + (Utf8.decode s i).2 ≤ s.size ∧ ∀ k, k < (Utf8.decode s i).2 → 128 ≤ (s.get! (i + k)).toNat := by
  unfold Utf8.decode
  simp only [Nat.add_zero]
  have h0 : (s.get! i).toNat < 256 := UInt8.toNat_lt _
  rw [if_neg (by omega)]
  have e1 : ∀ k, k < 1 → 128 ≤ (s.get! (i + k)).toNat := fun k hk => by
    obtain rfl : k = 0 := by omega
    exact hb
  have ER : (128 ≤ Utf8.runeError ∧ Utf8.runeError < 2097152 ∧ 1 ≤ 1 ∧ i + 1 ≤ s.size ∧ ∀ k, k < 1 → 128 ≤ (s.get! (i + k)).toNat) := ⟨by decide, by decide, Nat.le_refl _, hi, e1⟩
  split
  · rename_i h1
    simp only [Bool.and_eq_true, decide_eq_true_eq, beq_iff_eq] at h1
    split
    · rename_i h2
      refine ⟨h2, by omega, by simp, by simp only; omega, fun k hk => ?_⟩
      simp only at hk
      obtain rfl | rfl : k = 0 ∨ k = 1 := by omega
      · exact hb
      · omega
    · exact ER
  · split
    · rename_i h1
      simp only [Bool.and_eq_true, decide_eq_true_eq, beq_iff_eq] at h1
      split
      · rename_i h2
        simp only [Bool.and_eq_true, decide_eq_true_eq] at h2
        refine ⟨by simp only; omega, by simp only; omega, by simp, by simp only; omega, fun k hk => ?_⟩
        simp only at hk
        obtain rfl | rfl | rfl : k = 0 ∨ k = 1 ∨ k = 2 := by omega
        · exact hb
        · omega
        · omega
      · exact ER
    · split
      · rename_i h1
        simp only [Bool.and_eq_true, decide_eq_true_eq, beq_iff_eq] at h1
        split
        · rename_i h2
          simp only [Bool.and_eq_true, decide_eq_true_eq] at h2
          refine ⟨by simp only; omega, by simp only; omega, by simp, by simp only; omega, fun k hk => ?_⟩
          simp only at hk
          obtain rfl | rfl | rfl | rfl : k = 0 ∨ k = 1 ∨ k = 2 ∨ k = 3 := by omega
          · exact hb
          · omega
          · omega
          · omega
        · exact ER
      · exact ER
end Go.Proofs.YtilahcnpjbnjiaaGreatDoor.Sg

/- Plain law of layer 26: shortened segments, one more behind. -/
namespace Go.Proofs.YtilahcnpjbnjiaaGreatDoor.Sg
set_option linter.unusedSimpArgs false
theorem shortF_snoc (x : Seg) : ∀ (r : List Seg) (p : Seg), shortF p (r ++ [x]) = shortF p r ++ (if (p :: r).getLast? = some x then [] else [x])
  | [], p => by
    simp only [List.nil_append, shortF, List.getLast?_singleton, Option.some.injEq]
    by_cases h : x = p
    · simp [h]
    · simp [h, Ne.symm h, fun e : p = x => h e.symm]
  | y :: r, p => by
    have ih1 := shortF_snoc x r y
    have ih2 := shortF_snoc x r p
    simp only [List.cons_append, shortF]
    by_cases h : y = p
    · subst h
      simp only [if_true]
      rw [ih1]
      simp [List.getLast?_cons_cons]
    · simp only [h, if_false]
      rw [ih1]
      simp [List.getLast?_cons_cons]
theorem shortR_snoc (l : List Seg) (x : Seg) : shortR (l ++ [x]) = shortR l ++ (if l.getLast? = some x then [] else [x]) := by
  cases l with
  | nil => simp [shortR, shortF]
  | cons y r => simp [shortR, shortF_snoc]
end Go.Proofs.YtilahcnpjbnjiaaGreatDoor.Sg
