/- Part of the proof: ScriptLines, ScriptParses, ScriptShows. -/
import Derived.Lib.ItoaLen
import Derived.Lib.AtoiAllCases
import Derived.Lib.SplitLaws
import Init.Data.List.Lemmas
set_option linter.unusedVariables false
set_option linter.unusedSimpArgs false
namespace Go
abbrev zA := @List.getElem?_eq_getElem
abbrev zG := @List.length_append
abbrev zH := @if_neg
abbrev zI := @List.length_cons
abbrev zL := @List.getElem?_eq_some_iff
abbrev zM := @decide_eq_false
abbrev zN := @if_pos
abbrev zV := @decide_eq_true
abbrev zX := @List.eq_nil_of_length_eq_zero
abbrev yA := @List.take_succ_eq_append_getElem
abbrev yC := @List.cons_append
abbrev yE := @List.drop_eq_getElem_cons
abbrev yF := @beq_eq_false_iff_ne
abbrev yG := @congrArg
abbrev yH := @List.mem_cons_self
abbrev yJ := @List.nil_append
abbrev yK := @Nat.le_trans
abbrev yM := @List.map_cons
abbrev yN := @ByteArray.size_append
abbrev yO := @List.drop_eq_nil_of_le
abbrev yP := @List.mem_cons_of_mem
abbrev yQ := @Nat.zero_le
abbrev yR := @List.mem_cons
abbrev yU := @List.getElem_mem
abbrev yV := @List.length_take
abbrev yX := @List.length_map
abbrev yZ := @Nat.le_refl
abbrev xA := @List.getElem?_cons_zero
abbrev xB := @Array.getElem?_eq_some_iff
abbrev xC := @Nat.lt_of_lt_of_le
abbrev xD := @List.getElem?_toArray
abbrev xH := @List.map_nil
abbrev xI := @List.length_nil
abbrev xK := @List.take_length
abbrev xM := @UInt8.toNat_ofNat'
abbrev xN := @Nat.add_zero
abbrev xO := @Bool.and_eq_true
abbrev xP := @decide_eq_true_eq
abbrev xQ := @List.append_assoc
abbrev xR := @List.mem_append
abbrev xS := @List.mem_singleton
abbrev xU := @List.drop_zero
abbrev xW := @List.getElem?_cons_succ
abbrev xY := @List.take_of_length_le
abbrev vB := @List.mem_map
abbrev vC := @List.append_nil
abbrev vD := @List.getElem?_append_right
abbrev vI := @Option.getD_some
abbrev vM := @List.length_replicate
abbrev vP := @List.getD_eq_getElem?_getD
abbrev vT := @List.flatMap_cons
abbrev vV := @List.getElem?_append_left
abbrev vW := @Option.some.inj
abbrev vZ := @List.length_drop
abbrev uA := @List.mem_of_getElem?
abbrev uH := @UInt8.toNat_inj
abbrev uI := @List.flatMap_append
abbrev uJ := @List.append_toArray
abbrev uP := @beq_iff_eq
abbrev uX := @Option.some.injEq
abbrev jE := @List.all_eq_true
abbrev jF := @List.map_toArray
abbrev jI := @Nat.le_of_lt
abbrev jL := @List.getElem?_map
abbrev jN := @Nat.mul_one
abbrev jO := @Classical.byContradiction
abbrev jP := @Nat.zero_mul
abbrev jQ := @Nat.lt_or_ge
abbrev jT := @List.map_append
abbrev jV := @List.not_mem_nil
abbrev jY := @List.getElem?_eq_none
abbrev jZ := @bne_iff_ne
abbrev kC := @List.take_append_drop
abbrev kJ := @List.map_map
abbrev kR := @Array.getElem?_eq_getElem
abbrev kU := @List.length_pos_iff
abbrev kV := @of_decide_eq_true
abbrev qO := @List.drop_length
abbrev qR := @ne_eq
abbrev fD := @List.getElem?_drop
abbrev bD := @Ne.symm
abbrev bE := @Int.toNat_natCast
abbrev bK := @Array.length_toList
abbrev bM := @Nat.mul_comm
abbrev bR := @Option.map_eq_some_iff
abbrev bS := @Nat.div_div_eq_div_mul
abbrev bZ := @List.tail_cons
abbrev aA := @Option.isSome_some
abbrev aB := @if_true
abbrev aK := @List.count_le_length
abbrev aL := @Decidable.not_not
abbrev sJ := @Nat.lt_succ_self
abbrev sK := @Nat.mod_eq_of_lt
abbrev sZ := @Bool.false_eq_true
abbrev rC := @List.length_eq_one_iff
abbrev rD := @Nat.eq_zero_or_pos
abbrev rV := @Bool.eq_iff_iff
abbrev rW := @List.foldl_cons
abbrev rX := @true_and
abbrev rY := @List.cons.injEq
abbrev rZ := @Prod.mk.injEq
abbrev tC := @Nat.lt_irrefl
abbrev tJ := @List.singleton_append
abbrev tK := @List.set_append_right
abbrev wC := @List.ext_getElem?
abbrev wG := @List.mem_append_left
abbrev wH := @Nat.le_succ
abbrev wI := @Int.ofNat_eq_natCast
abbrev mH := @List.mem_map_of_mem
abbrev mW := @or_false
abbrev mX := @Nat.add_assoc
abbrev mY := @List.headD_cons
abbrev mZ := @Option.map_some
abbrev nJ := @Nat.lt_of_le_of_lt
abbrev nK := @List.getElem?_take
abbrev nU := @Option.eq_none_iff_forall_ne_some
abbrev pQ := @and_true
abbrev pR := @Array.getElem?_eq_none
abbrev pU := @List.take_zero
abbrev oW := @List.mem_append_right
abbrev oZ := @Bool.and_eq_false_iff
abbrev zAl := @Bool.true_and
abbrev zAm := @Int.ofNat.inj
abbrev zBe := @Nat.div_lt_of_lt_mul
abbrev zBf := @List.count_cons_self
abbrev zBk := @Bool.or_eq_true
abbrev zCe := @Nat.zero_add
abbrev zCf := @Nat.pow_succ
abbrev zDk := @if_false
abbrev zDl := @List.set_cons_zero
abbrev zDm := @Nat.mod_lt
abbrev zDn := @List.take_left
abbrev zDo := @List.eq_append_cons_of_mem
abbrev zDp := @List.setIfInBounds_toArray
abbrev zGc := @List.extract_eq_take_drop
abbrev zGg := @List.map_id
abbrev zGh := @List.foldl_append
abbrev zGt := @List.getElem?_take_of_lt
theorem om {p : Prop} (h : p := by omega) : p := h
theorem rf {p : Prop} (h : p := by rfl) : p := h
theorem zn {n : Nat} : n ≤ n := yZ n
theorem zi {p : Prop} (h : p := by simp) : p := h
theorem za {p : Prop} (h : p := by assumption) : p := h
theorem zd {p : Prop} (h : p := by decide) : p := h
theorem zo {p : Prop} (h : p := by (simp; omega)) : p := h
theorem zv {p : Prop} (h : p := by (simp <;> omega)) : p := h
end Go
namespace Go.OctetPlain
open Go.Lib
theorem aM (k : Nat) : decDigits k ≠ [] := by
 intro h; have := decDigits_length k; rw [h] at this; have := nDigits_pos k; simp at *; omega
theorem qI (k : Nat) : ∀ c ∈ decDigits k, 48 <= c.toNat /\ c.toNat <= 57 := by
 induction k using Nat.strongRecOn with
 |_ k ih =>
  intro c hc
  by_cases h : k < 10
  ·rw [decDigits, dif_pos h] at hc
   rw [xS.1 hc, xM]; omega
  ·rw [decDigits, dif_neg h] at hc
   rcases xR.1 hc with hc | hc
   ·exact ih (k / 10) om c hc
   ·rw [xS.1 hc, xM]
    omega
theorem mP : ∀ (xs ys : List UInt8) (acc : Nat),
  parseUint10 acc (xs ++ ys) = match parseUint10 acc xs with | .ok a => parseUint10 a ys | NumEnd.syntax => NumEnd.syntax | .range => .range
 | [], ys, acc => rfl
 |c :: r, ys, acc => by
  rw [yC]; simp only [parseUint10]
  split
  ·split
   ·rfl
   ·split
    ·rfl
    ·exact mP r ys _
  ·rfl
theorem zGd (k : Nat) (hk : k < 18446744073709551616) : parseUint10 0 (decDigits k) = .ok k := by
 induction k using Nat.strongRecOn with
 |_ k ih =>
  by_cases h : k < 10
  ·rw [decDigits, dif_pos h]
   have e : (UInt8.ofNat (48 + k)).toNat = 48 + k := by rw [xM]; omega
   simp only [parseUint10, e]; rw [zN om, zH om, zH om]
   congr 1; omega
  ·rw [decDigits, dif_neg h, mP, ih (k / 10) om om]
   have e : (UInt8.ofNat (48 + k % 10)).toNat = 48 + k % 10 := by rw [xM]; omega
   simp only [parseUint10, e]; rw [zN om, zH om, zH om]
   congr 1; omega
theorem atoiAll_dec (k : Nat) (hk : k < 9223372036854775808) : atoiAll (decDigits k) = .ok (k : Int) := by
 have hne := aM k; have hd := qI k; have hp := zGd k om
 cases hl : decDigits k with
 | nil => exact absurd hl hne
 |cons c r =>
  rw [hl] at hd hp; have := hd c (yH ..); rw [atoiAll_plain c r om om]; unfold parseMag; rw [zH zi, hp]; simp only [signless]; rw [zH om]
def number (l : List UInt8) (most : Int) : Option Int :=
 match atoiAll l with
 | .ok v => if 0 <= v /\ v <= most /\ itoa v = l then some v else none
 | _ => none
theorem uD {l : List UInt8} {most v : Int} : number l most = some v ↔ 0 <= v /\ v <= 9223372036854775807 /\ v <= most /\ l = decDigits v.toNat := by
 constructor
 ·intro h
  unfold number at h
  match ha : atoiAll l with
  | NumEnd.syntax => rw [ha] at h; cases h
  | .range => rw [ha] at h; cases h
  |.ok u =>
   rw [ha] at h; simp only at h
   split at h
   ·rename_i hc
    injection h with h
    subst h; have := atoiAll_bounds ha; refine ⟨hc.1, this.2, hc.2.1, ?_⟩; rw [← hc.2.2]; unfold itoa; rw [zH om]
   ·cases h
 ·rintro ⟨h0, h1, h2, rfl⟩
  unfold number; rw [atoiAll_dec _ om]; have e : ((v.toNat : Nat) : Int) = v := om; simp only [e]; rw [zN ⟨h0, h2, by unfold itoa; rw [zH om]⟩]
def fE (acc : Nat) : List UInt8 -> Option Nat
 | [] => some acc
 | c :: r => if c.toNat < 48 ∨ 57 < c.toNat ∨ (9223372036854775807 - (c.toNat - 48)) / 10 < acc then none else fE (10 * acc + (c.toNat - 48)) r
theorem nL : ∀ (xs ys : List UInt8) (acc : Nat), fE acc (xs ++ ys) = (fE acc xs).bind fun a => fE a ys
 | [], ys, acc => rfl
 |c :: r, ys, acc => by
  rw [yC]; simp only [fE]
  split
  ·rfl
  ·exact nL r ys _
theorem zBv (k : Nat) (hk : k < 9223372036854775808) : fE 0 (decDigits k) = some k := by
 induction k using Nat.strongRecOn with
 |_ k ih =>
  by_cases h : k < 10
  ·rw [decDigits, dif_pos h]
   have e : (UInt8.ofNat (48 + k)).toNat = 48 + k := by rw [xM]; omega
   simp only [fE, e]; rw [zH om]
   congr 1; omega
  ·rw [decDigits, dif_neg h, nL, ih (k / 10) om om]
   have e : (UInt8.ofNat (48 + k % 10)).toNat = 48 + k % 10 := by rw [xM]; omega
   simp only [Option.bind_some, fE, e]; rw [zH om]
   congr 1; omega
theorem refNum_lt : ∀ (l : List UInt8) (acc k : Nat), acc <= 9223372036854775807 -> fE acc l = some k -> k <= 9223372036854775807
 | [], acc, k, ha, h => by simp only [fE] at h; injection h with h; omega
 |c :: r, acc, k, ha, h => by
  simp only [fE] at h
  split at h
  ·cases h
  ·rename_i hc
   exact refNum_lt r _ k om h
theorem rG (u : Nat) (h : u < 9223372036854775808) : nDigits u <= 19 := by
 by_cases hs : nDigits u <= 19
 ·exact hs
 ·exfalso
  have key : ∀ (n u : Nat), n + 1 <= nDigits u -> 1 <= n -> 10 ^ n <= u := by
   intro n
   induction n with
   | zero => intro u _ h; omega
   |succ n ih =>
    intro u hu _
    by_cases hb : u < 10
    ·rw [nDigits_small hb] at hu; omega
    ·rw [nDigits_big hb] at hu
     rcases rD n with rfl | hn
     ·simp; omega
     ·have := ih (u / 10) om hn
      rw [zCf]; omega
  have := key 19 u om om; omega
def kG (l : List UInt8) (most : Int) : Option Int :=
 if l = [] ∨ 19 < l.length then none else
 match fE 0 l with
 | none => none
 | some k => if decDigits k = l /\ (k : Int) <= most then some (k : Int) else none
theorem refNumber_eq (l : List UInt8) (most : Int) : kG l most = number l most := by
 have hiff : ∀ v, kG l most = some v ↔ number l most = some v := by
  intro v; rw [uD]
  constructor
  ·intro h
   unfold kG at h
   split at h
   ·cases h
   ·cases hr : fE 0 l with
    | none => rw [hr] at h; cases h
    |some k =>
     rw [hr] at h; simp only at h
     split at h
     ·rename_i hc
      injection h with h
      subst h; have := refNum_lt l 0 k om hr; exact ⟨om, om, hc.2, by simpa using hc.1.symm⟩
     ·cases h
  ·rintro ⟨h0, h1, h2, rfl⟩
   unfold kG; have hlen := decDigits_length v.toNat; have := rG v.toNat om; rw [zH (by intro h; rcases h with h | h <;> first | exact aM _ h | omega), zBv _ om]; have e : ((v.toNat : Nat) : Int) = v := om; simp only [e]; rw [zN ⟨trivial, h2⟩]
 cases hn : number l most with
 |none =>
  cases hr : kG l most with
  | none => rfl
  | some v => exact absurd ((hiff v).1 hr) (by rw [hn]; intro h; cases h)
 | some v => exact (hiff v).2 hn
end Go.OctetPlain
namespace Go.Proofs.YtdbgeobolongmaaGreatDoor.Hp
open Go Go.OctetPlain
abbrev Wd := List UInt8
def spl : List UInt8 -> List Wd
 | [] => [[]]
 |c :: r => if c = 32 then [] :: spl r else match spl r with
  | w :: ws => (c :: w) :: ws
  | [] => [[c]]
def join : List Wd -> List UInt8
 | [] => []
 | [w] => w
 | w :: v :: ws => w ++ 32 :: join (v :: ws)
theorem spl_ne : ∀ l, spl l ≠ []
 | [] => by simp [spl]
 |c :: r => by
  unfold spl
  split
  ·simp
  ·split <;> simp
theorem join_spl : ∀ l, join (spl l) = l
 | [] => rfl
 |c :: r => by
  have ih := join_spl r; unfold spl
  split
  ·rename_i h
   cases hs : spl r with
   | nil => exact absurd hs (spl_ne r)
   |cons w ws =>
    rw [hs] at ih; simp only [join, yJ, h]; rw [ih]
  ·cases hs : spl r with
   | nil => exact absurd hs (spl_ne r)
   |cons w ws =>
    rw [hs] at ih
    cases ws with
    | nil => simp only [join] at ih ⊢; rw [ih]
    | cons v vs => simp only [join, yC] at ih ⊢; rw [ih]
theorem spl_word : ∀ (w : Wd), (∀ c ∈ w, c ≠ 32) -> spl w = [w]
 | [], _ => rfl
 |c :: r, h => by
  have ih := spl_word r fun d hd => h d (yP _ hd); simp [spl, h c yH, ih]
theorem spl_app : ∀ (w : Wd) (l : List UInt8), (∀ c ∈ w, c ≠ 32) -> spl (w ++ 32 :: l) = w :: spl l
 | [], l, _ => by simp [spl]
 |c :: r, l, h => by
  have ih := spl_app r l fun d hd => h d (yP _ hd); simp [spl, h c yH, ih]
theorem wE : ∀ (ws : List Wd), ws ≠ [] -> (∀ w ∈ ws, ∀ c ∈ w, c ≠ 32) -> spl (join ws) = ws
 | [], h, _ => absurd rfl h
 | [w], _, h => spl_word w (h w yH)
 |w :: v :: ws, _, h => by
  rw [join, spl_app w _ (h w yH), wE (v :: ws) zi fun u hu => h u (yP _ hu)]
structure Hop where
 op : Int
 labels : List Int
 port : Int
 backup : Int
 repair : List Int
 pipe : Bool
deriving DecidableEq
def wPush : Wd := [112, 117, 115, 104]
def wSwap : Wd := [115, 119, 97, 112]
def wPop : Wd := [112, 111, 112]
def wHere : Wd := [104, 101, 114, 101]
def wPort : Wd := [112, 111, 114, 116]
def wBackup : Wd := [98, 97, 99, 107, 117, 112]
def wPipe : Wd := [112, 105, 112, 101]
def opW (n : Int) : Wd := if n = 0 then wPush else if n = 1 then wSwap else if n = 2 then wPop else if n = 3 then wHere else []
def opOf (w : Wd) : Option Int := if w = wPush then some 0 else if w = wSwap then some 1 else if w = wPop then some 2 else if w = wHere then some 3 else none
def pushed (n : Int) : Bool := decide (n = 0) || decide (n = 2) || (decide (16 <= n) && decide (n <= 1048575))
def checkR (h : Hop) : Int :=
 if h.op < 0 ∨ 3 < h.op ∨ (h.op = 1 /\ h.labels = []) ∨ (1 < h.op /\ h.labels ≠ []) then 54
 else if 16 < h.labels.length ∨ 16 < h.repair.length then 51
 else if (h.labels.all pushed && h.repair.all pushed) = false then 40
 else if h.port < 0 ∨ 63 < h.port ∨ (h.op = 3 /\ h.port ≠ 0) ∨ 63 < h.backup ∨ (h.op = 3 /\ 0 <= h.backup) then 50
 else if h.backup < -1 ∨ (h.backup = -1 /\ h.repair ≠ []) ∨ h.backup = h.port then 54
 else 0
structure Valid (h : Hop) : Prop where
 o0 : 0 <= h.op
 o3 : h.op <= 3
 l1 : h.op = 1 -> h.labels ≠ []
 l2 : 1 < h.op -> h.labels = []
 n1 : h.labels.length <= 16
 n2 : h.repair.length <= 16
 p1 : ∀ n ∈ h.labels, pushed n = true
 p2 : ∀ n ∈ h.repair, pushed n = true
 q0 : 0 <= h.port
 q1 : h.port <= 63
 q3 : h.op = 3 -> h.port = 0
 b0 : -1 <= h.backup
 b1 : h.backup <= 63
 b3 : h.op = 3 -> h.backup < 0
 b4 : h.backup = -1 -> h.repair = []
 b5 : h.backup ≠ h.port
theorem check_iff (h : Hop) : checkR h = 0 ↔ Valid h := by
 unfold checkR
 constructor
 ·intro hc
  split at hc
  ·simp at hc
  rename_i c1
  split at hc
  ·simp at hc
  rename_i c2
  split at hc
  ·simp at hc
  rename_i c3
  split at hc
  ·simp at hc
  rename_i c4
  split at hc
  ·simp at hc
  rename_i c5; simp only [Bool.not_eq_false, xO, jE] at c3; simp only [not_or, not_and] at c1 c2 c4 c5; refine ⟨om, om, c1.2.2.1, fun h1 => ?_, om, om, c3.1, c3.2, om, om, fun h1 => ?_, om, om, fun h1 => ?_, fun h1 => ?_, c5.2.2⟩
  ·exact aL.1 (c1.2.2.2 h1)
  ·exact aL.1 (c4.2.2.1 h1)
  ·have := c4.2.2.2.2 h1; omega
  ·exact aL.1 (c5.2.1 h1)
 ·intro v
  have a1 := v.o0; have a2 := v.o3; have a3 := v.q0; have a4 := v.q1; have a5 := v.b0; have a6 := v.b1; have a7 := v.n1; have a8 := v.n2; rw [zH, zH, zH, zH, zH]
  ·rintro (h1 | ⟨h1, h2⟩ | h1)
   ·omega
   ·exact h2 (v.b4 h1)
   ·exact v.b5 h1
  ·rintro (h1 | h1 | ⟨h1, h2⟩ | h1 | ⟨h1, h2⟩)
   ·omega
   ·omega
   ·exact h2 (v.q3 h1)
   ·omega
   ·have := v.b3 h1; omega
  ·simp only [Bool.not_eq_false, xO, jE]
   exact ⟨v.p1, v.p2⟩
  ·omega
  ·rintro (h1 | h1 | ⟨h1, h2⟩ | ⟨h1, h2⟩)
   ·omega
   ·omega
   ·exact v.l1 h1 h2
   ·exact h2 (v.l2 h1)
def dec (n : Int) : Wd := Lib.decDigits n.toNat
def showW (h : Hop) : List Wd :=
 [opW h.op] ++ h.labels.map dec ++ (if h.op ≠ 3 then [wPort, dec h.port] else []) ++ (if h.backup ≠ -1 then wBackup :: dec h.backup :: h.repair.map dec else []) ++ (if h.pipe then [wPipe] else [])
def showR (h : Hop) : List UInt8 := join (showW h)
def nums : List Wd -> List Int × List Wd
 | [] => ([], [])
 |w :: ws => match number w 1048575 with
  | some n => (n :: (nums ws).1, (nums ws).2)
  | none => ([], w :: ws)
theorem fU {n : Int} (h0 : 0 <= n) (h1 : n <= 1048575) : number (dec n) 1048575 = some n := uD.2 ⟨h0, om, h1, rfl⟩
theorem nums_eq : ∀ ws, ws = (nums ws).1.map dec ++ (nums ws).2
 | [] => rfl
 |w :: ws => by
  unfold nums
  cases hn : number w 1048575 with
  | none => simp
  |some n =>
   have := (uD.1 hn).2.2.2; simp only [yM, yC]; rw [← nums_eq ws, this]
   rfl
theorem nums_ok : ∀ ws, ∀ n ∈ (nums ws).1, 0 <= n /\ n <= 1048575
 | [], n, h => by simp [nums] at h
 |w :: ws, n, h => by
  unfold nums at h
  cases hn : number w 1048575 with
  | none => rw [hn] at h; simp at h
  |some m =>
   rw [hn] at h; obtain ⟨h1, -, h3, -⟩ := uD.1 hn
   rcases yR.1 h with rfl | h
   ·exact ⟨h1, h3⟩
   ·exact nums_ok ws n h
theorem zDf : ∀ (l : List Int) (rest : List Wd), (∀ n ∈ l, 0 <= n /\ n <= 1048575) -> (nums rest).1 = [] -> nums (l.map dec ++ rest) = (l, rest)
 |[], rest, _, hr => by
  have := nums_eq rest; rw [hr] at this; simp only [xH, yJ] at this ⊢; rw [Prod.ext_iff]; exact ⟨hr, this.symm⟩
 |n :: l, rest, hl, hr => by
  have hn := hl n yH; have ih := zDf l rest (fun k hk => hl k (yP _ hk)) hr; rw [yM, yC, nums, fU hn.1 hn.2, ih]
theorem zEg {w : Wd} {ws : List Wd} (h : number w 1048575 = none) : (nums (w :: ws)).1 = [] := by rw [nums, h]
def partP (op : Int) (r : List Wd) : Int × Bool × List Wd :=
 if op ≠ 3 /\ r.head? = some wPort then (match (nums r.tail).1 with | [] => (-1, true, (nums r.tail).2) | n :: more => (n, decide (more ≠ []), (nums r.tail).2)) else (0, decide (op ≠ 3), r)
def partB (r : List Wd) : Int × List Int × Bool × List Wd :=
 if r.head? = some wBackup then (match (nums r.tail).1 with | [] => (-1, [], true, (nums r.tail).2) | n :: more => (n, more, false, (nums r.tail).2)) else (-1, [], false, r)
def partC (r : List Wd) : Bool × List Wd := if r.head? = some wPipe then (true, r.tail) else (false, r)
def mk (op : Int) (ws : List Wd) : Hop := ⟨op, (nums ws).1, (partP op (nums ws).2).1, (partB (partP op (nums ws).2).2.2).1, (partB (partP op (nums ws).2).2.2).2.1, (partC (partB (partP op (nums ws).2).2.2).2.2.2).1⟩
def bad (op : Int) (ws : List Wd) : Bool := (partP op (nums ws).2).2.1 || (partB (partP op (nums ws).2).2.2).2.2.1 || decide ((partC (partB (partP op (nums ws).2).2.2).2.2.2).2 ≠ [])
def parseW : List Wd -> Option Hop
 | [] => none
 |w :: ws => match opOf w with
  | none => none
  | some op => if bad op ws = true ∨ checkR (mk op ws) ≠ 0 then none else some (mk op ws)
def parseR (s : List UInt8) : Option Hop := parseW (spl s)
theorem zCw (n : Int) : ∀ c ∈ dec n, c ≠ 32 := fun c hc e => by
 have := qI _ c hc; subst e; simp at this
theorem num_wPort : number wPort 1048575 = none := by
 rw [nU]; intro v hv; have h := (uD.1 hv).2.2.2; have := qI v.toNat 112 (by rw [← h]; simp [wPort]); simp at this
theorem zEu : number wBackup 1048575 = none := by
 rw [nU]; intro v hv; have h := (uD.1 hv).2.2.2; have := qI v.toNat 98 (by rw [← h]; simp [wBackup]); simp at this
theorem num_wPipe : number wPipe 1048575 = none := by
 rw [nU]; intro v hv; have h := (uD.1 hv).2.2.2; have := qI v.toNat 112 (by rw [← h]; simp [wPipe]); simp at this
theorem zEl {r : List Wd} {w : Wd} (h : r.head? = some w) : r = w :: r.tail := by cases r with | nil => simp at h | cons a b => simp at h; rw [h]; rfl
theorem partP_ok {op : Int} {r : List Wd} (h : (partP op r).2.1 = false) :
  (op ≠ 3 /\ r = wPort :: dec (partP op r).1 :: (partP op r).2.2 /\ 0 <= (partP op r).1) ∨ (op = 3 /\ (partP op r).1 = 0 /\ (partP op r).2.2 = r) := by
 unfold partP at h ⊢
 by_cases hc : op ≠ 3 /\ r.head? = some wPort
 ·rw [zN hc] at h ⊢
  have ht := zEl hc.2; have hn := nums_eq r.tail; have hk := nums_ok r.tail
  cases hl : (nums r.tail).1 with
  | nil => rw [hl] at h; simp at h
  |cons n more =>
   rw [hl] at h hn hk; simp only [decide_eq_false_iff_not, qR, aL] at h; subst h; refine Or.inl ⟨hc.1, ?_, (hk n yH).1⟩; simp only; rw [ht, bZ]
   congr 1
 ·rw [zH hc] at h ⊢
  simp only [decide_eq_false_iff_not, qR, aL] at h; exact Or.inr ⟨h, rfl, rfl⟩
theorem partB_ok {r : List Wd} (h : (partB r).2.2.1 = false) :
  (r = wBackup :: dec (partB r).1 :: ((partB r).2.1.map dec ++ (partB r).2.2.2) /\ 0 <= (partB r).1) ∨ ((partB r).1 = -1 /\ (partB r).2.1 = [] /\ (partB r).2.2.2 = r) := by
 unfold partB at h ⊢
 by_cases hc : r.head? = some wBackup
 ·rw [zN hc] at h ⊢
  have ht := zEl hc; have hn := nums_eq r.tail; have hk := nums_ok r.tail
  cases hl : (nums r.tail).1 with
  | nil => rw [hl] at h; simp at h
  |cons n more =>
   rw [hl] at h hn hk; refine Or.inl ⟨?_, (hk n yH).1⟩; simp only; rw [ht, bZ]
   congr 1
 ·rw [zH hc] at h ⊢
  exact Or.inr ⟨rfl, rfl, rfl⟩
theorem partC_ok {r : List Wd} (h : (partC r).2 = []) : r = if (partC r).1 = true then [wPipe] else [] := by
 unfold partC at h ⊢
 by_cases hc : r.head? = some wPipe
 ·rw [zN hc] at h ⊢
  have ht := zEl hc; simp only at h; rw [h] at ht
  simpa using ht
 ·rw [zH hc] at h ⊢
  simpa using h
theorem opOf_some {w : Wd} {n : Int} (h : opOf w = some n) : w = opW n /\ 0 <= n /\ n <= 3 := by
 unfold opOf at h
 split at h
 ·cases h; exact ⟨za, om, om⟩
 split at h
 ·cases h; exact ⟨za, om, om⟩
 split at h
 ·cases h; exact ⟨za, om, om⟩
 split at h
 ·cases h; exact ⟨za, om, om⟩
 ·cases h
theorem opOf_opW {n : Int} (h0 : 0 <= n) (h3 : n <= 3) : opOf (opW n) = some n := by
 have : n = 0 ∨ n = 1 ∨ n = 2 ∨ n = 3 := om
 rcases this with rfl | rfl | rfl | rfl <;> decide
theorem parseW_sound {s : List Wd} {h : Hop} (hp : parseW s = some h) : checkR h = 0 /\ s = showW h := by
 cases s with
 | nil => cases hp
 |cons w ws =>
  simp only [parseW] at hp
  cases ho : opOf w with
  | none => rw [ho] at hp; cases hp
  |some op =>
   rw [ho] at hp; simp only at hp
   split at hp
   ·cases hp
   rename_i hc
   cases hp; simp only [not_or, Bool.not_eq_true, qR, aL] at hc; obtain ⟨hb, hck⟩ := hc; refine ⟨hck, ?_⟩; obtain ⟨hw, h0, h3⟩ := opOf_some ho; unfold bad at hb; simp only [Bool.or_eq_false_iff, decide_eq_false_iff_not, qR, aL] at hb; obtain ⟨⟨hb1, hb2⟩, hb3⟩ := hb; have e0 := nums_eq ws; have e1 := partP_ok hb1; have e2 := partB_ok hb2; have e3 := partC_ok hb3
   have key : ∀ (L : List Int) (r1 r2 r3 : List Wd) (P B : Int) (R : List Int) (C : Bool), ws = L.map dec ++ r1 -> ((op ≠ 3 /\ r1 = wPort :: dec P :: r2 /\ 0 <= P) ∨ (op = 3 /\ P = 0 /\ r2 = r1)) -> ((r2 = wBackup :: dec B :: (R.map dec ++ r3) /\ 0 <= B) ∨ (B = -1 /\ R = [] /\ r3 = r2)) -> (r3 = if C = true then [wPipe] else []) -> w :: ws = showW ⟨op, L, P, B, R, C⟩ := by
    intro L r1 r2 r3 P B R C g0 g1 g2 g3; unfold showW; simp only; rw [g0, hw]
    rcases g1 with ⟨g1, g1', -⟩ | ⟨g1, -, g1'⟩ <;> rcases g2 with ⟨g2, g2'⟩ | ⟨g2, g2', g2''⟩
    ·rw [zN g1, zN om, g1', g2, g3]; simp
    ·rw [zN g1, zH om, g1', ← g2'', g3]; simp
    ·rw [zH om, zN om, ← g1', g2, g3]; simp
    ·rw [zH om, zH om, ← g1', ← g2'', g3]; simp
   exact key _ _ _ _ _ _ _ _ e0 e1 e2 e3
theorem pushed_bd {n : Int} (h : pushed n = true) : 0 <= n /\ n <= 1048575 := by
 unfold pushed at h; simp only [zBk, xO, xP] at h; omega
theorem parseW_show {h : Hop} (v : Valid h) : parseW (showW h) = some h := by
 obtain ⟨op, L, P, B, R, C⟩ := h; have hck := (check_iff _).2 v; obtain ⟨o0, o3, l1, l2, n1, n2, p1, p2, q0, q1, q3, b0, b1, b3, b4, b5⟩ := v; simp only at *
 have hC : (nums (if C = true then [wPipe] else [])).1 = [] := by
  cases C
  ·rfl
  ·simp only [aB]; exact zEg num_wPipe
 have hpc : ∀ x, partC (if x = true then [wPipe] else []) = (x, []) := by intro x; cases x <;> rfl
 have hhb : ∀ x : Bool, (if x = true then [wPipe] else ([] : List Wd)).head? ≠ some wBackup := by intro x; cases x <;> decide
 have hhp : ∀ x : Bool, (if x = true then [wPipe] else ([] : List Wd)).head? ≠ some wPort := by intro x; cases x <;> decide
 obtain ⟨tB, htB⟩ : ∃ tB, tB = (if B ≠ -1 then wBackup :: dec B :: R.map dec else []) ++ (if C = true then [wPipe] else []) := ⟨_, rfl⟩
 have hB : partB tB = (B, R, false, if C = true then [wPipe] else []) := by
  rw [htB]
  by_cases hb : B = -1
  ·rw [zH (by simpa using hb), yJ]
   unfold partB; rw [zH (hhb C), b4 hb, hb]
  ·rw [zN hb]
   unfold partB; rw [zN rf]
   have := zDf (B :: R) (if C = true then [wPipe] else []) (fun n hn => by
    rcases yR.1 hn with rfl | hn
    ·omega
    ·exact pushed_bd (p2 n hn)) hC
   simp only [yC, bZ]; rw [show dec B :: (R.map dec ++ if C = true then [wPipe] else []) = (B :: R).map dec ++ (if C = true then [wPipe] else []) from rfl, this]
 have htB1 : (nums tB).1 = [] := by
  rw [htB]
  by_cases hb : B = -1
  ·rw [zH (by simpa using hb), yJ]; exact hC
  ·rw [zN hb]; exact zEg zEu
 obtain ⟨tP, htP⟩ : ∃ tP, tP = (if op ≠ 3 then [wPort, dec P] else []) ++ tB := ⟨_, rfl⟩
 have hP : partP op tP = (P, false, tB) := by
  rw [htP]
  by_cases ho : op = 3
  ·rw [zH (by simpa using ho), yJ]
   unfold partP; rw [zH (by simp [ho]), q3 ho]; simp [ho]
  ·rw [zN ho]
   unfold partP; rw [zN ⟨ho, rfl⟩]; have := zDf [P] tB (fun n hn => by simp at hn; omega) htB1; simp only [yC, yJ, bZ]; rw [show dec P :: tB = [P].map dec ++ tB from rfl, this]; simp
 have htP1 : (nums tP).1 = [] := by
  rw [htP]
  by_cases ho : op = 3
  ·rw [zH (by simpa using ho), yJ]; exact htB1
  ·rw [zN ho]; exact zEg num_wPort
 have hN := zDf L tP (fun n hn => pushed_bd (p1 n hn)) htP1
 have hs : showW ⟨op, L, P, B, R, C⟩ = opW op :: (L.map dec ++ tP) := by
  unfold showW; simp only; rw [htP, htB]; simp
 have hmk : mk op (L.map dec ++ tP) = ⟨op, L, P, B, R, C⟩ := by
  unfold mk; rw [hN]; simp only [hP, hB, hpc]
 have hbad : bad op (L.map dec ++ tP) = false := by
  unfold bad; rw [hN]; simp only [hP, hB, hpc]
  rfl
 rw [hs]; simp only [parseW, opOf_opW o0 o3, hmk, hbad, hck]; simp
theorem zCp (h : Hop) : showW h ≠ [] := by simp [showW]
theorem opW_no32 (n : Int) : ∀ c ∈ opW n, c ≠ 32 := by
 unfold opW
 split
 ·decide
 split
 ·decide
 split
 ·decide
 split
 ·decide
 ·intro c hc; cases hc
theorem oD (h : Hop) : ∀ w ∈ showW h, ∀ c ∈ w, c ≠ 32 := by
 intro w hw; unfold showW at hw; simp only [xR, xS, vB] at hw
 rcases hw with (((rfl | ⟨n, -, rfl⟩) | hw) | hw) | hw
 ·exact opW_no32 _
 ·exact zCw n
 ·split at hw
  ·simp only [yR, jV, mW] at hw
   rcases hw with rfl | rfl
   ·decide
   ·exact zCw _
  ·cases hw
 ·split at hw
  ·simp only [yR, vB] at hw
   rcases hw with rfl | rfl | ⟨n, -, rfl⟩
   ·decide
   ·exact zCw _
   ·exact zCw n
  ·cases hw
 ·split at hw
  ·simp only [xS] at hw; subst hw; decide
  ·cases hw
theorem parseR_iff (s : List UInt8) (h : Hop) : parseR s = some h ↔ checkR h = 0 /\ showR h = s := by
 unfold parseR
 constructor
 ·intro hp
  obtain ⟨h1, h2⟩ := parseW_sound hp; exact ⟨h1, by unfold showR; rw [← h2, join_spl]⟩
 ·rintro ⟨h1, rfl⟩
  unfold showR; rw [wE _ (zCp h) (oD h)]; exact parseW_show ((check_iff h).1 h1)
end Go.Proofs.YtdbgeobolongmaaGreatDoor.Hp
namespace Go.OctetPlain
def dig (c : UInt8) : Int :=
 if 48 <= c.toNat /\ c.toNat <= 57 then (c.toNat : Int) - 48
 else if 97 <= c.toNat /\ c.toNat <= 102 then (c.toNat : Int) - 97 + 10
 else if 65 <= c.toNat /\ c.toNat <= 70 then (c.toNat : Int) - 65 + 10
 else -1
theorem tT (c : UInt8) : -1 <= dig c /\ dig c <= 15 := by
 unfold dig
 split
 ·omega
 ·split
  ·omega
  ·split <;> omega
def kW (high : Int) (out : List UInt8) : List UInt8 -> Option (List UInt8)
 | [] => if 0 <= high then none else some out
 |c :: r =>
  if dig c < 0 then none
  else if high < 0 then kW (dig c) out r
  else kW (-1) (out ++ [UInt8.ofNat (high.toNat * 16 + (dig c).toNat)]) r
def vE (out : List UInt8) : List UInt8 -> Option (List UInt8)
 | [] => some out
 | [_] => none
 |a :: b :: r =>
  if dig a < 0 ∨ dig b < 0 then none
  else vE (out ++ [UInt8.ofNat (16 * (dig a).toNat + (dig b).toNat)]) r
theorem zCt : ∀ (l out : List UInt8), kW (-1) out l = vE out l
 | [], out => by simp [kW, vE]
 |[a], out => by
  simp only [kW, vE]
  by_cases ha : dig a < 0
  ·rw [zN ha]
  ·rw [zH ha, zN om, zN om]
 |a :: b :: r, out => by
  simp only [kW, vE]
  by_cases ha : dig a < 0
  ·rw [zN ha, zN (Or.inl ha)]
  ·rw [zH ha, zN om]
   by_cases hb : dig b < 0
   ·rw [zN hb, zN (Or.inr hb)]
   ·rw [zH hb, zH om, zH om, zCt r, bM]
def letter (n : Nat) : UInt8 := if n < 10 then UInt8.ofNat (48 + n) else UInt8.ofNat (87 + n)
theorem qZ (n : Nat) (h : n < 16) : dig (letter n) = n := by
 unfold letter dig
 split
 ·have e : (UInt8.ofNat (48 + n)).toNat = 48 + n := by rw [xM]; omega
  rw [e, zN om]; omega
 ·have e : (UInt8.ofNat (87 + n)).toNat = 87 + n := by rw [xM]; omega
  rw [e, zH om, zN om]; omega
def hex : List UInt8 -> List UInt8
 | [] => []
 | c :: r => letter (c.toNat / 16) :: letter (c.toNat % 16) :: hex r
def num (acc : Nat) : List UInt8 -> Nat
 | [] => acc
 | c :: r => num (acc * 256 + c.toNat) r
def bytes (n : Nat) : Nat -> List UInt8
 | 0 => []
 | k + 1 => bytes (n / 256) k ++ [UInt8.ofNat (n % 256)]
theorem wW : ∀ (k n : Nat), (bytes n k).length = k
 | 0, _ => rfl
 | k + 1, n => by simp [bytes, wW k]
def there (n : Nat) (k size : Int) : Prop := 0 <= k /\ 0 <= size /\ k <= n /\ size <= (n : Int) - k
instance (n : Nat) (k size : Int) : Decidable (there n k size) := by unfold there; infer_instance
def cutL (l : List UInt8) (k size : Int) : List UInt8 := if there l.length k size then (l.drop k.toNat).take size.toNat else []
theorem cutL_of {l : List UInt8} {k size : Int} (h : there l.length k size) : cutL l k size = (l.drop k.toNat).take size.toNat := by unfold cutL; rw [zN h]
theorem cutL_length {l : List UInt8} {k size : Int} (h : there l.length k size) : (cutL l k size).length = size.toNat := by
 have h' := h; unfold there at h'; unfold cutL; rw [zN h, yV, vZ]; omega
theorem bytes_cons : ∀ (k n : Nat), bytes n (k + 1) = UInt8.ofNat (n / 256 ^ k % 256) :: bytes n k
 | 0, n => by simp [bytes]
 |k + 1, n => by
  show bytes (n / 256) (k + 1) ++ [UInt8.ofNat (n % 256)] = _
  rw [bytes_cons k (n / 256), bS, zCf, bM 256]
  rfl
end Go.OctetPlain
namespace Go.ColonPlain
open Go.OctetPlain Go.Lib
def yY (d : UInt8) : List UInt8 -> List (List UInt8)
 | [] => [[]]
 | c :: r => if c = d then [] :: yY d r else (c :: (yY d r).headD []) :: (yY d r).tail
theorem bH (d : UInt8) (l : List UInt8) : yY d l ≠ [] := by
 cases l with
 | nil => simp [yY]
 | cons c r => unfold yY; split <;> simp
theorem aO {d : UInt8} : ∀ {l : List UInt8}, d ∉ l -> yY d l = [l]
 | [], _ => rfl
 |c :: r, h => by
  have h1 : ¬ c = d := fun e => h (by simp [e]); have h2 : d ∉ r := fun e => h (by simp [e]); rw [yY, zH h1, aO h2]
  rfl
theorem fV {d : UInt8} : ∀ {a : List UInt8} (b : List UInt8), d ∉ a -> yY d (a ++ d :: b) = a :: yY d b
 | [], b, _ => by rw [yJ, yY, zN rfl]
 |c :: r, b, h => by
  have h1 : ¬ c = d := fun e => h (by simp [e]); have h2 : d ∉ r := fun e => h (by simp [e]); rw [yC, yY, zH h1, fV b h2]
  rfl
theorem index_no {d : UInt8} : ∀ {l : List UInt8}, d ∉ l -> index l [d] = -1
 | [], _ => by simp [index]
 |c :: r, h => by
  have h1 : ¬ c = d := fun e => h (by simp [e]); have h2 : d ∉ r := fun e => h (by simp [e]); rw [index, index_no h2]; simp [List.isPrefixOf, bD h1]
theorem zEm {d : UInt8} : ∀ {a : List UInt8} (b : List UInt8), d ∉ a -> index (a ++ d :: b) [d] = a.length
 | [], b, _ => by simp [index, List.isPrefixOf]
 |c :: r, b, h => by
  have h1 : ¬ c = d := fun e => h (by simp [e]); have h2 : d ∉ r := fun e => h (by simp [e]); rw [yC, index, zEm b h2]; simp [List.isPrefixOf, bD h1]
theorem splitK_eq (d : UInt8) : ∀ (k : Nat) (s : List UInt8), s.count d <= k -> splitK [d] 0 k s = yY d s
 |0, s, h => by
  have : d ∉ s := fun e => by have := List.count_pos_iff.2 e; omega
  rw [aO this]; rfl
 |k + 1, s, h => by
  unfold splitK
  by_cases hd : d ∈ s
  ·obtain ⟨a, b, rfl, ha⟩ := zDo hd
   rw [zEm b ha, fV b ha]
   have hc : b.count d <= k := by
    rw [List.count_append, zBf] at h; omega
   rw [zH zi]; simp only [xN, bE, zDn, zI, xI, zCe]; rw [List.drop_append, yO om, yJ, show a.length + 1 - a.length = 1 from om, List.drop_one, bZ, splitK_eq d k b hc]
  ·rw [index_no hd, aO hd]; rfl
theorem split_eq (d : UInt8) (s : List UInt8) : splitK [d] 0 (count s [d]) s = yY d s := splitK_eq d _ s (by rw [count_one]; exact yZ _)
theorem lM (d : UInt8) (s : List UInt8) : count s [d] + 1 = (yY d s).length := by
 rw [count_one]
 induction s with
 | nil => rfl
 |cons c r ih =>
  unfold yY
  split
  ·rename_i h; subst h; rw [zBf, zI, ih]
  ·rename_i h
   rw [List.count_cons_of_ne (by simpa using h), zI, List.length_tail, ih]; have := bH d r; have : (yY d r).length ≠ 0 := fun e => this (zX e); omega
theorem aT (d : UInt8) : ∀ (s : List UInt8), ∀ p ∈ yY d s, p.length <= s.length
 | [], p, h => by simp only [yY, xS] at h; subst h; exact yZ _
 |c :: r, p, h => by
  unfold yY at h
  split at h
  ·rcases yR.1 h with rfl | h
   ·exact yQ _
   ·have := aT d r p h; simp; omega
  ·rcases yR.1 h with rfl | h
   ·have hne := bH d r
    have := aT d r ((yY d r).headD []) (by cases hs : yY d r with
     | nil => exact absurd hs hne
     | cons x y => simp)
    simp only [zI]; omega
   ·have := aT d r p (List.mem_of_mem_tail h); simp; omega
def jC (n signs : Nat) : List UInt8 -> Option Nat
 | [] => if 0 < signs then some n else none
 | c :: r => if dig c < 0 ∨ 4 < signs + 1 then none else jC (n * 16 + (dig c).toNat) (signs + 1) r
def group (l : List UInt8) : Option Nat := jC 0 0 l
theorem lV : ∀ (l : List UInt8) (n s : Nat), s <= 4 -> 4 < s + l.length -> jC n s l = none
 | [], n, s, h1, h2 => by simp at h2; omega
 |c :: r, n, s, h1, h2 => by
  unfold jC
  split
  ·rfl
  ·exact lV r _ _ om (by simp at h2; omega)
theorem group_long {l : List UInt8} (h : 4 < l.length) : group l = none := lV l 0 0 om om
theorem zCy : ∀ (l : List UInt8) (n s m : Nat), s <= 4 -> n < 16 ^ s -> jC n s l = some m -> m < 65536
 |[], n, s, m, h0, h1, h => by
  simp only [jC] at h
  split at h
  ·cases h
   have : 16 ^ s <= 16 ^ 4 := Nat.pow_le_pow_right om h0; omega
  ·cases h
 |c :: r, n, s, m, h0, h1, h => by
  unfold jC at h
  split at h
  ·cases h
  ·have := tT c
   refine zCy r _ (s + 1) m om ?_ h; rw [zCf]; omega
theorem group_lt {l : List UInt8} {m : Nat} (h : group l = some m) : m < 65536 := zCy l 0 0 m om om h
def hexN (n : Nat) : List UInt8 :=
 if n < 16 then [letter n]
 else if n < 256 then [letter (n / 16), letter (n % 16)]
 else if n < 4096 then [letter (n / 256), letter (n / 16 % 16), letter (n % 16)]
 else [letter (n / 4096), letter (n / 256 % 16), letter (n / 16 % 16), letter (n % 16)]
theorem group_hexN {n : Nat} (h : n < 65536) : group (hexN n) = some n := by
 unfold hexN group
 split
 ·simp only [jC, qZ n om]
  simp
 ·split
  ·simp only [jC, qZ (n / 16) om, qZ (n % 16) om]
   simp; omega
  ·split
   ·simp only [jC, qZ (n / 256) om, qZ (n / 16 % 16) om, qZ (n % 16) om]
    simp; omega
   ·simp only [jC, qZ (n / 4096) om, qZ (n / 256 % 16) om, qZ (n / 16 % 16) om, qZ (n % 16) om]
    simp; omega
theorem hexN_ne (n : Nat) : hexN n ≠ [] := by
 unfold hexN
 repeat' split
 all_goals simp
theorem kT (n : Nat) : 1 <= (hexN n).length /\ (hexN n).length <= 4 := by
 unfold hexN
 repeat' split
 all_goals simp
theorem letter_low {n : Nat} (h : n < 16) : letter n ≠ 58 /\ ¬ (65 <= (letter n).toNat /\ (letter n).toNat <= 70) := by
 have : ∀ n : Fin 16, letter n ≠ 58 /\ ¬ (65 <= (letter n).toNat /\ (letter n).toNat <= 70) := zd; exact this ⟨n, h⟩
theorem hexN_low {n : Nat} (h : n < 65536) : ∀ c ∈ hexN n, c ≠ 58 /\ ¬ (65 <= c.toNat /\ c.toNat <= 70) := by
 intro c hc; unfold hexN at hc
 repeat' split at hc
 all_goals
  simp only [yR, jV, mW] at hc
  rcases hc with rfl | rfl | rfl | rfl <;> exact letter_low om
def uU (f : Nat -> List UInt8) : List Nat -> List UInt8
 | [] => []
 | [n] => f n
 | n :: m :: r => f n ++ 58 :: uU f (m :: r)
structure Good (f : Nat -> List UInt8) : Prop where
 ne : ∀ n, n < 65536 -> f n ≠ []
 no : ∀ n, n < 65536 -> ∀ c ∈ f n, c ≠ 58
 group : ∀ n, n < 65536 -> group (f n) = some n
theorem joinF_ne {f : Nat -> List UInt8} (G : Good f) : ∀ {l : List Nat}, (∀ n ∈ l, n < 65536) -> l ≠ [] -> uU f l ≠ []
 | [], _, h => absurd rfl h
 | [n], h, _ => G.ne n (h n zi)
 | n :: m :: r, _, _ => by simp [uU]
theorem zFx {f : Nat -> List UInt8} (G : Good f) : ∀ {l : List Nat}, l ≠ [] -> (∀ n ∈ l, n < 65536) -> yY 58 (uU f l) = l.map f
 | [], h, _ => absurd rfl h
 | [n], _, h => aO fun hc => G.no n (h n zi) 58 hc rfl
 |n :: m :: r, _, h => by
  rw [uU, fV _ (fun hc => G.no n (h n zi) 58 hc rfl), zFx G zi (fun k hk => h k (by simp at hk ⊢; right; exact hk))]
  rfl
theorem sH {f : Nat -> List UInt8} (hf : ∀ n, 1 <= (f n).length /\ (f n).length <= 4) : ∀ (l : List Nat), (uU f l).length <= 5 * l.length - 1 /\ l.length <= (uU f l).length
 | [] => by simp [uU]
 | [n] => by have := hf n; simp [uU]; omega
 |n :: m :: r => by
  have h1 := sH hf (m :: r); have h2 := hf n; rw [uU]; simp only [zG, zI] at h1 ⊢; omega
theorem goodN : Good hexN := ⟨fun n _ => hexN_ne n, fun n h c hc => (hexN_low h c hc).1, fun n h => group_hexN h⟩
def Tame : List UInt8 -> Prop
 | [] => True
 | [c] => c ≠ 58
 | c :: d :: r => (c = 58 -> d ≠ 58) /\ Tame (d :: r)
theorem tame_index : ∀ {u : List UInt8} (x : List UInt8), Tame u -> index (u ++ 58 :: 58 :: x) [58, 58] = u.length
 | [], x, _ => by simp [index, List.isPrefixOf]
 |[c], x, h => by
  have h' : ¬ c = 58 := h; simp [index, List.isPrefixOf, bD h']
 |c :: d :: r, x, h => by
  have ih := tame_index x h.2; rw [yC] at ih; rw [yC, yC, index, ih]
  have hp : List.isPrefixOf [58, 58] (c :: d :: (r ++ 58 :: 58 :: x)) = false := by
   have := h.1; simp only [List.isPrefixOf, oZ, yF, qR, Bool.and_true]
   by_cases hc : c = 58
   ·right; exact fun e => this hc e.symm
   ·left; exact fun e => hc e.symm
  rw [hp]; simp; omega
theorem tame_no : ∀ {u : List UInt8}, Tame u -> index u [58, 58] = -1
 | [], _ => by simp [index]
 | [c], h => by simp [index, List.isPrefixOf]
 |c :: d :: r, h => by
  have ih := tame_no h.2; rw [index, ih]
  have hp : List.isPrefixOf [58, 58] (c :: d :: r) = false := by
   have := h.1; simp only [List.isPrefixOf, oZ, yF, qR, Bool.and_true]
   by_cases hc : c = 58
   ·right; exact fun e => this hc e.symm
   ·left; exact fun e => hc e.symm
  rw [hp]
  rfl
theorem zBn : ∀ {u : List UInt8}, (∀ c ∈ u, c ≠ 58) -> Tame u
 | [], _ => trivial
 | [c], h => h c zi
 | c :: d :: r, h => ⟨fun e => absurd e (h c zi), zBn fun x hx => h x (by simp at hx ⊢; right; exact hx)⟩
theorem tame_app : ∀ {u v : List UInt8}, Tame u -> Tame v -> v.headD 0 ≠ 58 -> v ≠ [] -> u ≠ [] -> Tame (u ++ 58 :: v)
 | [], _, _, _, _, _, h => absurd rfl h
 |[c], v, h, hv, h1, h2, _ => by
  have hc : c ≠ 58 := h
  cases v with
  | nil => exact absurd rfl h2
  | cons a b => exact ⟨fun e => absurd e hc, fun _ => h1, hv⟩
 | c :: d :: r, v, h, hv, h1, h2, _ => ⟨h.1, tame_app h.2 hv h1 h2 zi⟩
theorem zBr {f : Nat -> List UInt8} (G : Good f) : ∀ {l : List Nat}, (∀ n ∈ l, n < 65536) -> Tame (uU f l) /\ (l ≠ [] -> (uU f l).headD 0 ≠ 58)
 | [], _ => ⟨trivial, fun h => absurd rfl h⟩
 |[n], h => by
  have hl := G.no n (h n zi); refine ⟨zBn fun c hc => hl c hc, fun _ => ?_⟩
  cases hx : f n with
  | nil => exact absurd hx (G.ne n (h n zi))
  | cons a b => rw [hx] at hl; simp only [uU, hx, mY]; exact hl a zi
 |n :: m :: r, h => by
  have hl := G.no n (h n zi); have hr : ∀ k ∈ m :: r, k < 65536 := fun k hk => h k (by simp at hk ⊢; right; exact hk); obtain ⟨h1, h2⟩ := zBr G hr; have hne := G.ne n (h n zi); refine ⟨tame_app (zBn fun c hc => hl c hc) h1 (h2 zi) (joinF_ne G hr zi) hne, fun _ => ?_⟩
  cases hx : f n with
  | nil => exact absurd hx hne
  | cons a b => rw [hx] at hl; simp only [uU, hx, yC, mY]; exact hl a zi
def uY (out : List UInt8) : List (List UInt8) -> Option (List UInt8)
 | [] => if out.length = 4 then some out else none
 |p :: ps => match number p 255 with
  | none => none
  | some n => if out.length = 4 then none else uY (out ++ [UInt8.ofNat n.toNat]) ps
def xZ (l : List UInt8) : Option (List UInt8) := uY [] (yY 46 l)
theorem kE : ∀ (ps : List (List UInt8)) (out a : List UInt8), uY out ps = some a -> a.length = 4
 |[], out, a, h => by
  simp only [uY] at h
  split at h
  ·cases h; assumption
  ·cases h
 |p :: ps, out, a, h => by
  simp only [uY] at h
  split at h
  ·cases h
  ·split at h
   ·cases h
   ·exact kE ps _ a h
def uL (last : Bool) (out : List Nat) : List (List UInt8) -> Option (List Nat)
 | [] => some out
 |p :: ps => match group p with
  | some n => uL last (out ++ [n]) ps
  |none => match xZ p with
   | some a => if last = true /\ ps = [] then some (out ++ [256 * (a.getD 0 0).toNat + (a.getD 1 0).toNat, 256 * (a.getD 2 0).toNat + (a.getD 3 0).toNat]) else none
   | none => none
def row (last : Bool) (l : List UInt8) : Option (List Nat) := if l = [] then some [] else uL last [] (yY 58 l)
theorem rowParts_f {f : Nat -> List UInt8} (G : Good f) (last : Bool) : ∀ (l out : List Nat) (ps : List (List UInt8)), (∀ n ∈ l, n < 65536) -> uL last out (l.map f ++ ps) = uL last (out ++ l) ps
 | [], out, ps, _ => zi
 |n :: r, out, ps, h => by
  rw [yM, yC, uL, G.group n (h n zi)]; simp only; rw [rowParts_f G last r (out ++ [n]) ps (fun k hk => h k (by simp; right; exact hk)), xQ, tJ]
theorem row_join {f : Nat -> List UInt8} (G : Good f) (last : Bool) {l : List Nat} (h : ∀ n ∈ l, n < 65536) : row last (uU f l) = some l := by
 cases hl : l with
 | nil => rfl
 |cons n r =>
  rw [← hl]; have hne : l ≠ [] := by rw [hl]; simp
  unfold row; rw [zH (joinF_ne G h hne), zFx G hne h]; have := rowParts_f G last l [] [] h; rw [vC] at this; rw [this]
  rfl
def yL : List UInt8 -> List Nat
 | a :: b :: r => (256 * a.toNat + b.toNat) :: yL r
 | _ => []
def ints (l : List Nat) : List Int := l.map fun n => Int.ofNat n
def of : List Int -> Option (List UInt8)
 | [] => some []
 | n :: r => if n < 0 ∨ 65535 < n then none else (of r).map fun a => UInt8.ofNat (n.toNat / 256) :: UInt8.ofNat (n.toNat % 256) :: a
theorem nY : ∀ (a : List UInt8), ∀ n ∈ yL a, n < 65536
 | [], n, h => by simp [yL] at h
 | [_], n, h => by simp [yL] at h
 |a :: b :: r, n, h => by
  have ha := a.toNat_lt; have hb := b.toNat_lt
  rcases yR.1 h with rfl | h
  ·omega
  ·exact nY r n h
theorem qW : ∀ (k : Nat) (a : List UInt8), a.length = 2 * k -> (yL a).length = k
 |0, a, h => by
  obtain rfl : a = [] := zX om
  rfl
 |k + 1, a, h => by
  match a, h with
  |a :: b :: r, h =>
   simp only [yL, zI]; rw [qW k r (by simp at h; omega)]
theorem zEo : ∀ (k : Nat) (a : List UInt8), a.length = 2 * k -> of (ints (yL a)) = some a
 |0, a, h => by
  obtain rfl : a = [] := zX om
  rfl
 |k + 1, a, h => by
  match a, h with
  |a :: b :: r, h =>
   have ha := a.toNat_lt; have hb := b.toNat_lt; have ih := zEo k r (by simp at h; omega); simp only [ints] at ih; simp only [yL, ints, yM, of]; rw [zH (by simp only [wI]; omega), ih]
   have e1 : UInt8.ofNat (((Int.ofNat (256 * a.toNat + b.toNat)).toNat) / 256) = a := by
    apply uH.1; rw [xM, wI]; omega
   have e2 : UInt8.ofNat (((Int.ofNat (256 * a.toNat + b.toNat)).toNat) % 256) = b := by
    apply uH.1; rw [xM, wI]; omega
   rw [e1, e2]
   rfl
theorem zBc : ∀ (l : List Int) (a : List UInt8), of l = some a -> a.length = 2 * l.length
 | [], a, h => by cases h; rfl
 |n :: r, a, h => by
  unfold of at h
  split at h
  ·cases h
  ·cases hr : of r with
   | none => rw [hr] at h; cases h
   |some b =>
    rw [hr] at h
    cases h; have := zBc r b hr; simp only [zI]; omega
def qJ (i b f t : Nat) : List Bool -> Nat × Nat
 | [] => (f, t)
 |z :: r =>
  let b' := if z then b else i + 1
  if 1 < i + 1 - b' /\ t - f < i + 1 - b' then qJ (i + 1) b' b' (i + 1) r else qJ (i + 1) b' f t r
def zs (l : List Nat) : List Bool := l.map fun n => decide (n = 0)
def run (l : List Nat) : Nat × Nat := qJ 0 0 0 0 (zs l)
theorem rM (l : List Bool) : ∀ (r : List Bool) (i b f t : Nat), l.drop i = r -> i <= l.length -> b <= i -> (∀ j, b <= j -> j < i -> l[j]? = some true) -> f <= t -> t <= i -> (f = t ∨ f + 2 <= t) -> (∀ j, f <= j -> j < t -> l[j]? = some true) ->
  (qJ i b f t r).1 <= (qJ i b f t r).2 /\ (qJ i b f t r).2 <= l.length /\ ((qJ i b f t r).1 = (qJ i b f t r).2 ∨ (qJ i b f t r).1 + 2 <= (qJ i b f t r).2) /\ ∀ j, (qJ i b f t r).1 <= j -> j < (qJ i b f t r).2 -> l[j]? = some true
 | [], i, b, f, t, _, h1, _, _, h4, h5, h6, h7 => ⟨h4, by simp only [qJ]; omega, h6, h7⟩
 |z :: r, i, b, f, t, hd, h1, h2, h3, h4, h5, h6, h7 => by
  have hi : i < l.length := by
   rcases jQ i l.length with h | h
   ·exact h
   ·rw [yO h] at hd; cases hd
  have hz : l[i]? = some z := by
   rw [yE hi] at hd; rw [zA hi]
   cases hd; rfl
  have hr : l.drop (i + 1) = r := by
   rw [yE hi] at hd
   cases hd; rfl
  have hb3 : ∀ j, (if z = true then b else i + 1) <= j -> j < i + 1 -> l[j]? = some true := by
   intro j hj1 hj2
   cases z with
   | false => simp at hj1; omega
   |true =>
    simp at hj1
    rcases jQ j i with h | h
    ·exact h3 j hj1 h
    ·obtain rfl : j = i := om
     exact hz
  have hb2 : (if z = true then b else i + 1) <= i + 1 := by split <;> omega
  unfold qJ; simp only; generalize (if z = true then b else i + 1) = b' at hb3 hb2 ⊢
  split
  ·rename_i hc
   exact rM l r (i + 1) _ _ _ hr hi hb2 hb3 hb2 zn (Or.inr om) hb3
  ·exact rM l r (i + 1) _ f t hr hi hb2 hb3 h4 om h6 h7
def sN : List Bool -> Nat
 | true :: r => sN r + 1
 | _ => 0
def aZ (i : Nat) (at_ long : Nat) : List Bool -> Nat × Nat
 | [] => (at_, long)
 | z :: r => if long < sN (z :: r) /\ 1 < sN (z :: r) then aZ (i + 1) i (sN (z :: r)) r else aZ (i + 1) at_ long r
theorem run_eq8 : ∀ a b c d e f g h : Bool, qJ 0 0 0 0 [a, b, c, d, e, f, g, h] = ((aZ 0 0 0 [a, b, c, d, e, f, g, h]).1, (aZ 0 0 0 [a, b, c, d, e, f, g, h]).1 + (aZ 0 0 0 [a, b, c, d, e, f, g, h]).2) := by decide +kernel
def shown (l : List Nat) : List UInt8 := if (run l).1 = (run l).2 then uU hexN l else uU hexN (l.take (run l).1) ++ 58 :: 58 :: uU hexN (l.drop (run l).2)
def show_ (a : List UInt8) : List UInt8 := shown (yL a)
def parse (s : List UInt8) : Option (List UInt8) :=
 match row (!(cut s [58, 58]).2.2) (cut s [58, 58]).1, row true (cut s [58, 58]).2.1 with
 | some a, some b => if ((cut s [58, 58]).2.2 = true /\ 7 < a.length + b.length) ∨ ((cut s [58, 58]).2.2 = false /\ a.length + b.length ≠ 8) then none else of (ints (a ++ List.replicate (8 - a.length - b.length) 0 ++ b))
 | _, _ => none
theorem cut_tame {u : List UInt8} (h : Tame u) : cut u [58, 58] = (u, [], false) := by
 unfold cut; rw [tame_no h, zH om]
theorem cut_at {u : List UInt8} (x : List UInt8) (h : Tame u) : cut (u ++ 58 :: 58 :: x) [58, 58] = (u, x, true) := by
 unfold cut; rw [tame_index x h, zN om]; simp only [bE, zDn, zI, xI]; rw [List.drop_append, yO om, yJ, show u.length + (0 + 1 + 1) - u.length = 2 from om]
 rfl
theorem parse_join {f : Nat -> List UInt8} (G : Good f) {a : List UInt8} (h : a.length = 16) : parse (uU f (yL a)) = some a := by
 have hlt := nY a; have hl := qW 8 a om; unfold parse; rw [cut_tame (zBr G hlt).1]; simp only; rw [row_join G _ hlt]; simp only [row, aB]; rw [zH zo, xI, hl]; simp only [Nat.sub_zero, Nat.sub_self, List.replicate_zero, vC]; exact zEo 8 a om
theorem parse_show {a : List UInt8} (h : a.length = 16) : parse (show_ a) = some a := by
 have hlt := nY a; have hl := qW 8 a om; have hzl : (zs (yL a)).length = 8 := by simp [zs, hl]
 obtain ⟨r1, r2, r3, r4⟩ := rM (zs (yL a)) (zs (yL a)) 0 0 0 0 rfl om zn (fun j _ hj => om) zn zn (Or.inl rfl) (fun j _ hj => om); have er : qJ 0 0 0 0 (zs (yL a)) = run (yL a) := rfl; rw [er] at r1 r2 r3 r4; unfold show_ shown
 split
 ·exact parse_join goodN h
 ·rename_i hne
  generalize run (yL a) = q at r1 r2 r3 r4 hne ⊢; obtain ⟨f, t⟩ := q; simp only at r1 r2 r3 r4 hne ⊢; have hA : ∀ n ∈ (yL a).take f, n < 65536 := fun n hn => hlt n (List.mem_of_mem_take hn); have hB : ∀ n ∈ (yL a).drop t, n < 65536 := fun n hn => hlt n (List.mem_of_mem_drop hn); unfold parse; rw [cut_at _ (zBr goodN hA).1]; simp only; rw [row_join goodN _ hA, row_join goodN _ hB]; simp only; have hla : ((yL a).take f).length = f := by rw [yV]; omega
  have hlb : ((yL a).drop t).length = 8 - t := by rw [vZ]; omega
  rw [zH (by rw [hla, hlb]; simp; omega), hla, hlb]
  have hrep : (yL a).take f ++ List.replicate (8 - f - (8 - t)) 0 ++ (yL a).drop t = yL a := by
   apply wC; intro j
   rcases jQ j f with hj | hj
   ·rw [xQ, vV om, nK, zN hj]
   ·rcases jQ j t with hj2 | hj2
    ·rw [xQ, vD om, vV (by rw [vM]; omega), List.getElem?_replicate, zN om]
     have := r4 j hj hj2; unfold zs at this; rw [jL] at this
     cases hx : (yL a)[j]? with
     | none => rw [hx] at this; cases this
     | some x => rw [hx] at this; simp at this; rw [this]
    ·rw [vD (by rw [zG, vM]; omega), zG, vM, hla, fD]
     congr 1
     omega
  rw [hrep]; exact zEo 8 a om
theorem show_le {a : List UInt8} (h : a.length = 16) : 2 <= (show_ a).length /\ (show_ a).length <= 39 := by
 have hl := qW 8 a om; have hzl : (zs (yL a)).length = 8 := by simp [zs, hl]
 obtain ⟨r1, r2, r3, r4⟩ := rM (zs (yL a)) (zs (yL a)) 0 0 0 0 rfl om zn (fun j _ hj => om) zn zn (Or.inl rfl) (fun j _ hj => om); have er : qJ 0 0 0 0 (zs (yL a)) = run (yL a) := rfl; rw [er] at r1 r2 r3 r4; unfold show_ shown
 split
 ·have := sH kT (yL a); omega
 ·rename_i hne
  have h1 := sH kT ((yL a).take (run (yL a)).1); have h2 := sH kT ((yL a).drop (run (yL a)).2); rw [yV] at h1; rw [vZ] at h2; simp only [zG, zI]; omega
theorem splitC_pre {d : UInt8} : ∀ {x : List UInt8} (l : List UInt8), d ∉ x -> yY d (x ++ l) = (x ++ (yY d l).headD []) :: (yY d l).tail
 |[], l, _ => by
  have := bH d l; rw [yJ, yJ]
  cases h : yY d l with
  | nil => exact absurd h this
  | cons a b => rfl
 |c :: r, l, h => by
  have h1 : ¬ c = d := fun e => h (by simp [e]); have h2 : d ∉ r := fun e => h (by simp [e]); rw [yC, yY, zH h1, splitC_pre l h2]
  rfl
def bF (out : List UInt8) (n signs : Nat) : List UInt8 -> Option (List UInt8)
 | [] => if signs = 0 ∨ out.length = 4 then none else if out.length + 1 = 4 then some (out ++ [UInt8.ofNat n]) else none
 |c :: r =>
  if c.toNat = 46 then if signs = 0 ∨ out.length = 4 then none else bF (out ++ [UInt8.ofNat n]) 0 0 r
  else if c.toNat < 48 ∨ 57 < c.toNat ∨ (0 < signs /\ n = 0) then none
  else if 255 < 10 * n + (c.toNat - 48) then none
  else bF out (10 * n + (c.toNat - 48)) (signs + 1) r
theorem dec_lt' {m : Nat} (h : m < 10) : decDigits m = [UInt8.ofNat (48 + m)] := by rw [decDigits, dif_pos h]
theorem dec_ge' {m : Nat} (h : ¬ m < 10) : decDigits m = decDigits (m / 10) ++ [UInt8.ofNat (48 + m % 10)] := by rw [decDigits, dif_neg h]
theorem zAn (n : Nat) : (46 : UInt8) ∉ decDigits n := fun h => by have := qI n 46 h; simp at this
theorem fU {n : Nat} (h : n <= 255) : number (decDigits n) 255 = some (n : Int) := uD.2 ⟨om, om, om, zi⟩
theorem zBu : number [] 255 = none := by
 cases h : number [] 255 with
 | none => rfl
 | some v => exact absurd (uD.1 h).2.2.2.symm (aM _)
theorem dec_head : ∀ (v : Nat), 1 <= v -> (decDigits v).headD 0 ≠ 48 := by
 intro v
 induction v using Nat.strongRecOn with
 |_ v ih =>
  intro h1
  by_cases h : v < 10
  ·rw [dec_lt' h]
   simp only [mY]; intro e; have := yG UInt8.toNat e; rw [xM] at this; simp at this; omega
  ·rw [dec_ge' h]
   have := ih (v / 10) om om
   cases hd : decDigits (v / 10) with
   | nil => exact absurd hd (aM _)
   | cons a b => rw [hd] at this; simpa using this
theorem refNum_ge : ∀ (l : List UInt8) (acc k : Nat), fE acc l = some k -> acc <= k
 | [], acc, k, h => by simp only [fE] at h; cases h; exact yZ _
 |c :: r, acc, k, h => by
  simp only [fE] at h
  split at h
  ·cases h
  ·have := refNum_ge r _ k h
   omega
theorem number_bad {p : List UInt8} {c : UInt8} (hc : c ∈ p) (h : c.toNat < 48 ∨ 57 < c.toNat) : number p 255 = none := by
 cases hn : number p 255 with
 | none => rfl
 |some v =>
  obtain ⟨_, _, _, e⟩ := uD.1 hn; rw [e] at hc; have := qI _ c hc; omega
theorem number_zero {c : UInt8} (p : List UInt8) : number (48 :: c :: p) 255 = none := by
 cases hn : number (48 :: c :: p) 255 with
 | none => rfl
 |some v =>
  obtain ⟨_, _, _, e⟩ := uD.1 hn
  exfalso
  by_cases h : v.toNat < 10
  ·rw [dec_lt' h] at e; simp at e
  ·have := dec_head v.toNat om
   rw [← e] at this; exact this rfl
theorem number_great {u : Nat} (hu : 255 < u) (hm : u < 9223372036854775808) (q : List UInt8) : number (decDigits u ++ q) 255 = none := by
 cases hn : number (decDigits u ++ q) 255 with
 | none => rfl
 |some v =>
  obtain ⟨h0, h1, h2, e⟩ := uD.1 hn; have h3 := zBv v.toNat om; rw [← e, nL, zBv u hm] at h3; have := refNum_ge q u _ h3; omega
theorem zBo : ∀ (l out : List UInt8) (n signs : Nat) (part : List UInt8), (signs = 0 -> n = 0 /\ part = []) -> (0 < signs -> n <= 255 /\ part = decDigits n) ->
  bF out n signs l = uY out (yY 46 (part ++ l))
 |[], out, n, signs, part, h0, h1 => by
  rw [vC]
  by_cases hs : signs = 0
  ·obtain ⟨rfl, rfl⟩ := h0 hs
   simp only [bF, yY, uY, zBu]; rw [zN (Or.inl hs)]
  ·obtain ⟨hn, rfl⟩ := h1 om
   rw [aO (zAn n)]; simp only [bF, uY, fU hn, bE, zG, zI, xI]
   by_cases h4 : out.length = 4
   ·rw [zN (Or.inr h4), zN h4]
   ·rw [zH om, zH h4]
 |c :: r, out, n, signs, part, h0, h1 => by
  have hp : (46 : UInt8) ∉ part := by
   rcases rD signs with hs | hs
   ·rw [(h0 hs).2]; simp
   ·rw [(h1 hs).2]; exact zAn n
  unfold bF
  by_cases hc : c.toNat = 46
  ·have e : c = 46 := uH.1 hc
   subst e; rw [zN hc, fV r hp]
   by_cases hs : signs = 0
   ·obtain ⟨rfl, rfl⟩ := h0 hs
    rw [zN (Or.inl hs)]; simp only [uY, zBu]
   ·obtain ⟨hn, rfl⟩ := h1 om
    simp only [uY, fU hn, bE]
    by_cases h4 : out.length = 4
    ·rw [zN (Or.inr h4), zN h4]
    ·rw [zH om, zH h4, zBo r (out ++ [UInt8.ofNat n]) 0 0 [] (fun _ => ⟨rfl, rfl⟩) (fun h => om)]
     rfl
  ·have hc' : ¬ c = 46 := fun e => hc (by rw [e]; rfl)
   have hsp : yY 46 (part ++ c :: r) = (part ++ c :: (yY 46 r).headD []) :: (yY 46 r).tail := by
    rw [splitC_pre _ hp]; simp only [yY]; rw [zH hc']
    rfl
   rw [zH hc]
   split
   ·rename_i hb
    rw [hsp]; simp only [uY]
    rcases jQ c.toNat 48 with h | h
    ·rw [number_bad (c := c) zi (Or.inl h)]
    ·rcases jQ 57 c.toNat with h' | h'
     ·rw [number_bad (c := c) zi (Or.inr h')]
     ·obtain ⟨hs, rfl⟩ : 0 < signs /\ n = 0 := om
      obtain ⟨_, rfl⟩ := h1 hs; rw [show decDigits 0 = [48] by rw [dec_lt' om]; rfl, tJ, number_zero]
   ·rename_i hb
    have hext : part ++ [c] = decDigits (10 * n + (c.toNat - 48)) := by
     rcases rD signs with hs | hs
     ·obtain ⟨rfl, rfl⟩ := h0 hs
      rw [dec_lt' om, yJ]
      congr 1
      apply uH.1; rw [xM]; omega
     ·obtain ⟨hn, rfl⟩ := h1 hs
      rw [dec_ge' (m := 10 * n + (c.toNat - 48)) om, show (10 * n + (c.toNat - 48)) / 10 = n from om]
      congr 2
      apply uH.1; rw [xM]; omega
    split
    ·rename_i hg
     rw [hsp, show part ++ c :: (yY 46 r).headD [] = (part ++ [c]) ++ (yY 46 r).headD [] from zi, hext]; simp only [uY]
     rw [number_great hg (by
                 have := c.toNat_lt; have : n <= 255 := by
                  rcases rD signs with hs | hs
                  ·rw [(h0 hs).1]; omega
                  ·exact (h1 hs).1
                 omega)]
    ·rename_i hg
     rw [show part ++ c :: r = (part ++ [c]) ++ r from zi]; exact zBo r out _ (signs + 1) _ (fun h => om) (fun _ => ⟨om, hext⟩)
theorem dotScan_dotted (l : List UInt8) : bF [] 0 0 l = xZ l := by
 rw [zBo l [] 0 0 [] (fun _ => ⟨rfl, rfl⟩) (fun h => om)]; rfl
def up (cap : Bool) (c : UInt8) : UInt8 := if cap = true /\ 97 <= c.toNat then c - 32 else c
def four (cap : Bool) (n : Nat) : List UInt8 := [up cap (letter (n / 4096)), up cap (letter (n / 256 % 16)), up cap (letter (n / 16 % 16)), up cap (letter (n % 16))]
def ddAt (l : List UInt8) (j : Nat) : Prop := l[j]? = some 58 /\ l[j + 1]? = some 58
instance (l : List UInt8) (j : Nat) : Decidable (ddAt l j) := by unfold ddAt; infer_instance
theorem zGl (b : UInt8) (l : List UInt8) : List.isPrefixOf [58, 58] (b :: l) = decide (ddAt (b :: l) 0) := by
 cases l with
 | nil => simp [List.isPrefixOf, ddAt]
 |cons c r =>
  simp only [List.isPrefixOf, Bool.and_true, ddAt, xA, xW, uX]
  by_cases h1 : b = 58
  ·by_cases h2 : c = 58
   ·simp [h1, h2]
   ·simp [h1, h2, bD h2]
  ·simp [h1, bD h1]
theorem dd_succ (b : UInt8) (l : List UInt8) (j : Nat) : ddAt (b :: l) (j + 1) ↔ ddAt l j := by
 unfold ddAt; simp
theorem zFv : ∀ (l : List UInt8), (∀ j, ¬ ddAt l j) -> index l [58, 58] = -1
 | [], _ => by simp [index]
 |b :: l, h => by
  rw [index, zGl, zM (h 0), zFv l fun j hj => h (j + 1) ((dd_succ b l j).2 hj)]
  rfl
theorem zFa : ∀ (l : List UInt8) (j : Nat), ddAt l j -> (∀ i, i < j -> ¬ ddAt l i) -> index l [58, 58] = j
 | [], j, h, _ => by unfold ddAt at h; simp at h
 |b :: l, 0, h, _ => by
  rw [index, zGl, zV h]; rfl
 |b :: l, j + 1, h, hn => by
  rw [index, zGl, zM (hn 0 om), zFa l j ((dd_succ b l j).1 h) fun i hi hd => hn (i + 1) om ((dd_succ b l i).2 hd)]; simp
theorem cut_no_dd {l : List UInt8} (h : ∀ j, ¬ ddAt l j) : cut l [58, 58] = (l, [], false) := by
 unfold cut; rw [zFv l h, zH om]
theorem cut_at_dd {l : List UInt8} {j : Nat} (h : ddAt l j) (hn : ∀ i, i < j -> ¬ ddAt l i) : cut l [58, 58] = (l.take j, l.drop (j + 2), true) := by
 unfold cut; rw [zFa l j h hn, zN om]; simp
def ofB (L : List Int) : List UInt8 := L.flatMap fun n => [UInt8.ofNat (n.toNat / 256), UInt8.ofNat (n.toNat % 256)]
theorem oN : ∀ L : List Int, (ofB L).length = 2 * L.length
 | [] => rfl
 |n :: r => by
  have := oN r; unfold ofB at this ⊢; rw [vT, zG, this]; simp only [zI, xI]; omega
theorem ofB_get : ∀ (L : List Int) (k : Nat) (n : Int), L[k]? = some n -> (ofB L)[2 * k]? = some (UInt8.ofNat (n.toNat / 256)) /\ (ofB L)[2 * k + 1]? = some (UInt8.ofNat (n.toNat % 256))
 | [], k, n, h => by simp at h
 | m :: r, 0, n, h => by simp at h; subst h; simp [ofB]
 |m :: r, k + 1, n, h => by
  have ih := ofB_get r k n (by simpa using h); have e : ofB (m :: r) = UInt8.ofNat (m.toNat / 256) :: UInt8.ofNat (m.toNat % 256) :: ofB r := rfl; rw [e, show 2 * (k + 1) = 2 * k + 1 + 1 from om, xW, xW, xW, xW]; exact ih
theorem ofB_take (L : List Int) (k : Nat) (n : Int) (h : L[k]? = some n) : ofB (L.take (k + 1)) = ofB (L.take k) ++ [UInt8.ofNat (n.toNat / 256), UInt8.ofNat (n.toNat % 256)] := by
 obtain ⟨hk, e⟩ := zL.1 h; unfold ofB; rw [yA hk, uI, e]; simp
theorem of_eq : ∀ L : List Int, of L = if ∀ n ∈ L, 0 <= n /\ n <= 65535 then some (ofB L) else none
 | [] => by simp [of, ofB]
 |n :: r => by
  rw [of, of_eq r]
  by_cases hn : n < 0 ∨ 65535 < n
  ·rw [zN hn, zH]
   intro h; have := h n zi; omega
  ·rw [zH hn]
   by_cases hr : ∀ m ∈ r, 0 <= m /\ m <= 65535
   ·rw [zN hr, zN]
    ·rfl
    ·intro m hm
     rcases yR.1 hm with rfl | hm
     ·omega
     ·exact hr m hm
   ·rw [zH hr, zH]
    ·rfl
    ·intro h; exact hr fun m hm => h m (by simp [hm])
theorem of_bad {L : List Int} {k : Nat} {n : Int} (h : L[k]? = some n) (hn : n < 0 ∨ 65535 < n) : of L = none := by
 rw [of_eq, zH]; intro hh; have := hh n (uA h); omega
theorem of_good {L : List Int} (h : ∀ (k : Nat) (n : Int), L[k]? = some n -> 0 <= n /\ n <= 65535) : of L = some (ofB L) := by
 rw [of_eq, zN]; intro n hn; obtain ⟨k, hk⟩ := List.getElem?_of_mem hn; exact h k n hk
theorem bytes_two (x : Nat) (h : x < 65536) : OctetPlain.bytes x 2 = [UInt8.ofNat (x / 256), UInt8.ofNat (x % 256)] := by
 show OctetPlain.bytes (x / 256 / 256) 0 ++ [UInt8.ofNat (x / 256 % 256)] ++ [UInt8.ofNat (x % 256)] = _
 rw [sK (show x / 256 < 256 from om)]
 rfl
theorem mF (l : List Nat) : (zs l).length = l.length := by simp [zs]
theorem run_ref {l : List Nat} (h : l.length = 8) : run l = ((aZ 0 0 0 (zs l)).1, (aZ 0 0 0 (zs l)).1 + (aZ 0 0 0 (zs l)).2) := by
 have hz : (zs l).length = 8 := by rw [mF, h]
 unfold run; generalize zs l = z at hz ⊢
 match z, hz with
 | [a, b, c, d, e, f, g, i], _ => exact run_eq8 a b c d e f g i
theorem zEj : ∀ l : List Bool, sN l <= l.length
 | [] => yZ _
 | true :: r => by have := zEj r; simp [sN]; omega
 | false :: r => by simp [sN]
theorem lH : ∀ (r : List Bool) (i a n : Nat), a + n <= i + r.length -> (aZ i a n r).1 + (aZ i a n r).2 <= i + r.length
 | [], i, a, n, h => by simpa [aZ] using h
 |z :: r, i, a, n, h => by
  rw [aZ]; have hz := zEj (z :: r)
  split
  ·have := lH r (i + 1) i (sN (z :: r)) (by simp only [zI] at hz ⊢; omega)
   simp only [zI]; omega
  ·have := lH r (i + 1) a n (by simp only [zI] at h; omega)
   simp only [zI]; omega
theorem hexN_low1 {u : Nat} (h : u < 16) : hexN u = [letter u] := by unfold hexN; rw [zN h]
theorem hexN_step {u : Nat} (h : 16 <= u) (h2 : u < 65536) : hexN u = hexN (u / 16) ++ [letter (u % 16)] := by
 unfold hexN; have n16 : ¬ u < 16 := om
 by_cases h1 : u < 256
 ·have a1 : u / 16 < 16 := om
  rw [zH n16, zN h1, zN a1]; rfl
 ·have a1 : ¬ u / 16 < 16 := om
  by_cases h3 : u < 4096
  ·have a2 : u / 16 < 256 := om
   rw [zH n16, zH h1, zN h3, zH a1, zN a2, bS]; rfl
  ·have a2 : ¬ u / 16 < 256 := om
   have a3 : u / 16 < 4096 := om; rw [zH n16, zH h1, zH h3, zH a1, zH a2, zN a3, bS, bS]
   rfl
def strike : List UInt8 -> List UInt8
 | c :: d :: r => if c = 48 then strike (d :: r) else c :: d :: r
 | l => l
theorem strike_hex : ∀ (n : Nat), n < 65536 -> strike (hex (OctetPlain.bytes n 2)) = hexN n := by
 intro n h; rw [bytes_two n h]; have e1 : (UInt8.ofNat (n / 256)).toNat = n / 256 := by rw [xM]; omega
 have e2 : (UInt8.ofNat (n % 256)).toNat = n % 256 := by rw [xM]; omega
 have hl : ∀ m : Nat, m < 16 -> (letter m = 48 ↔ m = 0) := by
  have : ∀ m : Fin 16, (letter m = 48 ↔ (m : Nat) = 0) := zd; exact fun m hm => this ⟨m, hm⟩
 simp only [hex, e1, e2]; have a1 : n / 256 / 16 = n / 4096 := by rw [bS]
 have a3 : n % 256 / 16 = n / 16 % 16 := om; have a4 : n % 256 % 16 = n % 16 := om; rw [a1, a3, a4]; unfold hexN
 by_cases h1 : n < 4096
 ·have z1 : n / 4096 = 0 := om
  rw [z1, show letter 0 = 48 from rfl]; simp only [strike, aB]
  by_cases h2 : n < 256
  ·have z2 : n / 256 % 16 = 0 := om
   rw [z2, show letter 0 = 48 from rfl]; simp only [strike, aB]
   by_cases h3 : n < 16
   ·have z3 : n / 16 % 16 = 0 := om
    rw [z3, show letter 0 = 48 from rfl]; simp only [strike, aB]; rw [zN h3, sK h3]
   ·rw [zH (fun e => by have := (hl _ om).1 e; omega), zH h3, zN h2, sK (show n / 16 < 16 from om)]
  ·rw [zH (fun e => by have := (hl _ om).1 e; omega), zH om, zH h2, zN h1, sK (show n / 256 < 16 from om)]
 ·simp only [strike]
  rw [zH (fun e => by have := (hl _ om).1 e; omega), zH om, zH om, zH h1]
theorem dig_idx : ∀ n : Fin 128, (if 65 <= (n : Nat) /\ (n : Nat) <= 70 then ((n : Nat) : Int) - 65 + 10 else Lib.indexByte [48, 49, 50, 51, 52, 53, 54, 55, 56, 57, 97, 98, 99, 100, 101, 102] (UInt8.ofNat n)) = dig (UInt8.ofNat n) := by decide +kernel
theorem zFb (last : Bool) : ∀ (ps : List (List UInt8)) (out L : List Nat), uL last out ps = some L -> L.length <= out.length + 2 * ps.length
 | [], out, L, h => by cases h; simp
 |p :: ps, out, L, h => by
  rw [uL] at h
  cases hg : group p with
  |some n =>
   rw [hg] at h; have := zFb last ps _ L h; simp only [zG, zI, xI] at this ⊢; omega
  |none =>
   rw [hg] at h
   cases hd : xZ p with
   | none => rw [hd] at h; cases h
   |some a =>
    rw [hd] at h; simp only at h
    split at h
    ·cases h; simp; omega
    ·cases h
theorem zEb {last : Bool} {l : List UInt8} {L : List Nat} (h : row last l = some L) : L.length <= 2 * (l.length + 1) := by
 unfold row at h
 split at h
 ·cases h; simp
 ·have h1 := zFb last _ [] L h
  have h2 := lM 58 l; rw [count_one] at h2; have h3 := aK (a := (58 : UInt8)) (l := l); simp at h1; omega
theorem zFj (last : Bool) : ∀ (ps : List (List UInt8)) (out L : List Nat), (∀ n ∈ out, n < 65536) -> uL last out ps = some L -> ∀ n ∈ L, n < 65536
 | [], out, L, ho, h => by cases h; exact ho
 |p :: ps, out, L, ho, h => by
  rw [uL] at h
  cases hg : group p with
  |some n =>
   rw [hg] at h; refine zFj last ps _ L (fun x hx => ?_) h
   rcases xR.1 hx with hx | hx
   ·exact ho x hx
   ·rw [xS.1 hx]; exact group_lt hg
  |none =>
   rw [hg] at h
   cases hd : xZ p with
   | none => rw [hd] at h; cases h
   |some a =>
    rw [hd] at h; simp only at h
    split at h
    ·cases h
     intro x hx; have b0 := (a.getD 0 0).toNat_lt; have b1 := (a.getD 1 0).toNat_lt; have b2 := (a.getD 2 0).toNat_lt; have b3 := (a.getD 3 0).toNat_lt
     rcases xR.1 hx with hx | hx
     ·exact ho x hx
     ·simp only [yR, jV, mW] at hx
      rcases hx with rfl | rfl <;> omega
    ·cases h
theorem row_lt {last : Bool} {l : List UInt8} {L : List Nat} (h : row last l = some L) : ∀ n ∈ L, n < 65536 := by
 unfold row at h
 split at h
 ·cases h; simp
 ·exact zFj last _ [] L zi h
theorem pG (a b : List Nat) : ints (a ++ b) = ints a ++ ints b := by simp [ints]
theorem ints_rep (n : Nat) : ints (List.replicate n 0) = List.replicate n 0 := by simp [ints]
theorem ints_len' (G : List Nat) : (ints G).length = G.length := by simp [ints]
theorem rJ {s : List UInt8} (h : row (!(cut s [58, 58]).2.2) (cut s [58, 58]).1 = none) : parse s = none := by
 unfold parse; rw [h]
theorem pY {s : List UInt8} (h : row true (cut s [58, 58]).2.1 = none) : parse s = none := by
 unfold parse; rw [h]; split <;> simp_all
theorem oC {s : List UInt8} {a b : List Nat} (ha : row (!(cut s [58, 58]).2.2) (cut s [58, 58]).1 = some a) (hb : row true (cut s [58, 58]).2.1 = some b) :
  parse s = if ((cut s [58, 58]).2.2 = true /\ 7 < a.length + b.length) ∨ ((cut s [58, 58]).2.2 = false /\ a.length + b.length ≠ 8) then none else of (ints (a ++ List.replicate (8 - a.length - b.length) 0 ++ b)) := by
 unfold parse; rw [ha, hb]
theorem cut_le (s : List UInt8) : (cut s [58, 58]).1.length <= s.length /\ (cut s [58, 58]).2.1.length <= s.length := by
 unfold cut
 split
 ·constructor
  ·simp only [yV]; omega
  ·simp only [vZ]; omega
 ·simp
theorem fill_front {a : List Nat} (h : a.length <= 8) : (List.replicate 8 (0 : Int)).take 0 ++ ints a ++ (List.replicate 8 (0 : Int)).drop (0 + (ints a).length) = ints a ++ List.replicate (8 - a.length) 0 := by
 rw [pU, yJ, zCe, ints_len', List.drop_replicate]
theorem fill_back {a b : List Nat} {q : Nat} (h : a.length + b.length <= 8) (hq : q + b.length = 8) :
  (ints a ++ List.replicate (8 - a.length) 0).take q ++ ints b ++ (ints a ++ List.replicate (8 - a.length) 0).drop (q + (ints b).length) = ints (a ++ List.replicate (8 - a.length - b.length) 0 ++ b) := by
 rw [pG, pG, ints_rep, ints_len']; have hl : (ints a ++ List.replicate (8 - a.length) (0 : Int)).length = 8 := by rw [zG, ints_len', vM]; omega
 rw [yO om, vC, List.take_append, xY (by rw [ints_len']; omega), ints_len', List.take_replicate]
 congr 3
 omega
theorem aN {s c : List UInt8} (h : parse s = some c) : c.length = 16 := by
 unfold parse at h
 split at h
 ·rename_i a b ha hb
  split at h
  ·cases h
  ·rename_i hn
   have h1 := zBc _ _ h
   have h2 : (ints (a ++ List.replicate (8 - a.length - b.length) 0 ++ b)).length = 8 := by
    rw [ints_len', zG, zG, vM]
    cases hp : (cut s [58, 58]).2.2
    ·rw [hp] at hn; simp at hn; omega
    ·rw [hp] at hn; simp at hn; omega
   omega
 ·cases h
end Go.ColonPlain
namespace Go.Proofs.YtdbgeobolongmaaGreatDoor.Hp
open Go Go.OctetPlain
structure St where
 h : Hop
 part : Int
def wd (s : St) (w : Wd) : St :=
 if w = wPort then { s with part := 1 } else if w = wBackup then { s with part := 2 } else if w = wPipe then { s with h := { s.h with pipe := true } }
 else match number w 1048575 with
  | none => s
  |some n => if s.part = 0 then { s with h := { s.h with labels := s.h.labels ++ [n] } } else if s.part = 1 then { s with h := { s.h with port := n } }
   else if s.part = 2 then ⟨{ s.h with backup := n }, 3⟩ else { s with h := { s.h with repair := s.h.repair ++ [n] } }
def opV (w : Wd) : Int := match opOf w with | some n => n | none => -1
def st0 (w : Wd) : St := ⟨⟨opV w, [], 0, -1, [], false⟩, 0⟩
def interp : List Wd -> Hop
 | [] => ⟨-1, [], 0, -1, [], false⟩
 | w :: ws => ((ws.take 59).foldl wd (st0 w)).h
def refParse (s : List UInt8) : Option Hop := if checkR (interp (spl s)) = 0 /\ showR (interp (spl s)) = s then some (interp (spl s)) else none
theorem dec_ne_w {n : Int} {w : Wd} (hw : number w 1048575 = none) (h0 : 0 <= n) (h1 : n <= 1048575) : dec n ≠ w := fun e => by
 have := fU h0 h1; rw [e, hw] at this
 cases this
theorem wd_dec {s : St} {n : Int} (h0 : 0 <= n) (h1 : n <= 1048575) : wd s (dec n) = if s.part = 0 then { s with h := { s.h with labels := s.h.labels ++ [n] } } else if s.part = 1 then { s with h := { s.h with port := n } }
   else if s.part = 2 then ⟨{ s.h with backup := n }, 3⟩ else { s with h := { s.h with repair := s.h.repair ++ [n] } } := by
 unfold wd; rw [zH (dec_ne_w num_wPort h0 h1), zH (dec_ne_w zEu h0 h1), zH (dec_ne_w num_wPipe h0 h1), fU h0 h1]
theorem run_labels : ∀ (L : List Int) (h : Hop), (∀ n ∈ L, 0 <= n /\ n <= 1048575) -> (L.map dec).foldl wd ⟨h, 0⟩ = ⟨{ h with labels := h.labels ++ L }, 0⟩
 | [], h, _ => zi
 |n :: L, h, hl => by
  have hn := hl n yH; rw [yM, rW, wd_dec hn.1 hn.2, zN rfl, run_labels L _ fun k hk => hl k (yP _ hk)]; simp
theorem run_repair : ∀ (L : List Int) (h : Hop), (∀ n ∈ L, 0 <= n /\ n <= 1048575) -> (L.map dec).foldl wd ⟨h, 3⟩ = ⟨{ h with repair := h.repair ++ L }, 3⟩
 | [], h, _ => zi
 |n :: L, h, hl => by
  have hn := hl n yH; rw [yM, rW, wd_dec hn.1 hn.2, zH (show ¬ (3 : Int) = 0 from zd), zH (show ¬ (3 : Int) = 1 from zd), zH (show ¬ (3 : Int) = 2 from zd), run_repair L _ fun k hk => hl k (yP _ hk)]; simp
theorem interp_show {h : Hop} (v : Valid h) : interp (showW h) = h := by
 obtain ⟨op, L, P, B, R, C⟩ := h; obtain ⟨o0, o3, l1, l2, n1, n2, p1, p2, q0, q1, q3, b0, b1, b3, b4, b5⟩ := v; simp only at *; have hs : showW ⟨op, L, P, B, R, C⟩ = opW op :: (L.map dec ++ ((if op ≠ 3 then [wPort, dec P] else []) ++ ((if B ≠ -1 then wBackup :: dec B :: R.map dec else []) ++ (if C = true then [wPipe] else [])))) := by unfold showW; simp
 have hlen : (L.map dec ++ ((if op ≠ 3 then [wPort, dec P] else []) ++ ((if B ≠ -1 then wBackup :: dec B :: R.map dec else []) ++ (if C = true then [wPipe] else [])))).length <= 59 := by
  simp only [zG, yX]
  split <;> split <;> split <;> simp <;> omega
 rw [hs, interp, xY hlen, zGh, zGh, zGh]; have hop : opV (opW op) = op := by unfold opV; rw [opOf_opW o0 o3]
 rw [st0, hop, run_labels L _ fun n hn => pushed_bd (p1 n hn)]; simp only [yJ]
 have h1 : ∃ pt, (if op ≠ 3 then [wPort, dec P] else []).foldl wd ⟨⟨op, L, 0, -1, [], false⟩, 0⟩ = ⟨⟨op, L, P, -1, [], false⟩, pt⟩ := by
  by_cases ho : op = 3
  ·rw [zH (by simpa using ho), q3 ho]; exact ⟨0, rfl⟩
  ·rw [zN ho]
   refine ⟨1, ?_⟩; rw [rW, rW, List.foldl_nil]; have : wd ⟨⟨op, L, 0, -1, [], false⟩, 0⟩ wPort = ⟨⟨op, L, 0, -1, [], false⟩, 1⟩ := by unfold wd; rw [zN rfl]
   rw [this, wd_dec q0 om, zH (show ¬ (1 : Int) = 0 from zd), zN rfl]
 obtain ⟨pt, h1⟩ := h1; rw [h1]
 have h2 : ∃ pt', (if B ≠ -1 then wBackup :: dec B :: R.map dec else []).foldl wd ⟨⟨op, L, P, -1, [], false⟩, pt⟩ = ⟨⟨op, L, P, B, R, false⟩, pt'⟩ := by
  by_cases hb : B = -1
  ·rw [zH (by simpa using hb), b4 hb, hb]; exact ⟨pt, rfl⟩
  ·rw [zN hb]
   refine ⟨3, ?_⟩; rw [rW, rW]; have : wd ⟨⟨op, L, P, -1, [], false⟩, pt⟩ wBackup = ⟨⟨op, L, P, -1, [], false⟩, 2⟩ := by unfold wd; rw [zH zd, zN rfl]
   rw [this, wd_dec om om, zH (show ¬ (2 : Int) = 0 from zd), zH (show ¬ (2 : Int) = 1 from zd), zN rfl, run_repair R _ fun n hn => pushed_bd (p2 n hn)]; simp
 obtain ⟨pt', h2⟩ := h2; rw [h2]
 cases C
 ·rfl
 ·simp only [aB, rW, List.foldl_nil]
  unfold wd; rw [zH zd, zH zd, zN rfl]
theorem refParse_eq (s : List UInt8) : refParse s = parseR s := by
 have key : ∀ h, refParse s = some h ↔ parseR s = some h := fun h => by
  rw [parseR_iff]; unfold refParse
  constructor
  ·intro hr
   split at hr
   ·cases hr; assumption
   ·cases hr
  ·rintro ⟨h1, h2⟩
   have hi : interp (spl s) = h := by
    rw [← h2, showR, wE _ (zCp h) (oD h)]; exact interp_show ((check_iff h).1 h1)
   rw [hi, zN ⟨h1, h2⟩]
 cases hp : parseR s with
 | some h => exact (key h).2 hp
 |none =>
  cases hr : refParse s with
  | none => rfl
  | some h => rw [(key h).1 hr] at hp; cases hp
def guarded (h : Hop) (by_ : Int) (rep : List Int) : Hop := { h with backup := by_, repair := rep }
end Go.Proofs.YtdbgeobolongmaaGreatDoor.Hp
namespace Go.PrefixPlain
def zDd (left : Nat) : UInt8 := UInt8.ofNat (65280 >>> left)
def leftN (bits : Int) (i : Nat) : Nat := (min (max (bits - 8 * i) 0) 8).toNat
def first (a : List UInt8) (bits : Int) : List UInt8 := a.mapIdx fun i c => c &&& zDd (leftN bits i)
def bitB (c : UInt8) (j : Nat) : Nat := (c.toNat >>> (7 - j)) % 2
def bitN (a : List UInt8) (i : Nat) : Nat := bitB (a.getD (i / 8) 0) (i % 8)
def bit (a : List UInt8) (i : Int) : Int := if i < 0 ∨ 128 <= i then 0 else bitN a i.toNat
theorem jR (a : List UInt8) (n : Int) : (first a n).length = a.length := by simp [first]
theorem first_get {a : List UInt8} {i : Nat} {c : UInt8} (n : Int) (h : a[i]? = some c) : (first a n)[i]? = some (c &&& zDd (leftN n i)) := by simp [first, h]
theorem bitB_lt (c : UInt8) (j : Nat) : bitB c j < 2 := zDm _ om
theorem bitB_keep : ∀ (c : Fin 256) (left : Fin 9) (j : Fin 8), bitB (UInt8.ofNat c &&& zDd left) j = if (j : Nat) < left then bitB (UInt8.ofNat c) j else 0 := by decide +kernel
theorem byte_sum : ∀ c : Fin 256, (c : Nat) = 128 * bitB (UInt8.ofNat c) 0 + 64 * bitB (UInt8.ofNat c) 1 + 32 * bitB (UInt8.ofNat c) 2 + 16 * bitB (UInt8.ofNat c) 3 + 8 * bitB (UInt8.ofNat c) 4 + 4 * bitB (UInt8.ofNat c) 5 + 2 * bitB (UInt8.ofNat c) 6 + bitB (UInt8.ofNat c) 7 := by decide +kernel
theorem of_nat (c : UInt8) : UInt8.ofNat ((⟨c.toNat, c.toNat_lt⟩ : Fin 256) : Nat) = c := zi
theorem byte_ext {c d : UInt8} (h : ∀ j, j < 8 -> bitB c j = bitB d j) : c = d := by
 have hc := byte_sum ⟨c.toNat, c.toNat_lt⟩; have hd := byte_sum ⟨d.toNat, d.toNat_lt⟩; rw [of_nat] at hc hd; rw [h 0 om, h 1 om, h 2 om, h 3 om, h 4 om, h 5 om, h 6 om, h 7 om, ← hd] at hc; exact uH.1 hc
theorem leftN_le (n : Int) (i : Nat) : leftN n i < 9 := by unfold leftN; omega
theorem bitN_lt (a : List UInt8) (i : Nat) : bitN a i < 2 := bitB_lt _ _
theorem bitN_first {a : List UInt8} (ha : a.length = 16) (n : Int) {i : Nat} (hi : i < 128) : bitN (first a n) i = if (i : Int) < n then bitN a i else 0 := by
 obtain ⟨c, hc⟩ : ∃ c, a[i / 8]? = some c := ⟨_, zA om⟩; have h1 := first_get n hc; have h2 := bitB_keep ⟨c.toNat, c.toNat_lt⟩ ⟨leftN n (i / 8), leftN_le _ _⟩ ⟨i % 8, zDm _ om⟩; rw [of_nat] at h2; simp only [bitN, vP, h1, hc, vI, h2]; have : (i % 8 < leftN n (i / 8)) ↔ (i : Int) < n := by unfold leftN; omega
 simp only [this]
theorem list_ext {a b : List UInt8} (ha : a.length = 16) (hb : b.length = 16) (h : ∀ i, i < 128 -> bitN a i = bitN b i) : a = b := by
 apply wC; intro k
 by_cases hk : k < 16
 ·rw [zA om, zA om]
  congr 1
  apply byte_ext; intro j hj; have := h (8 * k + j) om; have e1 : (8 * k + j) / 8 = k := om; have e2 : (8 * k + j) % 8 = j := om
  simpa [bitN, e1, e2, vP, zA (show k < a.length from om), zA (show k < b.length from om)] using this
 ·rw [jY om, jY om]
theorem first_self {a : List UInt8} (ha : a.length = 16) (n : Int) : first a n = a ↔ ∀ i : Nat, i < 128 -> n <= (i : Int) -> bitN a i = 0 := by
 constructor
 ·intro h i hi hn
  have h1 := bitN_first ha n hi; rw [h, zH om] at h1; exact h1
 ·intro h
  refine list_ext (by rw [jR, ha]) ha fun i hi => ?_; rw [bitN_first ha n hi]
  split
  ·rfl
  ·exact (h i hi om).symm
structure Pf where
 six : Bool
 addr : List UInt8
 len : Int
deriving DecidableEq
def most (six : Bool) : Int := if six then 128 else 32
def ok (p : Pf) : Prop := 0 <= p.len /\ p.len <= most p.six /\ first p.addr p.len = p.addr
instance (p : Pf) : Decidable (ok p) := by unfold ok; infer_instance
def has (p : Pf) (a : List UInt8) : Bool := decide (first p.addr p.len = first a p.len)
theorem most_pos (six : Bool) : 32 <= most six /\ most six <= 128 := by unfold most; split <;> omega
theorem ok_bits {p : Pf} (h : p.addr.length = 16) : ok p ↔ 0 <= p.len /\ p.len <= most p.six /\ ∀ i : Nat, i < 128 -> p.len <= (i : Int) -> bitN p.addr i = 0 := by
 unfold ok; rw [first_self h]
open Go.OctetPlain Go.ColonPlain Go.Lib
def dotJ : List (List UInt8) -> List UInt8
 | [] => []
 | [p] => p
 | p :: q :: r => p ++ 46 :: dotJ (q :: r)
def qP (a : List UInt8) : List UInt8 := dotJ (a.map fun c => decDigits c.toNat)
theorem zFd {a : List UInt8} (h : a.length = 4) : xZ (qP a) = some a := by
 match a, h with
 |[a, b, c, d], _ =>
  have e : yY 46 (qP [a, b, c, d]) = [decDigits a.toNat, decDigits b.toNat, decDigits c.toNat, decDigits d.toNat] := by
   unfold qP; simp only [yM, xH, dotJ]; rw [fV _ (zAn _), fV _ (zAn _), fV _ (zAn _), aO (zAn _)]
  have ha := a.toNat_lt; have hb := b.toNat_lt; have hc := c.toNat_lt; have hd := d.toNat_lt; unfold xZ; rw [e]; simp only [uY]; rw [fU (show a.toNat <= 255 from om)]; simp only [uY, xI, yJ]; rw [fU (show b.toNat <= 255 from om)]; simp [uY]; rw [fU (show c.toNat <= 255 from om)]; simp [uY]; rw [fU (show d.toNat <= 255 from om)]; simp [uY]
def aW (p : Pf) : List UInt8 := if p.six = true then show_ p.addr else qP (p.addr.take 4)
def fC (p : Pf) : List UInt8 := aW p ++ 47 :: itoa p.len
def bU (s : List UInt8) : Option (Bool × List UInt8) := match parse s with
 | some a => some (true, a)
 |none => match xZ s with
  | some a => some (false, a ++ List.replicate 12 0)
  | none => none
def vR (s : List UInt8) : Option Pf := match bU (cut s [47]).1 with
 | none => none
 |some (six, a) => match number (cut s [47]).2.1 128 with
  | none => none
  | some n => if ok ⟨six, a, n⟩ then some ⟨six, a, n⟩ else none
theorem zBa (d : UInt8) : ∀ {l : List UInt8} {c : UInt8}, c ∈ l -> c = d ∨ ∃ p ∈ yY d l, c ∈ p
 |x :: r, c, h => by
  by_cases hx : x = d
  ·subst hx
   rcases yR.1 h with rfl | h
   ·exact Or.inl rfl
   ·rcases zBa x h with h | ⟨p, hp, hc⟩
    ·exact Or.inl h
    ·refine Or.inr ⟨p, ?_, hc⟩
     simp [yY, hp]
  ·have e : yY d (x :: r) = (x :: (yY d r).headD []) :: (yY d r).tail := by simp [yY, hx]
   rcases yR.1 h with rfl | h
   ·exact Or.inr ⟨_, by rw [e]; exact yH, yH⟩
   ·rcases zBa d h with h | ⟨p, hp, hc⟩
    ·exact Or.inl h
    ·have hne := bH d r
     cases hs : yY d r with
     | nil => exact absurd hs hne
     |cons a b =>
      rw [hs] at hp
      rcases yR.1 hp with rfl | hp
      ·exact Or.inr ⟨_, by rw [e]; exact yH, by rw [hs]; exact yP _ hc⟩
      ·exact Or.inr ⟨p, by rw [e, hs]; exact yP _ hp, hc⟩
theorem zCk {p : List UInt8} {m v : Int} (h : number p m = some v) : ∀ c ∈ p, 48 <= c.toNat /\ c.toNat <= 57 := by
 obtain ⟨_, _, _, e⟩ := uD.1 h; rw [e]; exact qI _
theorem zAd : ∀ (ps : List (List UInt8)) (out a : List UInt8), uY out ps = some a -> ∀ p ∈ ps, ∀ c ∈ p, 48 <= c.toNat /\ c.toNat <= 57
 | [], out, a, h, p, hp => by cases hp
 |q :: ps, out, a, h, p, hp => by
  simp only [uY] at h
  cases hn : number q 255 with
  | none => rw [hn] at h; cases h
  |some n =>
   rw [hn] at h; simp only at h
   split at h
   ·cases h
   ·rcases yR.1 hp with rfl | hp
    ·exact zCk hn
    ·exact zAd ps _ a h p hp
theorem wV {l a : List UInt8} (h : xZ l = some a) : ∀ c ∈ l, c = 46 ∨ (48 <= c.toNat /\ c.toNat <= 57) := by
 intro c hc
 rcases zBa 46 hc with h1 | ⟨p, hp, hcp⟩
 ·exact Or.inl h1
 ·exact Or.inr (zAd _ _ a h p hp c hcp)
theorem zFc : ∀ (l : List UInt8) (n s m : Nat), jC n s l = some m -> ∀ c ∈ l, 0 <= dig c
 | [], n, s, m, h, c, hc => by cases hc
 |x :: r, n, s, m, h, c, hc => by
  unfold jC at h
  split at h
  ·cases h
  ·rcases yR.1 hc with rfl | hc
   ·omega
   ·exact zFc r _ _ m h c hc
def Fine (c : UInt8) : Prop := c = 58 ∨ c = 46 ∨ (48 <= c.toNat /\ c.toNat <= 57) ∨ 0 <= dig c
theorem lW (last : Bool) : ∀ (ps : List (List UInt8)) (out L : List Nat), uL last out ps = some L -> ∀ p ∈ ps, ∀ c ∈ p, Fine c
 | [], out, L, h, p, hp => by cases hp
 |q :: ps, out, L, h, p, hp => by
  rw [uL] at h
  cases hg : group q with
  |some n =>
   rw [hg] at h
   rcases yR.1 hp with rfl | hp
   ·exact fun c hc => Or.inr (Or.inr (Or.inr (zFc _ _ _ _ hg c hc)))
   ·exact lW last ps _ L h p hp
  |none =>
   rw [hg] at h
   cases hd : xZ q with
   | none => rw [hd] at h; cases h
   |some a =>
    rw [hd] at h; simp only at h
    split at h
    ·rename_i hl
     rw [hl.2] at hp
     rcases yR.1 hp with rfl | hp
     ·intro c hc
      rcases wV hd c hc with h1 | h1
      ·exact Or.inr (Or.inl h1)
      ·exact Or.inr (Or.inr (Or.inl h1))
     ·cases hp
    ·cases h
theorem row_chars {last : Bool} {l : List UInt8} {L : List Nat} (h : row last l = some L) : ∀ c ∈ l, Fine c := by
 unfold row at h
 split at h
 ·rename_i hn; rw [hn]; intro c hc; cases hc
 ·intro c hc
  rcases zBa 58 hc with h1 | ⟨p, hp, hcp⟩
  ·exact Or.inl h1
  ·exact lW last _ _ L h p hp c hcp
theorem fine_47 : ¬ Fine 47 := by unfold Fine; decide
theorem index_two : ∀ (s : List UInt8), 0 <= index s [58, 58] -> s.drop (index s [58, 58]).toNat = [58, 58] ++ s.drop ((index s [58, 58]).toNat + 2)
 | [], h => by simp [index] at h
 |b :: l, h => by
  have ih := index_two l; rw [index, zGl] at h ⊢
  by_cases hd : ddAt (b :: l) 0
  ·rw [zV hd, zN rfl]
   obtain ⟨h1, h2⟩ := hd
   cases l with
   | nil => simp at h2
   | cons c r => simp at h1 h2; subst h1; subst h2; rfl
  ·rw [zM hd] at h ⊢
   simp only [sZ, zDk] at h ⊢
   split at h
   ·omega
   ·rename_i hx
    rw [zH hx]; have hge := index_ge l [58, 58]; have hx2 : index l [58, 58] ≠ -1 := by simpa using hx
    have h0 : 0 <= index l [58, 58] := om; have e : (index l [58, 58] + 1).toNat = (index l [58, 58]).toNat + 1 := om; rw [e]
    simpa using ih h0
theorem parse_no_dd' {l : List UInt8} (h : ∀ j, ¬ ddAt l j) : parse l = match row true l with
  | none => none
  | some a => if a.length = 8 then of (ints a) else none := by
 have hc := cut_no_dd h
 cases hr : row true l with
 | none => exact rJ (by rw [hc]; exact hr)
 |some a =>
  rw [oC (a := a) (b := []) (by rw [hc]; exact hr) (by rw [hc]; rfl), hc]
  by_cases h8 : a.length = 8
  ·rw [zH (by simp [h8])]
   simp [h8]
  ·rw [zN (Or.inr ⟨rfl, by simpa using h8⟩)]
   simp [h8]
theorem zEv {s a : List UInt8} (h : parse s = some a) : ∀ c ∈ s, Fine c := by
 cases ha : row (!(cut s [58, 58]).2.2) (cut s [58, 58]).1 with
 | none => rw [rJ ha] at h; cases h
 |some x =>
  cases hb : row true (cut s [58, 58]).2.1 with
  | none => rw [pY hb] at h; cases h
  |some y =>
   have h1 := row_chars ha; have h2 := row_chars hb; intro c hc; unfold cut at h1 h2
   split at h1
   ·rename_i hi
    rw [zN hi] at h2; simp only at h1 h2; rw [← kC (index s [58, 58]).toNat s] at hc
    rcases xR.1 hc with hc | hc
    ·exact h1 c hc
    ·
     have hd := index_two s hi; rw [hd] at hc
     rcases xR.1 hc with hc | hc
     ·left; simpa using hc
     ·exact h2 c hc
   ·exact h1 c hc
theorem dotted_parse {s a : List UInt8} (h : xZ s = some a) : parse s = none := by
 have hch := wV h
 have h58 : (58 : UInt8) ∉ s := by
  intro hm
  rcases hch 58 hm with h1 | h1
  ·cases h1
  ·exact absurd h1.2 zd
 have hno : ∀ j, ¬ ddAt s j := fun j hj => h58 (uA hj.1); rw [parse_no_dd' hno]
 have hne : s ≠ [] := by
  rintro rfl; simp [xZ, yY, uY, zBu] at h
 have hrow : row true s = uL true [] [s] := by
  unfold row; rw [zH hne, aO h58]
 rw [hrow, uL]
 cases hg : group s with
 | some n => simp [uL]
 | none => simp [h]
theorem zCi {d : UInt8} {x : List UInt8} (y : List UInt8) (h : d ∉ x) : cut (x ++ d :: y) [d] = (x, y, true) := by
 unfold cut; rw [zEm y h, zN om]; simp
theorem zCj {d : UInt8} {x : List UInt8} (h : d ∉ x) : cut x [d] = (x, [], false) := by
 unfold cut; rw [index_no h, zH om]
theorem zGa {p : List UInt8} {c : UInt8} {m : Int} (hc : c ∈ p) (h : c.toNat < 48 ∨ 57 < c.toNat) : number p m = none := by
 cases hn : number p m with
 | none => rfl
 | some v => have := zCk hn c hc; omega
theorem zFq (m : Int) : number [] m = none := by
 cases h : number [] m with
 | none => rfl
 | some v => exact absurd (uD.1 h).2.2.2.symm (aM _)
def zBx (x y : List UInt8) : Option Pf := match number y 128 with
 | none => none
 | some n => if (xZ x).isSome = true ∨ (parse x).isSome = true then
   (if ok ⟨(parse x).isSome, (match xZ x with | some a => a ++ List.replicate 12 0 | none => (parse x).getD (List.replicate 16 0)), n⟩ then some ⟨(parse x).isSome, (match xZ x with | some a => a ++ List.replicate 12 0 | none => (parse x).getD (List.replicate 16 0)), n⟩ else none)
  else none
theorem parseP_no {s : List UInt8} (h : (47 : UInt8) ∉ s) : vR s = none := by
 unfold vR; rw [zCj h]; simp only [zFq]
 split <;> rfl
theorem addr2_47 {x : List UInt8} (h : (47 : UInt8) ∈ x) : xZ x = none /\ parse x = none := by
 constructor
 ·cases hd : xZ x with
  | none => rfl
  |some a =>
   rcases wV hd 47 h with h1 | h1
   ·cases h1
   ·exact absurd h1.1 zd
 ·cases hd : parse x with
  | none => rfl
  | some a => exact absurd (zEv hd 47 h) fine_47
theorem parseP_last {x y : List UInt8} (hy : (47 : UInt8) ∉ y) : vR (x ++ 47 :: y) = zBx x y := by
 by_cases hx : (47 : UInt8) ∈ x
 ·obtain ⟨h1, h2⟩ := addr2_47 hx
  have hR : zBx x y = none := by
   unfold zBx
   cases number y 128 with
   | none => rfl
   | some n => simp [h1, h2]
  rw [hR]; obtain ⟨a, b, hab, hna⟩ := zDo hx; unfold vR; rw [hab, xQ, yC, zCi _ hna]; simp only; rw [zGa (c := 47) zi (Or.inl zd)]
  split <;> rfl
 ·unfold vR zBx
  rw [zCi _ hx]; simp only; unfold bU
  cases hp : parse x with
  |some a =>
   have hd : xZ x = none := by
    cases hd : xZ x with
    | none => rfl
    | some b => rw [dotted_parse hd] at hp; cases hp
   simp only [hd]
   cases number y 128 with
   | none => rfl
   | some n => simp
  |none =>
   cases hd : xZ x with
   | none => cases number y 128 <;> simp
   | some b => cases number y 128 <;> simp
def a10 (b c : UInt8) : List UInt8 := [10, b, c, 0, 0, 0, 0, 0, 0, 0, 0, 0, 0, 0, 0, 0]
def cR : Pf := ⟨false, a10 0 0, 16⟩
def cS : Pf := ⟨false, a10 0 0, 15⟩
def tP : List UInt8 := [49, 48, 46, 49, 46, 48, 46, 48, 47, 49, 54]
end Go.PrefixPlain
namespace Go.Proofs.YtdbgeobolongmaaGreatDoor.Sc
open Go Go.OctetPlain Go.ColonPlain Go.PrefixPlain Go.Proofs.YtdbgeobolongmaaGreatDoor.Hp Go.Lib
structure Stp where
 is : Bool
 kind : Int
 a : Int
 n : Int
 owner : Int
 s1 : Int
 s2 : Int
 pf : Pf
 hop : Hop
 ways : List (Int × Int)
 text : List UInt8
 port : Int
 mpls : Bool
 bytes : List UInt8
deriving DecidableEq
def pf0 : Pf := ⟨false, List.replicate 16 0, 0⟩
def hop0 : Hop := ⟨0, [], 0, 0, [], false⟩
def z : Stp := ⟨false, 0, 0, 0, 0, 0, 0, pf0, hop0, [], [], 0, false, []⟩
inductive Part where | A | N | O | S | W | P | H | T | Q | B
deriving DecidableEq
def num30 (w : Wd) : Option Int := number w 1073741824
def two (c : UInt8) (w : Wd) : Option (Int × Int) := match num30 (cut w [c]).1, num30 (cut w [c]).2.1 with
 | some a, some b => if (cut w [c]).2.2 = true then some (a, b) else none
 | _, _ => none
def waysP : List Wd -> Option (List (Int × Int))
 | [] => some []
 |w :: l => match two 42 w, waysP l with
  | some p, some r => some (p :: r)
  | _, _ => none
def printed (w : Wd) : Bool := decide (w ≠ []) && w.all fun c => decide (33 <= c.toNat) && decide (c.toNat <= 126)
def read (p : Part) (x : Stp) (l : List Wd) : Option (Stp × List Wd) := match p, l with
 | .W, [] => none
 | .W, l => match waysP l with | some r => some ({ x with ways := x.ways ++ r }, []) | none => none
 | .H, l => match parseR (join l) with | some h => some ({ x with hop := h }, []) | none => none
 | _, [] => none
 | .A, w :: l => match num30 w with | some n => some ({ x with a := n }, l) | none => none
 | .N, w :: l => match num30 w with | some n => some ({ x with n := n }, l) | none => none
 | .O, w :: l => match num30 w with | some n => some ({ x with owner := n }, l) | none => none
 | .Q, w :: l => match num30 w with | some n => some ({ x with port := n }, l) | none => none
 | .S, w :: l => match two 45 w with | some p => some ({ x with s1 := p.1, s2 := p.2 }, l) | none => none
 | .P, w :: l => match vR w with | some p => if fC p = w then some ({ x with pf := p }, l) else none | none => none
 | .T, w :: l => if printed w = true then some ({ x with text := w }, l) else none
 | .B, w :: l => if w = [] then none else if w = [45] then some (x, l) else match vE [] w with | some b => if hex b = w then some ({ x with bytes := b }, l) else none | none => none
def reads : List Part -> Stp -> List Wd -> Option (Stp × List Wd)
 | [], x, l => some (x, l)
 | p :: ps, x, l => match read p x l with | some (y, r) => reads ps y r | none => none
def names : List Wd := [[112, 111, 114, 116], [110, 111, 112, 111, 114, 116], [108, 105, 110, 107], [99, 97, 114, 118, 101], [99, 108, 111, 115, 101], [100, 114, 97, 119], [116, 97, 107, 101], [102, 114, 101, 101], [104, 111, 112], [110, 111, 104, 111, 112], [98, 105, 110, 100], [110, 111, 98, 105, 110, 100], [114, 111, 117, 116, 101], [110, 111, 114, 111, 117, 116, 101], [112, 111, 108, 105, 99, 121], [115, 105, 100]]
def wIp : Wd := [105, 112]
def wMpls : Wd := [109, 112, 108, 115]
def idx (w : Wd) : Nat := names.idxOf w
def partsK : List (List Part) := [[.A, .N], [.A], [.A, .N], [.A, .S], [.A], [.O, .A, .N], [.O, .S], [.O, .S], [.H], [.A], [.A, .W], [.A], [.P, .W], [.P], [.A, .T], [.A, .W]]
def partsOf (w : Wd) : List Part := if w = wIp ∨ w = wMpls then [.Q, .B] else partsK.getD (idx w) []
def x0 (w : Wd) : Stp := { z with is := decide (w = wIp) || decide (w = wMpls), mpls := decide (w = wMpls), kind := if idx w < 16 then (idx w : Int) else 0 }
def oneW : List Wd -> Option Stp
 | [] => none
 |w :: l => match reads (partsOf w) (x0 w) l with
  | some (x, []) => if partsOf w = [] then none else some x
  | _ => none
def oneR (s : List UInt8) : Option Stp := oneW (spl s)
def dash (x y : Int) : Wd := itoa x ++ 45 :: itoa y
def star (p : Int × Int) : Wd := itoa p.1 ++ 42 :: itoa p.2
def shw (p : Part) (x : Stp) : List Wd := match p with
 | .A => [itoa x.a]
 | .N => [itoa x.n]
 | .O => [itoa x.owner]
 | .Q => [itoa x.port]
 | .S => [dash x.s1 x.s2]
 | .W => x.ways.map star
 | .P => [fC x.pf]
 | .H => spl (showR x.hop)
 | .T => [x.text]
 | .B => [if x.bytes = [] then [45] else hex x.bytes]
def wordOf (x : Stp) : Option Wd := if x.is = true then some (if x.mpls = true then wMpls else wIp) else if 0 <= x.kind /\ x.kind <= 15 then names[x.kind.toNat]? else none
def textW (x : Stp) (w : Wd) : List Wd := w :: (partsOf w).flatMap fun p => shw p x
def textR (x : Stp) : List UInt8 := match wordOf x with | some w => join (textW x w) | none => []
def lineR (x : Stp) : List UInt8 := if oneR (textR x) = some x then textR x else []
theorem num30_some {w : Wd} {n : Int} (h : num30 w = some n) : w = itoa n /\ 0 <= n /\ n <= 1073741824 := by
 obtain ⟨h0, -, h2, h3⟩ := uD.1 h; refine ⟨?_, h0, h2⟩; rw [h3]; unfold itoa; rw [zH om]
theorem mem_first {c : UInt8} : ∀ {w : Wd}, c ∈ w -> ∃ s t, w = s ++ c :: t /\ c ∉ s
 |d :: w, h => by
  by_cases hd : c = d
  ·exact ⟨[], w, by rw [hd]; rfl, zi⟩
  ·rcases yR.1 h with rfl | h
   ·exact absurd rfl hd
   ·obtain ⟨s, t, e, g⟩ := mem_first h
    exact ⟨d :: s, t, by rw [e]; rfl, by simp [hd, g]⟩
theorem cut_eq {c : UInt8} : ∀ {w : Wd}, (cut w [c]).2.2 = true -> w = (cut w [c]).1 ++ c :: (cut w [c]).2.1 := by
 intro w h
 by_cases hc : c ∈ w
 ·obtain ⟨s, t, rfl, hs⟩ := mem_first hc
  rw [zCi _ hs]
 ·rw [zCj hc] at h; simp at h
theorem two_some {c : UInt8} {w : Wd} {p : Int × Int} (h : two c w = some p) : w = itoa p.1 ++ c :: itoa p.2 /\ (0 <= p.1 /\ p.1 <= 1073741824) /\ (0 <= p.2 /\ p.2 <= 1073741824) := by
 unfold two at h
 cases h1 : num30 (cut w [c]).1 with
 | none => rw [h1] at h; simp at h
 |some a =>
  cases h2 : num30 (cut w [c]).2.1 with
  | none => rw [h1, h2] at h; simp at h
  |some b =>
   rw [h1, h2] at h; simp only at h
   split at h
   ·rename_i h3
    injection h with h
    subst h; have ha := num30_some h1; have hb := num30_some h2; refine ⟨?_, ha.2, hb.2⟩; have := cut_eq h3; rw [ha.1, hb.1] at this; exact this
   ·cases h
theorem waysP_some : ∀ {l : List Wd} {r : List (Int × Int)}, waysP l = some r -> l = r.map star /\ ∀ w ∈ l, ∃ p, two 42 w = some p
 | [], r, h => by injection h with h; subst h; simp
 |w :: l, r, h => by
  unfold waysP at h
  cases h1 : two 42 w with
  | none => rw [h1] at h; simp at h
  |some p =>
   cases h2 : waysP l with
   | none => rw [h1, h2] at h; simp at h
   |some q =>
    rw [h1, h2] at h; injection h with h
    subst h; obtain ⟨e, g⟩ := waysP_some h2; refine ⟨?_, ?_⟩
    ·rw [yM, ← e]
     have := (two_some h1).1; simp only [star, rY, pQ]; exact this
    ·intro v hv
     rcases yR.1 hv with rfl | hv
     ·exact ⟨p, h1⟩
     ·exact g v hv
structure Kept (p : Part) (x y : Stp) : Prop where
 sh : ∀ q, q ≠ p -> shw q y = shw q x
 is : y.is = x.is
 kind : y.kind = x.kind
 mpls : y.mpls = x.mpls
 w : p ≠ .W -> y.ways = x.ways
 b : p ≠ .B -> y.bytes = x.bytes
theorem read_some {p : Part} {x y : Stp} {l r : List Wd} (h : read p x l = some (y, r)) (hl : ∀ w ∈ l, ∀ c ∈ w, c ≠ 32) (hne : p = .H -> l ≠ []) (hw : p = .W -> x.ways = []) (hb : p = .B -> x.bytes = []) :
  l = shw p y ++ r /\ Kept p x y := by
 have num : ∀ {w : Wd} {l : List Wd} {f : Int -> Stp}, (match num30 w with | some n => some (f n, l) | none => none) = some (y, r) -> ∃ n, w = itoa n /\ y = f n /\ r = l := by
  intro w l f h
  cases hn : num30 w with
  | none => rw [hn] at h; cases h
  |some n =>
   rw [hn] at h; injection h with h
   injection h with h1 h2
   exact ⟨n, (num30_some hn).1, h1.symm, h2.symm⟩
 cases p with
 |A => cases l with
  | nil => cases h
  | cons w l => obtain ⟨n, rfl, rfl, rfl⟩ := num h; exact ⟨rfl, ⟨fun q hq => by cases q <;> first | rfl | exact absurd rfl hq, rfl, rfl, rfl, fun _ => rfl, fun _ => rfl⟩⟩
 |N => cases l with
  | nil => cases h
  | cons w l => obtain ⟨n, rfl, rfl, rfl⟩ := num h; exact ⟨rfl, ⟨fun q hq => by cases q <;> first | rfl | exact absurd rfl hq, rfl, rfl, rfl, fun _ => rfl, fun _ => rfl⟩⟩
 |O => cases l with
  | nil => cases h
  | cons w l => obtain ⟨n, rfl, rfl, rfl⟩ := num h; exact ⟨rfl, ⟨fun q hq => by cases q <;> first | rfl | exact absurd rfl hq, rfl, rfl, rfl, fun _ => rfl, fun _ => rfl⟩⟩
 |Q => cases l with
  | nil => cases h
  | cons w l => obtain ⟨n, rfl, rfl, rfl⟩ := num h; exact ⟨rfl, ⟨fun q hq => by cases q <;> first | rfl | exact absurd rfl hq, rfl, rfl, rfl, fun _ => rfl, fun _ => rfl⟩⟩
 |S => cases l with
  | nil => cases h
  |cons w l =>
   simp only [read] at h
   cases hn : two 45 w with
   | none => rw [hn] at h; cases h
   |some q =>
    rw [hn] at h; injection h with h
    injection h with h1 h2
    subst h1 h2; refine ⟨?_, ⟨fun q hq => by cases q <;> first | rfl | exact absurd rfl hq, rfl, rfl, rfl, fun _ => rfl, fun _ => rfl⟩⟩; have := (two_some hn).1; simp only [shw, dash, yC, yJ, rY, pQ]; exact this
 |W => cases l with
  | nil => cases h
  |cons w l =>
   simp only [read] at h
   cases hn : waysP (w :: l) with
   | none => rw [hn] at h; cases h
   |some q =>
    rw [hn] at h; injection h with h
    injection h with h1 h2
    subst h1 h2; refine ⟨?_, ⟨fun q hq => by cases q <;> first | rfl | exact absurd rfl hq, rfl, rfl, rfl, fun h => absurd rfl h, fun _ => rfl⟩⟩; have := (waysP_some hn).1; simp only [shw, hw rfl, yJ, vC]; exact this
 |P => cases l with
  | nil => cases h
  |cons w l =>
   simp only [read] at h
   cases hn : vR w with
   | none => rw [hn] at h; cases h
   |some q =>
    rw [hn] at h; simp only at h
    split at h
    ·rename_i hs
     injection h with h
     injection h with h1 h2
     subst h1 h2; exact ⟨by rw [← hs]; rfl, ⟨fun q hq => by cases q <;> first | rfl | exact absurd rfl hq, rfl, rfl, rfl, fun _ => rfl, fun _ => rfl⟩⟩
    ·cases h
 |H =>
  have h : (match parseR (join l) with | some h => some ({ x with hop := h }, []) | none => none) = some (y, r) := by cases l <;> exact h
  cases hn : parseR (join l) with
  | none => rw [hn] at h; cases h
  |some q =>
   rw [hn] at h; injection h with h
   injection h with h1 h2
   subst h1 h2; refine ⟨?_, ⟨fun q hq => by cases q <;> first | rfl | exact absurd rfl hq, rfl, rfl, rfl, fun _ => rfl, fun _ => rfl⟩⟩; simp only [shw, vC]; rw [((parseR_iff _ _).1 hn).2, wE l (hne rfl) hl]
 |T => cases l with
  | nil => cases h
  |cons w l =>
   simp only [read] at h
   split at h
   ·injection h with h
    injection h with h1 h2
    subst h1 h2; exact ⟨rfl, ⟨fun q hq => by cases q <;> first | rfl | exact absurd rfl hq, rfl, rfl, rfl, fun _ => rfl, fun _ => rfl⟩⟩
   ·cases h
 |B => cases l with
  | nil => cases h
  |cons w l =>
   simp only [read] at h
   split at h
   ·cases h
   ·rename_i h0
    split at h
    ·rename_i h1
     injection h with h
     injection h with h2 h3
     subst h2 h3; exact ⟨by simp only [shw, hb rfl, aB, h1]; rfl, ⟨fun q hq => rfl, rfl, rfl, rfl, fun _ => rfl, fun h => absurd rfl h⟩⟩
    ·cases hn : vE [] w with
     | none => rw [hn] at h; cases h
     |some q =>
      rw [hn] at h; simp only at h
      split at h
      ·rename_i hs
       injection h with h
       injection h with h2 h3
       subst h2 h3; refine ⟨?_, ⟨fun q hq => by cases q <;> first | rfl | exact absurd rfl hq, rfl, rfl, rfl, fun _ => rfl, fun h => absurd rfl h⟩⟩; have : q ≠ [] := fun e => h0 (by rw [← hs, e]; rfl); simp only [shw, zH this, hs]
       rfl
      ·cases h
theorem reads_some : ∀ {ps : List Part} {x y : Stp} {l r : List Wd}, ps.Nodup -> reads ps x l = some (y, r) -> (∀ w ∈ l, ∀ c ∈ w, c ≠ 32) -> (.H ∈ ps -> l ≠ [] /\ ps = [.H]) -> (.W ∈ ps -> x.ways = []) -> (.B ∈ ps -> x.bytes = []) ->
  l = (ps.flatMap fun p => shw p y) ++ r /\ (∀ q, q ∉ ps -> shw q y = shw q x) /\ y.is = x.is /\ y.kind = x.kind /\ y.mpls = x.mpls
 |[], x, y, l, r, _, h, _, _, _, _ => by
  injection h with h
  injection h with h1 h2
  subst h1 h2; exact ⟨rfl, fun _ _ => rfl, rfl, rfl, rfl⟩
 |p :: ps, x, y, l, r, hd, h, hl, hH, hw, hb => by
  unfold reads at h
  cases h1 : read p x l with
  | none => rw [h1] at h; cases h
  |some q =>
   obtain ⟨v, m⟩ := q; rw [h1] at h; simp only at h; obtain ⟨e, k⟩ := read_some h1 hl (fun hp => (hH (by rw [hp]; exact yH)).1) (fun hp => hw (by rw [hp]; exact yH)) (fun hp => hb (by rw [hp]; exact yH))
   by_cases he : ps = []
   ·subst he
    injection h with h
    injection h with h2 h3
    subst h2 h3; refine ⟨by simpa using e, fun q hq => k.sh q (by simpa using hq), k.is, k.kind, k.mpls⟩
   ·have hp := List.nodup_cons.1 hd
    obtain ⟨e2, s2, i2, k2, m2⟩ := reads_some hp.2 h (fun w hw => hl w (by rw [e]; exact oW _ hw)) (fun hh => absurd (hH (yP _ hh)).2 (by simp [he])) (fun hh => by rw [k.w fun e => hp.1 (by rw [e]; exact hh)]; exact hw (yP _ hh)) (fun hh => by rw [k.b fun e => hp.1 (by rw [e]; exact hh)]; exact hb (yP _ hh)); refine ⟨?_, fun q hq => ?_, i2.trans k.is, k2.trans k.kind, m2.trans k.mpls⟩
    ·rw [vT, s2 p hp.1, xQ, ← e2]; exact e
    ·rw [s2 q fun hh => hq (yP _ hh), k.sh q fun hh => hq (by rw [hh]; exact yH)]
theorem idx_get {w : Wd} (h : idx w < 16) : names[idx w]? = some w := by
 have hl : names.length = 16 := rfl; have : w ∈ names := List.idxOf_lt_length_iff.1 (by rw [hl]; exact h); rw [zA (by rw [hl]; exact h)]; exact yG some (List.getElem_idxOf (by rw [hl]; exact h))
theorem parts_nodup : ∀ ps ∈ partsK, ps.Nodup /\ (Part.H ∈ ps -> ps = [.H]) := zd
theorem parts_word {w : Wd} (h : partsOf w ≠ []) : (w = wIp ∨ w = wMpls) ∨ (w ≠ wIp /\ w ≠ wMpls /\ idx w < 16) := by
 by_cases h1 : w = wIp ∨ w = wMpls
 ·exact Or.inl h1
 ·refine Or.inr ⟨fun e => h1 (Or.inl e), fun e => h1 (Or.inr e), ?_⟩
  unfold partsOf at h; rw [zH h1] at h; apply jO; intro hn; apply h; rw [vP, jY (show partsK.length <= idx w by show 16 <= _; omega)]
  rfl
theorem parts_good {w : Wd} : (partsOf w).Nodup /\ (Part.H ∈ partsOf w -> partsOf w = [.H]) := by
 by_cases h1 : w = wIp ∨ w = wMpls
 ·unfold partsOf; rw [zN h1]; decide
 ·by_cases h0 : partsOf w = []
  ·rw [h0]; simp
  ·have := (parts_word h0).resolve_left h1
   apply parts_nodup; unfold partsOf; rw [zH h1, vP, zA (show idx w < partsK.length from this.2.2)]; exact yU _
theorem word_x0 {w : Wd} (h : partsOf w ≠ []) : wordOf (x0 w) = some w := by
 rcases parts_word h with h1 | ⟨h1, h2, h3⟩
 ·rcases h1 with rfl | rfl <;> decide
 ·unfold wordOf x0
  simp only [h1, h2, decide_false, Bool.or_self, sZ, zDk, zN h3]; rw [zN ⟨om, om⟩]; exact idx_get h3
theorem spl_no32 (s : List UInt8) : ∀ w ∈ spl s, ∀ c ∈ w, c ≠ 32 := by
 induction s with
 | nil => intro w hw; simp [spl] at hw; subst hw; simp
 |cons d r ih =>
  intro w hw c hc; unfold spl at hw
  split at hw
  ·rcases yR.1 hw with rfl | hw
   ·simp at hc
   ·exact ih w hw c hc
  ·rename_i hd
   cases hs : spl r with
   | nil => exact absurd hs (spl_ne r)
   |cons v vs =>
    rw [hs] at hw ih
    rcases yR.1 hw with rfl | hw
    ·rcases yR.1 hc with rfl | hc
     ·exact hd
     ·exact ih v yH c hc
    ·exact ih w (yP _ hw) c hc
theorem reads_nilH {x y : Stp} {r : List Wd} : reads [.H] x [] ≠ some (y, r) := by
 have : read .H x [] = none := rfl; unfold reads; rw [this]; simp
theorem oneR_some {s : List UInt8} {x : Stp} (h : oneR s = some x) : ∃ w l, spl s = w :: l /\ partsOf w ≠ [] /\ reads (partsOf w) (x0 w) l = some (x, []) := by
 unfold oneR oneW at h
 cases hs : spl s with
 | nil => exact absurd hs (spl_ne s)
 |cons w l =>
  rw [hs] at h; simp only at h; refine ⟨w, l, rfl, ?_⟩
  split at h
  ·rename_i y he
   split at h
   ·cases h
   ·rename_i hp
    injection h with h
    subst h; exact ⟨hp, he⟩
  ·cases h
theorem one_word {s : List UInt8} {x : Stp} {w : Wd} {l : List Wd} (hs : spl s = w :: l) (hp : partsOf w ≠ []) (hr : reads (partsOf w) (x0 w) l = some (x, [])) : l = (partsOf w).flatMap (fun p => shw p x) /\ wordOf x = some w := by
 have hl : ∀ v ∈ l, ∀ c ∈ v, c ≠ 32 := fun v hv => spl_no32 s v (by rw [hs]; exact yP _ hv); have g := @parts_good w; obtain ⟨e, -, i, k, m⟩ := reads_some g.1 hr hl (fun hh => ⟨fun hn => by rw [g.2 hh, hn] at hr; exact reads_nilH hr, g.2 hh⟩) (fun _ => rfl) (fun _ => rfl); refine ⟨by simpa using e, ?_⟩; rw [← word_x0 hp]; unfold wordOf; rw [i, k, m]
theorem one_text {s : List UInt8} {x : Stp} (h : oneR s = some x) : textR x = s := by
 obtain ⟨w, l, hs, hp, hr⟩ := oneR_some h; obtain ⟨e, hw⟩ := one_word hs hp hr; unfold textR textW; rw [hw]; simp only; rw [← e, ← hs, join_spl]
theorem one_line {s : List UInt8} {x : Stp} (h : oneR s = some x) : lineR x = s := by
 unfold lineR; rw [one_text h, zN h]
theorem line_one {x : Stp} (h : lineR x ≠ []) : oneR (lineR x) = some x := by
 unfold lineR at h ⊢
 split
 ·rename_i h1; exact h1
 ·rename_i h1; rw [zH h1] at h; exact absurd rfl h
theorem oneR_nil : oneR [] = none := zd
structure Fits (x : Stp) : Prop where
 p16 : x.pf.addr.length = 16
 hop : x.hop = hop0 ∨ checkR x.hop = 0
 text : x.text = [] ∨ printed x.text = true
theorem parseP_16 {w : Wd} {p : Pf} (h : vR w = some p) : p.addr.length = 16 := by
 unfold vR at h
 cases ha : bU (cut w [47]).1 with
 | none => rw [ha] at h; cases h
 |some q =>
  obtain ⟨six, a⟩ := q; rw [ha] at h; simp only at h
  have hl : a.length = 16 := by
   unfold bU at ha
   cases h1 : parse (cut w [47]).1 with
   | some b => rw [h1] at ha; injection ha with ha; injection ha with h2 h3; subst h3; exact aN h1
   |none =>
    rw [h1] at ha
    cases h2 : xZ (cut w [47]).1 with
    | none => rw [h2] at ha; cases ha
    |some b =>
     rw [h2] at ha; injection ha with ha; injection ha with h3 h4; subst h4
     have := kE _ _ _ h2; simp [this]
  cases hn : number (cut w [47]).2.1 128 with
  | none => rw [hn] at h; cases h
  |some n =>
   rw [hn] at h; simp only at h
   split at h
   ·injection h with h; subst h; exact hl
   ·cases h
theorem read_fits {p : Part} {x y : Stp} {l r : List Wd} (h : read p x l = some (y, r)) (f : Fits x) : Fits y := by
 have num : ∀ {w : Wd} {l : List Wd} {f : Int -> Stp}, (match num30 w with | some n => some (f n, l) | none => none) = some (y, r) -> ∃ n, y = f n := by
  intro w l f h
  cases hn : num30 w with
  | none => rw [hn] at h; cases h
  |some n =>
   rw [hn] at h; injection h with h
   injection h with h1 h2
   exact ⟨n, h1.symm⟩
 cases p with
 |A => cases l with
  | nil => cases h
  | cons w l => obtain ⟨n, rfl⟩ := num h; exact ⟨f.p16, f.hop, f.text⟩
 |N => cases l with
  | nil => cases h
  | cons w l => obtain ⟨n, rfl⟩ := num h; exact ⟨f.p16, f.hop, f.text⟩
 |O => cases l with
  | nil => cases h
  | cons w l => obtain ⟨n, rfl⟩ := num h; exact ⟨f.p16, f.hop, f.text⟩
 |Q => cases l with
  | nil => cases h
  | cons w l => obtain ⟨n, rfl⟩ := num h; exact ⟨f.p16, f.hop, f.text⟩
 |S => cases l with
  | nil => cases h
  |cons w l =>
   simp only [read] at h
   split at h
   ·injection h with h
    injection h with h1 h2
    subst h1; exact ⟨f.p16, f.hop, f.text⟩
   ·cases h
 |W => cases l with
  | nil => cases h
  |cons w l =>
   simp only [read] at h
   split at h
   ·injection h with h
    injection h with h1 h2
    subst h1; exact ⟨f.p16, f.hop, f.text⟩
   ·cases h
 |P => cases l with
  | nil => cases h
  |cons w l =>
   simp only [read] at h
   cases hn : vR w with
   | none => rw [hn] at h; cases h
   |some q =>
    rw [hn] at h; simp only at h
    split at h
    ·injection h with h
     injection h with h1 h2
     subst h1; exact ⟨parseP_16 hn, f.hop, f.text⟩
    ·cases h
 |H =>
  have h : (match parseR (join l) with | some h => some ({ x with hop := h }, []) | none => none) = some (y, r) := by cases l <;> exact h
  cases hn : parseR (join l) with
  | none => rw [hn] at h; cases h
  |some q =>
   rw [hn] at h; injection h with h
   injection h with h1 h2
   subst h1; exact ⟨f.p16, Or.inr ((parseR_iff _ _).1 hn).1, f.text⟩
 |T => cases l with
  | nil => cases h
  |cons w l =>
   simp only [read] at h
   split at h
   ·rename_i hp
    injection h with h
    injection h with h1 h2
    subst h1; exact ⟨f.p16, f.hop, Or.inr hp⟩
   ·cases h
 |B => cases l with
  | nil => cases h
  |cons w l =>
   simp only [read] at h
   split at h
   ·cases h
   ·split at h
    ·injection h with h
     injection h with h1 h2
     subst h1; exact f
    ·split at h
     ·split at h
      ·injection h with h
       injection h with h1 h2
       subst h1; exact ⟨f.p16, f.hop, f.text⟩
      ·cases h
     ·cases h
theorem reads_fits : ∀ {ps : List Part} {x y : Stp} {l r : List Wd}, reads ps x l = some (y, r) -> Fits x -> Fits y
 | [], x, y, l, r, h, f => by injection h with h; injection h with h1 h2; subst h1; exact f
 |p :: ps, x, y, l, r, h, f => by
  unfold reads at h
  cases h1 : read p x l with
  | none => rw [h1] at h; cases h
  |some q =>
   obtain ⟨v, m⟩ := q; rw [h1] at h; exact reads_fits h (read_fits h1 f)
theorem fits_x0 (w : Wd) : Fits (x0 w) := ⟨rfl, Or.inl rfl, Or.inl rfl⟩
theorem one_fits {s : List UInt8} {x : Stp} (h : oneR s = some x) : Fits x := by
 obtain ⟨w, l, -, -, hr⟩ := oneR_some h; exact reads_fits hr (fits_x0 w)
def fZ (w : Wd) : Prop := ∀ c ∈ w, 33 <= c.toNat /\ c.toNat <= 126
theorem pF (n : Nat) : fZ (decDigits n) := fun c hc => by have := qI n c hc; omega
theorem qQ (n : Int) : fZ (itoa n) := by
 unfold itoa
 split
 ·intro c hc
  rcases yR.1 hc with rfl | hc
  ·decide
  ·exact pF _ c hc
 ·exact pF _
theorem zDx {a b : Wd} (ha : fZ a) (hb : fZ b) : fZ (a ++ b) := fun c hc => (xR.1 hc).elim (ha c) (hb c)
theorem mK {d : UInt8} {b : Wd} (hd : 33 <= d.toNat /\ d.toNat <= 126) (hb : fZ b) : fZ (d :: b) := fun c hc => (yR.1 hc).elim (fun e => e ▸ hd) (hb c)
theorem dig_wordy {c : UInt8} (h : 0 <= dig c) : 33 <= c.toNat /\ c.toNat <= 126 := by
 unfold dig at h
 split at h
 ·omega
 ·split at h
  ·omega
  ·split at h
   ·omega
   ·omega
theorem wordy_fine {w : Wd} (h : ∀ c ∈ w, Fine c) : fZ w := fun c hc => by
 rcases h c hc with rfl | rfl | h1 | h1
 ·decide
 ·decide
 ·omega
 ·exact dig_wordy h1
theorem wordy_show {a : List UInt8} (h : a.length = 16) : fZ (show_ a) := wordy_fine (zEv (parse_show h))
theorem zFn {a : List UInt8} (h : a.length = 4) : fZ (qP a) := fun c hc => by
 rcases wV (zFd h) c hc with rfl | h1
 ·decide
 ·omega
theorem wordy_showP {p : Pf} (h : p.addr.length = 16) : fZ (fC p) := by
 unfold fC aW; refine zDx ?_ (mK zd (qQ _))
 split
 ·exact wordy_show h
 ·exact zFn (by simp [h])
theorem wordy_hex : ∀ l : List UInt8, fZ (hex l)
 | [] => fun c hc => by cases hc
 |c :: r => by
  have hl : ∀ n, n < 16 -> 33 <= (letter n).toNat /\ (letter n).toNat <= 126 := fun n hn => dig_wordy (by rw [qZ n hn]; omega); have := c.toNat_lt; exact mK (hl _ om) (mK (hl _ om) (wordy_hex r))
theorem wordy_printed {w : Wd} (h : printed w = true) : fZ w := fun c hc => by
 unfold printed at h; have := jE.1 (Bool.and_eq_true_iff.1 h).2 c hc
 simpa using this
theorem wordy_opW (n : Int) : fZ (opW n) := by
 unfold opW
 split
 ·intro c hc; revert c; decide
 ·split
  ·intro c hc; revert c; decide
  ·split
   ·intro c hc; revert c; decide
   ·split
    ·intro c hc; revert c; decide
    ·intro c hc; cases hc
theorem zFl (h : Hop) : ∀ w ∈ showW h, fZ w := by
 intro w hw; unfold showW at hw; have k1 : fZ wPort := by intro c hc; revert c; decide
 have k2 : fZ wBackup := by intro c hc; revert c; decide
 have k3 : fZ wPipe := by intro c hc; revert c; decide
 have kd : ∀ l : List Int, ∀ w ∈ l.map dec, fZ w := by
  intro l w hw; obtain ⟨n, -, rfl⟩ := vB.1 hw; exact pF _
 rcases xR.1 hw with hw | hw
 ·rcases xR.1 hw with hw | hw
  ·rcases xR.1 hw with hw | hw
   ·rcases xR.1 hw with hw | hw
    ·rw [xS.1 hw]; exact wordy_opW _
    ·exact kd _ w hw
   ·split at hw
    ·rcases yR.1 hw with rfl | hw
     ·exact k1
     ·rw [xS.1 hw]; exact pF _
    ·cases hw
  ·split at hw
   ·rcases yR.1 hw with rfl | hw
    ·exact k2
    ·rcases yR.1 hw with rfl | hw
     ·exact pF _
     ·exact kd _ w hw
   ·cases hw
 ·split at hw
  ·rw [xS.1 hw]; exact k3
  ·cases hw
theorem mem_join : ∀ {ws : List Wd} {c : UInt8}, c ∈ join ws -> c = 32 ∨ ∃ w ∈ ws, c ∈ w
 | [], c, h => by cases h
 | [w], c, h => Or.inr ⟨w, yH, h⟩
 |w :: v :: ws, c, h => by
  rw [join] at h
  rcases xR.1 h with h | h
  ·exact Or.inr ⟨w, yH, h⟩
  ·rcases yR.1 h with h | h
   ·exact Or.inl h
   ·rcases mem_join h with h | ⟨u, hu, hc⟩
    ·exact Or.inl h
    ·exact Or.inr ⟨u, yP _ hu, hc⟩
theorem shw_wordy {x : Stp} (f : Fits x) (p : Part) (hH : p = .H -> checkR x.hop = 0) : ∀ w ∈ shw p x, fZ w := by
 intro w hw
 cases p with
 | A => rw [xS.1 hw]; exact qQ _
 | N => rw [xS.1 hw]; exact qQ _
 | O => rw [xS.1 hw]; exact qQ _
 | Q => rw [xS.1 hw]; exact qQ _
 | S => rw [xS.1 hw]; exact zDx (qQ _) (mK zd (qQ _))
 | W => obtain ⟨q, -, rfl⟩ := vB.1 hw; exact zDx (qQ _) (mK zd (qQ _))
 | P => rw [xS.1 hw]; exact wordy_showP f.p16
 |H =>
  have e : spl (showR x.hop) = showW x.hop := wE _ (zCp _) (oD _); rw [shw, e] at hw; exact zFl _ w hw
 |T =>
  rw [xS.1 hw]
  rcases f.text with h | h
  ·rw [h]; intro c hc; cases hc
  ·exact wordy_printed h
 |B =>
  rw [xS.1 hw]
  split
  ·intro c hc; revert c; decide
  ·exact wordy_hex _
theorem names_wordy : ∀ w ∈ names, ∀ c ∈ w, 33 <= c.toNat /\ c.toNat <= 126 := zd
theorem word_wordy {w : Wd} (h : partsOf w ≠ []) : fZ w := by
 rcases parts_word h with h1 | ⟨-, -, h3⟩
 ·rcases h1 with rfl | rfl <;> (intro c hc; revert c; decide)
 ·exact names_wordy w (uA (idx_get h3))
theorem one_signs {s : List UInt8} {x : Stp} (h : oneR s = some x) : ∀ c ∈ s, 32 <= c.toNat /\ c.toNat <= 126 := by
 obtain ⟨w, l, hs, hp, hr⟩ := oneR_some h; obtain ⟨e, hw⟩ := one_word hs hp hr; intro c hc; rw [← join_spl s, hs, e] at hc
 rcases mem_join hc with rfl | ⟨v, hv, hcv⟩
 ·decide
 ·have : fZ v := by
   rcases yR.1 hv with rfl | hv
   ·exact word_wordy hp
   ·obtain ⟨p, -, hvp⟩ := List.mem_flatMap.1 hv
    by_cases hH : p = .H
    ·subst hH
     have e : spl (showR x.hop) = showW x.hop := wE _ (zCp _) (oD _); rw [shw, e] at hvp; exact zFl _ v hvp
    ·exact shw_wordy (one_fits h) p (fun e => absurd e hH) v hvp
  have := this c hcv; omega
theorem one_no10 {s : List UInt8} {x : Stp} (h : oneR s = some x) : (10 : UInt8) ∉ s := fun hm => by
 have := one_signs h 10 hm; exact absurd this.1 zd
structure Scr where
 r1 : Int
 r2 : Int
 r3 : Int
 four : List UInt8
 six : List UInt8
 steps : List Stp
deriving DecidableEq
def wRooms : Wd := [114, 111, 111, 109, 115]
def wSelf : Wd := [115, 101, 108, 102]
def roomsR : List Wd -> Option (Int × Int × Int)
 | [w, a, b, c] => if w = wRooms then (match num30 a, num30 b, num30 c with | some x, some y, some z => some (x, y, z) | _, _, _ => none) else none
 | _ => none
def selfR : List Wd -> Option (List UInt8 × List UInt8)
 | [w, a, b] => if w = wSelf then (match xZ a, parse b with | some x, some y => if show_ y = b then some (x, y) else none | _, _ => none) else none
 | _ => none
def takeR (x : Scr) (s : List UInt8) : Option Scr := match roomsR (spl s) with
 | some r => some { x with r1 := r.1, r2 := r.2.1, r3 := r.2.2 }
 |none => match selfR (spl s) with
  | some a => some { x with four := a.1, six := a.2 }
  |none => match oneR s with
   | some t => if x.steps.length = 1000 then none else some { x with steps := x.steps ++ [t] }
   | none => none
def skipped (s : List UInt8) : Bool := decide (s = []) || decide (s.head? = some 35)
def linesR (x : Scr) (i : Nat) : List Wd -> Except Nat Scr
 | [] => .ok x
 |s :: l => if skipped s = true then linesR x (i + 1) l else match takeR x s with
  | some y => linesR y (i + 1) l
  | none => .error (i + 1)
def scr0 : Scr := ⟨16, 16, 16, List.replicate 4 0, List.replicate 16 0, []⟩
def parseX (s : List UInt8) : Except (Int × Nat) Scr := if 65536 < s.length then .error (2, 0) else match linesR scr0 0 (yY 10 s) with
 | .ok x => .ok x
 | .error i => .error (20, i)
def roomsL (x : Scr) : List UInt8 := join [wRooms, itoa x.r1, itoa x.r2, itoa x.r3]
def selfL (x : Scr) : List UInt8 := join [wSelf, qP x.four, show_ x.six]
def linesOf (x : Scr) : List Wd := roomsL x :: selfL x :: x.steps.map lineR
def body : List Wd -> List UInt8
 | [] => []
 | w :: l => w ++ 10 :: body l
def showX (x : Scr) : List UInt8 := if [] ∈ x.steps.map lineR then [] else match parseX (body (linesOf x)) with
 | .ok y => if (y.r1, y.r2, y.r3) = (x.r1, x.r2, x.r3) then body (linesOf x) else []
 | .error _ => []
theorem zCc : ∀ (ls : List Wd), (∀ w ∈ ls, (10 : UInt8) ∉ w) -> yY 10 (body ls) = ls ++ [[]]
 | [], _ => rfl
 | w :: l, h => by rw [body, fV _ (h w yH), zCc l fun v hv => h v (yP _ hv)]; rfl
theorem wordy_no {w : Wd} (h : fZ w) : (∀ c ∈ w, c ≠ 32) /\ (10 : UInt8) ∉ w := ⟨fun c hc e => by have := h c hc; subst e; exact absurd this.1 zd, fun hc => absurd (h 10 hc).1 zd⟩
theorem join_no10 {ws : List Wd} (h : ∀ w ∈ ws, fZ w) : (10 : UInt8) ∉ join ws := fun hm => by
 rcases mem_join hm with h1 | ⟨w, hw, hc⟩
 ·exact absurd h1 zd
 ·exact (wordy_no (h w hw)).2 hc
structure Sized (x : Scr) : Prop where
 four : x.four.length = 4
 six : x.six.length = 16
theorem zFy (x : Scr) : ∀ w ∈ [wRooms, itoa x.r1, itoa x.r2, itoa x.r3], fZ w := by
 intro w hw; have k : fZ wRooms := by intro c hc; revert c; decide
 simp only [yR, jV, mW] at hw
 rcases hw with rfl | rfl | rfl | rfl
 ·exact k
 ·exact qQ _
 ·exact qQ _
 ·exact qQ _
theorem self_words {x : Scr} (z : Sized x) : ∀ w ∈ [wSelf, qP x.four, show_ x.six], fZ w := by
 intro w hw; have k : fZ wSelf := by intro c hc; revert c; decide
 simp only [yR, jV, mW] at hw
 rcases hw with rfl | rfl | rfl
 ·exact k
 ·exact zFn z.four
 ·exact wordy_show z.six
theorem spl_roomsL (x : Scr) : spl (roomsL x) = [wRooms, itoa x.r1, itoa x.r2, itoa x.r3] := wE _ zi fun w hw => (wordy_no (zFy x w hw)).1
theorem spl_selfL {x : Scr} (z : Sized x) : spl (selfL x) = [wSelf, qP x.four, show_ x.six] := wE _ zi fun w hw => (wordy_no (self_words z w hw)).1
theorem parts_no : partsOf wRooms = [] /\ partsOf wSelf = [] := zd
theorem word_head {w : Wd} (h : partsOf w ≠ []) : w.head? ≠ some 35 /\ w ≠ [] /\ w ≠ wRooms /\ w ≠ wSelf := by
 refine ⟨fun e => ?_, fun e => h (by rw [e]; decide), fun e => h (by rw [e]; exact parts_no.1), fun e => h (by rw [e]; exact parts_no.2)⟩
 cases w with
 | nil => cases e
 |cons c r =>
  injection e with e
  have := (word_wordy h c yH)
  rcases parts_word h with h1 | ⟨-, -, h3⟩
  ·rcases h1 with h1 | h1
   ·injection h1 with h1 _; rw [h1] at e; exact absurd e zd
   ·injection h1 with h1 _; rw [h1] at e; exact absurd e zd
  ·have hm := uA (idx_get h3)
   have : ∀ w ∈ names, w.head? ≠ some 35 := zd; exact this _ hm (by rw [e]; rfl)
theorem spl_head : ∀ (c : UInt8) (r : List UInt8), c ≠ 32 -> ∃ w ws, spl (c :: r) = (c :: w) :: ws := by
 intro c r h
 cases hs : spl r with
 | nil => exact absurd hs (spl_ne r)
 | cons v vs => exact ⟨v, vs, by simp [spl, h, hs]⟩
theorem one_step {s : List UInt8} {t : Stp} (h : oneR s = some t) : skipped s = false /\ roomsR (spl s) = none /\ selfR (spl s) = none := by
 obtain ⟨w, l, hs, hp, -⟩ := oneR_some h; obtain ⟨h1, h2, h3, h4⟩ := word_head hp; refine ⟨?_, ?_, ?_⟩
 ·unfold skipped
  cases s with
  | nil => rw [oneR_nil] at h; cases h
  |cons c r =>
   have : c ≠ 35 := by
    rintro rfl; obtain ⟨v, vs, e⟩ := spl_head 35 r zd; rw [e] at hs; injection hs with hs _
    rw [← hs] at h1; exact h1 rfl
   simp [this]
 ·rw [hs]
  unfold roomsR
  split
  ·rename_i e; injection e with e _; rw [zH (by rw [← e]; exact h3)]
  ·rfl
 ·rw [hs]
  unfold selfR
  split
  ·rename_i e; injection e with e _; rw [zH (by rw [← e]; exact h4)]
  ·rfl
theorem take_step {x : Scr} {s : List UInt8} {t : Stp} (h : oneR s = some t) : takeR x s = if x.steps.length = 1000 then none else some { x with steps := x.steps ++ [t] } := by
 obtain ⟨-, h2, h3⟩ := one_step h; unfold takeR; rw [h2, h3, h]
theorem zAv : ∀ (l m : List Wd) (x : Scr) (i : Nat), linesR x i (l ++ m) = (match linesR x i l with | .ok y => linesR y (i + l.length) m | .error k => .error k)
 | [], m, x, i => rfl
 |s :: l, m, x, i => by
  rw [yC, linesR, linesR]
  split
  ·rw [zAv l m]; simp only [zI]; rw [show i + 1 + l.length = i + (l.length + 1) from om]
  ·split
   ·rw [zAv l m]; simp only [zI]; rw [show i + 1 + l.length = i + (l.length + 1) from om]
   ·rfl
theorem zFf : ∀ (ts : List Stp) (x : Scr) (i : Nat), (∀ t ∈ ts, oneR (lineR t) = some t) -> linesR x i (ts.map lineR) = linesR x i (ts.map lineR) -> x.steps.length + ts.length <= 1000 -> linesR x i (ts.map lineR) = .ok { x with steps := x.steps ++ ts }
 | [], x, i, _, _, _ => by simp [linesR]
 |t :: ts, x, i, h, _, hl => by
  have h1 := h t yH; simp only [zI] at hl; rw [yM, linesR, (one_step h1).1, zH zi, take_step h1, zH om]; simp only; rw [zFf ts _ _ (fun u hu => h u (yP _ hu)) rfl zo]; simp
theorem lines_steps' : ∀ (ts : List Stp) (x y : Scr) (i : Nat) (m : List Wd), (∀ t ∈ ts, oneR (lineR t) = some t) -> linesR x i (ts.map lineR) = .ok y -> y = { x with steps := x.steps ++ ts }
 | [], x, y, i, m, _, h => by simp only [xH, linesR] at h; injection h with h; rw [← h]; simp
 |t :: ts, x, y, i, m, hh, h => by
  have h1 := hh t yH; rw [yM, linesR, (one_step h1).1, zH zi, take_step h1] at h
  split at h
  ·rename_i u hu
   split at hu
   ·cases hu
   ·injection hu with hu
    subst hu; rw [lines_steps' ts _ y (i + 1) m (fun u hu => hh u (yP _ hu)) h]; simp
  ·cases h
theorem skip_rooms (x : Scr) : skipped (roomsL x) = false := by
 unfold skipped roomsL; simp [join, wRooms]
theorem skip_self (x : Scr) : skipped (selfL x) = false := by
 unfold skipped selfL; simp [join, wSelf]
theorem rooms_take (x y : Scr) : takeR y (roomsL x) = (match num30 (itoa x.r1), num30 (itoa x.r2), num30 (itoa x.r3) with | some a, some b, some c => some { y with r1 := a, r2 := b, r3 := c } | _, _, _ => none) := by
 have ho : oneR (roomsL x) = none := by
  unfold oneR; rw [spl_roomsL, oneW, parts_no.1]; simp [reads]
 unfold takeR; rw [spl_roomsL, ho]; simp only [roomsR, selfR, aB]
 cases num30 (itoa x.r1) with
 | none => rfl
 |some a => cases num30 (itoa x.r2) with
  | none => rfl
  |some b => cases num30 (itoa x.r3) with
   | none => rfl
   | some c => rfl
theorem self_take {x : Scr} (z : Sized x) (y : Scr) : takeR y (selfL x) = some { y with four := x.four, six := x.six } := by
 unfold takeR; rw [spl_selfL z]; simp only [roomsR, selfR, aB]; rw [zFd z.four, parse_show z.six]; simp
theorem body_no10 {x : Scr} (z : Sized x) (h : [] ∉ x.steps.map lineR) : ∀ w ∈ linesOf x, (10 : UInt8) ∉ w := by
 intro w hw
 rcases yR.1 hw with rfl | hw
 ·exact join_no10 (zFy x)
 ·rcases yR.1 hw with rfl | hw
  ·exact join_no10 (self_words z)
  ·obtain ⟨t, ht, rfl⟩ := vB.1 hw
   exact one_no10 (line_one fun e => h (by rw [← e]; exact mH ht))
theorem show_back {x : Scr} (z : Sized x) (h : showX x ≠ []) : parseX (showX x) = .ok x := by
 unfold showX at h ⊢
 split
 ·rename_i h1; rw [zN h1] at h; exact absurd rfl h
 ·rename_i h1
  rw [zH h1] at h
  cases hp : parseX (body (linesOf x)) with
  | error e => rw [hp] at h; exact absurd rfl h
  |ok y =>
   rw [hp] at h; simp only at h ⊢
   split
   ·rename_i hr
    rw [hp]
    congr 1
    unfold parseX at hp
    split at hp
    ·cases hp
    ·rw [zCc _ (body_no10 z h1)] at hp
     split at hp
     ·rename_i y' hl
      injection hp with hp
      subst hp; rw [zAv] at hl; unfold linesOf at hl; rw [linesR, skip_rooms, zH zi, rooms_take] at hl
      cases e1 : num30 (itoa x.r1) with
      | none => rw [e1] at hl; cases hl
      | some a1 =>
      cases e2 : num30 (itoa x.r2) with
      | none => rw [e1, e2] at hl; cases hl
      | some b1 =>
      cases e3 : num30 (itoa x.r3) with
      | none => rw [e1, e2, e3] at hl; cases hl
      | some c1 =>
      rw [e1, e2, e3] at hl; simp only at hl; rw [linesR, skip_self, zH zi, self_take z] at hl; simp only at hl
      split at hl
      ·rename_i v hv
       have hlines := lines_steps' _ _ _ _ [] (fun t ht => line_one fun e => h1 (by rw [← e]; exact mH ht)) hv; subst hlines; simp only [linesR, skipped, decide_true, Bool.true_or, aB] at hl; injection hl with hl
       subst hl; simp only [rZ] at hr; obtain ⟨q1, q2, q3⟩ := hr
       cases x
       simp_all [scr0]
      ·cases hl
     ·cases hp
   ·rename_i hr
    rw [zH hr] at h; exact absurd rfl h
theorem mJ : ∀ (a b : List Wd), body (a ++ b) = body a ++ body b
 | [], b => rfl
 | w :: a, b => by rw [yC, body, body, mJ a b, xQ, yC]
theorem body_split : ∀ s : List UInt8, (body (yY 10 s)).length = s.length + 1
 | [] => rfl
 |c :: r => by
  have ih := body_split r; unfold yY
  split
  ·simp only [body, yJ, zI]; omega
  ·cases hs : yY 10 r with
   | nil => exact absurd hs (bH 10 r)
   |cons w ws =>
    rw [hs] at ih; simp only [body, mY, bZ, zG, zI, yC] at ih ⊢; omega
structure Inv (x : Scr) : Prop where
 z : Sized x
 b1 : 0 <= x.r1 /\ x.r1 <= 1073741824
 b2 : 0 <= x.r2 /\ x.r2 <= 1073741824
 b3 : 0 <= x.r3 /\ x.r3 <= 1073741824
 n : x.steps.length <= 1000
 s : ∀ t ∈ x.steps, oneR (lineR t) = some t
theorem roomsR_some {l : List Wd} {r : Int × Int × Int} (h : roomsR l = some r) : (0 <= r.1 /\ r.1 <= 1073741824) /\ (0 <= r.2.1 /\ r.2.1 <= 1073741824) /\ (0 <= r.2.2 /\ r.2.2 <= 1073741824) := by
 unfold roomsR at h
 split at h
 ·split at h
  ·split at h
   ·rename_i h1 h2 h3
    injection h with h
    subst h; exact ⟨(num30_some h1).2, (num30_some h2).2, (num30_some h3).2⟩
   ·cases h
  ·cases h
 ·cases h
theorem selfR_some {l : List Wd} {r : List UInt8 × List UInt8} (h : selfR l = some r) : r.1.length = 4 /\ r.2.length = 16 := by
 unfold selfR at h
 split at h
 ·split at h
  ·split at h
   ·rename_i h1 h2
    split at h
    ·injection h with h
     subst h; exact ⟨kE _ _ _ h1, aN h2⟩
    ·cases h
   ·cases h
  ·cases h
 ·cases h
theorem take_cases {x y : Scr} {s : List UInt8} (h : takeR x s = some y) : (∃ r, roomsR (spl s) = some r /\ y = { x with r1 := r.1, r2 := r.2.1, r3 := r.2.2 }) ∨ (∃ a, selfR (spl s) = some a /\ y = { x with four := a.1, six := a.2 }) ∨ (∃ t, oneR s = some t /\ x.steps.length ≠ 1000 /\ y = { x with steps := x.steps ++ [t] }) := by
 unfold takeR at h
 split at h
 ·rename_i r hr
  injection h with h
  exact Or.inl ⟨r, hr, h.symm⟩
 ·split at h
  ·rename_i a ha
   injection h with h
   exact Or.inr (Or.inl ⟨a, ha, h.symm⟩)
  ·split at h
   ·rename_i t ht
    split at h
    ·cases h
    ·rename_i hn
     injection h with h
     exact Or.inr (Or.inr ⟨t, ht, hn, h.symm⟩)
   ·cases h
theorem take_inv {x y : Scr} {s : List UInt8} (h : takeR x s = some y) (i : Inv x) : Inv y := by
 rcases take_cases h with ⟨r, hr, rfl⟩ | ⟨a, ha, rfl⟩ | ⟨t, ht, hn, rfl⟩
 ·obtain ⟨h1, h2, h3⟩ := roomsR_some hr
  exact ⟨⟨i.z.four, i.z.six⟩, h1, h2, h3, i.n, i.s⟩
 ·have := selfR_some ha
  exact ⟨⟨this.1, this.2⟩, i.b1, i.b2, i.b3, i.n, i.s⟩
 ·refine ⟨⟨i.z.four, i.z.six⟩, i.b1, i.b2, i.b3, ?_, ?_⟩
  ·have := i.n
   simp only [zG, List.length_singleton]; omega
  ·intro u hu
   rcases xR.1 hu with hu | hu
   ·exact i.s u hu
   ·rw [xS.1 hu, one_line ht]; exact ht
def wt (x : Scr) : Nat := (body (x.steps.map lineR)).length
theorem take_wt {x y : Scr} {s : List UInt8} (h : takeR x s = some y) : wt y <= wt x + (s.length + 1) := by
 rcases take_cases h with ⟨r, hr, rfl⟩ | ⟨a, ha, rfl⟩ | ⟨t, ht, hn, rfl⟩
 ·unfold wt; simp only; omega
 ·unfold wt; simp only; omega
 ·unfold wt
  simp only [jT, mJ, zG, yM, xH, one_line ht, body, zI, xI]; omega
theorem zDu : ∀ {l : List Wd} {x y : Scr} {i : Nat}, linesR x i l = .ok y -> Inv x -> Inv y /\ wt y <= wt x + (body l).length
 | [], x, y, i, h, v => by injection h with h; subst h; exact ⟨v, om⟩
 |s :: l, x, y, i, h, v => by
  unfold linesR at h; have e : (body (s :: l)).length = s.length + 1 + (body l).length := by simp only [body, zG, zI]; omega
  split at h
  ·obtain ⟨h1, h2⟩ := zDu h v
   exact ⟨h1, om⟩
  ·split at h
   ·rename_i u hu
    obtain ⟨h1, h2⟩ := zDu h (take_inv hu v); have := take_wt hu; exact ⟨h1, om⟩
   ·cases h
theorem inv0 : Inv scr0 := ⟨⟨zd, zd⟩, zd, zd, zd, zd, fun t ht => by cases ht⟩
theorem parse_ok {s : List UInt8} {x : Scr} (h : parseX s = .ok x) : s.length <= 65536 /\ linesR scr0 0 (yY 10 s) = .ok x := by
 unfold parseX at h
 split at h
 ·cases h
 ·rename_i hn
  split at h
  ·rename_i y hy; injection h with h; subst h; exact ⟨om, hy⟩
  ·cases h
theorem parse_inv {s : List UInt8} {x : Scr} (h : parseX s = .ok x) : Inv x /\ wt x <= s.length + 1 := by
 obtain ⟨-, h2⟩ := parse_ok h; have := zDu h2 inv0; rw [body_split] at this; exact ⟨this.1, by have e : wt scr0 = 0 := rfl; omega⟩
theorem zBm {n : Int} (h : 0 <= n /\ n <= 1073741824) : num30 (itoa n) = some n := by
 unfold num30; refine uD.2 ⟨h.1, om, h.2, ?_⟩; unfold itoa; rw [zH om]
theorem rooms_len {x : Scr} (i : Inv x) : (roomsL x).length <= 71 := by
 have h1 := itoa_length_le x.r1 (by have := i.b1; omega) (by have := i.b1; omega); have h2 := itoa_length_le x.r2 (by have := i.b2; omega) (by have := i.b2; omega); have h3 := itoa_length_le x.r3 (by have := i.b3; omega) (by have := i.b3; omega); have h0 : wRooms.length = 5 := rfl; simp only [roomsL, join, zG, zI]; omega
theorem dec_le (c : UInt8) : (decDigits c.toNat).length <= 21 := by
 have := c.toNat_lt; have h := itoa_length_le (c.toNat : Int) om om; unfold itoa at h; rw [zH om] at h; exact h
theorem self_len {x : Scr} (z : Sized x) : (selfL x).length <= 140 := by
 have h1 := (show_le z.six).2
 have h2 : (qP x.four).length <= 87 := by
  match hx : x.four, z.four with
  |[a, b, c, d], _ =>
   have := dec_le a; have := dec_le b; have := dec_le c; have := dec_le d; simp only [qP, dotJ, yM, xH, zG, zI]; omega
 have h0 : wSelf.length = 4 := rfl; simp only [selfL, join, zG, zI]; omega
theorem inv_back {x : Scr} (i : Inv x) (hw : wt x <= 60000) : showX x = body (linesOf x) /\ parseX (body (linesOf x)) = .ok x := by
 have h1 : [] ∉ x.steps.map lineR := by
  intro h; obtain ⟨t, ht, e⟩ := vB.1 h; have := i.s t ht; rw [e, oneR_nil] at this
  cases this
 have hp : parseX (body (linesOf x)) = .ok x := by
  unfold parseX
  have hl : (body (linesOf x)).length <= 65536 := by
   have a := rooms_len i; have b := self_len i.z; unfold wt at hw; unfold linesOf; simp only [body, zG, zI]; omega
  rw [zH om, zCc _ (body_no10 i.z h1), zAv]; unfold linesOf; rw [linesR, skip_rooms, zH zi, rooms_take, zBm i.b1, zBm i.b2, zBm i.b3]; simp only; rw [linesR, skip_self, zH zi, self_take i.z]; simp only; rw [zFf _ _ _ i.s rfl (by simp only [scr0, xI]; have := i.n; omega)]; simp [linesR, skipped, scr0]
 refine ⟨?_, hp⟩; unfold showX; rw [zH h1, hp]; simp
theorem parse_small {s : List UInt8} (h : s.length <= 65536) : parseX s = (match linesR scr0 0 (yY 10 s) with | .ok x => .ok x | .error i => .error (20, i)) := by
 unfold parseX; rw [zH om]
 try (cases linesR scr0 0 (yY 10 s) <;> rfl)
def numD (w : Wd) : Int := match num30 w with | some n => n | none => -1
theorem lQ {w : Wd} : numD w < 0 ↔ num30 w = none := by
 unfold numD
 cases h : num30 w with
 | none => simp
 | some n => have := (num30_some h).2; simp; omega
theorem zAw {w : Wd} {n : Int} (h : num30 w = some n) : numD w = n := by unfold numD; rw [h]
def twoD (c : UInt8) (s : Wd) : Option (Int × Int) := match yY c s with
 | [a, b] => if 0 <= numD a /\ 0 <= numD b then some (numD a, numD b) else none
 | _ => none
theorem twoD_eq (c : UInt8) (hc : c.toNat < 48 ∨ 57 < c.toNat) (s : Wd) : twoD c s = two c s := by
 have hnil : num30 [] = none := zFq _; unfold twoD two
 by_cases h : c ∈ s
 ·obtain ⟨a, t, rfl, ha⟩ := mem_first h
  rw [zCi _ ha, fV _ ha]; simp only [aB]
  by_cases ht : c ∈ t
  ·have hn : num30 t = none := zGa ht hc
   obtain ⟨b, u, rfl, hb⟩ := mem_first ht; rw [fV _ hb, hn]
   cases hs : yY c u with
   | nil => exact absurd hs (bH c u)
   | cons v vs => cases num30 a <;> rfl
  ·rw [aO ht]
   simp only
   cases h1 : num30 a with
   | none => rw [zH (by have := lQ.2 h1; omega)]
   |some x => cases h2 : num30 t with
    | none => rw [zH (by have := lQ.2 h2; omega)]
    |some y =>
     rw [zAw h1, zAw h2, zN ⟨(num30_some h1).2.1, (num30_some h2).2.1⟩]
 ·rw [zCj h, aO h, hnil]
  cases num30 s <;> rfl
def fieldsL : List (List UInt8) := [[65, 78], [65], [65, 78], [65], [65], [79, 65, 78], [79], [79], [], [65], [65], [65], [], [], [65], [65]]
def restL : List UInt8 := [46, 46, 46, 83, 46, 46, 83, 83, 72, 46, 87, 46, 81, 80, 84, 87]
def setD (c : UInt8) (x : Stp) (n : Int) : Stp := if c = 65 then { x with a := n } else if c = 78 then { x with n := n } else { x with owner := n }
def getD' (c : UInt8) (x : Stp) : Int := if c = 65 then x.a else if c = 78 then x.n else x.owner
def nS (c : UInt8) : Part := if c = 65 then .A else if c = 78 then .N else .O
def readsD : List UInt8 -> Stp -> List Wd -> Option (Stp × List Wd)
 | [], x, l => some (x, l)
 |c :: f, x, l => match l with
  | [] => none
  | w :: r => if numD w < 0 then none else readsD f (setD c x (numD w)) r
def jX (c : UInt8) : List Part := if c = 83 then [.S] else if c = 72 then [.H] else if c = 87 then [.W] else if c = 80 then [.P] else if c = 81 then [.P, .W] else if c = 84 then [.T] else []
theorem readsD_eq : ∀ (f : List UInt8) (x : Stp) (l : List Wd), readsD f x l = reads (f.map nS) x l
 | [], x, l => rfl
 |c :: f, x, [] => by
  have : read (nS c) x [] = none := by unfold nS; split; rfl; split <;> rfl
  simp only [readsD, yM, reads, this]
 |c :: f, x, w :: r => by
  have : read (nS c) x (w :: r) = if numD w < 0 then none else some (setD c x (numD w), r) := by
   unfold nS setD
   cases hn : num30 w with
   | none => rw [zN (lQ.2 hn)]; split; (· simp only [read, hn]); split <;> simp only [read, hn]
   |some n =>
    have hg : ¬ numD w < 0 := fun h => by rw [lQ.1 h] at hn; cases hn
    rw [zH hg, zAw hn]
    split
    ·simp only [read, hn]
    ·split <;> simp only [read, hn]
  rw [readsD, yM, reads, this]
  split
  ·rfl
  ·exact readsD_eq f _ r
def waysN : List Wd -> Option (List (Int × Int))
 | [] => none
 | w :: l => waysP (w :: l)
def behS (x : Stp) : List Wd -> Option Stp
 | [w] => (match twoD 45 w with | some p => some { x with s1 := p.1, s2 := p.2 } | none => none)
 | _ => none
def behH (x : Stp) (l : List Wd) : Option Stp := match refParse (join l) with | some h => some { x with hop := h } | none => none
def behW (x : Stp) (l : List Wd) : Option Stp := match waysN l with | some r => some { x with ways := r } | none => none
def behP (q : Bool) (x : Stp) : List Wd -> Option Stp
 | [] => none
 | w :: r => match vR w with
   | some p => if fC p = w then (if q = true then behW { x with pf := p } r else if r = [] then some { x with pf := p } else none) else none
   | none => none
def behT (x : Stp) : List Wd -> Option Stp
 | [w] => if printed w = true then some { x with text := w } else none
 | _ => none
def behindD (c : UInt8) (x : Stp) (l : List Wd) : Option Stp :=
 if c = 83 then behS x l else if c = 72 then behH x l else if c = 87 then behW x l else if c = 80 ∨ c = 81 then behP (decide (c = 81)) x l else if c = 84 then behT x l else if l = [] then some x else none
theorem behind_eq {c : UInt8} (hc : c ∈ restL) {x : Stp} (hx : x.ways = []) (l : List Wd) : behindD c x l = (match reads (jX c) x l with | some (y, []) => some y | _ => none) := by
 have k : ∀ c ∈ restL, c = 46 ∨ c = 83 ∨ c = 72 ∨ c = 87 ∨ c = 81 ∨ c = 80 ∨ c = 84 := zd
 have hW : ∀ (y : Stp) (r : List Wd), y.ways = [] -> behW y r = (match read .W y r with | some (y, []) => some y | _ => none) := by
  intro y r hy
  cases r with
  | nil => rfl
  |cons v r =>
   simp only [behW, waysN, read, hy, yJ]
   cases waysP (v :: r) <;> rfl
 rcases k c hc with rfl | rfl | rfl | rfl | rfl | rfl | rfl
 ·simp only [behindD, jX, reads]
  cases l <;> rfl
 ·have e := twoD_eq 45 zd
  have e1 : behindD 83 x l = behS x l := rfl; have e2 : jX 83 = [.S] := rfl; rw [e1, e2, reads]
  cases l with
  | nil => rfl
  |cons w r =>
   cases r with
   |nil =>
    simp only [behS, read, e]
    cases two 45 w <;> rfl
   |cons v r =>
    simp only [behS, read]
    cases two 45 w <;> rfl
 ·have e1 : behindD 72 x l = behH x l := rfl
  have e2 : jX 72 = [.H] := rfl; have e : read .H x l = (match parseR (join l) with | some h => some ({ x with hop := h }, []) | none => none) := by cases l <;> rfl
  rw [e1, e2, reads, e, behH, refParse_eq]
  cases parseR (join l) <;> rfl
 ·have e1 : behindD 87 x l = behW x l := rfl
  have e2 : jX 87 = [.W] := rfl; rw [e1, e2, reads, hW x l hx]
  cases read .W x l <;> rfl
 ·have e1 : behindD 81 x l = behP true x l := rfl
  have e2 : jX 81 = [.P, .W] := rfl; rw [e1, e2, reads]
  cases l with
  | nil => rfl
  |cons w r =>
   simp only [behP, read]
   cases vR w with
   | none => rfl
   |some p =>
    simp only
    split
    ·simp only [aB, reads]
     rw [hW _ r (by exact hx)]
     cases read .W { x with pf := p } r <;> rfl
    ·rfl
 ·have e1 : behindD 80 x l = behP false x l := rfl
  have e2 : jX 80 = [.P] := rfl; rw [e1, e2, reads]
  cases l with
  | nil => rfl
  |cons w r =>
   simp only [behP, read]
   cases vR w with
   | none => rfl
   |some p =>
    simp only
    split
    ·cases r <;> rfl
    ·rfl
 ·have e1 : behindD 84 x l = behT x l := rfl
  have e2 : jX 84 = [.T] := rfl; rw [e1, e2, reads]
  cases l with
  | nil => rfl
  |cons w r =>
   simp only [read]
   cases r with
   | nil => simp only [behT]; cases printed w <;> rfl
   | cons v r => simp only [behT]; cases printed w <;> rfl
theorem zEw : ∀ k, k < 16 -> partsK.getD k [] = (fieldsL.getD k []).map nS ++ jX (restL.getD k 0) := zd
theorem reads_app : ∀ (a b : List Part) (x : Stp) (l : List Wd), reads (a ++ b) x l = (match reads a x l with | some (y, r) => reads b y r | none => none)
 | [], b, x, l => rfl
 |p :: a, b, x, l => by
  rw [yC, reads, reads]
  cases read p x l with
  | none => rfl
  | some q => exact reads_app a b q.1 q.2
theorem setD_ways (c : UInt8) (x : Stp) (n : Int) : (setD c x n).ways = x.ways := by
 unfold setD
 split
 ·rfl
 ·split <;> rfl
theorem readsD_ways : ∀ (f : List UInt8) (x y : Stp) (l r : List Wd), readsD f x l = some (y, r) -> y.ways = x.ways := by
 intro f
 induction f with
 | nil => intro x y l r h; injection h with h; injection h with h1 h2; rw [h1]
 |cons c f ih =>
  intro x y l r h
  cases l with
  | nil => cases h
  |cons w l =>
   rw [readsD] at h
   split at h
   ·cases h
   ·rw [ih _ _ _ _ h, setD_ways]
def bytesD (b : Wd) : Option (List UInt8) := if b = [45] then some [] else match vE [] b with
 | some q => if b ≠ [] /\ hex q = b then some q else none
 | none => none
def packD (w a b : Wd) : Option Stp := if w = wIp ∨ w = wMpls then (match bytesD b with
 | some q => if 0 <= numD a then some { z with is := true, mpls := decide (w = wMpls), port := numD a, bytes := q } else none
 | none => none) else none
def packetD : List Wd -> Option Stp
 | [w, a, b] => packD w a b
 | _ => none
def oneD : List Wd -> Option Stp
 | [] => none
 |w :: l => match packetD (w :: l) with
  | some p => some p
  |none => if 16 <= idx w then none else match readsD (fieldsL.getD (idx w) []) { z with kind := idx w } l with
   | some (x, r) => behindD (restL.getD (idx w) 0) x r
   | none => none
theorem oneD_cons (w : Wd) (l : List Wd) : oneD (w :: l) = (match packetD (w :: l) with
  | some p => some p
  |none => if 16 <= idx w then none else match readsD (fieldsL.getD (idx w) []) { z with kind := idx w } l with
   | some (x, r) => behindD (restL.getD (idx w) 0) x r
   | none => none) := rfl
theorem oneW_cons (w : Wd) (l : List Wd) : oneW (w :: l) = (match reads (partsOf w) (x0 w) l with
  | some (x, []) => if partsOf w = [] then none else some x
  | _ => none) := rfl
theorem readB {x : Stp} (hx : x.bytes = []) (w : Wd) (l : List Wd) : read .B x (w :: l) = (match bytesD w with | some q => some ({ x with bytes := q }, l) | none => none) := by
 simp only [read, bytesD]
 by_cases h : w = []
 ·subst h
  rw [zN rfl, zH zd]
  cases vE [] [] with
  | none => rfl
  | some q => simp
 ·rw [zH h]
  by_cases h45 : w = [45]
  ·rw [zN h45, zN h45]
   have : x = { x with bytes := [] } := by rw [← hx]
   exact yG (fun y => some (y, l)) this
  ·rw [zH h45, zH h45]
   cases vE [] w with
   | none => rfl
   |some q =>
    simp only [qR, h, not_false_eq_true, rX]
    split <;> rfl
theorem readQ (x : Stp) (w : Wd) (l : List Wd) : read .Q x (w :: l) = if 0 <= numD w then some ({ x with port := numD w }, l) else none := by
 simp only [read]
 cases hn : num30 w with
 | none => rw [zH (by have := lQ.2 hn; omega)]
 | some n => rw [zAw hn, zN (num30_some hn).2.1]
theorem idx_packet : 16 <= idx wIp /\ 16 <= idx wMpls := zd
theorem pack_eq {w : Wd} (hw : w = wIp ∨ w = wMpls) (l : List Wd) : packetD (w :: l) = (match reads [.Q, .B] { z with is := true, mpls := decide (w = wMpls) } l with | some (x, []) => some x | _ => none) := by
 cases l with
 | nil => rfl
 |cons a l =>
  rw [reads, readQ]
  by_cases hn : 0 <= numD a
  ·rw [zN hn]
   show _ = (match reads [.B] { z with is := true, mpls := decide (w = wMpls), port := numD a } l with | some (x, []) => some x | _ => none)
   cases l with
   | nil => rfl
   |cons b l =>
    rw [reads, readB rfl]
    cases l with
    |nil =>
     show packD w a b = _
     unfold packD; rw [zN hw]
     cases bytesD b with
     | none => rfl
     | some q => simp only; rw [zN hn]; rfl
    |cons d l =>
     cases bytesD b with
     | none => rfl
     | some q => rfl
  ·rw [zH hn]
   match l with
   | [] => rfl
   |[b] =>
    show packD w a b = none
    unfold packD; rw [zN hw]
    cases bytesD b with
    | none => rfl
    | some q => simp only; rw [zH hn]
   | _ :: _ :: _ => rfl
theorem pack_no {w : Wd} (hw : ¬ (w = wIp ∨ w = wMpls)) (l : List Wd) : packetD (w :: l) = none := by
 match l with
 | [] => rfl
 | [_] => rfl
 | [a, b] => show packD w a b = none; unfold packD; rw [zH hw]
 | _ :: _ :: _ :: _ => rfl
theorem oneD_eq (ws : List Wd) : oneD ws = oneW ws := by
 cases ws with
 | nil => rfl
 |cons w l =>
  rw [oneD_cons, oneW_cons]
  by_cases hw : w = wIp ∨ w = wMpls
  ·have hp : partsOf w = [.Q, .B] := by unfold partsOf; rw [zN hw]
   have hi : 16 <= idx w := by rcases hw with rfl | rfl; exact idx_packet.1; exact idx_packet.2
   have hx : x0 w = { z with is := true, mpls := decide (w = wMpls) } := by
    rcases hw with rfl | rfl <;> decide
   have hne : ¬ (partsOf w = []) := by rw [hp]; simp
   rw [zN hi, pack_eq hw, hx, hp]
   cases reads [.Q, .B] { z with is := true, mpls := decide (w = wMpls) } l with
   | none => rfl
   |some q =>
    obtain ⟨y, r⟩ := q
    cases r with
    | nil => simp
    | cons v r => rfl
  ·rw [pack_no hw]
   simp only
   by_cases hi : 16 <= idx w
   ·have : partsOf w = [] := jO fun h => by
     rcases parts_word h with h | h
     ·exact hw h
     ·omega
    rw [zN hi, this]; simp only [reads, aB]
    cases l <;> rfl
   ·rw [zH hi]
    have hlt : idx w < 16 := om
    have hx : x0 w = { z with kind := (idx w : Int) } := by
     have h1 : w ≠ wIp := fun e => hw (Or.inl e); have h2 : w ≠ wMpls := fun e => hw (Or.inr e); unfold x0; simp only [h1, h2, decide_false, Bool.or_self, zN hlt, z]
    have hpo : partsOf w = (fieldsL.getD (idx w) []).map nS ++ jX (restL.getD (idx w) 0) := by
     unfold partsOf; rw [zH hw]; exact zEw _ hlt
    have hne : partsOf w ≠ [] := by
     have : ∀ ps ∈ partsK, ps ≠ [] := zd; apply this; unfold partsOf; rw [zH hw, vP, zA (show idx w < partsK.length from hlt)]; exact yU _
    have e2 : (match reads (partsOf w) (x0 w) l with | some (x, []) => if partsOf w = [] then none else some x | _ => none) = (match reads (partsOf w) (x0 w) l with | some (x, []) => some x | _ => none) := by
     cases reads (partsOf w) (x0 w) l with
     | none => rfl
     |some q => obtain ⟨y, r⟩ := q; cases r with
      | nil => simp only; rw [zH hne]
      | cons v r => rfl
    rw [e2, hpo, reads_app, ← readsD_eq, hx]
    cases hr : readsD (fieldsL.getD (idx w) []) { z with kind := (idx w : Int) } l with
    | none => rfl
    |some q =>
     obtain ⟨y, r⟩ := q; simp only; rw [behind_eq (by rw [vP, zA (show idx w < restL.length from hlt)]; exact yU _) (by rw [readsD_ways _ _ _ _ _ hr]; rfl)]
end Go.Proofs.YtdbgeobolongmaaGreatDoor.Sc
