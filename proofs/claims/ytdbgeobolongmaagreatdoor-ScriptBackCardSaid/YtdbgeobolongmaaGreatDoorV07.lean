/- Part of the proof: contracts of the functions that the statements of layer 32 reach. -/
import Init.Data.List.Lemmas
import Derived.Test.YtdbgeobolongmaaGreatDoorV01
import Derived.Test.YtdbgeobolongmaaGreatDoorV03
set_option linter.unusedVariables false
set_option linter.unusedSimpArgs false
namespace Go.PrefixPlain
def keepN (left : Nat) : UInt8 := UInt8.ofNat (65280 >>> left)
def leftN (bits : Int) (i : Nat) : Nat := (min (max (bits - 8 * i) 0) 8).toNat
def first (a : List UInt8) (bits : Int) : List UInt8 := a.mapIdx fun i c => c &&& keepN (leftN bits i)
theorem first_length (a : List UInt8) (n : Int) : (first a n).length = a.length := by simp [first]
theorem first_get {a : List UInt8} {i : Nat} {c : UInt8} (n : Int) (h : a[i]? = some c) : (first a n)[i]? = some (c &&& keepN (leftN n i)) := by simp [first, h]
theorem of_nat (c : UInt8) : UInt8.ofNat ((⟨c.toNat, c.toNat_lt⟩ : Fin 256) : Nat) = c := by simp
theorem leftN_le (n : Int) (i : Nat) : leftN n i < 9 := by unfold leftN; omega
end Go.PrefixPlain
namespace Go.PrefixPlain
structure Pf where
 six : Bool
 addr : List UInt8
 len : Int
deriving DecidableEq
def most (six : Bool) : Int := if six then 128 else 32
def ok (p : Pf) : Prop := 0 ≤ p.len ∧ p.len ≤ most p.six ∧ first p.addr p.len = p.addr
instance (p : Pf) : Decidable (ok p) := by unfold ok; infer_instance
end Go.PrefixPlain
namespace Go.PrefixPlain
open Go.OctetPlain Go.ColonPlain Go.Lib
def dotJ : List (List UInt8) → List UInt8
 | [] => []
 | [p] => p
 | p :: q :: r => p ++ 46 :: dotJ (q :: r)
def showD (a : List UInt8) : List UInt8 := dotJ (a.map fun c => decDigits c.toNat)
theorem dotted_show {a : List UInt8} (h : a.length = 4) : dotted (showD a) = some a := by
 match a, h with
 | [a, b, c, d], _ =>
  have e : splitC 46 (showD [a, b, c, d]) = [decDigits a.toNat, decDigits b.toNat, decDigits c.toNat, decDigits d.toNat] := by
   unfold showD
   simp only [List.map_cons, List.map_nil, dotJ]
   rw [splitC_app _ (dec_dot _), splitC_app _ (dec_dot _), splitC_app _ (dec_dot _), splitC_no (dec_dot _)]
  have ha := a.toNat_lt
  have hb := b.toNat_lt
  have hc := c.toNat_lt
  have hd := d.toNat_lt
  unfold dotted
  rw [e]
  simp only [dotParts]
  rw [number_dec (show a.toNat ≤ 255 by omega)]
  simp only [dotParts, List.length_nil, List.nil_append]
  rw [number_dec (show b.toNat ≤ 255 by omega)]
  simp [dotParts]
  rw [number_dec (show c.toNat ≤ 255 by omega)]
  simp [dotParts]
  rw [number_dec (show d.toNat ≤ 255 by omega)]
  simp [dotParts]
def textP (p : Pf) : List UInt8 := if p.six = true then show_ p.addr else showD (p.addr.take 4)
def showP (p : Pf) : List UInt8 := textP p ++ 47 :: itoa p.len
def addr2 (s : List UInt8) : Option (Bool × List UInt8) := match parse s with
 | some a => some (true, a)
 | none => match dotted s with
  | some a => some (false, a ++ List.replicate 12 0)
  | none => none
def parseP (s : List UInt8) : Option Pf := match addr2 (cut s [47]).1 with
 | none => none
 | some (six, a) => match number (cut s [47]).2.1 128 with
  | none => none
  | some n => if ok ⟨six, a, n⟩ then some ⟨six, a, n⟩ else none
theorem mem_split (d : UInt8) : ∀ {l : List UInt8} {c : UInt8}, c ∈ l → c = d ∨ ∃ p ∈ splitC d l, c ∈ p
 | x :: r, c, h => by
  by_cases hx : x = d
  ·subst hx
   rcases List.mem_cons.1 h with rfl | h
   ·exact Or.inl rfl
   ·rcases mem_split x h with h | ⟨p, hp, hc⟩
    ·exact Or.inl h
    ·refine Or.inr ⟨p, ?_, hc⟩
     simp [splitC, hp]
  ·have e : splitC d (x :: r) = (x :: (splitC d r).headD []) :: (splitC d r).tail := by simp [splitC, hx]
   rcases List.mem_cons.1 h with rfl | h
   ·exact Or.inr ⟨_, by rw [e]; exact List.mem_cons_self, List.mem_cons_self⟩
   ·rcases mem_split d h with h | ⟨p, hp, hc⟩
    ·exact Or.inl h
    ·have hne := splitC_ne d r
     cases hs : splitC d r with
     | nil => exact absurd hs hne
     | cons a b =>
      rw [hs] at hp
      rcases List.mem_cons.1 hp with rfl | hp
      ·exact Or.inr ⟨_, by rw [e]; exact List.mem_cons_self, by rw [hs]; exact List.mem_cons_of_mem _ hc⟩
      ·exact Or.inr ⟨p, by rw [e, hs]; exact List.mem_cons_of_mem _ hp, hc⟩
theorem number_chars {p : List UInt8} {m v : Int} (h : number p m = some v) : ∀ c ∈ p, 48 ≤ c.toNat ∧ c.toNat ≤ 57 := by
 obtain ⟨_, _, _, e⟩ := number_some.1 h
 rw [e]
 exact decDigits_dig _
theorem dotParts_chars : ∀ (ps : List (List UInt8)) (out a : List UInt8), dotParts out ps = some a → ∀ p ∈ ps, ∀ c ∈ p, 48 ≤ c.toNat ∧ c.toNat ≤ 57
 | [], out, a, h, p, hp => by cases hp
 | q :: ps, out, a, h, p, hp => by
  simp only [dotParts] at h
  cases hn : number q 255 with
  | none => rw [hn] at h; cases h
  | some n =>
   rw [hn] at h
   simp only at h
   split at h
   ·cases h
   ·rcases List.mem_cons.1 hp with rfl | hp
    ·exact number_chars hn
    ·exact dotParts_chars ps _ a h p hp
theorem dotted_chars {l a : List UInt8} (h : dotted l = some a) : ∀ c ∈ l, c = 46 ∨ (48 ≤ c.toNat ∧ c.toNat ≤ 57) := by
 intro c hc
 rcases mem_split 46 hc with h1 | ⟨p, hp, hcp⟩
 ·exact Or.inl h1
 ·exact Or.inr (dotParts_chars _ _ a h p hp c hcp)
theorem group_chars : ∀ (l : List UInt8) (n s m : Nat), groupFrom n s l = some m → ∀ c ∈ l, 0 ≤ dig c
 | [], n, s, m, h, c, hc => by cases hc
 | x :: r, n, s, m, h, c, hc => by
  unfold groupFrom at h
  split at h
  ·cases h
  ·rcases List.mem_cons.1 hc with rfl | hc
   ·omega
   ·exact group_chars r _ _ m h c hc
def Fine (c : UInt8) : Prop := c = 58 ∨ c = 46 ∨ (48 ≤ c.toNat ∧ c.toNat ≤ 57) ∨ 0 ≤ dig c
theorem rowParts_chars (last : Bool) : ∀ (ps : List (List UInt8)) (out L : List Nat), rowParts last out ps = some L → ∀ p ∈ ps, ∀ c ∈ p, Fine c
 | [], out, L, h, p, hp => by cases hp
 | q :: ps, out, L, h, p, hp => by
  rw [rowParts] at h
  cases hg : group q with
  | some n =>
   rw [hg] at h
   rcases List.mem_cons.1 hp with rfl | hp
   ·exact fun c hc => Or.inr (Or.inr (Or.inr (group_chars _ _ _ _ hg c hc)))
   ·exact rowParts_chars last ps _ L h p hp
  | none =>
   rw [hg] at h
   cases hd : dotted q with
   | none => rw [hd] at h; cases h
   | some a =>
    rw [hd] at h
    simp only at h
    split at h
    ·rename_i hl
     rw [hl.2] at hp
     rcases List.mem_cons.1 hp with rfl | hp
     ·intro c hc
      rcases dotted_chars hd c hc with h1 | h1
      ·exact Or.inr (Or.inl h1)
      ·exact Or.inr (Or.inr (Or.inl h1))
     ·cases hp
    ·cases h
theorem row_chars {last : Bool} {l : List UInt8} {L : List Nat} (h : row last l = some L) : ∀ c ∈ l, Fine c := by
 unfold row at h
 split at h
 ·rename_i hn; rw [hn]; intro c hc; cases hc
 ·intro c hc
  rcases mem_split 58 hc with h1 | ⟨p, hp, hcp⟩
  ·exact Or.inl h1
  ·exact rowParts_chars last _ _ L h p hp c hcp
theorem index_two : ∀ (s : List UInt8), 0 ≤ index s [58, 58] → s.drop (index s [58, 58]).toNat = [58, 58] ++ s.drop ((index s [58, 58]).toNat + 2)
 | [], h => by simp [index] at h
 | b :: l, h => by
  have ih := index_two l
  rw [index, dd_zero] at h ⊢
  by_cases hd : ddAt (b :: l) 0
  ·rw [decide_eq_true hd, if_pos rfl]
   obtain ⟨h1, h2⟩ := hd
   cases l with
   | nil => simp at h2
   | cons c r => simp at h1 h2; subst h1; subst h2; rfl
  ·rw [decide_eq_false hd] at h ⊢
   simp only [Bool.false_eq_true, if_false] at h ⊢
   split at h
   ·omega
   ·rename_i hx
    rw [if_neg hx]
    have hge := index_ge l [58, 58]
    have hx2 : index l [58, 58] ≠ -1 := by simpa using hx
    have h0 : 0 ≤ index l [58, 58] := by omega
    have e : (index l [58, 58] + 1).toNat = (index l [58, 58]).toNat + 1 := by omega
    rw [e]
    simpa using ih h0
theorem parse_chars {s a : List UInt8} (h : parse s = some a) : ∀ c ∈ s, Fine c := by
 cases ha : row (!(cut s [58, 58]).2.2) (cut s [58, 58]).1 with
 | none => rw [parse_none_a ha] at h; cases h
 | some x =>
  cases hb : row true (cut s [58, 58]).2.1 with
  | none => rw [parse_none_b hb] at h; cases h
  | some y =>
   have h1 := row_chars ha
   have h2 := row_chars hb
   intro c hc
   unfold cut at h1 h2
   split at h1
   ·rename_i hi
    rw [if_pos hi] at h2
    simp only at h1 h2
    rw [← List.take_append_drop (index s [58, 58]).toNat s] at hc
    rcases List.mem_append.1 hc with hc | hc
    ·exact h1 c hc
    ·
     have hd := index_two s hi
     rw [hd] at hc
     rcases List.mem_append.1 hc with hc | hc
     ·left; simpa using hc
     ·exact h2 c hc
   ·exact h1 c hc
theorem cut_one {d : UInt8} {x : List UInt8} (y : List UInt8) (h : d ∉ x) : cut (x ++ d :: y) [d] = (x, y, true) := by
 unfold cut
 rw [index_app y h, if_pos (by omega)]
 simp
theorem cut_none {d : UInt8} {x : List UInt8} (h : d ∉ x) : cut x [d] = (x, [], false) := by
 unfold cut
 rw [index_no h, if_neg (by omega)]
end Go.PrefixPlain
namespace Go.PrefixPlain
open Go.OctetPlain Go.ColonPlain Go.Lib
end Go.PrefixPlain
namespace Go.Proofs.YtdbgeobolongmaaGreatDoor.Sc
open Go Go.OctetPlain Go.ColonPlain Go.PrefixPlain Go.Proofs.YtdbgeobolongmaaGreatDoor.Hp Go.Lib
structure Stp where
 is : Bool
 kind : Int
 a : Int
 n : Int
 owner : Int
 s1 : Int
 s2 : Int
 pf : Pf
 hop : Hop
 ways : List (Int × Int)
 text : List UInt8
 port : Int
 mpls : Bool
 bytes : List UInt8
deriving DecidableEq
def pf0 : Pf := ⟨false, List.replicate 16 0, 0⟩
def hop0 : Hop := ⟨0, [], 0, 0, [], false⟩
def z : Stp := ⟨false, 0, 0, 0, 0, 0, 0, pf0, hop0, [], [], 0, false, []⟩
inductive Part where | A | N | O | S | W | P | H | T | Q | B
deriving DecidableEq
def num30 (w : Wd) : Option Int := number w 1073741824
def two (c : UInt8) (w : Wd) : Option (Int × Int) := match num30 (cut w [c]).1, num30 (cut w [c]).2.1 with
 | some a, some b => if (cut w [c]).2.2 = true then some (a, b) else none
 | _, _ => none
def waysP : List Wd → Option (List (Int × Int))
 | [] => some []
 | w :: l => match two 42 w, waysP l with
  | some p, some r => some (p :: r)
  | _, _ => none
def printed (w : Wd) : Bool := decide (w ≠ []) && w.all fun c => decide (33 ≤ c.toNat) && decide (c.toNat ≤ 126)
def read (p : Part) (x : Stp) (l : List Wd) : Option (Stp × List Wd) := match p, l with
 | .W, [] => none
 | .W, l => match waysP l with | some r => some ({ x with ways := x.ways ++ r }, []) | none => none
 | .H, l => match parseR (join l) with | some h => some ({ x with hop := h }, []) | none => none
 | _, [] => none
 | .A, w :: l => match num30 w with | some n => some ({ x with a := n }, l) | none => none
 | .N, w :: l => match num30 w with | some n => some ({ x with n := n }, l) | none => none
 | .O, w :: l => match num30 w with | some n => some ({ x with owner := n }, l) | none => none
 | .Q, w :: l => match num30 w with | some n => some ({ x with port := n }, l) | none => none
 | .S, w :: l => match two 45 w with | some p => some ({ x with s1 := p.1, s2 := p.2 }, l) | none => none
 | .P, w :: l => match parseP w with | some p => if showP p = w then some ({ x with pf := p }, l) else none | none => none
 | .T, w :: l => if printed w = true then some ({ x with text := w }, l) else none
 | .B, w :: l => if w = [] then none else if w = [45] then some (x, l) else match refUnhex [] w with | some b => if hex b = w then some ({ x with bytes := b }, l) else none | none => none
def reads : List Part → Stp → List Wd → Option (Stp × List Wd)
 | [], x, l => some (x, l)
 | p :: ps, x, l => match read p x l with | some (y, r) => reads ps y r | none => none
def names : List Wd := [[112, 111, 114, 116], [110, 111, 112, 111, 114, 116], [108, 105, 110, 107], [99, 97, 114, 118, 101], [99, 108, 111, 115, 101], [100, 114, 97, 119], [116, 97, 107, 101], [102, 114, 101, 101], [104, 111, 112], [110, 111, 104, 111, 112], [98, 105, 110, 100], [110, 111, 98, 105, 110, 100], [114, 111, 117, 116, 101], [110, 111, 114, 111, 117, 116, 101], [112, 111, 108, 105, 99, 121], [115, 105, 100]]
def wIp : Wd := [105, 112]
def wMpls : Wd := [109, 112, 108, 115]
def idx (w : Wd) : Nat := names.idxOf w
def partsK : List (List Part) := [[.A, .N], [.A], [.A, .N], [.A, .S], [.A], [.O, .A, .N], [.O, .S], [.O, .S], [.H], [.A], [.A, .W], [.A], [.P, .W], [.P], [.A, .T], [.A, .W]]
def partsOf (w : Wd) : List Part := if w = wIp ∨ w = wMpls then [.Q, .B] else partsK.getD (idx w) []
def x0 (w : Wd) : Stp := { z with is := decide (w = wIp) || decide (w = wMpls), mpls := decide (w = wMpls), kind := if idx w < 16 then (idx w : Int) else 0 }
def oneW : List Wd → Option Stp
 | [] => none
 | w :: l => match reads (partsOf w) (x0 w) l with
  | some (x, []) => if partsOf w = [] then none else some x
  | _ => none
def oneR (s : List UInt8) : Option Stp := oneW (spl s)
def dash (x y : Int) : Wd := itoa x ++ 45 :: itoa y
def star (p : Int × Int) : Wd := itoa p.1 ++ 42 :: itoa p.2
def shw (p : Part) (x : Stp) : List Wd := match p with
 | .A => [itoa x.a]
 | .N => [itoa x.n]
 | .O => [itoa x.owner]
 | .Q => [itoa x.port]
 | .S => [dash x.s1 x.s2]
 | .W => x.ways.map star
 | .P => [showP x.pf]
 | .H => spl (showR x.hop)
 | .T => [x.text]
 | .B => [if x.bytes = [] then [45] else hex x.bytes]
def wordOf (x : Stp) : Option Wd := if x.is = true then some (if x.mpls = true then wMpls else wIp) else if 0 ≤ x.kind ∧ x.kind ≤ 15 then names[x.kind.toNat]? else none
def textW (x : Stp) (w : Wd) : List Wd := w :: (partsOf w).flatMap fun p => shw p x
def textR (x : Stp) : List UInt8 := match wordOf x with | some w => join (textW x w) | none => []
def lineR (x : Stp) : List UInt8 := if oneR (textR x) = some x then textR x else []
theorem num30_some {w : Wd} {n : Int} (h : num30 w = some n) : w = itoa n ∧ 0 ≤ n ∧ n ≤ 1073741824 := by
 obtain ⟨h0, -, h2, h3⟩ := number_some.1 h
 refine ⟨?_, h0, h2⟩
 rw [h3]
 unfold itoa
 rw [if_neg (by omega)]
theorem mem_first {c : UInt8} : ∀ {w : Wd}, c ∈ w → ∃ s t, w = s ++ c :: t ∧ c ∉ s
 | d :: w, h => by
  by_cases hd : c = d
  ·exact ⟨[], w, by rw [hd]; rfl, by simp⟩
  ·rcases List.mem_cons.1 h with rfl | h
   ·exact absurd rfl hd
   ·obtain ⟨s, t, e, g⟩ := mem_first h
    exact ⟨d :: s, t, by rw [e]; rfl, by simp [hd, g]⟩
theorem cut_eq {c : UInt8} : ∀ {w : Wd}, (cut w [c]).2.2 = true → w = (cut w [c]).1 ++ c :: (cut w [c]).2.1 := by
 intro w h
 by_cases hc : c ∈ w
 ·obtain ⟨s, t, rfl, hs⟩ := mem_first hc
  rw [cut_one _ hs]
 ·rw [cut_none hc] at h; simp at h
theorem two_some {c : UInt8} {w : Wd} {p : Int × Int} (h : two c w = some p) : w = itoa p.1 ++ c :: itoa p.2 ∧ (0 ≤ p.1 ∧ p.1 ≤ 1073741824) ∧ (0 ≤ p.2 ∧ p.2 ≤ 1073741824) := by
 unfold two at h
 cases h1 : num30 (cut w [c]).1 with
 | none => rw [h1] at h; simp at h
 | some a =>
  cases h2 : num30 (cut w [c]).2.1 with
  | none => rw [h1, h2] at h; simp at h
  | some b =>
   rw [h1, h2] at h
   simp only at h
   split at h
   ·rename_i h3
    injection h with h
    subst h
    have ha := num30_some h1
    have hb := num30_some h2
    refine ⟨?_, ha.2, hb.2⟩
    have := cut_eq h3
    rw [ha.1, hb.1] at this
    exact this
   ·cases h
theorem waysP_some : ∀ {l : List Wd} {r : List (Int × Int)}, waysP l = some r → l = r.map star ∧ ∀ w ∈ l, ∃ p, two 42 w = some p
 | [], r, h => by injection h with h; subst h; simp
 | w :: l, r, h => by
  unfold waysP at h
  cases h1 : two 42 w with
  | none => rw [h1] at h; simp at h
  | some p =>
   cases h2 : waysP l with
   | none => rw [h1, h2] at h; simp at h
   | some q =>
    rw [h1, h2] at h
    injection h with h
    subst h
    obtain ⟨e, g⟩ := waysP_some h2
    refine ⟨?_, ?_⟩
    ·rw [List.map_cons, ← e]
     have := (two_some h1).1
     simp only [star, List.cons.injEq, and_true]
     exact this
    ·intro v hv
     rcases List.mem_cons.1 hv with rfl | hv
     ·exact ⟨p, h1⟩
     ·exact g v hv
structure Kept (p : Part) (x y : Stp) : Prop where
 sh : ∀ q, q ≠ p → shw q y = shw q x
 is : y.is = x.is
 kind : y.kind = x.kind
 mpls : y.mpls = x.mpls
 w : p ≠ .W → y.ways = x.ways
 b : p ≠ .B → y.bytes = x.bytes
theorem read_some {p : Part} {x y : Stp} {l r : List Wd} (h : read p x l = some (y, r)) (hl : ∀ w ∈ l, ∀ c ∈ w, c ≠ 32) (hne : p = .H → l ≠ []) (hw : p = .W → x.ways = []) (hb : p = .B → x.bytes = []) :
  l = shw p y ++ r ∧ Kept p x y := by
 have num : ∀ {w : Wd} {l : List Wd} {f : Int → Stp}, (match num30 w with | some n => some (f n, l) | none => none) = some (y, r) → ∃ n, w = itoa n ∧ y = f n ∧ r = l := by
  intro w l f h
  cases hn : num30 w with
  | none => rw [hn] at h; cases h
  | some n =>
   rw [hn] at h
   injection h with h
   injection h with h1 h2
   exact ⟨n, (num30_some hn).1, h1.symm, h2.symm⟩
 cases p with
 | A => cases l with
  | nil => cases h
  | cons w l => obtain ⟨n, rfl, rfl, rfl⟩ := num h; exact ⟨rfl, ⟨fun q hq => by cases q <;> first | rfl | exact absurd rfl hq, rfl, rfl, rfl, fun _ => rfl, fun _ => rfl⟩⟩
 | N => cases l with
  | nil => cases h
  | cons w l => obtain ⟨n, rfl, rfl, rfl⟩ := num h; exact ⟨rfl, ⟨fun q hq => by cases q <;> first | rfl | exact absurd rfl hq, rfl, rfl, rfl, fun _ => rfl, fun _ => rfl⟩⟩
 | O => cases l with
  | nil => cases h
  | cons w l => obtain ⟨n, rfl, rfl, rfl⟩ := num h; exact ⟨rfl, ⟨fun q hq => by cases q <;> first | rfl | exact absurd rfl hq, rfl, rfl, rfl, fun _ => rfl, fun _ => rfl⟩⟩
 | Q => cases l with
  | nil => cases h
  | cons w l => obtain ⟨n, rfl, rfl, rfl⟩ := num h; exact ⟨rfl, ⟨fun q hq => by cases q <;> first | rfl | exact absurd rfl hq, rfl, rfl, rfl, fun _ => rfl, fun _ => rfl⟩⟩
 | S => cases l with
  | nil => cases h
  | cons w l =>
   simp only [read] at h
   cases hn : two 45 w with
   | none => rw [hn] at h; cases h
   | some q =>
    rw [hn] at h
    injection h with h
    injection h with h1 h2
    subst h1 h2
    refine ⟨?_, ⟨fun q hq => by cases q <;> first | rfl | exact absurd rfl hq, rfl, rfl, rfl, fun _ => rfl, fun _ => rfl⟩⟩
    have := (two_some hn).1
    simp only [shw, dash, List.cons_append, List.nil_append, List.cons.injEq, and_true]
    exact this
 | W => cases l with
  | nil => cases h
  | cons w l =>
   simp only [read] at h
   cases hn : waysP (w :: l) with
   | none => rw [hn] at h; cases h
   | some q =>
    rw [hn] at h
    injection h with h
    injection h with h1 h2
    subst h1 h2
    refine ⟨?_, ⟨fun q hq => by cases q <;> first | rfl | exact absurd rfl hq, rfl, rfl, rfl, fun h => absurd rfl h, fun _ => rfl⟩⟩
    have := (waysP_some hn).1
    simp only [shw, hw rfl, List.nil_append, List.append_nil]
    exact this
 | P => cases l with
  | nil => cases h
  | cons w l =>
   simp only [read] at h
   cases hn : parseP w with
   | none => rw [hn] at h; cases h
   | some q =>
    rw [hn] at h
    simp only at h
    split at h
    ·rename_i hs
     injection h with h
     injection h with h1 h2
     subst h1 h2
     exact ⟨by rw [← hs]; rfl, ⟨fun q hq => by cases q <;> first | rfl | exact absurd rfl hq, rfl, rfl, rfl, fun _ => rfl, fun _ => rfl⟩⟩
    ·cases h
 | H =>
  have h : (match parseR (join l) with | some h => some ({ x with hop := h }, []) | none => none) = some (y, r) := by cases l <;> exact h
  cases hn : parseR (join l) with
  | none => rw [hn] at h; cases h
  | some q =>
   rw [hn] at h
   injection h with h
   injection h with h1 h2
   subst h1 h2
   refine ⟨?_, ⟨fun q hq => by cases q <;> first | rfl | exact absurd rfl hq, rfl, rfl, rfl, fun _ => rfl, fun _ => rfl⟩⟩
   simp only [shw, List.append_nil]
   rw [((parseR_iff _ _).1 hn).2, spl_join l (hne rfl) hl]
 | T => cases l with
  | nil => cases h
  | cons w l =>
   simp only [read] at h
   split at h
   ·injection h with h
    injection h with h1 h2
    subst h1 h2
    exact ⟨rfl, ⟨fun q hq => by cases q <;> first | rfl | exact absurd rfl hq, rfl, rfl, rfl, fun _ => rfl, fun _ => rfl⟩⟩
   ·cases h
 | B => cases l with
  | nil => cases h
  | cons w l =>
   simp only [read] at h
   split at h
   ·cases h
   ·rename_i h0
    split at h
    ·rename_i h1
     injection h with h
     injection h with h2 h3
     subst h2 h3
     exact ⟨by simp only [shw, hb rfl, if_true, h1]; rfl, ⟨fun q hq => rfl, rfl, rfl, rfl, fun _ => rfl, fun h => absurd rfl h⟩⟩
    ·cases hn : refUnhex [] w with
     | none => rw [hn] at h; cases h
     | some q =>
      rw [hn] at h
      simp only at h
      split at h
      ·rename_i hs
       injection h with h
       injection h with h2 h3
       subst h2 h3
       refine ⟨?_, ⟨fun q hq => by cases q <;> first | rfl | exact absurd rfl hq, rfl, rfl, rfl, fun _ => rfl, fun h => absurd rfl h⟩⟩
       have : q ≠ [] := fun e => h0 (by rw [← hs, e]; rfl)
       simp only [shw, if_neg this, hs]
       rfl
      ·cases h
theorem reads_some : ∀ {ps : List Part} {x y : Stp} {l r : List Wd}, ps.Nodup → reads ps x l = some (y, r) → (∀ w ∈ l, ∀ c ∈ w, c ≠ 32) → (.H ∈ ps → l ≠ [] ∧ ps = [.H]) → (.W ∈ ps → x.ways = []) → (.B ∈ ps → x.bytes = []) →
  l = (ps.flatMap fun p => shw p y) ++ r ∧ (∀ q, q ∉ ps → shw q y = shw q x) ∧ y.is = x.is ∧ y.kind = x.kind ∧ y.mpls = x.mpls
 | [], x, y, l, r, _, h, _, _, _, _ => by
  injection h with h
  injection h with h1 h2
  subst h1 h2
  exact ⟨rfl, fun _ _ => rfl, rfl, rfl, rfl⟩
 | p :: ps, x, y, l, r, hd, h, hl, hH, hw, hb => by
  unfold reads at h
  cases h1 : read p x l with
  | none => rw [h1] at h; cases h
  | some q =>
   obtain ⟨v, m⟩ := q
   rw [h1] at h
   simp only at h
   obtain ⟨e, k⟩ := read_some h1 hl (fun hp => (hH (by rw [hp]; exact List.mem_cons_self)).1) (fun hp => hw (by rw [hp]; exact List.mem_cons_self)) (fun hp => hb (by rw [hp]; exact List.mem_cons_self))
   by_cases he : ps = []
   ·subst he
    injection h with h
    injection h with h2 h3
    subst h2 h3
    refine ⟨by simpa using e, fun q hq => k.sh q (by simpa using hq), k.is, k.kind, k.mpls⟩
   ·have hp := List.nodup_cons.1 hd
    obtain ⟨e2, s2, i2, k2, m2⟩ := reads_some hp.2 h (fun w hw => hl w (by rw [e]; exact List.mem_append_right _ hw)) (fun hh => absurd (hH (List.mem_cons_of_mem _ hh)).2 (by simp [he])) (fun hh => by rw [k.w fun e => hp.1 (by rw [e]; exact hh)]; exact hw (List.mem_cons_of_mem _ hh)) (fun hh => by rw [k.b fun e => hp.1 (by rw [e]; exact hh)]; exact hb (List.mem_cons_of_mem _ hh))
    refine ⟨?_, fun q hq => ?_, i2.trans k.is, k2.trans k.kind, m2.trans k.mpls⟩
    ·rw [List.flatMap_cons, s2 p hp.1, List.append_assoc, ← e2]; exact e
    ·rw [s2 q fun hh => hq (List.mem_cons_of_mem _ hh), k.sh q fun hh => hq (by rw [hh]; exact List.mem_cons_self)]
end Go.Proofs.YtdbgeobolongmaaGreatDoor.Sc
