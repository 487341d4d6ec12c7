/- The hop package: digits; the reader of words: takes, numbers, number. -/
import Derived.Test.YtilahcnpjbnjiaaDoorHopFns
import Derived.Deep.QuietTactic
import Derived.BigQuiet
import Derived.WalkSpells
namespace Go.Proofs.YtilahcnpjbnjiaaDoor
set_option linter.unusedVariables false
set_option linter.unusedSimpArgs false
open Go.RowKit Go.Shelf Go.Proofs Go.OctetPlain

/-! ## a world in which one block was written -/
theorem grown_refl (w : World) (row : Option Nat) : w.grownBy w row := ⟨rfl, rfl, rfl, Nat.le_refl _, fun _ _ _ => rfl⟩
theorem grown_trans {a b c : World} {row : Option Nat} (h : a.grownBy b row) (h2 : b.grownBy c row) : a.grownBy c row :=
  ⟨h2.os.trans h.os, h2.tape.trans h.tape, h2.output.trans h.output, Nat.le_trans h.size h2.size, fun k hk hne => (h2.block k (Nat.lt_of_lt_of_le hk h.size) hne).trans (h.block k hk hne)⟩
theorem grown_below {w w' : World} (h : Below w.heap.size w w') (row : Option Nat) : w.grownBy w' row := ⟨h.os, h.tape, h.output, h.size, fun k hk _ => h.block k hk⟩
theorem grown_set (w : World) (g i : Nat) (v : Value) : w.grownBy (w.setCell ⟨g, i, none⟩ v) (some g) := by
  refine ⟨rfl, rfl, rfl, ?_, fun k hk hne => Below.heap_setCell w ⟨g, i, none⟩ v k (fun e => hne (by rw [e]))⟩
  show w.heap.size ≤ (w.heap.modify g _).size
  rw [Array.size_modify]; exact Nat.le_refl _
theorem Blk.grown {w w' : World} {k g : Nat} {t : TypeId} {cs : Array Value} (h : Blk w k t cs) (hg : w.grownBy w' (some g)) (hne : k ≠ g) : Blk w' k t cs := (hg.block k h.lt (by simpa using hne)).trans h
theorem grown_Below {B : Nat} {w w' : World} {g : Nat} (h : w.grownBy w' (some g)) (hB : B ≤ w.heap.size) (hg : B ≤ g) : Below B w w' := (Below.refl B w).grown h hB (fun k e => by cases e; exact hg)

/-! ## a slice that reads as a list, its block of a kind -/
def SlP {α : Type} (Pr : Nat → Prop) (w : World) (k : Nat) (enc : α → List Value) (v : Value) (xs : List α) : Prop :=
  ∃ (p : Option Addr) (cap : Nat), v = .slice p xs.length cap ∧ xs.length ≤ cap ∧ cap ≤ 9223372036854775807 ∧ RdP w k enc p xs ∧ ∀ a, p = some a → Pr a.block
section
variable {α : Type} {Pr Qr : Nat → Prop} {w w' : World} {k : Nat} {enc : α → List Value} {v : Value} {xs : List α}
theorem SlP.sl (h : SlP Pr w k enc v xs) : SlR w k enc v xs := by obtain ⟨p, cap, h1, h2, h3, h4, _⟩ := h; exact ⟨p, cap, h1, h2, h3, h4⟩
theorem SlP.imp (h : SlP Pr w k enc v xs) (hi : ∀ b, Pr b → Qr b) : SlP Qr w k enc v xs := by obtain ⟨p, cap, h1, h2, h3, h4, h5⟩ := h; exact ⟨p, cap, h1, h2, h3, h4, fun a ha => hi _ (h5 a ha)⟩
theorem SlP.grown (h : SlP Pr w k enc v xs) {row : Option Nat} (hg : w.grownBy w' row) (hr : ∀ b, Pr b → row ≠ some b) : SlP Pr w' k enc v xs := by
  obtain ⟨p, cap, h1, h2, h3, h4, h5⟩ := h
  exact ⟨p, cap, h1, h2, h3, h4.grown hg (fun a ha => hr _ (h5 a ha)), h5⟩
theorem SlP.below (h : SlP Pr w k enc v xs) {B : Nat} (hb : Below B w w') (hB : w.heap.size ≤ B) : SlP Pr w' k enc v xs := by
  obtain ⟨p, cap, h1, h2, h3, h4, h5⟩ := h
  exact ⟨p, cap, h1, h2, h3, h4.below hb hB, h5⟩
theorem SlP.of_owns {base : Nat} {e : TypeId} (hk : ∀ x, (enc x).length = k) (h : w.ownsRow base e k v xs.length (flat enc xs)) : SlP (base ≤ ·) w k enc v xs := by
  obtain ⟨p, cap, h1, h2, h3, h4⟩ := SlR.of_owns hk h
  refine ⟨p, cap, h1, h2, h3, h4, fun a ha => ?_⟩
  subst h1; subst ha
  exact (h.lt a.block rfl).1
theorem SlP.nil (w : World) (k : Nat) (enc : α → List Value) : SlP Pr w k enc (.slice none 0 0) [] := ⟨none, 0, rfl, Nat.le_refl _, by omega, ⟨fun _ => rfl, fun a ha => by cases ha⟩, fun a ha => by cases ha⟩
/-- what stands behind the first element: 'x[1:]', at a slice of one element of room, and at a longer one -/
theorem SlP.tailA {enc : α → List Value} {x : α} {xs : List α} {b off : Nat} (h2 : xs.length + 1 ≤ 1) (h4 : RdP w 1 enc (some ⟨b, off, none⟩) (x :: xs)) (h5 : Pr b) :
    SlP Pr w 1 enc (.slice (some ⟨b, off, none⟩) 0 0) xs := by
  obtain ⟨hsp, hlt, hc⟩ := h4.2 _ rfl
  have hx : xs = [] := List.eq_nil_of_length_eq_zero (by omega)
  subst hx
  exact ⟨some ⟨b, off, none⟩, 0, rfl, by simp, by omega, ⟨fun _ => rfl, fun a hb => by cases hb; exact ⟨hsp, hlt, fun i x hx => by simp at hx⟩⟩, fun a ha => by cases ha; exact h5⟩
theorem SlP.tailB {enc : α → List Value} {x : α} {xs : List α} {b off cap : Nat} (h2 : xs.length + 1 ≤ cap) (h3 : cap ≤ 9223372036854775807) (h4 : RdP w 1 enc (some ⟨b, off, none⟩) (x :: xs)) (h5 : Pr b) :
    SlP Pr w 1 enc (.slice (some ⟨b, off + 1, none⟩) xs.length (cap - 1)) xs := by
  obtain ⟨hsp, hlt, hc⟩ := h4.2 _ rfl
  refine ⟨some ⟨b, off + 1, none⟩, cap - 1, rfl, by omega, by omega, ⟨(fun hb => by cases hb), fun a hb => ?_⟩, fun a hb => by cases hb; exact h5⟩
  cases hb
  refine ⟨rfl, hlt, fun i y hy j u hu => ?_⟩
  have := hc (i + 1) y (by simpa using hy) j u hu
  rw [← this]
  congr 2
  simp only
  omega
end

theorem itoa_pos {n : Int} (h : 0 ≤ n) : Lib.itoa n = Hp.dec n := by unfold Lib.itoa Hp.dec; rw [if_neg (by omega)]
set_option maxRecDepth 100000 in
set_option maxHeartbeats 800000 in
theorem hop_digits (L : List Int) (hL : L.length ≤ 1000) (hb : ∀ n ∈ L, 0 ≤ n ∧ n ≤ 1048575) (v : Value) (w : World) (ht : Tabs w) (hv : SlR w 1 encI v L) :
    Calls Tryd.prog 22 #[v] w fun e w' => ∃ v', e = .returned v' ∧ w'.ownsRow w.heap.size 9 1 v' L.length (flat encS (L.map Hp.dec)) ∧ Below w.heap.size w w' := by
  have HT := Lib.hid ht
  obtain ⟨p, cap, rfl, hc1, hc2, hR⟩ := hv
  clear ht
  go_enter Tryd.func22, Tryd.ntmps22
  go_wp2_with fail
  go_loopw [3, 5, 8] (fun vo _ vi wr => ∃ k : Nat, vi = .int .i64 k ∧ k ≤ L.length ∧ Hid (wr.ownsRow w.heap.size 9 1 vo k (flat encS ((L.take k).map Hp.dec))) ∧ Hid (Below w.heap.size w wr)) (fun _ _ vi _ => L.length - (intOf vi).toNat)
  case atStart => exact ⟨0, rfl, Nat.zero_le _, Lib.hid (World.ownsRow_nil _ _ _ _), Lib.hid (Below.refl _ _)⟩
  case round =>
    obtain ⟨k, rfl, hk, HO, HB⟩ := hrel
    by_cases hlt : k < L.length
    · obtain ⟨n, hn⟩ : ∃ n, L[k]? = some n := ⟨L[k], List.getElem?_eq_getElem hlt⟩
      have hnb := hb n (List.mem_of_getElem? hn)
      obtain ⟨b, off, rfl, hbs, hcell⟩ := hR.at hlt
      have hLk : L[k] = n := by have := List.getElem?_eq_getElem hlt; rw [hn] at this; cases this; rfl
      have hc0 := hcell 0 (.int .i64 n) (by rw [hLk]; rfl)
      simp only [Nat.mul_one, Nat.add_zero] at hc0
      have hc : wr.cell? ⟨b, off + k, none⟩ = some (.int .i64 n) := (HB.out.cell (p := ⟨b, off + k, none⟩) hbs).trans hc0
      have HTK : Hid ((L.take (k + 1)).map Hp.dec = (L.take k).map Hp.dec ++ [Hp.dec n]) := by
        rw [List.take_succ_eq_append_getElem hlt, List.map_append, hLk]; exact Lib.hid rfl
      have HF := Lib.hid (octet_Digits n (by omega) wr (HT.out.next HB.out (Nat.le_refl _)))
      have HI := Lib.hid (itoa_pos hnb.1)
      clear hcell hc0 hLk hn
      go_wp2_with fail
      refine HF.out.mono ?_
      rintro e w1 ⟨rfl, hb1⟩
      rw [HI.out]
      have HB1 := Lib.hid hb1
      have HO1 := Lib.hid (owns_below HO.out hb1 (Nat.le_refl _))
      have hz1 := hb1.size
      have hz := HB.out.size
      clear hb1
      go_wp2_with (at_builtin; go_loud (refine wpList_app elemS rfl (.tmp 12) (.tmp 15) rfl w.heap.size u3 _ _ rfl HO1.out 1 1 [.string _] rfl rfl (by simp [Value.oneCell']) (by omega) (by omega) ?_; intro v4 w4 hown4 _ _ hb4))
      exact ⟨⟨k + 1, by go_num, by omega, Lib.hid (by rw [HTK.out, flat_append]; exact hown4), Lib.hid ((HB.out.trans (HB1.out.mono hz)).trans hb4)⟩, by simp [intOf]; omega⟩
    · have hkl : k = L.length := by omega
      have hO := HO.out
      rw [hkl, List.take_length] at hO
      have HO2 := Lib.hid hO
      clear hO
      go_wp2_with fail
      go_ret
      exact ⟨_, rfl, HO2.out, HB.out⟩

/-! ## the reader -/
/-- block g is a reader of these words, which lie in block A -/
structure Rdr (g A : Nat) (w : World) (ws : List Hp.Wd) (bad : Bool) : Prop where
  ex : ∃ v, Blk w g 50 #[v, .bool bad] ∧ SlP (· = A) w 1 encS v ws
  ne : A ≠ g
  la : A < w.heap.size
theorem SlP.belowAt {α : Type} {A B k : Nat} {w w' : World} {enc : α → List Value} {v : Value} {xs : List α} (h : SlP (· = A) w k enc v xs) (hb : Below B w w') (hA : A < B) : SlP (· = A) w' k enc v xs := by
  obtain ⟨p, cap, h1, h2, h3, h4, h5⟩ := h
  refine ⟨p, cap, h1, h2, h3, ⟨h4.1, fun a ha => ?_⟩, h5⟩
  obtain ⟨g1, g2, g3⟩ := h4.2 a ha
  have hAa := h5 a ha
  exact ⟨g1, Nat.lt_of_lt_of_le g2 hb.size, fun i x hx j u hu => (hb.cell (p := ⟨a.block, _, none⟩) (by show a.block < B; omega)).trans (g3 i x hx j u hu)⟩
theorem Rdr.belowAt {g A B : Nat} {w w' : World} {ws : List Hp.Wd} {bad : Bool} (h : Rdr g A w ws bad) (hb : Below B w w') (hg : g < B) (hA : A < B) : Rdr g A w' ws bad := by
  obtain ⟨v, hk, hs⟩ := h.ex
  exact ⟨⟨v, hk.below hb hg, hs.belowAt hb hA⟩, h.ne, Nat.lt_of_lt_of_le h.la hb.size⟩
theorem Rdr.grown {g A k : Nat} {w w' : World} {ws : List Hp.Wd} {bad : Bool} (h : Rdr g A w ws bad) (hg : w.grownBy w' (some k)) (h1 : k ≠ g) (h2 : k ≠ A) : Rdr g A w' ws bad := by
  obtain ⟨v, hb, hs⟩ := h.ex
  exact ⟨⟨v, hb.grown hg (Ne.symm h1), hs.grown hg (fun b hb => by subst hb; simpa using h2)⟩, h.ne, Nat.lt_of_lt_of_le h.la hg.size⟩
theorem Rdr.below {g A B : Nat} {w w' : World} {ws : List Hp.Wd} {bad : Bool} (h : Rdr g A w ws bad) (hb : Below B w w') (hB : w.heap.size ≤ B) : Rdr g A w' ws bad := by
  obtain ⟨v, hk, hs⟩ := h.ex
  exact ⟨⟨v, hk.below hb (Nat.lt_of_lt_of_le hk.lt hB), hs.below hb hB⟩, h.ne, Nat.lt_of_lt_of_le h.la hb.size⟩
theorem Rdr.alloc {g A : Nat} {w : World} {ws : List Hp.Wd} {bad : Bool} (h : Rdr g A w ws bad) (o : Obj) : Rdr g A (w.alloc o) ws bad := h.below (belowA w o) (Nat.le_refl _)
theorem Rdr.drew {g A : Nat} {w : World} {ws : List Hp.Wd} {bad : Bool} (h : Rdr g A w ws bad) : Rdr g A w.drew ws bad := h.below (Below.refl w.heap.size w).drew (Nat.le_refl _)
/-- one cell written -/
theorem Rdr.setW {g A : Nat} {w : World} {ws ws' : List Hp.Wd} {bad : Bool} {v' : Value} (h : Rdr g A w ws bad) (hs : SlP (· = A) w 1 encS v' ws') : Rdr g A (w.setCell ⟨g, 0, none⟩ v') ws' bad := by
  obtain ⟨v, hb, -⟩ := h.ex
  exact ⟨⟨v', hb.set 0 v', hs.grown (grown_set w g 0 v') (fun b hb => by subst hb; simpa using h.ne.symm)⟩, h.ne, Nat.lt_of_lt_of_le h.la (grown_set w g _ _).size⟩
theorem Rdr.setB {g A : Nat} {w : World} {ws : List Hp.Wd} {bad : Bool} (b : Bool) (h : Rdr g A w ws bad) : Rdr g A (w.setCell ⟨g, 1, none⟩ (.bool b)) ws b := by
  obtain ⟨v, hb, hs⟩ := h.ex
  exact ⟨⟨v, hb.set 1 (.bool b), hs.grown (grown_set w g 1 (.bool b)) (fun b hb => by subst hb; simpa using h.ne.symm)⟩, h.ne, Nat.lt_of_lt_of_le h.la (grown_set w g _ _).size⟩
theorem str_eq_iff (a b : List UInt8) : (str a).toList = (str b).toList ↔ a = b := by rw [str_tl, str_tl]

set_option maxRecDepth 100000 in
theorem hop_takes (g A : Nat) (s : Hp.Wd) (ws : List Hp.Wd) (hl : ws.length ≤ 1073741824) (bad : Bool) (w : World) (h : Rdr g A w ws bad) :
    Calls Tryd.prog 31 #[.pointer (some ⟨g, 0, none⟩), .string (str s)] w fun e w' => e = .returned (.bool (decide (ws.head? = some s))) ∧ Rdr g A w' (if ws.head? = some s then ws.tail else ws) bad ∧ w.grownBy w' (some g) := by
  have HR := Lib.hid h
  have htl := str_tl
  obtain ⟨v, hb, hs⟩ := h.ex
  obtain ⟨p, cap, rfl, h1, h2, h3, h4⟩ := hs
  have c0 := hb.cell 0
  have f0 := hb.frozen' 0
  simp only [List.getElem?_toArray, List.getElem?_cons_zero] at c0
  have hgl := hb.lt
  clear hb h
  cases ws with
  | nil =>
    simp only [List.length_nil] at c0 h1
    go_enter Tryd.func31, Tryd.ntmps31
    go_wp2_with fail
    go_ret
    exact ⟨rfl, HR.out, grown_refl _ _⟩
  | cons x xs =>
    obtain ⟨b, off, rfl, hbl, hc⟩ := h3.at (i := 0) (by simp)
    have hx := hc 0 (.string (str x)) rfl
    simp only [Nat.zero_mul, Nat.add_zero] at hx
    simp only [List.length_cons] at c0 h1 hl
    have hA : b = A := h4 _ rfl
    have HA := Lib.hid (fun h : xs.length + 1 ≤ 1 => SlP.tailA (Pr := (· = A)) h h3 hA)
    have HB := Lib.hid (SlP.tailB (Pr := (· = A)) h1 h2 h3 hA)
    clear hc h3 h4 hA
    have hlen : 0 < xs.length + 1 := by omega
    by_cases hxs : x = s
    · subst hxs
      have hd : Hid (decide ((x :: xs).head? = some x) = true ∧ (if (x :: xs).head? = some x then (x :: xs).tail else (x :: xs)) = xs) := Lib.hid ⟨by simp, by simp⟩
      rw [hd.out.1, hd.out.2]
      by_cases hcap : cap = 1
      · subst hcap
        go_enter Tryd.func31, Tryd.ntmps31
        go_wp2_with fail
        go_ret
        exact ⟨rfl, HR.out.setW (HA.out h1), grown_set _ _ _ _⟩
      · go_enter Tryd.func31, Tryd.ntmps31
        go_wp2_with fail
        go_ret
        exact ⟨rfl, HR.out.setW HB.out, grown_set _ _ _ _⟩
    · have hd : Hid (decide ((x :: xs).head? = some s) = false ∧ (if (x :: xs).head? = some s then (x :: xs).tail else (x :: xs)) = (x :: xs)) := Lib.hid ⟨by simp [hxs], by simp [hxs]⟩
      rw [hd.out.1, hd.out.2]
      have hne : (x == s) = false := by simpa using hxs
      clear hxs
      go_enter Tryd.func31, Tryd.ntmps31
      go_wp2_with fail
      go_ret
      exact ⟨rfl, HR.out, grown_refl _ _⟩
end Go.Proofs.YtilahcnpjbnjiaaDoor
