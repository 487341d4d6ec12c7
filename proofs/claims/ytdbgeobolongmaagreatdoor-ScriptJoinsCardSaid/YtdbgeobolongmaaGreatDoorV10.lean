/- Part of the proof: contracts of the functions that the statements of layer 32 reach. -/
import Derived.Deep.QuietTactic
import Derived.BigQuiet
import Derived.WalkSpells
import Derived.Lib.OthersKept
import Derived.Test.YtdbgeobolongmaaGreatDoorV01
import Derived.Test.YtdbgeobolongmaaGreatDoorV02
import Derived.Test.YtdbgeobolongmaaGreatDoorV05
import Derived.Test.YtdbgeobolongmaaGreatDoorV06
import Derived.Test.YtdbgeobolongmaaGreatDoorV09
set_option linter.unusedVariables false
set_option linter.unusedSimpArgs false
set_option maxRecDepth 100000
set_option maxHeartbeats 4000000
namespace Go.Proofs.YtdbgeobolongmaaGreatDoor
open Go.RowKit Go.Shelf Go.Proofs Go.OctetPlain
theorem grown_refl (w : World) (row : Option Nat) : w.grownBy w row := ⟨rfl, rfl, rfl, Nat.le_refl _, fun _ _ _ => rfl⟩
theorem grown_trans {a b c : World} {row : Option Nat} (h : a.grownBy b row) (h2 : b.grownBy c row) : a.grownBy c row :=
 ⟨h2.os.trans h.os, h2.tape.trans h.tape, h2.output.trans h.output, Nat.le_trans h.size h2.size, fun k hk hne => (h2.block k (Nat.lt_of_lt_of_le hk h.size) hne).trans (h.block k hk hne)⟩
theorem grown_below {w w' : World} (h : Below w.heap.size w w') (row : Option Nat) : w.grownBy w' row := ⟨h.os, h.tape, h.output, h.size, fun k hk _ => h.block k hk⟩
theorem grown_set (w : World) (g i : Nat) (v : Value) : w.grownBy (w.setCell ⟨g, i, none⟩ v) (some g) := by
 refine ⟨rfl, rfl, rfl, ?_, fun k hk hne => Below.heap_setCell w ⟨g, i, none⟩ v k (fun e => hne (by rw [e]))⟩
 show w.heap.size ≤ (w.heap.modify g _).size
 rw [Array.size_modify]; exact Nat.le_refl _
theorem Blk.grown {w w' : World} {k g : Nat} {t : TypeId} {cs : Array Value} (h : Blk w k t cs) (hg : w.grownBy w' (some g)) (hne : k ≠ g) : Blk w' k t cs := (hg.block k h.lt (by simpa using hne)).trans h
theorem grown_Below {B : Nat} {w w' : World} {g : Nat} (h : w.grownBy w' (some g)) (hB : B ≤ w.heap.size) (hg : B ≤ g) : Below B w w' := (Below.refl B w).grown h hB (fun k e => by cases e; exact hg)
def SlP {α : Type} (Pr : Nat → Prop) (w : World) (k : Nat) (enc : α → List Value) (v : Value) (xs : List α) : Prop :=
 ∃ (p : Option Addr) (cap : Nat), v = .slice p xs.length cap ∧ xs.length ≤ cap ∧ cap ≤ 9223372036854775807 ∧ RdP w k enc p xs ∧ ∀ a, p = some a → xs.length ≠ 0 → Pr a.block
section
variable {α : Type} {Pr Qr : Nat → Prop} {w w' : World} {k : Nat} {enc : α → List Value} {v : Value} {xs : List α}
theorem SlP.sl (h : SlP Pr w k enc v xs) : SlR w k enc v xs := by obtain ⟨p, cap, h1, h2, h3, h4, _⟩ := h; exact ⟨p, cap, h1, h2, h3, h4⟩
theorem SlP.imp (h : SlP Pr w k enc v xs) (hi : ∀ b, Pr b → Qr b) : SlP Qr w k enc v xs := by obtain ⟨p, cap, h1, h2, h3, h4, h5⟩ := h; exact ⟨p, cap, h1, h2, h3, h4, fun a ha hn => hi _ (h5 a ha hn)⟩
theorem SlP.grown (h : SlP Pr w k enc v xs) {row : Option Nat} (hg : w.grownBy w' row) (hr : ∀ b, Pr b → row ≠ some b) : SlP Pr w' k enc v xs := by
 obtain ⟨p, cap, h1, h2, h3, h4, h5⟩ := h
 exact ⟨p, cap, h1, h2, h3, h4.grown hg (fun a ha hn => hr _ (h5 a ha hn)), h5⟩
theorem SlP.below (h : SlP Pr w k enc v xs) {B : Nat} (hb : Below B w w') (hB : w.heap.size ≤ B) : SlP Pr w' k enc v xs := by
 obtain ⟨p, cap, h1, h2, h3, h4, h5⟩ := h
 exact ⟨p, cap, h1, h2, h3, h4.below hb hB, h5⟩
theorem SlP.of_owns {base : Nat} {e : TypeId} (hk : ∀ x, (enc x).length = k) (h : w.ownsRow base e k v xs.length (flat enc xs)) : SlP (base ≤ ·) w k enc v xs := by
 obtain ⟨p, cap, h1, h2, h3, h4⟩ := SlR.of_owns hk h
 refine ⟨p, cap, h1, h2, h3, h4, fun a ha _ => ?_⟩
 subst h1; subst ha
 exact (h.lt a.block rfl).1
theorem SlP.nil (w : World) (k : Nat) (enc : α → List Value) : SlP Pr w k enc (.slice none 0 0) [] := ⟨none, 0, rfl, Nat.le_refl _, by omega, ⟨fun _ => rfl, fun a ha _ => by cases ha⟩, fun a ha _ => by cases ha⟩
theorem SlP.tailA {enc : α → List Value} {x : α} {xs : List α} {b off : Nat} (h2 : xs.length + 1 ≤ 1) (h4 : RdP w 1 enc (some ⟨b, off, none⟩) (x :: xs)) (h5 : Pr b) :
  SlP Pr w 1 enc (.slice (some ⟨b, off, none⟩) 0 0) xs := by
 obtain ⟨hsp, hlt, hc⟩ := h4.2 _ rfl (by simp)
 have hx : xs = [] := List.eq_nil_of_length_eq_zero (by omega)
 subst hx
 exact ⟨some ⟨b, off, none⟩, 0, rfl, by simp, by omega, ⟨fun _ => rfl, fun a hb hn => absurd rfl hn⟩, fun a ha _ => by cases ha; exact h5⟩
theorem SlP.tailB {enc : α → List Value} {x : α} {xs : List α} {b off cap : Nat} (h2 : xs.length + 1 ≤ cap) (h3 : cap ≤ 9223372036854775807) (h4 : RdP w 1 enc (some ⟨b, off, none⟩) (x :: xs)) (h5 : Pr b) :
  SlP Pr w 1 enc (.slice (some ⟨b, off + 1, none⟩) xs.length (cap - 1)) xs := by
 obtain ⟨hsp, hlt, hc⟩ := h4.2 _ rfl (by simp)
 refine ⟨some ⟨b, off + 1, none⟩, cap - 1, rfl, by omega, by omega, ⟨(fun hb => by cases hb), fun a hb _ => ?_⟩, fun a hb _ => by cases hb; exact h5⟩
 cases hb
 refine ⟨rfl, hlt, fun i y hy j u hu => ?_⟩
 have := hc (i + 1) y (by simpa using hy) j u hu
 rw [← this]
 congr 2
 simp only
 omega
end
theorem itoa_pos {n : Int} (h : 0 ≤ n) : Lib.itoa n = Hp.dec n := by unfold Lib.itoa Hp.dec; rw [if_neg (by omega)]
structure Rdr (g A : Nat) (w : World) (ws : List Hp.Wd) (bad : Bool) : Prop where
 ex : ∃ v, Blk w g 185 #[v, .bool bad] ∧ SlP (· = A) w 1 encS v ws
 ne : A ≠ g
 la : A < w.heap.size
theorem SlP.belowAt {α : Type} {A B k : Nat} {w w' : World} {enc : α → List Value} {v : Value} {xs : List α} (h : SlP (· = A) w k enc v xs) (hb : Below B w w') (hA : A < B) : SlP (· = A) w' k enc v xs := by
 obtain ⟨p, cap, h1, h2, h3, h4, h5⟩ := h
 refine ⟨p, cap, h1, h2, h3, ⟨h4.1, fun a ha hn => ?_⟩, h5⟩
 obtain ⟨g1, g2, g3⟩ := h4.2 a ha hn
 have hAa := h5 a ha hn
 exact ⟨g1, Nat.lt_of_lt_of_le g2 hb.size, fun i x hx j u hu => (hb.cell (p := ⟨a.block, _, none⟩) (by show a.block < B; omega)).trans (g3 i x hx j u hu)⟩
theorem Rdr.belowAt {g A B : Nat} {w w' : World} {ws : List Hp.Wd} {bad : Bool} (h : Rdr g A w ws bad) (hb : Below B w w') (hg : g < B) (hA : A < B) : Rdr g A w' ws bad := by
 obtain ⟨v, hk, hs⟩ := h.ex
 exact ⟨⟨v, hk.below hb hg, hs.belowAt hb hA⟩, h.ne, Nat.lt_of_lt_of_le h.la hb.size⟩
theorem Rdr.grown {g A k : Nat} {w w' : World} {ws : List Hp.Wd} {bad : Bool} (h : Rdr g A w ws bad) (hg : w.grownBy w' (some k)) (h1 : k ≠ g) (h2 : k ≠ A) : Rdr g A w' ws bad := by
 obtain ⟨v, hb, hs⟩ := h.ex
 exact ⟨⟨v, hb.grown hg (Ne.symm h1), hs.grown hg (fun b hb => by subst hb; simpa using h2)⟩, h.ne, Nat.lt_of_lt_of_le h.la hg.size⟩
theorem Rdr.below {g A B : Nat} {w w' : World} {ws : List Hp.Wd} {bad : Bool} (h : Rdr g A w ws bad) (hb : Below B w w') (hB : w.heap.size ≤ B) : Rdr g A w' ws bad := by
 obtain ⟨v, hk, hs⟩ := h.ex
 exact ⟨⟨v, hk.below hb (Nat.lt_of_lt_of_le hk.lt hB), hs.below hb hB⟩, h.ne, Nat.lt_of_lt_of_le h.la hb.size⟩
theorem Rdr.alloc {g A : Nat} {w : World} {ws : List Hp.Wd} {bad : Bool} (h : Rdr g A w ws bad) (o : Obj) : Rdr g A (w.alloc o) ws bad := h.below (belowA w o) (Nat.le_refl _)
theorem Rdr.drew {g A : Nat} {w : World} {ws : List Hp.Wd} {bad : Bool} (h : Rdr g A w ws bad) : Rdr g A w.drew ws bad := h.below (Below.refl w.heap.size w).drew (Nat.le_refl _)
theorem Rdr.setW {g A : Nat} {w : World} {ws ws' : List Hp.Wd} {bad : Bool} {v' : Value} (h : Rdr g A w ws bad) (hs : SlP (· = A) w 1 encS v' ws') : Rdr g A (w.setCell ⟨g, 0, none⟩ v') ws' bad := by
 obtain ⟨v, hb, -⟩ := h.ex
 exact ⟨⟨v', hb.set 0 v', hs.grown (grown_set w g 0 v') (fun b hb => by subst hb; simpa using h.ne.symm)⟩, h.ne, Nat.lt_of_lt_of_le h.la (grown_set w g _ _).size⟩
theorem Rdr.setB {g A : Nat} {w : World} {ws : List Hp.Wd} {bad : Bool} (b : Bool) (h : Rdr g A w ws bad) : Rdr g A (w.setCell ⟨g, 1, none⟩ (.bool b)) ws b := by
 obtain ⟨v, hb, hs⟩ := h.ex
 exact ⟨⟨v, hb.set 1 (.bool b), hs.grown (grown_set w g 1 (.bool b)) (fun b hb => by subst hb; simpa using h.ne.symm)⟩, h.ne, Nat.lt_of_lt_of_le h.la (grown_set w g _ _).size⟩
theorem hop_takes (g A : Nat) (s : Hp.Wd) (ws : List Hp.Wd) (hl : ws.length ≤ 1073741824) (bad : Bool) (w : World) (h : Rdr g A w ws bad) :
  Calls Tryz.prog 140 #[.pointer (some ⟨g, 0, none⟩), .string (str s)] w fun e w' => e = .returned (.bool (decide (ws.head? = some s))) ∧ Rdr g A w' (if ws.head? = some s then ws.tail else ws) bad ∧ w.grownBy w' (some g) := by
 have HR := qh h
 have htl := str_tl
 obtain ⟨v, hb, hs⟩ := h.ex
 obtain ⟨p, cap, rfl, h1, h2, h3, h4⟩ := hs
 have c0 := hb.cell 0
 have f0 := hb.frozen' 0
 simp only [List.getElem?_toArray, List.getElem?_cons_zero] at c0
 have hgl := hb.lt
 clear hb h
 cases ws with
 | nil =>
  simp only [List.length_nil] at c0 h1
  go_enter Tryz.func140, Tryz.ntmps140
  go_wp2_with fail
  go_ret
  exact ⟨rfl, HR.out, grown_refl _ _⟩
 | cons x xs =>
  obtain ⟨b, off, rfl, hbl, hc⟩ := h3.at (i := 0) (by simp)
  have hx := hc 0 (.string (str x)) rfl
  simp only [Nat.zero_mul, Nat.add_zero] at hx
  simp only [List.length_cons] at c0 h1 hl
  have hA : b = A := h4 _ rfl (by simp)
  have HA := qh (fun h : xs.length + 1 ≤ 1 => SlP.tailA (Pr := (· = A)) h h3 hA)
  have HB := qh (SlP.tailB (Pr := (· = A)) h1 h2 h3 hA)
  clear hc h3 h4 hA
  have hlen : 0 < xs.length + 1 := by omega
  by_cases hxs : x = s
  ·subst hxs
   have hd : Hid (decide ((x :: xs).head? = some x) = true ∧ (if (x :: xs).head? = some x then (x :: xs).tail else (x :: xs)) = xs) := qh ⟨by simp, by simp⟩
   rw [hd.out.1, hd.out.2]
   by_cases hcap : cap = 1
   ·subst hcap
    go_enter Tryz.func140, Tryz.ntmps140
    go_wp2_with fail
    go_ret
    exact ⟨rfl, HR.out.setW (HA.out h1), grown_set _ _ _ _⟩
   ·go_enter Tryz.func140, Tryz.ntmps140
    go_wp2_with fail
    go_ret
    exact ⟨rfl, HR.out.setW HB.out, grown_set _ _ _ _⟩
  ·have hd : Hid (decide ((x :: xs).head? = some s) = false ∧ (if (x :: xs).head? = some s then (x :: xs).tail else (x :: xs)) = (x :: xs)) := qh ⟨by simp [hxs], by simp [hxs]⟩
   rw [hd.out.1, hd.out.2]
   have hne : (x == s) = false := by simpa using hxs
   clear hxs
   go_enter Tryz.func140, Tryz.ntmps140
   go_wp2_with fail
   go_ret
   exact ⟨rfl, HR.out, grown_refl _ _⟩
theorem hidx_no {d : UInt8} : ∀ {l : List UInt8}, d ∉ l → Lib.index l [d] = -1
 | [], _ => by simp [Lib.index]
 | c :: r, h => by
  have h1 : ¬ c = d := fun e => h (by simp [e])
  have h2 : d ∉ r := fun e => h (by simp [e])
  rw [Lib.index, hidx_no h2]
  simp [List.isPrefixOf, Ne.symm h1]
theorem hidx_app {d : UInt8} : ∀ {a : List UInt8} (b : List UInt8), d ∉ a → Lib.index (a ++ d :: b) [d] = a.length
 | [], b, _ => by simp [Lib.index, List.isPrefixOf]
 | c :: r, b, h => by
  have h1 : ¬ c = d := fun e => h (by simp [e])
  have h2 : d ∉ r := fun e => h (by simp [e])
  rw [List.cons_append, Lib.index, hidx_app b h2]
  simp [List.isPrefixOf, Ne.symm h1]
theorem hno {a : List UInt8} (h : (32 : UInt8) ∉ a) : ∀ c ∈ a, c ≠ 32 := fun c hc e => h (by rw [← e]; exact hc)
theorem hsplitK_eq : ∀ (k : Nat) (s : List UInt8), s.count 32 ≤ k → Lib.splitK [32] 0 k s = Hp.spl s
 | 0, s, h => by
  have : (32 : UInt8) ∉ s := fun e => by have := List.count_pos_iff.2 e; omega
  rw [Hp.spl_word s (hno this)]; rfl
 | k + 1, s, h => by
  unfold Lib.splitK
  by_cases hd : (32 : UInt8) ∈ s
  ·obtain ⟨a, b, rfl, ha⟩ := List.eq_append_cons_of_mem hd
   rw [hidx_app b ha, Hp.spl_app a b (hno ha)]
   have hc : b.count 32 ≤ k := by
    rw [List.count_append, List.count_cons_self] at h; omega
   rw [if_neg (by simp)]
   simp only [Nat.add_zero, Int.toNat_natCast, List.take_left, List.length_cons, List.length_nil, Nat.zero_add]
   rw [List.drop_append, List.drop_eq_nil_of_le (by omega), List.nil_append, show a.length + 1 - a.length = 1 by omega, List.drop_one, List.tail_cons, hsplitK_eq k b hc]
  ·rw [hidx_no hd, Hp.spl_word s (hno hd)]; rfl
theorem hsplit_eq (s : List UInt8) : Lib.splitK [32] 0 (Lib.count s [32]) s = Hp.spl s := hsplitK_eq _ s (by rw [Lib.count_one]; exact Nat.le_refl _)
theorem spl_len : ∀ s : List UInt8, (Hp.spl s).length = s.count 32 + 1
 | [] => rfl
 | c :: r => by
  have ih := spl_len r
  unfold Hp.spl
  by_cases h : c = 32
  ·rw [if_pos h]; subst h; rw [List.count_cons_self, List.length_cons, ih]
  ·rw [if_neg h, List.count_cons_of_ne (by simpa using h)]
   cases hs : Hp.spl r with
   | nil => exact absurd hs (Hp.spl_ne r)
   | cons w ws => rw [hs] at ih; simpa using ih
theorem spl_le : ∀ s : List UInt8, ∀ w ∈ Hp.spl s, w.length ≤ s.length
 | [], w, h => by simp [Hp.spl] at h; subst h; simp
 | c :: r, w, h => by
  have ih := spl_le r
  unfold Hp.spl at h
  by_cases hc : c = 32
  ·rw [if_pos hc] at h
   rcases List.mem_cons.1 h with rfl | h
   ·simp
   ·have := ih w h; simp; omega
  ·rw [if_neg hc] at h
   cases hs : Hp.spl r with
   | nil => exact absurd hs (Hp.spl_ne r)
   | cons v vs =>
    rw [hs] at h ih
    rcases List.mem_cons.1 h with rfl | h
    ·have := ih v List.mem_cons_self; simp; omega
    ·have := ih w (List.mem_cons_of_mem _ h); simp; omega
theorem hpieces_eq (l : List UInt8) : Lib.splitB (str [32]) 0 (Lib.countB (str l) (str [32])) (str l) = (Hp.spl l).map str := by
 have h := Lib.splitB_data (str [32]) 0 (Lib.countB (str l) (str [32])) (str l)
 have hc : Lib.countB (str l) (str [32]) = Lib.count l [32] := by unfold Lib.countB; rw [list_str, list_str]
 rw [list_str, list_str, hc, hsplit_eq] at h
 have h2 := congrArg (List.map str) h
 rw [List.map_map] at h2
 have : str ∘ (fun s : ByteArray => s.data.toList) = id := by funext s; exact str_list s
 rw [this, List.map_id] at h2
 rw [hc]; exact h2
theorem hpieces_count (l : List UInt8) : Lib.countB (str l) (str [32]) + 1 = (Hp.spl l).length := by
 have hc : Lib.countB (str l) (str [32]) = Lib.count l [32] := by unfold Lib.countB; rw [list_str, list_str]
 rw [hc, Lib.count_one, spl_len]
theorem flat_encS (ws : List Hp.Wd) : flat encS ws = (ws.map str).map Value.string := by
 induction ws with
 | nil => rfl
 | cons x xs ih => simp only [flat, List.flatMap_cons, List.map_cons] at ih ⊢; rw [ih]; rfl
theorem splitS_any (l : List UInt8) (hl : l.length ≤ 1000000) (m : Int) (w : World) (hm : w.cell? ⟨1, 0, none⟩ = some (.int .i64 m)) :
  Calls Tryz.prog 37 #[.string (str l), .string ⟨#[32]⟩] w fun e w' => e = .returned (.slice (some ⟨w.heap.size, 0, none⟩) (Hp.spl l).length (Hp.spl l).length) ∧ w' = w.alloc (.cells (flat encS (Hp.spl l)).toArray 9) := by
 have hcon := Any.strings_Split { Tryz.split with } Tryz.split.i9 (str l) ⟨#[32]⟩ m w (by rw [str_size]; omega) hm (by decide)
 change Calls Tryz.prog 37 _ _ _ at hcon
 rw [flat_encS, ← hpieces_count, ← hpieces_eq]
 exact hcon
theorem owns_iter {w : World} {base : Nat} {e : TypeId} {size : Nat} {v : Value} {n : Nat} {xs : List Value} (h : w.ownsRow base e size v n xs) {k : Nat} {s : ByteArray} {pos : Nat} (hk : w.heap[k]? = some (.stringIter s pos)) (pos' : Nat) :
  (w.iterAt k s pos').ownsRow base e size v n xs := by
 refine ⟨h.1, ?_⟩
 rcases h.2 with h0 | ⟨g, cap, cur, hv, hb, hg, r⟩
 ·exact .inl h0
 ·refine .inr ⟨g, cap, cur, hv, hb, ?_, r⟩
  rw [Lib.iterAt_other w k g s pos' (fun e => by subst e; rw [hk] at hg; cases hg)]
  exact hg
theorem or16 : ∀ a b : Fin 16, bits .or .i64 (((a : Nat) : Int) * 16) ((b : Nat) : Int) = (((a : Nat) * 16 + (b : Nat) : Nat) : Int) := by decide +kernel
theorem get_str (l : List UInt8) (i : Nat) (h : i < l.length) : (str l).get! i = l[i] := by
 have : (str l).get! i = l.toArray[i]! := rfl
 rw [this]
 simp [h]
theorem dig_big {c : UInt8} (h : 128 ≤ c.toNat) : dig c = -1 := by
 unfold dig
 rw [if_neg (by omega), if_neg (by omega), if_neg (by omega)]
structure UH (w : World) (l : List UInt8) (v : Value) (hi : Int) (wr : World) (pos : Nat) (o : List UInt8) : Prop where
 lo : -1 ≤ hi
 up : hi ≤ 15
 le : pos ≤ l.length
 len : o.length ≤ pos
 iter : wr.heap[w.heap.size]? = some (.stringIter (str l) pos)
 own : wr.ownsRow (w.heap.size + 1) 5 1 v o.length (flat encB o)
 below : Below w.heap.size w wr
 eq : unhexFrom (-1) [] l = unhexFrom hi o (l.drop pos)
theorem octet_Unhex (l : List UInt8) (hl : l.length ≤ 1073741824) (w : World) :
  Calls Tryz.prog 115 #[.string (str l)] w fun e w' => ∃ v', e = .returned (.tuple #[v', .bool (refUnhex [] l).isSome]) ∧ w'.ownsRow w.heap.size 5 1 v' ((refUnhex [] l).getD []).length (flat encB ((refUnhex [] l).getD [])) ∧ Below w.heap.size w w' := by
 rw [← unhexFrom_eq]
 go_enter Tryz.func115, Tryz.ntmps115
 go_wp2_with fail
 go_loopw [4, 5] (fun v h wr => ∃ (hi : Int) (pos : Nat) (o : List UInt8), h = .int .i64 hi ∧ Hid (UH w l v hi wr pos o)) (fun _ _ wr => l.length - iterPos wr w.heap.size)
 case atStart => exact ⟨-1, 0, [], rfl, qh ⟨by omega, by omega, Nat.zero_le _, Nat.le_refl _, heap_alloc_new w _, World.ownsRow_nil _ _ _ _, (Below.refl _ _).alloc (Nat.le_refl _) _, by rw [List.drop_zero]⟩⟩
 case round =>
  obtain ⟨hi, pos, o, rfl, HU⟩ := hrel
  have hlo := HU.out.lo
  have hup := HU.out.up
  have hip : Hid (iterPos wr w.heap.size = pos) := by unfold iterPos; rw [HU.out.iter]; exact qh rfl
  by_cases hlt : pos < l.length
  ·have hps : pos < (str l).size := by rw [str_size]; exact hlt
   obtain ⟨c, hc0⟩ : ∃ c : UInt8, l[pos]'hlt = c := ⟨_, rfl⟩
   have hdr : l.drop pos = c :: l.drop (pos + 1) := by rw [List.drop_eq_getElem_cons hlt, hc0]
   have hgs := get_str l pos hlt
   rw [hc0] at hgs
   by_cases hb : 128 ≤ c.toNat
   ·have hnx := fun ty => Lib.run_next_any_at (P := Tryz.prog) wr w.heap.size (str l) pos ty HU.out.iter hps
    obtain ⟨d1, d2⟩ := decode_big (str l) pos (by rw [hgs]; exact hb)
    have HE : Hid (unhexFrom (-1) [] l = none) := by
     rw [HU.out.eq, hdr, unhexFrom, if_pos (by rw [dig_big hb]; omega)]; exact qh rfl
    have HB := qh (Lib.below_iterAt HU.out.below (Nat.le_refl _) (str l) (pos + (Utf8.decode (str l) pos).2))
    generalize Utf8.decode (str l) pos = q at d1 d2 hnx HB
    obtain ⟨q1, q2⟩ := q
    simp only at d1 d2 hnx HB
    have HD := qh fun W => octet_digit (q1 : Int) (by omega) (by omega) W
    rw [if_neg (by omega)] at HD
    clear hc0 hdr hgs
    go_wp2_with fail
    refine (HD.out _).mono ?_
    rintro e w1 ⟨rfl, hb1⟩
    go_wp2_with fail
    refine bodyPost_ret (v := .tuple #[.slice none 0 0, .bool false]) ?_ rfl ⟨.slice none 0 0, by rw [HE.out]; rfl, by rw [HE.out]; exact World.ownsRow_nil _ _ _ _, HB.out.trans (hb1.mono HB.out.size)⟩
    simp [results, Tryz.results115, go_sem]
   ·have hc1 : (str l)[pos].toNat < 128 := by rw [str_get, hc0]; omega
    have hnx := fun ty => Lib.run_next_ascii_at (P := Tryz.prog) wr w.heap.size (str l) pos ty HU.out.iter hps hc1
    have hcc : (str l)[pos].toNat = c.toNat := by rw [str_get, hc0]
    rw [hcc] at hnx
    have HB := qh (Lib.below_iterAt HU.out.below (Nat.le_refl _) (str l) (pos + 1))
    have HO := qh (owns_iter HU.out.own HU.out.iter (pos + 1))
    have HI := qh (iterAt_pos HU.out.iter (pos + 1))
    have HD := qh fun W => octet_digit (c.toNat : Int) (by omega) (by omega) W
    rw [if_pos (by omega), show UInt8.ofNat (c.toNat : Int).toNat = c by simp] at HD
    have hol := HU.out.len
    obtain ⟨hd1, hd2⟩ := dig_bounds c
    have HE : Hid (unhexFrom (-1) [] l = if dig c < 0 then none else if hi < 0 then unhexFrom (dig c) o (l.drop (pos + 1)) else unhexFrom (-1) (o ++ [UInt8.ofNat (hi.toNat * 16 + (dig c).toNat)]) (l.drop (pos + 1))) := by
     rw [HU.out.eq, hdr, unhexFrom]; exact qh rfl
    have hc2 : c.toNat < 128 := by omega
    clear hc0 hdr hgs hb hc1 hcc
    generalize dig c = d at hd1 hd2 HE HD
    generalize c.toNat = cn at hnx hc2 HD
    by_cases hdn : d < 0
    ·go_wp2_with fail
     refine (HD.out _).mono ?_
     rintro e w1 ⟨rfl, hb1⟩
     go_wp2_with fail
     refine bodyPost_ret (v := .tuple #[.slice none 0 0, .bool false]) ?_ rfl ⟨.slice none 0 0, by rw [HE.out, if_pos (by omega)]; rfl, by rw [HE.out, if_pos (by omega)]; exact World.ownsRow_nil _ _ _ _, HB.out.trans (hb1.mono HB.out.size)⟩
     simp [results, Tryz.results115, go_sem]
    by_cases hhn : hi < 0
    ·go_wp2_with fail
     refine (HD.out _).mono ?_
     rintro e w1 ⟨rfl, hb1⟩
     go_wp2_with fail
     have hk1 : w1.heap[w.heap.size]? = some (.stringIter (str l) (pos + 1)) := (hb1.block _ (Array.getElem?_eq_some_iff.1 HI.out.1).1).trans HI.out.1
     refine ⟨⟨d, pos + 1, o, rfl, qh ⟨hd1, hd2, hlt, by omega, hk1, owns_below HO.out hb1 (Nat.le_refl _), HB.out.trans (hb1.mono HB.out.size), by rw [HE.out, if_neg (by omega), if_pos (by omega)]⟩⟩, ?_⟩
     rw [hip.out]
     unfold iterPos
     rw [hk1]
     simp only
     omega
    ·obtain ⟨a, rfl⟩ : ∃ a : Nat, hi = a := ⟨hi.toNat, by omega⟩
     obtain ⟨b, rfl⟩ : ∃ b : Nat, d = b := ⟨d.toNat, by omega⟩
     have hor := or16 ⟨a, by omega⟩ ⟨b, by omega⟩
     simp only at hor
     go_wp2_with fail
     refine (HD.out _).mono ?_
     rintro e w1 ⟨rfl, hb1⟩
     have HB1 := qh hb1
     have HO1 := qh (owns_below HO.out hb1 (Nat.le_refl _))
     clear hb1
     have hz1 : w.heap.size + 1 ≤ w1.heap.size := by
      have h1 := (Array.getElem?_eq_some_iff.1 HI.out.1).1
      have h2 := HB1.out.size
      omega
     go_wp2_with (at_builtin; go_loud (refine wpList_app elemB rfl (.tmp 16) (.tmp 22) rfl (w.heap.size + 1) u4 _ _ rfl HO1.out 1 1 [.int .u8 _] rfl rfl (by simp [Value.oneCell']) (by omega) hz1 ?_; intro v4 w4 hown4 _ _ hb4))
     have hk1 : w4.heap[w.heap.size]? = some (.stringIter (str l) (pos + 1)) := (hb4.block _ (by omega)).trans ((HB1.out.block _ (Array.getElem?_eq_some_iff.1 HI.out.1).1).trans HI.out.1)
     refine ⟨⟨-1, pos + 1, o ++ [UInt8.ofNat (a * 16 + b)], rfl, qh ⟨by omega, by omega, hlt, by simp; omega, hk1, ?_, ?_, ?_⟩⟩, ?_⟩
     ·have e1 : ((UInt8.ofNat (a * 16 + b)).toNat : Int) = (a : Int) * 16 + b := by rw [UInt8.toNat_ofNat']; omega
      have e2 : flat encB [UInt8.ofNat (a * 16 + b)] = [.int .u8 ((a : Int) * 16 + b)] := by
       show [Value.int .u8 ((UInt8.ofNat (a * 16 + b)).toNat : Int)] = _
       rw [e1]
      rw [flat_append, List.length_append, e2]
      exact hown4
     ·exact (HB.out.trans (HB1.out.mono HB.out.size)).trans (hb4.mono (Nat.le_succ _))
     ·rw [HE.out, if_neg (by omega), if_neg (by omega)]; rfl
     ·rw [hip.out]
      unfold iterPos
      rw [hk1]
      simp only
      omega
  ·have hps : ¬ pos < (str l).size := by rw [str_size]; exact hlt
   have hnx := fun ty => Lib.run_next_end_at (P := Tryz.prog) wr w.heap.size (str l) pos ty HU.out.iter hps
   have HE : Hid (unhexFrom (-1) [] l = if 0 ≤ hi then none else some o) := by
    rw [HU.out.eq, List.drop_eq_nil_of_le (by omega)]; exact qh rfl
   by_cases hh : 0 ≤ hi
   ·go_wp2_with fail
    refine bodyPost_ret (v := .tuple #[.slice none 0 0, .bool false]) ?_ rfl ⟨.slice none 0 0, by rw [HE.out, if_pos (by omega)]; rfl, by rw [HE.out, if_pos (by omega)]; exact World.ownsRow_nil _ _ _ _, HU.out.below⟩
    simp [results, Tryz.results115, go_sem]
   ·go_wp2_with fail
    refine bodyPost_ret (v := .tuple #[u4, .bool true]) ?_ rfl ⟨u4, by rw [HE.out, if_neg (by omega)]; rfl, by rw [HE.out, if_neg (by omega)]; exact owns_base HU.out.own (Nat.le_succ _), HU.out.below⟩
    simp [results, Tryz.results115, go_sem]
theorem decode_skip (s : ByteArray) (i : Nat) (hi : i < s.size) (hb : 128 ≤ (s.get! i).toNat) :
  128 ≤ (Utf8.decode s i).1 ∧ (Utf8.decode s i).1 < 2097152 ∧ 1 ≤ (Utf8.decode s i).2 ∧ i + (Utf8.decode s i).2 ≤ s.size ∧ ∀ k, k < (Utf8.decode s i).2 → 128 ≤ (s.get! (i + k)).toNat := by
 unfold Utf8.decode
 simp only [Nat.add_zero]
 have h0 : (s.get! i).toNat < 256 := UInt8.toNat_lt _
 rw [if_neg (by omega)]
 have e1 : ∀ k, k < 1 → 128 ≤ (s.get! (i + k)).toNat := fun k hk => by
  obtain rfl : k = 0 := by omega
  exact hb
 have ER : (128 ≤ Utf8.runeError ∧ Utf8.runeError < 2097152 ∧ 1 ≤ 1 ∧ i + 1 ≤ s.size ∧ ∀ k, k < 1 → 128 ≤ (s.get! (i + k)).toNat) := ⟨by decide, by decide, Nat.le_refl _, hi, e1⟩
 split
 ·rename_i h1
  simp only [Bool.and_eq_true, decide_eq_true_eq, beq_iff_eq] at h1
  split
  ·rename_i h2
   refine ⟨h2, by omega, by simp, by simp only; omega, fun k hk => ?_⟩
   simp only at hk
   obtain rfl | rfl : k = 0 ∨ k = 1 := by omega
   ·exact hb
   ·omega
  ·exact ER
 ·split
  ·rename_i h1
   simp only [Bool.and_eq_true, decide_eq_true_eq, beq_iff_eq] at h1
   split
   ·rename_i h2
    simp only [Bool.and_eq_true, decide_eq_true_eq] at h2
    refine ⟨by simp only; omega, by simp only; omega, by simp, by simp only; omega, fun k hk => ?_⟩
    simp only at hk
    obtain rfl | rfl | rfl : k = 0 ∨ k = 1 ∨ k = 2 := by omega
    ·exact hb
    ·omega
    ·omega
   ·exact ER
  ·split
   ·rename_i h1
    simp only [Bool.and_eq_true, decide_eq_true_eq, beq_iff_eq] at h1
    split
    ·rename_i h2
     simp only [Bool.and_eq_true, decide_eq_true_eq] at h2
     refine ⟨by simp only; omega, by simp only; omega, by simp, by simp only; omega, fun k hk => ?_⟩
     simp only at hk
     obtain rfl | rfl | rfl | rfl : k = 0 ∨ k = 1 ∨ k = 2 ∨ k = 3 := by omega
     ·exact hb
     ·omega
     ·omega
     ·omega
    ·exact ER
   ·exact ER
theorem cut_more (l : List UInt8) {fr pos : Nat} (m : Nat) (h : fr ≤ pos) : (l.drop fr).take (pos - fr) ++ (l.drop pos).take m = (l.drop fr).take (pos + m - fr) := by
 rw [show pos + m - fr = (pos - fr) + m by omega, List.take_add, List.drop_drop, show fr + (pos - fr) = pos by omega]
def splG (out : List Hp.Wd) (part : Hp.Wd) : List UInt8 → List Hp.Wd
 | [] => out ++ [part]
 | c :: r => if c = 32 then splG (out ++ [part]) [] r else splG out (part ++ [c]) r
theorem splG_spl : ∀ (r : List UInt8) (out : List Hp.Wd) (part : Hp.Wd), splG out part r = out ++ (part ++ (Hp.spl r).headD []) :: (Hp.spl r).tail
 | [], out, part => by simp [splG, Hp.spl]
 | c :: r, out, part => by
  unfold splG Hp.spl
  split
  ·rw [splG_spl r]
   cases hs : Hp.spl r with
   | nil => exact absurd hs (Hp.spl_ne r)
   | cons w ws => simp
  ·rw [splG_spl r]
   cases hs : Hp.spl r with
   | nil => exact absurd hs (Hp.spl_ne r)
   | cons w ws => simp
theorem spl_G (l : List UInt8) : Hp.spl l = splG [] [] l := by
 rw [splG_spl]
 cases hs : Hp.spl l with
 | nil => exact absurd hs (Hp.spl_ne l)
 | cons w ws => simp
theorem splG_skip : ∀ (d r : List UInt8) (out : List Hp.Wd) (part : Hp.Wd), (∀ c ∈ d, c ≠ 32) → splG out part (d ++ r) = splG out (part ++ d) r
 | [], r, out, part, _ => by simp
 | c :: d, r, out, part, h => by
  have hc := h c (by simp)
  rw [List.cons_append, splG, if_neg hc, splG_skip d r out _ fun x hx => h x (by simp [hx])]
  simp
end Go.Proofs.YtdbgeobolongmaaGreatDoor
