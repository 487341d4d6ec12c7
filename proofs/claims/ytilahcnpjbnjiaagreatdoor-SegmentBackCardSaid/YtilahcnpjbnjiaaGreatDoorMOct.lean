import Derived.Test.YtilahcnpjbnjiaaGreatDoorMBase
import Derived.Laws.BytesArg
import Derived.Shelf.Bytes.SlSmallAll
import Derived.Test.YtilahcnpjbnjiaaGreatDoorMOctP
import Derived.Lib.OthersKept
import Derived.Lib.DecodeN
import Derived.Test.YtilahcnpjbnjiaaGreatDoorShelf
import Derived.Laws.Bits64b
import Derived.WalkSpells
/- Slices of bytes, and strings of their bytes. -/
namespace Go.Proofs.YtilahcnpjbnjiaaGreatDoor
set_option linter.unusedVariables false
set_option linter.unusedSimpArgs false
open Go.RowKit

/-- a byte's cell -/
def encB (c : UInt8) : List Value := [.int .u8 (c.toNat : Int)]
theorem encB_len (c : UInt8) : (encB c).length = 1 := rfl
theorem encB_one (c : UInt8) : ∀ u ∈ encB c, u.oneCell' = true := by
  intro u hu
  simp only [encB, List.mem_singleton] at hu
  subst hu; rfl
/-- a list of bytes as a string -/
def str (l : List UInt8) : ByteArray := ⟨l.toArray⟩
theorem str_size (l : List UInt8) : (str l).size = l.length := by simp [str, ByteArray.size]
theorem str_list (s : ByteArray) : str s.data.toList = s := by simp [str]
theorem list_str (l : List UInt8) : (str l).data.toList = l := by simp [str]
theorem strOfNums_bytes (l : List UInt8) : strOfNums (l.map fun c => (c.toNat : Int)) = str l := by
  simp [strOfNums, str, Function.comp_def]

/-- 'string(b)' -/
theorem SlR.str {w : World} {v : Value} {l : List UInt8} (h : SlR w 1 encB v l) {src e dst : TypeId} (hs : Tryz.prog.underlying src = some (.slice e)) (he : Tryz.prog.underlying e = some (.int .u8)) (hd : Tryz.prog.underlying dst = some .string) :
    (convert src dst v).run Tryz.prog w = .ok (.string (str l)) w := by
  obtain ⟨p, cap, rfl, h1, h2, hR⟩ := h
  rcases Nat.eq_zero_or_pos l.length with h0 | h0
  · obtain rfl : l = [] := List.eq_nil_of_length_eq_zero h0
    exact run_convert_bytes_zero w src e hs he p cap dst hd
  · obtain ⟨b, off, rfl, _, _⟩ := hR.at h0
    rw [run_convert_bytes_arg (P := Tryz.prog) w src e hs he b off l.length cap (l.map fun c => (c.toNat : Int)) (by simp) (fun i hi => by
      have := hR.in hi 0 (.int .u8 (l[i].toNat : Int)) rfl
      simp only [Nat.mul_one, Nat.add_zero] at this
      rw [this]
      simp [List.getD, List.getElem?_eq_getElem hi]) dst hd, strOfNums_bytes]
end Go.Proofs.YtilahcnpjbnjiaaGreatDoor

/- Strings as lists of bytes: joined, cut, read; the rune at a byte of 128 or more is no digit. -/
namespace Go.Proofs.YtilahcnpjbnjiaaGreatDoor
set_option linter.unusedVariables false
set_option linter.unusedSimpArgs false
open Go.RowKit

theorem str_app (a b : List UInt8) : str a ++ str b = str (a ++ b) := by
  apply ByteArray.ext
  rw [ByteArray.data_append]
  simp [str]
theorem str_cut (l : List UInt8) (a b : Nat) : (str l).extract a b = str ((l.drop a).take (b - a)) := by
  apply ByteArray.ext
  rw [ByteArray.data_extract]
  simp [str]
theorem str_get (l : List UInt8) (i : Nat) (h : i < (str l).size) : (str l)[i] = l[i]'(by rw [← str_size]; exact h) := by
  simp [str, ByteArray.getElem_eq_getElem_data]
theorem str_inj {a b : List UInt8} : str a = str b ↔ a = b := by
  constructor
  · intro h
    have := congrArg (fun s : ByteArray => s.data.toList) h
    simpa [list_str] using this
  · intro h; rw [h]
theorem str_of (s : ByteArray) : ∃ l, s = str l ∧ l.length = s.size := ⟨s.data.toList, (str_list s).symm, Array.length_toList⟩

theorem decodeN_big (n b0 b1 b2 b3 : Nat) (h : 128 ≤ b0) (h' : b0 < 256) : 128 ≤ (Lib.decodeN n b0 b1 b2 b3).1 ∧ (Lib.decodeN n b0 b1 b2 b3).1 ≤ 1114111 := by
  unfold Lib.decodeN
  rw [if_neg (by omega)]
  repeat' split
  all_goals (simp only; omega)
theorem decode_big (s : ByteArray) (i : Nat) (h : 128 ≤ (s.get! i).toNat) : 128 ≤ (Utf8.decode s i).1 ∧ (Utf8.decode s i).1 ≤ 1114111 := by
  rw [Lib.decode_at]
  exact decodeN_big _ _ _ _ _ h (s.get! i).toNat_lt
end Go.Proofs.YtilahcnpjbnjiaaGreatDoor

/- octet's functions: Cut, Get; the document's there, Cut, Get. -/
namespace Go.Proofs.YtilahcnpjbnjiaaGreatDoor
set_option linter.unusedVariables false
set_option linter.unusedSimpArgs false
open Go.RowKit Go.Shelf Go.Proofs Go.OctetPlain

theorem elemB : ElemOk Tryz.prog 103 5 1 1 := .mk Tryz.underlying103 (z := .int .u8 0) (by kernel_rfl) (by omega) (by omega) rfl

theorem RdP.cellsB {α : Type} {w : World} {k : Nat} {enc : α → List Value} (hk : ∀ x, (enc x).length = k) (h0 : 0 < k) {a : Addr} {xs : List α} (h : RdP w k enc (some a) xs) : ∀ j u, (flat enc xs)[j]? = some u → w.cell? ⟨a.block, a.off + j, none⟩ = some u := by
  intro j u hu
  obtain ⟨_, _, hcell⟩ := h.2 _ rfl
  have hjl : j < (flat enc xs).length := (List.getElem?_eq_some_iff.1 hu).1
  rw [flat_length hk] at hjl
  have hi' : j / k < xs.length := Nat.div_lt_of_lt_mul (by rw [Nat.mul_comm]; exact hjl)
  have hm : j % k < (enc xs[j / k]).length := by rw [hk]; exact Nat.mod_lt _ h0
  have hfl := flat_at hk (List.getElem?_eq_getElem hi') (List.getElem?_eq_getElem hm)
  have hj : j / k * k + j % k = j := by rw [Nat.mul_comm]; exact Nat.div_add_mod j k
  rw [hj, hu] at hfl
  have := hcell _ _ (List.getElem?_eq_getElem hi') _ _ ((List.getElem?_eq_getElem hm).trans hfl.symm)
  rw [← this]
  congr 1
  simp only [Addr.mk.injEq, true_and, and_true]
  omega

/-- a window of a slice -/
theorem RdP.window {α : Type} {w : World} {k : Nat} {enc : α → List Value} {a : Addr} {xs : List α} (h : RdP w k enc (some a) xs) (i n : Nat) : RdP w k enc (some ⟨a.block, a.off + i * k, none⟩) ((xs.drop i).take n) := by
  obtain ⟨h6, h7, h8⟩ := h.2 a rfl
  refine ⟨(fun e => by cases e), fun b hb => ?_⟩
  cases hb
  refine ⟨rfl, h7, fun j x hx m u hu => ?_⟩
  have hx' : xs[i + j]? = some x := by
    rw [List.getElem?_take] at hx
    split at hx
    · rw [List.getElem?_drop] at hx; exact hx
    · cases hx
  have := h8 (i + j) x hx' m u hu
  rw [← this]
  congr 2
  simp only [Nat.add_mul]; omega
/-- 'b[i:j:j]' -/
theorem SlR.cut {w : World} {p : Option Addr} {l : List UInt8} (h : RdP w 1 encB p l) {k size : Int} (ht : there l.length k size) (hl : l.length ≤ 1073741824) :
    SlR w 1 encB (sliced p k.toNat (k + size).toNat (k + size).toNat 1) (cutL l k size) := by
  have hlen := cutL_length ht
  have ht' := ht
  unfold there at ht'
  unfold sliced
  by_cases h0 : (k + size).toNat = k.toNat
  · rw [if_pos h0, h0]
    have e : cutL l k size = [] := List.eq_nil_of_length_eq_zero (by rw [hlen]; omega)
    rw [e]
    refine ⟨p, 0, by simp, Nat.le_refl _, by omega, fun _ => rfl, fun a ha => ?_⟩
    obtain ⟨h1, h2, _⟩ := h.2 a ha
    exact ⟨h1, h2, fun i x hx => by simp at hx⟩
  · rw [if_neg h0]
    refine ⟨p.map (·.add (k.toNat * 1)), size.toNat, by rw [hlen]; congr 1 <;> omega, by rw [hlen]; exact Nat.le_refl _, by omega, ?_⟩
    cases p with
    | none =>
      have := h.1 rfl
      omega
    | some a =>
      have hw := h.window k.toNat size.toNat
      rw [cutL_of ht]
      have ha := (h.2 a rfl).1
      simp only [Option.map_some]
      rw [show a.add (k.toNat * 1) = ⟨a.block, a.off + k.toNat * 1, none⟩ by cases a; simp only at ha; subst ha; unfold Addr.add; split <;> simp_all]
      exact hw

end Go.Proofs.YtilahcnpjbnjiaaGreatDoor

/- octet.Get; the document's there, Cut, Get. -/
namespace Go.Proofs.YtilahcnpjbnjiaaGreatDoor
set_option linter.unusedVariables false
set_option linter.unusedSimpArgs false
open Go.RowKit Go.Shelf Go.Proofs Go.OctetPlain

theorem or_low (n c : Nat) (hn : n < 72057594037927936) (hc : c < 256) : bits .or .u64 ((n : Int) * 256) (c : Int) = ((n * 256 + c : Nat) : Int) := by
  have h := bits_or_u64_nat (n * 256) c (by omega) (by omega)
  have e : n * 256 ||| c = n * 256 + c := by
    have := Nat.shiftLeft_add_eq_or_of_lt (show c < 2 ^ 8 by omega) n
    rw [Nat.shiftLeft_eq] at this
    exact this.symm
  rw [e] at h
  rw [← h]
  congr 1

theorem SlR.atB {w : World} {p : Option Addr} {l : List UInt8} (h : RdP w 1 encB p l) {i : Nat} (hi : i < l.length) :
    ∃ b off, p = some ⟨b, off, none⟩ ∧ b < w.heap.size ∧ w.cell? ⟨b, off + i, none⟩ = some (.int .u8 (l[i].toNat : Int)) := by
  obtain ⟨b, off, h1, h2, h3⟩ := h.at hi
  have := h3 0 _ rfl
  simp only [Nat.mul_one, Nat.add_zero] at this
  exact ⟨b, off, h1, h2, this⟩

/-- what a call owns -/
theorem owns_b {w : World} {v : Value} {l : List UInt8} {B : Nat} {e : TypeId} (h : w.ownsRow B e 1 v l.length (flat encB l)) : ∃ p cap, v = .slice p l.length cap ∧ l.length ≤ cap ∧ cap ≤ 9223372036854775807 ∧ RdP w 1 encB p l := SlR.of_owns encB_len h

end Go.Proofs.YtilahcnpjbnjiaaGreatDoor

/- octet.Put. -/
namespace Go.Proofs.YtilahcnpjbnjiaaGreatDoor
set_option linter.unusedVariables false
set_option linter.unusedSimpArgs false
open Go.RowKit Go.Shelf Go.Proofs Go.OctetPlain

theorem flat_map (l : List UInt8) : flat encB l = l.map fun c => .int .u8 (c.toNat : Int) := by
  induction l with
  | nil => rfl
  | cons c r ih => simp only [flat, List.flatMap_cons, encB, List.map_cons] at ih ⊢; rw [ih]; rfl
theorem flat_setB (l : List UInt8) (i : Nat) (c : UInt8) : (flat encB l).set i (.int .u8 (c.toNat : Int)) = flat encB (l.set i c) := by
  rw [flat_map, flat_map, List.map_set]

/-- Put, behind j bytes -/
def putPart (l : List UInt8) (k s x j : Nat) : List UInt8 := l.take k ++ (OctetPlain.bytes x s).take j ++ l.drop (k + j)
theorem putPart_length {l : List UInt8} {k s x j : Nat} (hk : k + s ≤ l.length) (hj : j ≤ s) : (putPart l k s x j).length = l.length := by
  unfold putPart
  rw [List.length_append, List.length_append, List.length_take, List.length_take, List.length_drop, bytes_length]
  omega
theorem putPart_zero (l : List UInt8) (k s x : Nat) : putPart l k s x 0 = l := by unfold putPart; simp
theorem putPart_next {l : List UInt8} {k s x j : Nat} (hk : k + s ≤ l.length) (hj : j < s) : (putPart l k s x j).set (k + j) (UInt8.ofNat (x / 256 ^ (s - 1 - j) % 256)) = putPart l k s x (j + 1) := by
  unfold putPart
  have h1 : (l.take k ++ (OctetPlain.bytes x s).take j).length = k + j := by rw [List.length_append, List.length_take, List.length_take, bytes_length]; omega
  rw [List.set_append_right _ _ (by rw [h1]; exact Nat.le_refl _), h1, Nat.sub_self, List.drop_eq_getElem_cons (show k + j < l.length by omega), List.set_cons_zero, bytes_take s x j hj]
  simp [Nat.add_assoc]
theorem putPart_end {l : List UInt8} {k size : Int} {x : Nat} (h : putOk l.length k size x) : putPart l k.toNat size.toNat x size.toNat = putL l k size x := by
  have h' := h.1.1
  unfold there at h'
  unfold putL putPart
  rw [if_pos h, List.take_of_length_le (l := OctetPlain.bytes x size.toNat) (by rw [bytes_length]; exact Nat.le_refl _)]
  congr 2
  omega

theorem pow_8 (n : Nat) : (2 : Int) ^ (8 * n) = ((256 ^ n : Nat) : Int) := by
  rw [Int.pow_mul]
  simp
theorem shr_out (x : Nat) (size : Int) (h1 : 1 ≤ size) (h2 : size < 8) : ((x : Int) / 2 ^ (8 * size).toNat = 0) ↔ x < 256 ^ size.toNat := by
  rw [show (8 * size).toNat = 8 * size.toNat by omega, pow_8]
  have hp : 0 < 256 ^ size.toNat := Nat.pow_pos (by omega)
  constructor
  · intro h
    have : x / 256 ^ size.toNat = 0 := by exact_mod_cast h
    rcases Nat.div_eq_zero_iff.1 this with h | h
    · omega
    · exact h
  · intro h
    have : x / 256 ^ size.toNat = 0 := Nat.div_eq_of_lt h
    exact_mod_cast this
theorem shr_byte (x : Nat) (size : Int) (j : Nat) (h1 : 1 ≤ size) (h2 : size ≤ 8) (hj : (j : Int) < size) :
    ((x : Int) / 2 ^ (8 * (size - 1 - j)).toNat) % 256 = ((UInt8.ofNat (x / 256 ^ (size.toNat - 1 - j) % 256)).toNat : Int) := by
  rw [show (8 * (size - 1 - j)).toNat = 8 * (size.toNat - 1 - j) by omega, pow_8, UInt8.toNat_ofNat']
  rw [show (x / 256 ^ (size.toNat - 1 - j) % 256) % 2 ^ 8 = x / 256 ^ (size.toNat - 1 - j) % 256 by omega, ← Int.natCast_ediv]
  exact (Int.natCast_emod _ 256).symm
theorem owns_some {w : World} {v : Value} {l : List UInt8} {B : Nat} {e : TypeId} (h : w.ownsRow B e 1 v l.length (flat encB l)) (h0 : 0 < l.length) :
    ∃ g cap, v = .slice (some ⟨g, 0, none⟩) l.length cap ∧ l.length ≤ cap ∧ B ≤ g ∧ g < w.heap.size := by
  rcases h.2 with ⟨rfl, h1⟩ | ⟨g, cap, cur, rfl, hb, hg, hn, _⟩
  · omega
  · exact ⟨g, cap, rfl, hn, hb, (Array.getElem?_eq_some_iff.1 hg).1⟩

end Go.Proofs.YtilahcnpjbnjiaaGreatDoor

/- The document's there, Cut, Get, Bytes, Put. -/
namespace Go.Proofs.YtilahcnpjbnjiaaGreatDoor
set_option linter.unusedVariables false
set_option linter.unusedSimpArgs false
open Go.RowKit Go.Shelf Go.Proofs Go.OctetPlain

end Go.Proofs.YtilahcnpjbnjiaaGreatDoor

/- The document's Bytes, Put. -/
namespace Go.Proofs.YtilahcnpjbnjiaaGreatDoor
set_option linter.unusedVariables false
set_option linter.unusedSimpArgs false
open Go.RowKit Go.Shelf Go.Proofs Go.OctetPlain

/-- 'string([]byte{c})' -/
theorem one_str (W : World) (c : Int) (h0 : 0 ≤ c) (h1 : c < 256) :
    (convert 103 9 (.slice (some ⟨W.heap.size, 0, none⟩) 1 1)).run Tryz.prog (W.alloc (.cells #[.int .u8 c] 5)) = .ok (.string (str [UInt8.ofNat c.toNat])) (W.alloc (.cells #[.int .u8 c] 5)) := by
  have hs : SlR (W.alloc (.cells #[.int .u8 c] 5)) 1 encB (.slice (some ⟨W.heap.size, 0, none⟩) 1 1) [UInt8.ofNat c.toNat] := by
    refine ⟨_, 1, rfl, Nat.le_refl _, by omega, (fun e => by cases e), fun a ha => ?_⟩
    cases ha
    refine ⟨rfl, by simp, fun i x hx j u hu => ?_⟩
    have hi : i = 0 := by have := (List.getElem?_eq_some_iff.1 hx).1; simpa using this
    subst hi
    simp at hx
    subst hx
    have hj : j = 0 := by have := (List.getElem?_eq_some_iff.1 hu).1; simpa [encB] using this
    subst hj
    simp [encB] at hu
    subst hu
    have e : ((UInt8.ofNat c.toNat).toNat : Int) = c := by rw [UInt8.toNat_ofNat']; omega
    rw [cell_of_row _ W.heap.size _ #[.int .u8 c] 5 (0, 0) (heap_alloc_new W _)]
    simp
    omega
  exact hs.str Tryz.underlying103 Tryz.underlying5 Tryz.underlying9

end Go.Proofs.YtilahcnpjbnjiaaGreatDoor

/- Digits and Number, the program's and the document's. -/
namespace Go.Proofs.YtilahcnpjbnjiaaGreatDoor
set_option linter.unusedVariables false
set_option linter.unusedSimpArgs false
open Go.RowKit Go.Shelf Go.Proofs Go.OctetPlain

theorem var_below {w w' : World} {n : String} {cs : Array Value} (h : w.var? Tryz.prog n = some cs) (hb : Below w.heap.size w w') : w'.var? Tryz.prog n = some cs := by
  unfold World.var? at h ⊢
  cases hg : Tryz.prog.globalNamed n with
  | none => rw [hg] at h; simp at h
  | some g =>
    rw [hg] at h
    simp only [Option.bind_some] at h ⊢
    cases hh : w.heap[g]? with
    | none => rw [hh] at h; simp at h
    | some o =>
      rw [hb.block g (Array.getElem?_eq_some_iff.1 hh).1, hh]
      rw [hh] at h
      exact h

/-- the tables and errors that strconv reads -/
structure Tabs (w : World) : Prop where
  pow : Lib.TabIs Tryz.prog w "internal/strconv.uint64pow10" .u64 Lib.pow10Tab
  syn : ∃ tp p, w.var? Tryz.prog "strconv.ErrSyntax" = some #[.iface tp p]
  rng : ∃ tp p, w.var? Tryz.prog "strconv.ErrRange" = some #[.iface tp p]
theorem Tabs.below {w w' : World} (h : Tabs w) (hb : Below w.heap.size w w') : Tabs w' :=
  ⟨var_below h.pow hb, h.syn.elim fun tp ⟨p, e⟩ => ⟨tp, p, var_below e hb⟩, h.rng.elim fun tp ⟨p, e⟩ => ⟨tp, p, var_below e hb⟩⟩
theorem Tabs.next {w w' : World} (h : Tabs w) {B : Nat} (hb : Below B w w') (hB : w.heap.size ≤ B) : Tabs w' := h.below (hb.mono hB)

theorem below_grow (w : World) (q : Nat) (os : Array Obj) : Below w.heap.size w (Go.Sort.grow (w.drewN q) os) :=
  ⟨rfl, rfl, rfl, by simp [Go.Sort.grow, World.drewN], fun k hk => by
    show (w.heap ++ os)[k]? = w.heap[k]?
    rw [Array.getElem?_append_left hk]⟩

theorem octet_Digits (n : Int) (hn : -9223372036854775808 ≤ n ∧ n ≤ 9223372036854775807) (w : World) (ht : Tabs w) :
    Calls Tryz.prog 27 #[.int .i64 n] w fun e w' => e = .returned (.string (str (Lib.itoa n))) ∧ Below w.heap.size w w' := by
  have hcon := Any.strconv_Itoa Tryz.itoa n hn.1 hn.2 w ht.pow
  change Calls Tryz.prog 49 _ _ _ at hcon
  have HC := Lib.hid hcon
  clear hcon
  go_enter Tryz.func27, Tryz.ntmps27
  go_wp2_with fail
  refine HC.out.mono ?_
  rintro e w1 ⟨rfl, k, os, rfl⟩
  go_wp2_with fail
  go_ret
  exact ⟨rfl, below_grow _ _ _⟩

theorem tdig : ∀ m : Nat, m < 10 → (⟨#[48, 49, 50, 51, 52, 53, 54, 55, 56, 57]⟩ : ByteArray).extract m (m + 1) = str [UInt8.ofNat (48 + m)] := by
  intro m hm
  show (str [48, 49, 50, 51, 52, 53, 54, 55, 56, 57]).extract m (m + 1) = _
  rw [str_cut]
  match m, hm with
  | 0, _ => rfl
  | 1, _ => rfl
  | 2, _ => rfl
  | 3, _ => rfl
  | 4, _ => rfl
  | 5, _ => rfl
  | 6, _ => rfl
  | 7, _ => rfl
  | 8, _ => rfl
  | 9, _ => rfl
theorem dec_lt {m : Nat} (h : m < 10) : Lib.decDigits m = [UInt8.ofNat (48 + m)] := by rw [Lib.decDigits, dif_pos h]
theorem dec_ge {m : Nat} (h : ¬ m < 10) : Lib.decDigits m = Lib.decDigits (m / 10) ++ [UInt8.ofNat (48 + m % 10)] := by rw [Lib.decDigits, dif_neg h]

set_option maxRecDepth 100000 in
theorem ref_Digits_pos (N : Nat) (hn : N ≤ 9223372036854775807) (w : World) :
    Calls Tryz.prog 29 #[.int .i64 N] w fun e w' => e = .returned (.string (str (Lib.decDigits N))) ∧ w' = w := by
  have hN : (Lib.decDigits N).length ≤ 1000 := by
    rw [Lib.decDigits_length]; have := nDigits_le19 N (by omega); omega
  go_enter Tryz.func29, Tryz.ntmps29
  go_wp2_with fail
  go_loop [0, 5] (fun n s => ∃ (m : Nat) (sfx : List UInt8), n = .int .i64 m ∧ s = .string (str sfx) ∧ m ≤ 9223372036854775807 ∧ Hid (Lib.decDigits m ++ sfx = Lib.decDigits N)) (fun n _ => (intOf n).toNat + 1)
  case atStart => exact ⟨N, [], rfl, rfl, hn, Lib.hid (by simp)⟩
  case round =>
    obtain ⟨m, sfx, rfl, rfl, hm, HI⟩ := hrel
    have hl : sfx.length ≤ 1000 := by have := congrArg List.length HI.out; rw [List.length_append] at this; omega
    have h1 : (str sfx).size = sfx.length := str_size _
    have HD := Lib.hid (tdig (m % 10) (by omega))
    have h2 : ∀ c, (str [c]).size = 1 := fun c => str_size _
    by_cases h10 : m < 10
    · have e0 : m % 10 = m := Nat.mod_eq_of_lt h10
      go_wp2_with fail
      refine bodyPost_ret (v := .string (str (Lib.decDigits N))) ?_ rfl ⟨rfl, rfl⟩
      rw [← HI.out, dec_lt h10, ← str_app, ← tdig m h10]
      simp [results, Tryz.results29, go_sem, e0]
    · go_wp2_with fail
      refine ⟨⟨m / 10, [UInt8.ofNat (48 + m % 10)] ++ sfx, by simp, by rw [← str_app, HD.out], by omega, Lib.hid (by rw [← HI.out, dec_ge h10, List.append_assoc])⟩, by simp [intOf]; omega⟩

set_option maxRecDepth 100000 in
theorem ref_Digits_neg (N : Nat) (h0 : 0 < N) (hn : N ≤ 9223372036854775808) (w : World) :
    Calls Tryz.prog 29 #[.int .i64 (-(N : Int))] w fun e w' => e = .returned (.string (str (45 :: Lib.decDigits N))) ∧ w' = w := by
  have hN : (Lib.decDigits N).length ≤ 1000 := by
    rw [Lib.decDigits_length]
    have h1 := nDigits_le19 (N / 10) (by omega)
    by_cases h : N < 10
    · rw [Lib.nDigits_small h]; omega
    · rw [Lib.nDigits_big h]; omega
  go_enter Tryz.func29, Tryz.ntmps29
  go_wp2_with fail
  go_loop [0, 3, 4] (fun n s u => ∃ (m : Nat) (sfx : List UInt8), n = .int .i64 (-(m : Int)) ∧ s = .string (str sfx) ∧ m ≤ N ∧ Hid ((m = 0 → sfx = Lib.decDigits N) ∧ (0 < m → Lib.decDigits m ++ sfx = Lib.decDigits N))) (fun n _ _ => (-(intOf n)).toNat)
  case atStart => exact ⟨N, [], rfl, rfl, Nat.le_refl _, Lib.hid ⟨fun h => by omega, fun _ => by simp⟩⟩
  case round =>
    obtain ⟨m, sfx, rfl, rfl, hm, HI⟩ := hrel
    have hl : sfx.length ≤ 1000 := by
      rcases Nat.eq_zero_or_pos m with h | h
      · rw [HI.out.1 h]; exact hN
      · have := congrArg List.length (HI.out.2 h); rw [List.length_append] at this; omega
    have h1 : (str sfx).size = sfx.length := str_size _
    have HD := Lib.hid (tdig (m % 10) (by omega))
    have h2 : ∀ c, (str [c]).size = 1 := fun c => str_size _
    by_cases hm0 : m = 0
    · go_wp2_with fail
      refine bodyPost_ret (v := .string (str (45 :: Lib.decDigits N))) ?_ rfl ⟨rfl, rfl⟩
      rw [← HI.out.1 hm0, show (45 :: sfx) = [45] ++ sfx from rfl, ← str_app]
      simp [results, Tryz.results29, go_sem, str]
    · have e1 : Int.tmod (-(m : Int)) 10 = -((m % 10 : Nat) : Int) := by rw [Int.neg_tmod, Int.tmod_eq_emod_of_nonneg (by omega)]; simp
      have e2 : Int.tdiv (-(m : Int)) 10 = -((m / 10 : Nat) : Int) := by rw [Int.neg_tdiv, Int.tdiv_eq_ediv_of_nonneg (by omega)]; simp
      have HX : Hid (Lib.decDigits m ++ sfx = Lib.decDigits N) := HI.out.2 (by omega)
      have h45 : ByteArray.size ⟨#[45]⟩ = 1 := rfl
      go_wp2_with fail
      refine ⟨⟨m / 10, [UInt8.ofNat (48 + m % 10)] ++ sfx, by simp, by rw [← str_app, Nat.add_comm 1, HD.out], by omega, Lib.hid ⟨fun h => ?_, fun h => ?_⟩⟩, by simp [intOf]; omega⟩
      · rw [← HX.out, dec_lt (m := m) (by omega), show m % 10 = m by omega]
      · rw [← HX.out, dec_ge (m := m) (by omega), List.append_assoc]

theorem ref_Digits (n : Int) (hn : -9223372036854775808 ≤ n ∧ n ≤ 9223372036854775807) (w : World) :
    Calls Tryz.prog 29 #[.int .i64 n] w fun e w' => e = .returned (.string (str (Lib.itoa n))) ∧ w' = w := by
  unfold Lib.itoa
  by_cases h : n < 0
  · rw [if_pos h]
    have := ref_Digits_neg n.natAbs (by omega) (by omega) w
    rwa [show -((n.natAbs : Nat) : Int) = n by omega] at this
  · rw [if_neg h]
    have := ref_Digits_pos n.toNat (by omega) w
    rwa [show ((n.toNat : Nat) : Int) = n by omega] at this
end Go.Proofs.YtilahcnpjbnjiaaGreatDoor

/- Number, the program's and the document's. -/
namespace Go.Proofs.YtilahcnpjbnjiaaGreatDoor
set_option linter.unusedVariables false
set_option linter.unusedSimpArgs false
open Go.RowKit Go.Shelf Go.Proofs Go.OctetPlain

theorem str_tl (l : List UInt8) : (str l).toList = l := ByteArray.toList_mk l

set_option maxRecDepth 100000 in
set_option maxHeartbeats 1000000 in
theorem octet_Number (l : List UInt8) (hl : l.length ≤ 1073741824) (most : Int) (w : World) (ht : Tabs w) :
    Calls Tryz.prog 48 #[.string (str l), .int .i64 most] w fun e w' => e = .returned (.tuple #[.int .i64 ((number l most).getD 0), .bool (number l most).isSome]) ∧ Below w.heap.size w w' := by
  have hsz : (str l).size = l.length := str_size l
  have hll : (str l).data.toList = l := list_str l
  match ha : Lib.atoiAll l with
  | Lib.NumEnd.syntax =>
    obtain ⟨tp, p, hv⟩ := ht.syn
    have hcon := Any.strconv_Atoi_syntax_var Tryz.atoi (str l) (by omega) (by rw [hll]; exact ha) tp p w hv
    change Calls Tryz.prog 68 _ _ _ at hcon
    rw [show number l most = none by unfold number; rw [ha]]
    have HC := Lib.hid hcon
    clear hcon hv ha ht
    go_enter Tryz.func48, Tryz.ntmps48
    go_wp2_with fail
    refine HC.out.mono ?_
    rintro e w1 ⟨g, rfl, _, _, hb⟩
    go_wp2_with fail
    exact bodyPost_ret (v := .tuple #[.int .i64 0, .bool false]) (by simp [results, Tryz.results48, go_sem]) rfl ⟨rfl, hb⟩
  | .range =>
    obtain ⟨tp, p, hv⟩ := ht.rng
    have hcon := Any.strconv_Atoi_range_var Tryz.atoi (str l) (by omega) (by rw [hll]; exact ha) tp p w hv
    change Calls Tryz.prog 68 _ _ _ at hcon
    rw [show number l most = none by unfold number; rw [ha]]
    have HC := Lib.hid hcon
    clear hcon hv ha ht
    go_enter Tryz.func48, Tryz.ntmps48
    go_wp2_with fail
    refine HC.out.mono ?_
    rintro e w1 ⟨g, rfl, _, _, hb⟩
    go_wp2_with fail
    exact bodyPost_ret (v := .tuple #[.int .i64 0, .bool false]) (by simp [results, Tryz.results48, go_sem]) rfl ⟨rfl, hb⟩
  | .ok v =>
    have hcon := Any.strconv_Atoi_ok Tryz.atoi (str l) (by omega) v (by rw [hll]; exact ha) w
    change Calls Tryz.prog 68 _ _ _ at hcon
    have hcon' : Calls Tryz.prog 68 #[.string (str l)] w fun e w' => e = .returned (.tuple #[.int .i64 v, .nilIface]) ∧ Below w.heap.size w w' := by
      refine hcon.mono ?_
      rintro e w' ⟨rfl, h⟩
      refine ⟨rfl, ?_⟩
      rcases h with rfl | ⟨t, rfl⟩
      · exact Below.refl _ _
      · exact Lib.below_freeze ((Below.drew (Below.refl _ w)).alloc (Nat.le_refl _) _) (p := ⟨w.heap.size, _, none⟩) (Nat.le_refl _) 1
    have hnum : number l most = if 0 ≤ v ∧ v ≤ most ∧ Lib.itoa v = l then some v else none := by unfold number; rw [ha]
    obtain ⟨hv0, hv1⟩ := Lib.atoiAll_bounds ha
    have HC := Lib.hid hcon'
    have HN := Lib.hid hnum
    clear hcon hcon' hnum ha
    by_cases h1 : v < 0
    · rw [HN.out, if_neg (by omega)]
      go_enter Tryz.func48, Tryz.ntmps48
      go_wp2_with fail
      refine HC.out.mono ?_
      rintro e w1 ⟨rfl, hb⟩
      go_wp2_with fail
      exact bodyPost_ret (v := .tuple #[.int .i64 0, .bool false]) (by simp [results, Tryz.results48, go_sem]) rfl ⟨rfl, hb⟩
    by_cases h2 : most < v
    · rw [HN.out, if_neg (by omega)]
      go_enter Tryz.func48, Tryz.ntmps48
      go_wp2_with fail
      refine HC.out.mono ?_
      rintro e w1 ⟨rfl, hb⟩
      go_wp2_with fail
      exact bodyPost_ret (v := .tuple #[.int .i64 0, .bool false]) (by simp [results, Tryz.results48, go_sem]) rfl ⟨rfl, hb⟩
    have HD := Lib.hid fun W (h : Tabs W) => octet_Digits v ⟨hv0, hv1⟩ W h
    by_cases h3 : Lib.itoa v = l
    · rw [HN.out, if_pos ⟨by omega, by omega, h3⟩]
      have h3' : str (Lib.itoa v) = str l := by rw [h3]
      clear h3
      go_enter Tryz.func48, Tryz.ntmps48
      go_wp2_with fail
      refine HC.out.mono ?_
      rintro e w1 ⟨rfl, hb⟩
      go_wp2_with fail
      refine (HD.out _ (ht.below hb)).mono ?_
      rintro e w2 ⟨rfl, hb2⟩
      rw [h3']
      go_wp2_with fail
      exact bodyPost_ret (v := .tuple #[.int .i64 v, .bool true]) (by simp [results, Tryz.results48, go_sem]) rfl ⟨rfl, hb.trans (hb2.mono hb.size)⟩
    · rw [HN.out, if_neg (fun h => h3 h.2.2)]
      have htl := str_tl
      have hbq : (Lib.itoa v == l) = false := by simp [h3]
      clear h3
      go_enter Tryz.func48, Tryz.ntmps48
      go_wp2_with fail
      refine HC.out.mono ?_
      rintro e w1 ⟨rfl, hb⟩
      go_wp2_with fail
      refine (HD.out _ (ht.below hb)).mono ?_
      rintro e w2 ⟨rfl, hb2⟩
      go_wp2_with fail
      exact bodyPost_ret (v := .tuple #[.int .i64 0, .bool false]) (by simp [results, Tryz.results48, go_sem]) rfl ⟨rfl, hb.trans (hb2.mono hb.size)⟩

set_option maxRecDepth 100000 in
set_option maxHeartbeats 1000000 in
theorem ref_Number (l : List UInt8) (hl : l.length ≤ 1073741824) (most : Int) (w : World) :
    Calls Tryz.prog 26 #[.string (str l), .int .i64 most] w fun e w' => e = .returned (.tuple #[.int .i64 ((number l most).getD 0), .bool (number l most).isSome]) ∧ w' = w := by
  rw [← refNumber_eq]
  have hsz : (str l).size = l.length := str_size l
  have htl := str_tl
  by_cases h0 : l = []
  · rw [show refNumber l most = none by unfold refNumber; rw [if_pos (Or.inl h0)]]
    subst h0
    have hb : (⟨#[]⟩ : ByteArray).toList = [] := ByteArray.toList_mk []
    go_enter Tryz.func26, Tryz.ntmps26
    go_wp2_with fail
    exact bodyPost_ret (v := .tuple #[.int .i64 0, .bool false]) (by simp [results, Tryz.results26, go_sem]) rfl ⟨rfl, rfl⟩
  have hb : (⟨#[]⟩ : ByteArray).toList = [] := ByteArray.toList_mk []
  have hb0 : (l == []) = false := by simp [h0]
  have hlpos : 0 < l.length := List.length_pos_iff.2 h0
  by_cases h1 : 19 < l.length
  · rw [show refNumber l most = none by unfold refNumber; rw [if_pos (Or.inr h1)]]
    go_enter Tryz.func26, Tryz.ntmps26
    go_wp2_with fail
    exact bodyPost_ret (v := .tuple #[.int .i64 0, .bool false]) (by simp [results, Tryz.results26, go_sem]) rfl ⟨rfl, rfl⟩
  have HR : Hid (refNumber l most = match refNum 0 l with | none => none | some k => if Lib.decDigits k = l ∧ (k : Int) ≤ most then some (k : Int) else none) := by
    unfold refNumber
    rw [if_neg (by rintro (h | h); exact h0 h; exact h1 h)]
    exact Lib.hid rfl
  go_enter Tryz.func26, Tryz.ntmps26
  go_wp2_with fail
  go_loop [6, 7, 8] (fun n i d => ∃ (j k : Nat), j ≤ l.length ∧ i = .int .i64 j ∧ n = .int .i64 k ∧ k ≤ 9223372036854775807 ∧ Hid (refNum 0 l = refNum k (l.drop j))) (fun _ i _ => l.length - (intOf i).toNat)
  case atStart => exact ⟨0, 0, Nat.zero_le _, rfl, rfl, by omega, Lib.hid (by rw [List.drop_zero])⟩
  case round =>
    obtain ⟨j, k, hj, rfl, rfl, hk, HI⟩ := hrel
    by_cases hlt : j < l.length
    · have hg' : ∀ h, (str l)[j]'h = l[j] := fun h => str_get l j h
      have hc : l[j].toNat < 256 := l[j].toNat_lt
      have HN : Hid (refNum 0 l = if l[j].toNat < 48 ∨ 57 < l[j].toNat ∨ (9223372036854775807 - (l[j].toNat - 48)) / 10 < k then none else refNum (10 * k + (l[j].toNat - 48)) (l.drop (j + 1))) := by
        rw [HI.out, List.drop_eq_getElem_cons hlt]
        exact Lib.hid rfl
      by_cases g1 : l[j].toNat < 48
      · have HF : Hid (refNumber l most = none) := by rw [HR.out, HN.out, if_pos (Or.inl g1)]; exact Lib.hid rfl
        go_wp2_with fail
        rw [HF.out]
        exact bodyPost_ret (v := .tuple #[.int .i64 0, .bool false]) (by simp [results, Tryz.results26, go_sem]) rfl ⟨rfl, rfl⟩
      by_cases g2 : 57 < l[j].toNat
      · have HF : Hid (refNumber l most = none) := by rw [HR.out, HN.out, if_pos (Or.inr (Or.inl g2))]; exact Lib.hid rfl
        go_wp2_with fail
        rw [HF.out]
        exact bodyPost_ret (v := .tuple #[.int .i64 0, .bool false]) (by simp [results, Tryz.results26, go_sem]) rfl ⟨rfl, rfl⟩
      have e1 : IntKind.i64.wrap (9223372036854775807 - ((l[j].toNat : Int) - 48)) = 9223372036854775807 - ((l[j].toNat : Int) - 48) := IntWalk.i64_in _ (by omega)
      by_cases g3 : (9223372036854775807 - (l[j].toNat - 48)) / 10 < k
      · have HF : Hid (refNumber l most = none) := by rw [HR.out, HN.out, if_pos (Or.inr (Or.inr g3))]; exact Lib.hid rfl
        have e2 : (9223372036854775807 - ((l[j].toNat : Int) - 48)) / 10 < k := by omega
        go_wp2_with fail
        rw [HF.out]
        exact bodyPost_ret (v := .tuple #[.int .i64 0, .bool false]) (by simp [results, Tryz.results26, go_sem]) rfl ⟨rfl, rfl⟩
      · have e2 : ¬ (9223372036854775807 - ((l[j].toNat : Int) - 48)) / 10 < k := by omega
        go_wp2_with fail
        exact ⟨⟨j + 1, 10 * k + (l[j].toNat - 48), by omega, by go_num, by congr 1; omega, by omega, Lib.hid (by rw [HN.out, if_neg (by omega)])⟩, by simp [intOf]; omega⟩
    · have HE : Hid (refNum 0 l = some k) := by
        rw [HI.out, List.drop_eq_nil_of_le (by omega)]
        exact Lib.hid rfl
      have HD := Lib.hid fun W => ref_Digits (k : Int) (by omega) W
      have hit : Lib.itoa (k : Int) = Lib.decDigits k := by unfold Lib.itoa; rw [if_neg (by omega)]; rfl
      by_cases h3 : Lib.decDigits k = l
      · by_cases h4 : (k : Int) ≤ most
        · have HF : Hid (refNumber l most = some (k : Int)) := by rw [HR.out, HE.out]; simp only; rw [if_pos ⟨h3, h4⟩]; exact Lib.hid rfl
          go_wp2_with fail
          refine (HD.out _).mono ?_
          rintro e w1 ⟨rfl, rfl⟩
          rw [hit, h3]
          go_wp2_with fail
          rw [HF.out]
          exact bodyPost_ret (v := .tuple #[.int .i64 k, .bool true]) (by simp [results, Tryz.results26, go_sem]) rfl ⟨rfl, rfl⟩
        · have HF : Hid (refNumber l most = none) := by rw [HR.out, HE.out]; simp only; rw [if_neg (fun h => h4 h.2)]; exact Lib.hid rfl
          go_wp2_with fail
          refine (HD.out _).mono ?_
          rintro e w1 ⟨rfl, rfl⟩
          rw [hit, h3]
          go_wp2_with fail
          rw [HF.out]
          exact bodyPost_ret (v := .tuple #[.int .i64 0, .bool false]) (by simp [results, Tryz.results26, go_sem]) rfl ⟨rfl, rfl⟩
      · have HF : Hid (refNumber l most = none) := by rw [HR.out, HE.out]; simp only; rw [if_neg (fun h => h3 h.1)]; exact Lib.hid rfl
        have hbq : (Lib.decDigits k == l) = false := by simp [h3]
        clear h3
        go_wp2_with fail
        refine (HD.out _).mono ?_
        rintro e w1 ⟨rfl, rfl⟩
        rw [hit]
        go_wp2_with fail
        rw [HF.out]
        exact bodyPost_ret (v := .tuple #[.int .i64 0, .bool false]) (by simp [results, Tryz.results26, go_sem]) rfl ⟨rfl, rfl⟩
end Go.Proofs.YtilahcnpjbnjiaaGreatDoor

/- Literals of slices; what an alloc leaves. -/
namespace Go.Proofs.YtilahcnpjbnjiaaGreatDoor
set_option linter.unusedVariables false
set_option linter.unusedSimpArgs false
open Go.RowKit Go.Shelf Go.Proofs

end Go.Proofs.YtilahcnpjbnjiaaGreatDoor
