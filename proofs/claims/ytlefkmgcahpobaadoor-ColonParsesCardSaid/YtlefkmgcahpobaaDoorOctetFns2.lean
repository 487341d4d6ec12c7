/- octet.Get; the document's there, Cut, Get. -/
import Derived.Test.YtlefkmgcahpobaaDoorOctetFns
namespace Go.Proofs.YtlefkmgcahpobaaDoor
set_option linter.unusedVariables false
set_option linter.unusedSimpArgs false
open Go.RowKit Go.Shelf Go.Proofs Go.OctetPlain

theorem or_low (n c : Nat) (hn : n < 72057594037927936) (hc : c < 256) : bits .or .u64 ((n : Int) * 256) (c : Int) = ((n * 256 + c : Nat) : Int) := by
  have h := bits_or_u64_nat (n * 256) c (by omega) (by omega)
  have e : n * 256 ||| c = n * 256 + c := by
    have := Nat.shiftLeft_add_eq_or_of_lt (show c < 2 ^ 8 by omega) n
    rw [Nat.shiftLeft_eq] at this
    exact this.symm
  rw [e] at h
  rw [← h]
  congr 1

theorem SlR.atB {w : World} {p : Option Addr} {l : List UInt8} (h : RdP w 1 encB p l) {i : Nat} (hi : i < l.length) :
    ∃ b off, p = some ⟨b, off, none⟩ ∧ b < w.heap.size ∧ w.cell? ⟨b, off + i, none⟩ = some (.int .u8 (l[i].toNat : Int)) := by
  obtain ⟨b, off, h1, h2, h3⟩ := h.at hi
  have := h3 0 _ rfl
  simp only [Nat.mul_one, Nat.add_zero] at this
  exact ⟨b, off, h1, h2, this⟩

/-- what a call owns -/
theorem owns_b {w : World} {v : Value} {l : List UInt8} {B : Nat} {e : TypeId} (h : w.ownsRow B e 1 v l.length (flat encB l)) : ∃ p cap, v = .slice p l.length cap ∧ l.length ≤ cap ∧ cap ≤ 9223372036854775807 ∧ RdP w 1 encB p l := SlR.of_owns encB_len h

set_option maxRecDepth 100000 in
set_option maxHeartbeats 1000000 in
theorem octet_Get (l : List UInt8) (hl : l.length ≤ 1073741824) (k size : Int) (hk : -9223372036854775808 ≤ k ∧ k ≤ 9223372036854775807) (hs : -9223372036854775808 ≤ size ∧ size ≤ 9223372036854775807) (v : Value) (w : World) (hv : SlR w 1 encB v l) :
    Calls Tryd.prog 15 #[v, .int .i64 k, .int .i64 size] w fun e w' => e = .returned (.tuple #[.int .u64 (getN l k size : Nat), .bool (decide (getOk l.length k size))]) ∧ Below w.heap.size w w' := by
  have HC := Lib.hid (octet_Cut l hl k size hk hs v w hv)
  have HR : Hid (getOk l.length k size → getN l k size = num 0 (cutL l k size)) := fun h => by unfold getN; rw [if_pos h]
  have HR0 : Hid (¬ getOk l.length k size → getN l k size = 0) := fun h => by unfold getN; rw [if_neg h]
  have HL : Hid (there l.length k size → (cutL l k size).length = size.toNat) := fun h => cutL_length h
  have hok : getOk l.length k size ↔ there l.length k size ∧ 1 ≤ size ∧ size ≤ 8 := Iff.rfl
  obtain ⟨p0, cap0, rfl, _, _, _⟩ := hv
  generalize getN l k size = r at HR HR0 ⊢
  generalize cutL l k size = m at HC HR HL
  by_cases ht : there l.length k size
  · have hm := HL.out ht
    have hd : decide (there l.length k size) = true := decide_eq_true ht
    by_cases h1 : size < 1
    · have hno : ¬ getOk l.length k size := fun h => by have := hok.1 h; omega
      rw [HR0.out hno, decide_eq_false hno]
      have HD := Lib.hid hd
      clear hno hok hd ht
      go_enter Tryd.func15, Tryd.ntmps15
      go_wp2_with fail
      refine HC.out.mono ?_
      rintro e w1 ⟨v1, rfl, hrow, hb1⟩
      rw [HD.out]
      go_wp2_with fail
      exact bodyPost_ret (v := .tuple #[.int .u64 0, .bool false]) (by simp [results, Tryd.results15, go_sem]) rfl ⟨rfl, hb1⟩
    by_cases h2 : 8 < size
    · have hno : ¬ getOk l.length k size := fun h => by have := hok.1 h; omega
      rw [HR0.out hno, decide_eq_false hno]
      have HD := Lib.hid hd
      clear hno hok hd ht
      go_enter Tryd.func15, Tryd.ntmps15
      go_wp2_with fail
      refine HC.out.mono ?_
      rintro e w1 ⟨v1, rfl, hrow, hb1⟩
      rw [HD.out]
      go_wp2_with fail
      exact bodyPost_ret (v := .tuple #[.int .u64 0, .bool false]) (by simp [results, Tryd.results15, go_sem]) rfl ⟨rfl, hb1⟩
    have hyes : getOk l.length k size := hok.2 ⟨ht, by omega, by omega⟩
    rw [HR.out hyes, decide_eq_true hyes]
    have HD := Lib.hid hd
    clear hyes hok hd ht HR HR0 HL
    go_enter Tryd.func15, Tryd.ntmps15
    go_wp2_with fail
    refine HC.out.mono ?_
    rintro e w1 ⟨v1, rfl, hrow, hb1⟩
    rw [HD.out]
    obtain ⟨p1, c1, rfl, hd1, hd2, hR1⟩ := owns_b hrow
    go_wp2_with fail
    go_loopw [10, 32] (fun n i wr => ∃ j : Nat, j ≤ m.length ∧ i = .int .i64 j ∧ n = .int .u64 (num 0 (m.take j) : Nat) ∧ Below w1.heap.size w1 wr) (fun _ i _ => m.length - (intOf i).toNat)
    case atStart => exact ⟨0, Nat.zero_le _, rfl, rfl, Below.refl _ _⟩
    case round =>
      obtain ⟨j, hj, rfl, rfl, hbl⟩ := hrel
      by_cases hlt : j < m.length
      · obtain ⟨g, off, rfl, hbs, hx⟩ := SlR.atB (hR1.below hbl (Nat.le_refl _)) hlt
        have hn := num_take_7 m (i := j) (by omega)
        have hT := Lib.hid (num_take (List.getElem?_eq_getElem hlt))
        have hc : m[j].toNat < 256 := m[j].toNat_lt
        have HO := Lib.hid (or_low (num 0 (m.take j)) m[j].toNat hn hc)
        generalize num 0 (m.take j) = t at hn hT HO ⊢
        generalize m[j].toNat = c at hc hx hT HO ⊢
        go_wp2_with fail
        exact ⟨⟨j + 1, by omega, by go_num, by rw [hT.out, HO.out], hbl⟩, by simp [intOf]; omega⟩
      · go_wp2_with fail
        exact bodyPost_ret (v := .tuple #[.int .u64 (num 0 m : Nat), .bool true]) (by simp [results, Tryd.results15, go_sem, List.take_of_length_le (show m.length ≤ j by omega)]) rfl ⟨rfl, hb1.trans (hbl.mono hb1.size)⟩
  · have hno : ¬ getOk l.length k size := fun h => ht (hok.1 h).1
    rw [HR0.out hno, decide_eq_false hno]
    have HD := Lib.hid (decide_eq_false ht)
    clear hno hok ht
    go_enter Tryd.func15, Tryd.ntmps15
    go_wp2_with fail
    refine HC.out.mono ?_
    rintro e w1 ⟨v1, rfl, hrow, hb1⟩
    rw [HD.out]
    go_wp2_with fail
    exact bodyPost_ret (v := .tuple #[.int .u64 0, .bool false]) (by simp [results, Tryd.results15, go_sem]) rfl ⟨rfl, hb1⟩
end Go.Proofs.YtlefkmgcahpobaaDoor
