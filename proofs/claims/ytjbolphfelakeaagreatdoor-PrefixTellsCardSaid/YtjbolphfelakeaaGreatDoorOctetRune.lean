/- strings.IndexRune of a rune of 128 or more in the digits of 16: none. -/
import Derived.Test.YtjbolphfelakeaaGreatDoorOctetHex
namespace Go.Proofs.YtjbolphfelakeaaGreatDoor
set_option linter.unusedVariables false
set_option linter.unusedSimpArgs false
open Go.RowKit Go.Shelf Go.Proofs Go.OctetPlain

theorem encode_big (r : Int) (h : 128 ≤ r) : 2 ≤ (Utf8.encode r).size ∧ (Utf8.encode r).size ≤ 4 ∧ ∀ i (h : i < (Utf8.encode r).size), 128 ≤ ((Utf8.encode r)[i]'h).toNat := by
  have key : ∀ c : Nat, 128 ≤ c → ∀ s : ByteArray, s = (if c < 0x80 then (⟨#[UInt8.ofNat c]⟩ : ByteArray)
      else if c < 0x800 then ⟨#[UInt8.ofNat (0xC0 + c / 64), UInt8.ofNat (0x80 + c % 64)]⟩
      else if c < 0x10000 then ⟨#[UInt8.ofNat (0xE0 + c / 4096), UInt8.ofNat (0x80 + c / 64 % 64), UInt8.ofNat (0x80 + c % 64)]⟩
      else ⟨#[UInt8.ofNat (0xF0 + c / 262144 % 16), UInt8.ofNat (0x80 + c / 4096 % 64), UInt8.ofNat (0x80 + c / 64 % 64), UInt8.ofNat (0x80 + c % 64)]⟩) →
      2 ≤ s.size ∧ s.size ≤ 4 ∧ ∀ i (h : i < s.size), 128 ≤ (s[i]'h).toNat := by
    intro c hc s hs
    have hb : ∀ n, 128 ≤ n → n < 256 → 128 ≤ (UInt8.ofNat n).toNat := fun n h1 h2 => by rw [UInt8.toNat_ofNat']; omega
    rw [if_neg (by omega)] at hs
    split at hs
    · subst hs
      refine ⟨show 2 ≤ 2 by omega, show 2 ≤ 4 by omega, fun i hi => ?_⟩
      match i, hi with
      | 0, _ => exact hb _ (by omega) (by omega)
      | 1, _ => exact hb _ (by omega) (by omega)
    · split at hs
      · subst hs
        refine ⟨show 2 ≤ 3 by omega, show 3 ≤ 4 by omega, fun i hi => ?_⟩
        match i, hi with
        | 0, _ => exact hb _ (by omega) (by omega)
        | 1, _ => exact hb _ (by omega) (by omega)
        | 2, _ => exact hb _ (by omega) (by omega)
      · subst hs
        refine ⟨show 2 ≤ 4 by omega, show 4 ≤ 4 by omega, fun i hi => ?_⟩
        match i, hi with
        | 0, _ => exact hb _ (by omega) (by omega)
        | 1, _ => exact hb _ (by omega) (by omega)
        | 2, _ => exact hb _ (by omega) (by omega)
        | 3, _ => exact hb _ (by omega) (by omega)
  have hc : 128 ≤ (if Utf8.valid r then r.toNat else Utf8.runeError) ∧ (if Utf8.valid r then r.toNat else Utf8.runeError) ≤ 1114111 := by
    split
    · rename_i hv
      unfold Utf8.valid at hv
      simp only [Bool.or_eq_true, Bool.and_eq_true, decide_eq_true_eq] at hv
      omega
    · decide
  refine key _ hc.1 _ ?_
  unfold Utf8.encode
  simp only
  rw [show (if Utf8.valid r then r.toNat else Utf8.runeError) / 262144 % 16 = (if Utf8.valid r then r.toNat else Utf8.runeError) / 262144 by have := hc.2; omega]

abbrev hexS : ByteArray := ⟨#[48, 49, 50, 51, 52, 53, 54, 55, 56, 57, 97, 98, 99, 100, 101, 102]⟩
theorem hexS_small (i : Nat) (h : i < hexS.size) : (hexS[i]'h).toNat < 128 := by
  rw [hexdig i h h]
  have hi : i < 16 := h
  unfold letter
  split <;> (rw [UInt8.toNat_ofNat']; omega)
theorem indexByte_no : ∀ (l : List UInt8) (c : UInt8), (∀ b ∈ l, b.toNat < 128) → 128 ≤ c.toNat → Lib.indexByte l c = -1
  | [], _, _, _ => rfl
  | b :: r, c, h, hc => by
    have hb := h b (List.mem_cons_self ..)
    have hne : (b == c) = false := by
      rw [beq_eq_false_iff_ne]
      rintro rfl
      omega
    unfold Lib.indexByte
    rw [hne, indexByte_no r c (fun x hx => h x (List.mem_cons_of_mem _ hx)) hc]
    rfl

/-- the place that a string's iterator stands at -/
def iterPos (w : World) (k : Nat) : Nat := match w.heap[k]? with | some (.stringIter _ pos) => pos | _ => 0
theorem iterAt_pos {w : World} {k : Nat} {s : ByteArray} {pos : Nat} (hk : w.heap[k]? = some (.stringIter s pos)) (pos' : Nat) : (w.iterAt k s pos').heap[k]? = some (.stringIter s pos') ∧ iterPos (w.iterAt k s pos') k = pos' := by
  have h := Lib.iterAt_heap w k s pos pos' hk
  exact ⟨h, by unfold iterPos; rw [h]⟩

set_option maxHeartbeats 4000000 in
set_option maxRecDepth 1000000 in
theorem indexRune_big (s : ByteArray) (hs4 : 4 ≤ s.size) (hs9 : s.size ≤ 1000) (hsm : ∀ i (h : i < s.size), (s[i]'h).toNat < 128) (r : Int) (h0 : 128 ≤ r) (h1 : r ≤ 1114111) (w : World) :
    Calls Tryz.prog 100 #[.string s, .int .i32 r] w fun e w' => e = .returned (.int .i64 (-1)) ∧ Below w.heap.size w w' := by
  have hVR := fun W => Any.utf8_ValidRune Tryz.validRune r W
  have HVR : Hid (∀ W, Calls Tryz.prog 113 #[.int .i32 r] W fun e w' => e = .returned (.bool (Lib.validRune r)) ∧ w' = W) := hVR
  clear hVR
  by_cases hre : r = 65533
  · subst hre
    go_enter Tryz.func100, Tryz.ntmps100
    go_wp2_with fail
    go_loopw [5] (fun _ wr => ∃ pos : Nat, pos ≤ s.size ∧ wr.heap[w.heap.size]? = some (.stringIter s pos) ∧ Below w.heap.size w wr) (fun _ wr => s.size - iterPos wr w.heap.size)
    case atStart => exact ⟨0, Nat.zero_le _, heap_alloc_new w _, (Below.refl _ _).alloc (Nat.le_refl _) _⟩
    case round =>
      obtain ⟨pos, hpos, hk, hbl⟩ := hrel
      have hip : iterPos wr w.heap.size = pos := by unfold iterPos; rw [hk]
      by_cases hlt : pos < s.size
      · have hc1 := hsm pos hlt
        have hnx := fun ty => Lib.run_next_ascii_at (P := Tryz.prog) wr w.heap.size s pos ty hk hlt hc1
        have HK := Lib.hid (iterAt_pos hk (pos + 1))
        have HB := Lib.hid (Lib.below_iterAt hbl (Nat.le_refl _) s (pos + 1))
        generalize s[pos].toNat = c at hc1 hnx
        clear hk hbl hsm
        go_wp2_with fail
        exact ⟨⟨pos + 1, by omega, HK.out.1, HB.out⟩, by rw [HK.out.2, hip]; omega⟩
      · have hnx := fun ty => Lib.run_next_end_at (P := Tryz.prog) wr w.heap.size s pos ty hk hlt
        clear hk
        go_wp2_with fail
        go_ret
        exact ⟨rfl, hbl⟩
  cases hval : Lib.validRune r with
  | false =>
    go_enter Tryz.func100, Tryz.ntmps100
    go_wp2_with fail
    refine (HVR.out _).mono ?_
    rintro e w1 ⟨rfl, rfl⟩
    go_wp2_with fail
    go_ret
    exact ⟨rfl, Below.refl _ _⟩
  | true =>
    obtain ⟨g1, g2, g3⟩ := encode_big r h0
    go_enter Tryz.func100, Tryz.ntmps100
    go_wp2_with fail
    refine (HVR.out _).mono ?_
    rintro e w1 ⟨rfl, rfl⟩
    go_wp2_with fail
    refine wp_scope_straight ?_
    have G3 := Lib.hid g3
    have HSM := Lib.hid hsm
    clear g3 hsm
    obtain ⟨p, hn⟩ : ∃ p, (Utf8.encode r).size = p + 1 := ⟨(Utf8.encode r).size - 1, by omega⟩
    have hp3 : p ≤ 3 := by omega
    generalize hm : s.size = m at hs4 hs9
    have hpm : p < m := by omega
    clear g1 g2
    go_wp2_with fail
    refine wp_loop_rounds 1 ?_
    rw [rounds_succ]
    obtain ⟨c, hc⟩ : ∃ c, s[p]'(by omega) = c := ⟨_, rfl⟩
    obtain ⟨d, hd⟩ : ∃ d, (Utf8.encode r)[p]'(by omega) = d := ⟨_, rfl⟩
    have hc1 : c.toNat < 128 := by rw [← hc]; exact HSM.out _ _
    have hd1 : 128 ≤ d.toNat := by rw [← hd]; exact G3.out _ _
    have hc' : ∀ h, s[p]'h = c := fun h => hc
    have hd' : ∀ h, (Utf8.encode r)[p]'h = d := fun h => hd
    have hcd : ((c.toNat : Int) == (d.toNat : Int)) = false := by simp; omega
    clear hc hd
    have e1 : IntKind.i64.wrap ((p : Int) + 1) = (p : Int) + 1 := IntWalk.i64_in _ (by omega)
    have hsl : ∀ W, (Instr.slice 9 (.string s) (some (.int .i64 ((p : Int) + 1))) none none).run Tryz.prog W = .ok (.string (s.extract (p + 1) m)) W := fun W => by
      have h := run_slice_string_l (P := Tryz.prog) W 9 s Tryz.underlying9 .i64 ((p : Int) + 1) (by omega) (by rw [hm]; omega)
      rw [hm] at h
      exact h
    have hd2 : (d.toNat : Int).toNat.toUInt8 = d := by simp
    have HIB : Hid (∀ a b W, Calls Tryz.prog 112 #[.string (s.extract a b), .int .u8 (d.toNat : Int)] W fun e w' => e = .returned (.int .i64 (-1)) ∧ w' = W) := fun a b W => by
      have h := Any.strings_IndexByte Tryz.indexByte (s.extract a b) (d.toNat : Int) W
      rw [hd2, indexByte_no _ d (fun x hx => by
        have hx := mem_extract hx
        obtain ⟨i, hi, rfl⟩ := List.mem_iff_getElem.1 hx
        rw [Array.getElem_toList]
        exact HSM.out i (by rw [Array.length_toList] at hi; exact hi)) hd1] at h
      exact h
    go_wp2_with fail
    refine wp_scope_straight ?_
    go_wp2_with fail
    go_quiet (fail)
    go_wp2_with fail
    go_quiet ((go_at_call 112; go_must (exact (HIB.out _ _ _).mono fun _ _ h => ⟨h.1, _, h.2⟩)))
    go_wp2_with fail
    simp only [Exit.noGoto, Exit.inBlock, Exit.then]
    go_wp2_with fail
    go_ret
    exact ⟨rfl, below_drewN (Below.refl _ _) _⟩
end Go.Proofs.YtjbolphfelakeaaGreatDoor
