/- The document's Bytes, Put. -/
import Derived.Test.YtlefkmgcahpobaaDoorOctetRef
namespace Go.Proofs.YtlefkmgcahpobaaDoor
set_option linter.unusedVariables false
set_option linter.unusedSimpArgs false
open Go.RowKit Go.Shelf Go.Proofs Go.OctetPlain

/-- 'string([]byte{c})' -/
theorem one_str (W : World) (c : Int) (h0 : 0 ≤ c) (h1 : c < 256) :
    (convert 22 9 (.slice (some ⟨W.heap.size, 0, none⟩) 1 1)).run Tryd.prog (W.alloc (.cells #[.int .u8 c] 5)) = .ok (.string (str [UInt8.ofNat c.toNat])) (W.alloc (.cells #[.int .u8 c] 5)) := by
  have hs : SlR (W.alloc (.cells #[.int .u8 c] 5)) 1 encB (.slice (some ⟨W.heap.size, 0, none⟩) 1 1) [UInt8.ofNat c.toNat] := by
    refine ⟨_, 1, rfl, Nat.le_refl _, by omega, (fun e => by cases e), fun a ha => ?_⟩
    cases ha
    refine ⟨rfl, by simp, fun i x hx j u hu => ?_⟩
    have hi : i = 0 := by have := (List.getElem?_eq_some_iff.1 hx).1; simpa using this
    subst hi
    simp at hx
    subst hx
    have hj : j = 0 := by have := (List.getElem?_eq_some_iff.1 hu).1; simpa [encB] using this
    subst hj
    simp [encB] at hu
    subst hu
    have e : ((UInt8.ofNat c.toNat).toNat : Int) = c := by rw [UInt8.toNat_ofNat']; omega
    rw [cell_of_row _ W.heap.size _ #[.int .u8 c] 5 (0, 0) (heap_alloc_new W _)]
    simp
    omega
  exact hs.str Tryd.underlying22 Tryd.underlying5 Tryd.underlying9

set_option maxRecDepth 100000 in
theorem ref_Bytes (x : Nat) (hx : x < 18446744073709551616) (size : Int) (hs : size ≤ 1073741824) (w : World) :
    Calls Tryd.prog 45 #[.int .u64 x, .int .i64 size] w fun e w' => e = .returned (.string (str (OctetPlain.bytes x size.toNat))) ∧ Below w.heap.size w w' := by
  have hz : ByteArray.size ⟨#[]⟩ = 0 := rfl
  go_enter Tryd.func45, Tryd.ntmps45
  go_wp2_with fail
  go_loopw [0, 5, 6] (fun n s i wr => ∃ j : Nat, j ≤ size.toNat ∧ i = .int .i64 j ∧ n = .int .u64 (x / 256 ^ j : Nat) ∧ s = .string (str (OctetPlain.bytes x j)) ∧ Below w.heap.size w wr) (fun _ _ i _ => size.toNat - (intOf i).toNat)
  case atStart => exact ⟨0, by omega, rfl, by simp, by simp [OctetPlain.bytes, str], Below.refl _ _⟩
  case round =>
    obtain ⟨j, hj, rfl, rfl, rfl, hbl⟩ := hrel
    by_cases hlt : j < size.toNat
    · have h1 : (str (OctetPlain.bytes x j)).size = j := by rw [str_size, bytes_length]
      have h2 : ∀ c, (str [c]).size = 1 := fun c => str_size _
      have hN := Lib.hid (bytes_cons j x)
      have ht : x / 256 ^ j < 18446744073709551616 := Nat.lt_of_le_of_lt (Nat.div_le_self _ _) hx
      have hD : Hid (x / 256 ^ (j + 1) = x / 256 ^ j / 256) := by rw [Nat.pow_succ, Nat.div_div_eq_div_mul]; exact Lib.hid rfl
      generalize x / 256 ^ j = t at ht hN hD ⊢
      have hone := fun W => one_str W ((t : Int) % 256) (by omega) (by omega)
      go_wp2_with fail
      refine ⟨⟨j + 1, by omega, by go_num, by rw [hD.out]; simp, by rw [hN.out, str_app]; congr 3, hbl.alloc hbl.size _⟩, by simp [intOf]; omega⟩
    · go_wp2_with fail
      go_ret
      obtain rfl : j = size.toNat := by omega
      exact ⟨rfl, hbl⟩

set_option maxRecDepth 100000 in
theorem ref_Put (l : List UInt8) (hl : l.length ≤ 1073741824) (k size : Int) (hk : -9223372036854775808 ≤ k ∧ k ≤ 9223372036854775807) (hs : -9223372036854775808 ≤ size ∧ size ≤ 9223372036854775807) (x : Nat) (hx : x < 18446744073709551616) (w : World) :
    Calls Tryd.prog 20 #[.string (str l), .int .i64 k, .int .i64 size, .int .u64 x] w fun e w' => e = .returned (.tuple #[.string (str (putL l k size x)), .bool (decide (putOk l.length k size x))]) ∧ Below w.heap.size w w' := by
  have hsz : (str l).size = l.length := str_size l
  have HC := Lib.hid (ref_there l hl k size hk hs w)
  by_cases hg : getOk l.length k size
  · have hg' := hg
    unfold getOk at hg'
    have HD := Lib.hid (decide_eq_true hg'.1)
    have hn0 : getN (OctetPlain.bytes x size.toNat) 0 size = num 0 (OctetPlain.bytes x size.toNat) := by
      have ht : there (OctetPlain.bytes x size.toNat).length 0 size := by unfold there; rw [bytes_length]; omega
      unfold getN
      rw [if_pos ⟨ht, hg'.2⟩, cutL_of ht]
      congr 1
      rw [Int.toNat_zero, List.drop_zero, List.take_of_length_le (by rw [bytes_length]; exact Nat.le_refl _)]
    have hgo : getOk (OctetPlain.bytes x size.toNat).length 0 size := by unfold getOk there; rw [bytes_length]; omega
    have HB := Lib.hid (ref_Bytes x hx size (by omega) w)
    have HG := Lib.hid fun W => ref_Get (OctetPlain.bytes x size.toNat) (by rw [bytes_length]; omega) 0 size (by omega) hs W
    rw [hn0, decide_eq_true hgo] at HG
    have hiff := put_ref (l := l) (k := k) (size := size) (x := x) (by omega)
    have hlt : num 0 (OctetPlain.bytes x size.toNat) < 18446744073709551616 := num_lt_8 (by rw [bytes_length]; omega)
    have hbs : (str (OctetPlain.bytes x size.toNat)).size = size.toNat := by rw [str_size, bytes_length]
    unfold there at hg'
    obtain ⟨⟨g1, g2, g3, g4⟩, g5, g6⟩ := hg'
    by_cases hf : x < 256 ^ size.toNat
    · have hp : putOk l.length k size x := ⟨hg, hf⟩
      have HP : Hid (putL l k size x = l.take k.toNat ++ OctetPlain.bytes x size.toNat ++ l.drop (k + size).toNat) := by unfold putL; rw [if_pos hp]; exact Lib.hid rfl
      have HS : Hid ((str l).extract 0 k.toNat ++ str (OctetPlain.bytes x size.toNat) ++ (str l).extract (k + size).toNat l.length = str (putL l k size x)) := by
        rw [str_cut, str_cut, str_app, str_app, HP.out, List.take_of_length_le (l := l.drop (k + size).toNat) (by rw [List.length_drop]; exact Nat.le_refl _)]
        exact Lib.hid rfl
      rw [decide_eq_true hp]
      have hnx := hiff.2 hf
      rw [hnx] at HG
      have e1 : IntKind.i64.wrap (k + size) = k + size := IntWalk.i64_in _ (by omega)
      have c1 : ((str l).extract 0 k.toNat).size = k.toNat := by rw [ByteArray.size_extract, hsz]; omega
      have c2 : ((str l).extract (k + size).toNat l.length).size = l.length - (k + size).toNat := by rw [ByteArray.size_extract, hsz]; omega
      clear hp hiff hf hg hgo hnx hn0 hlt
      go_enter Tryd.func20, Tryd.ntmps20
      go_wp2_with fail
      refine HC.out.mono ?_
      rintro e w1 ⟨rfl, rfl⟩
      rw [HD.out]
      go_wp2_with fail
      refine HB.out.mono ?_
      rintro e w2 ⟨rfl, hb2⟩
      go_wp2_with fail
      refine (HG.out _).mono ?_
      rintro e w3 ⟨rfl, rfl⟩
      go_wp2_with fail
      go_quiet (fail)
      go_wp2_with fail
      refine bodyPost_ret (v := .tuple #[.string (str (putL l k size x)), .bool true]) ?_ rfl ⟨rfl, below_drewN hb2 _⟩
      rw [← HS.out]
      simp [results, Tryd.results20, go_sem]
    · have hno : ¬ putOk l.length k size x := fun h => hf h.2
      rw [decide_eq_false hno, show putL l k size x = [] by unfold putL; rw [if_neg hno]]
      have hne : ¬ num 0 (OctetPlain.bytes x size.toNat) = x := fun h => hf (hiff.1 h)
      clear hno hiff hf hg hgo hn0
      generalize num 0 (OctetPlain.bytes x size.toNat) = m at HG hne hlt
      go_enter Tryd.func20, Tryd.ntmps20
      go_wp2_with fail
      refine HC.out.mono ?_
      rintro e w1 ⟨rfl, rfl⟩
      rw [HD.out]
      go_wp2_with fail
      refine HB.out.mono ?_
      rintro e w2 ⟨rfl, hb2⟩
      go_wp2_with fail
      refine (HG.out _).mono ?_
      rintro e w3 ⟨rfl, rfl⟩
      go_wp2_with fail
      exact bodyPost_ret (v := .tuple #[.string (str []), .bool false]) (by simp [results, Tryd.results20, go_sem, str]) rfl ⟨rfl, hb2⟩
  · have hno : ¬ putOk l.length k size x := fun h => hg h.1
    rw [decide_eq_false hno, show putL l k size x = [] by unfold putL; rw [if_neg hno]]
    by_cases ht : there l.length k size
    · have HD := Lib.hid (decide_eq_true ht)
      have hsz' : size < 1 ∨ 8 < size := by
        rcases Int.lt_or_le size 1 with h | h
        · exact .inl h
        · rcases Int.lt_or_le 8 size with h' | h'
          · exact .inr h'
          · exact absurd ⟨ht, h, h'⟩ hg
      clear hno hg ht
      rcases hsz' with h | h
      all_goals
        go_enter Tryd.func20, Tryd.ntmps20
        go_wp2_with fail
        refine HC.out.mono ?_
        rintro e w1 ⟨rfl, rfl⟩
        rw [HD.out]
        go_wp2_with fail
        exact bodyPost_ret (v := .tuple #[.string (str []), .bool false]) (by simp [results, Tryd.results20, go_sem, str]) rfl ⟨rfl, Below.refl _ _⟩
    · have HD := Lib.hid (decide_eq_false ht)
      clear hno hg ht
      go_enter Tryd.func20, Tryd.ntmps20
      go_wp2_with fail
      refine HC.out.mono ?_
      rintro e w1 ⟨rfl, rfl⟩
      rw [HD.out]
      go_wp2_with fail
      exact bodyPost_ret (v := .tuple #[.string (str []), .bool false]) (by simp [results, Tryd.results20, go_sem, str]) rfl ⟨rfl, Below.refl _ _⟩
end Go.Proofs.YtlefkmgcahpobaaDoor
