/- group, the program's and the document's. -/
import Derived.Test.YtjbolphfelakeaaGreatDoorArr
import Derived.Test.YtjbolphfelakeaaGreatDoorColonPlain
import Derived.Test.YtjbolphfelakeaaGreatDoorOctetUnhex2
namespace Go.Proofs.YtjbolphfelakeaaGreatDoor
set_option linter.unusedVariables false
set_option linter.unusedSimpArgs false
open Go.RowKit Go.Shelf Go.Proofs Go.OctetPlain Go.ColonPlain

/-- group, behind pos bytes -/
structure GS (w : World) (l : List UInt8) (wr : World) (n signs pos : Nat) : Prop where
  le : pos ≤ l.length
  sl : signs ≤ 4
  nl : n < 16 ^ signs
  iter : wr.heap[w.heap.size]? = some (.stringIter (str l) pos)
  below : Below w.heap.size w wr
  eq : group l = groupFrom n signs (l.drop pos)

set_option maxRecDepth 100000 in
set_option maxHeartbeats 800000 in
theorem colon_group (l : List UInt8) (hl : l.length ≤ 1073741824) (w : World) :
    Calls Tryz.prog 84 #[.string (str l)] w fun e w' => e = .returned (.tuple #[.int .i64 ((group l).getD 0 : Nat), .bool (group l).isSome]) ∧ Below w.heap.size w w' := by
  go_enter Tryz.func84, Tryz.ntmps84
  go_wp2_with fail
  go_loopw [4, 5] (fun vn vs wr => ∃ n signs pos : Nat, vn = .int .i64 n ∧ vs = .int .i64 signs ∧ Hid (GS w l wr n signs pos)) (fun _ _ wr => l.length - iterPos wr w.heap.size)
  case atStart => exact ⟨0, 0, 0, rfl, rfl, Lib.hid ⟨Nat.zero_le _, by omega, by omega, heap_alloc_new w _, (Below.refl _ _).alloc (Nat.le_refl _) _, by rw [List.drop_zero]; rfl⟩⟩
  case round =>
    obtain ⟨n, signs, pos, rfl, rfl, HU⟩ := hrel
    have hsl := HU.out.sl
    have hnl : n < 65536 := by
      have h1 := HU.out.nl
      have : 16 ^ signs ≤ 16 ^ 4 := Nat.pow_le_pow_right (by omega) hsl
      omega
    have hip : Hid (iterPos wr w.heap.size = pos) := by unfold iterPos; rw [HU.out.iter]; exact Lib.hid rfl
    by_cases hlt : pos < l.length
    · have hps : pos < (str l).size := by rw [str_size]; exact hlt
      obtain ⟨c, hc0⟩ : ∃ c : UInt8, l[pos]'hlt = c := ⟨_, rfl⟩
      have hdr : l.drop pos = c :: l.drop (pos + 1) := by rw [List.drop_eq_getElem_cons hlt, hc0]
      have hgs := get_str l pos hlt
      rw [hc0] at hgs
      by_cases hb : 128 ≤ c.toNat
      · have hnx := fun ty => Lib.run_next_any_at (P := Tryz.prog) wr w.heap.size (str l) pos ty HU.out.iter hps
        obtain ⟨d1, d2⟩ := decode_big (str l) pos (by rw [hgs]; exact hb)
        have HE : Hid (group l = none) := by
          rw [HU.out.eq, hdr, groupFrom, if_pos (by rw [dig_big hb]; omega)]; exact Lib.hid rfl
        have HB := Lib.hid (Lib.below_iterAt HU.out.below (Nat.le_refl _) (str l) (pos + (Utf8.decode (str l) pos).2))
        generalize Utf8.decode (str l) pos = q at d1 d2 hnx HB
        obtain ⟨q1, q2⟩ := q
        simp only at d1 d2 hnx HB
        have HD := Lib.hid fun W => indexRune_big hexS (by decide) (by decide) hexS_small (q1 : Int) (by omega) (by omega) W
        clear hc0 hdr hgs
        go_wp2_with fail
        refine (HD.out _).mono ?_
        rintro e w1 ⟨rfl, hb1⟩
        go_wp2_with fail
        refine bodyPost_ret (v := .tuple #[.int .i64 0, .bool false]) ?_ rfl ⟨by rw [HE.out]; rfl, HB.out.trans (hb1.mono HB.out.size)⟩
        simp [results, Tryz.results84, go_sem]
      · have hc1 : (str l)[pos].toNat < 128 := by rw [str_get, hc0]; omega
        have hnx := fun ty => Lib.run_next_ascii_at (P := Tryz.prog) wr w.heap.size (str l) pos ty HU.out.iter hps hc1
        have hcc : (str l)[pos].toNat = c.toNat := by rw [str_get, hc0]
        rw [hcc] at hnx
        have HB := Lib.hid (Lib.below_iterAt HU.out.below (Nat.le_refl _) (str l) (pos + 1))
        have HI := Lib.hid (iterAt_pos HU.out.iter (pos + 1))
        have hix := dig_idx ⟨c.toNat, by omega⟩
        simp only [UInt8.ofNat_toNat] at hix
        have hcon := fun W => Any.strings_IndexRune_ascii Tryz.indexRune hexS (c.toNat : Int) W (by omega) (by omega)
        simp only [Int.toNat_natCast] at hcon
        change ∀ W, Calls Tryz.prog 100 _ W (fun e w' => e = .returned (.int .i64 (Lib.indexByte [48, 49, 50, 51, 52, 53, 54, 55, 56, 57, 97, 98, 99, 100, 101, 102] (UInt8.ofNat c.toNat))) ∧ w' = W) at hcon
        simp only [UInt8.ofNat_toNat] at hcon
        obtain ⟨hd1, hd2⟩ := dig_bounds c
        have HE : Hid (group l = if dig c < 0 ∨ 4 < signs + 1 then none else groupFrom (n * 16 + (dig c).toNat) (signs + 1) (l.drop (pos + 1))) := by
          rw [HU.out.eq, hdr, groupFrom]; exact Lib.hid rfl
        have hc2 : c.toNat < 128 := by omega
        generalize Lib.indexByte [48, 49, 50, 51, 52, 53, 54, 55, 56, 57, 97, 98, 99, 100, 101, 102] c = j at hix hcon
        have HC := Lib.hid hcon
        have HIX := Lib.hid hix
        clear hc0 hdr hgs hb hc1 hcc hcon hix
        generalize dig c = d at hd1 hd2 HE HIX
        generalize c.toNat = cn at hnx hc2 HC HIX
        by_cases hd0 : d < 0
        · have HN : Hid (group l = none) := by rw [HE.out, if_pos (Or.inl hd0)]; exact Lib.hid rfl
          have hcap : ¬ (65 ≤ cn ∧ cn ≤ 70) := fun h => by have := HIX.out; rw [if_pos h] at this; omega
          have hj : j = d := by have := HIX.out; rw [if_neg hcap] at this; exact this
          subst hj
          have hcap' : cn < 65 ∨ 70 < cn := by omega
          clear hcap
          rcases hcap' with h | h
          all_goals
            go_wp2_with fail
            refine (HC.out _).mono ?_
            rintro e w1 ⟨rfl, rfl⟩
            go_wp2_with fail
            refine bodyPost_ret (v := .tuple #[.int .i64 0, .bool false]) ?_ rfl ⟨by rw [HN.out]; rfl, HB.out⟩
            simp [results, Tryz.results84, go_sem]
        · obtain ⟨b, rfl⟩ : ∃ b : Nat, d = b := ⟨d.toNat, by omega⟩
          have hor := or_16 n b (by omega) (by omega)
          have hw1 : IntKind.i64.wrap ((n : Int) * 16) = (n : Int) * 16 := IntWalk.i64_in _ (by omega)
          have hbb : b < 16 := by omega
          by_cases hs4 : signs = 4
          · subst hs4
            have HN : Hid (group l = none) := by rw [HE.out, if_pos (Or.inr (by omega))]; exact Lib.hid rfl
            by_cases hcap : 65 ≤ cn ∧ cn ≤ 70
            · obtain ⟨h1, h2⟩ := hcap
              have hd : (cn : Int) - 65 + 10 = b := by have := HIX.out; rw [if_pos ⟨h1, h2⟩] at this; exact this
              go_wp2_with fail
              refine (HC.out _).mono ?_
              rintro e w1 ⟨rfl, rfl⟩
              go_wp2_with fail
              refine bodyPost_ret (v := .tuple #[.int .i64 0, .bool false]) ?_ rfl ⟨by rw [HN.out]; rfl, HB.out⟩
              simp [results, Tryz.results84, go_sem]
            · have hj : j = b := by have := HIX.out; rw [if_neg hcap] at this; exact this
              subst hj
              have hcap' : cn < 65 ∨ 70 < cn := by omega
              clear hcap
              rcases hcap' with h | h
              all_goals
                go_wp2_with fail
                refine (HC.out _).mono ?_
                rintro e w1 ⟨rfl, rfl⟩
                go_wp2_with fail
                refine bodyPost_ret (v := .tuple #[.int .i64 0, .bool false]) ?_ rfl ⟨by rw [HN.out]; rfl, HB.out⟩
                simp [results, Tryz.results84, go_sem]
          · have HN : Hid (group l = groupFrom (n * 16 + b) (signs + 1) (l.drop (pos + 1))) := by rw [HE.out, if_neg (by omega)]; exact Lib.hid rfl
            have hs3 : signs < 4 := by omega
            have hpow : n * 16 + b < 16 ^ (signs + 1) := by have := HU.out.nl; rw [Nat.pow_succ]; omega
            have hP := Lib.hid hpow
            clear hpow
            have hG : Hid (GS w l (wr.iterAt w.heap.size (str l) (pos + 1)) (n * 16 + b) (signs + 1) (pos + 1)) := Lib.hid ⟨hlt, by omega, hP.out, HI.out.1, HB.out, HN.out⟩
            have hme : Hid (l.length - iterPos (wr.iterAt w.heap.size (str l) (pos + 1)) w.heap.size < l.length - iterPos wr w.heap.size) := by rw [hip.out, HI.out.2]; exact Lib.hid (by omega)
            by_cases hcap : 65 ≤ cn ∧ cn ≤ 70
            · obtain ⟨h1, h2⟩ := hcap
              have hd : (cn : Int) - 65 + 10 = b := by have := HIX.out; rw [if_pos ⟨h1, h2⟩] at this; exact this
              go_wp2_with fail
              refine (HC.out _).mono ?_
              rintro e w1 ⟨rfl, rfl⟩
              go_wp2_with fail
              exact ⟨⟨n * 16 + b, signs + 1, pos + 1, rfl, by go_num, hG⟩, hme.out⟩
            · have hj : j = b := by have := HIX.out; rw [if_neg hcap] at this; exact this
              subst hj
              have hcap' : cn < 65 ∨ 70 < cn := by omega
              clear hcap
              rcases hcap' with h | h
              all_goals
                go_wp2_with fail
                refine (HC.out _).mono ?_
                rintro e w1 ⟨rfl, rfl⟩
                go_wp2_with fail
                exact ⟨⟨n * 16 + b, signs + 1, pos + 1, rfl, by go_num, hG⟩, hme.out⟩
    · have hps : ¬ pos < (str l).size := by rw [str_size]; exact hlt
      have hnx := fun ty => Lib.run_next_end_at (P := Tryz.prog) wr w.heap.size (str l) pos ty HU.out.iter hps
      have HE : Hid (group l = if 0 < signs then some n else none) := by
        rw [HU.out.eq, List.drop_eq_nil_of_le (by omega)]; exact Lib.hid rfl
      by_cases h0 : 0 < signs
      · have HN : Hid (group l = some n) := by rw [HE.out, if_pos h0]; exact Lib.hid rfl
        go_wp2_with fail
        refine bodyPost_ret (v := .tuple #[.int .i64 n, .bool true]) ?_ rfl ⟨by rw [HN.out]; rfl, HU.out.below⟩
        simp [results, Tryz.results84, go_sem, h0]
      · have HN : Hid (group l = none) := by rw [HE.out, if_neg h0]; exact Lib.hid rfl
        obtain rfl : signs = 0 := by omega
        have hn0 : n = 0 := by have := HU.out.nl; simpa using this
        subst hn0
        go_wp2_with fail
        refine bodyPost_ret (v := .tuple #[.int .i64 0, .bool false]) ?_ rfl ⟨by rw [HN.out]; rfl, HU.out.below⟩
        simp [results, Tryz.results84, go_sem]
end Go.Proofs.YtjbolphfelakeaaGreatDoor
