/- digit and Unhex, the program's and the document's. -/
import Derived.Test.YtlefkmgcahpobaaDoorOctetRune
namespace Go.Proofs.YtlefkmgcahpobaaDoor
set_option linter.unusedVariables false
set_option linter.unusedSimpArgs false
open Go.RowKit Go.Shelf Go.Proofs Go.OctetPlain

theorem dig_index : ∀ n : Fin 128, Lib.indexByte [48, 49, 50, 51, 52, 53, 54, 55, 56, 57, 97, 98, 99, 100, 101, 102] ((if 65 ≤ (n : Nat) ∧ (n : Nat) ≤ 70 then (n : Nat) + 32 else (n : Nat)).toUInt8) = dig (UInt8.ofNat n) := by decide +kernel

set_option maxRecDepth 100000 in
theorem octet_digit (r : Int) (h0 : 0 ≤ r) (h1 : r ≤ 1114111) (w : World) :
    Calls Tryd.prog 46 #[.int .i32 r] w fun e w' => e = .returned (.int .i64 (if r < 128 then dig (UInt8.ofNat r.toNat) else -1)) ∧ Below w.heap.size w w' := by
  by_cases hr : r < 128
  · have hd := dig_index ⟨r.toNat, by omega⟩
    simp only at hd
    rw [if_pos hr]
    by_cases hc : 65 ≤ r ∧ r ≤ 70
    · rw [if_pos (by omega)] at hd
      have hcon := Any.strings_IndexRune_ascii Tryd.indexRune hexS (r + 32) w (by omega) (by omega)
      change Calls Tryd.prog 60 _ _ _ at hcon
      rw [show (r + 32).toNat = r.toNat + 32 by omega] at hcon
      change Calls Tryd.prog 60 _ _ (fun e w' => e = .returned (.int .i64 (Lib.indexByte [48, 49, 50, 51, 52, 53, 54, 55, 56, 57, 97, 98, 99, 100, 101, 102] _)) ∧ w' = w) at hcon
      rw [hd] at hcon
      have HC := Lib.hid hcon
      clear hcon hd
      obtain ⟨c1, c2⟩ := hc
      go_enter Tryd.func46, Tryd.ntmps46
      go_wp2_with fail
      refine HC.out.mono ?_
      rintro e w1 ⟨rfl, rfl⟩
      go_wp2_with fail
      go_ret
      exact ⟨rfl, Below.refl _ _⟩
    · rw [if_neg (by omega)] at hd
      have hcon := Any.strings_IndexRune_ascii Tryd.indexRune hexS r w (by omega) (by omega)
      change Calls Tryd.prog 60 _ _ (fun e w' => e = .returned (.int .i64 (Lib.indexByte [48, 49, 50, 51, 52, 53, 54, 55, 56, 57, 97, 98, 99, 100, 101, 102] _)) ∧ w' = w) at hcon
      rw [hd] at hcon
      have HC := Lib.hid hcon
      clear hcon hd
      have hc' : r < 65 ∨ 70 < r := by omega
      clear hc
      rcases hc' with hc | hc
      all_goals
        go_enter Tryd.func46, Tryd.ntmps46
        go_wp2_with fail
        refine HC.out.mono ?_
        rintro e w1 ⟨rfl, rfl⟩
        go_wp2_with fail
        go_ret
        exact ⟨rfl, Below.refl _ _⟩
  · rw [if_neg hr]
    have HC := Lib.hid (indexRune_big hexS (by decide) (by decide) hexS_small r (by omega) h1 w)
    go_enter Tryd.func46, Tryd.ntmps46
    go_wp2_with fail
    refine HC.out.mono ?_
    rintro e w1 ⟨rfl, hb⟩
    go_wp2_with fail
    go_ret
    exact ⟨rfl, hb⟩

set_option maxRecDepth 100000 in
theorem ref_Digit (c : UInt8) (w : World) :
    Calls Tryd.prog 47 #[.int .u8 (c.toNat : Int)] w fun e w' => e = .returned (.int .i64 (dig c)) ∧ w' = w := by
  have hc : c.toNat < 256 := c.toNat_lt
  unfold dig
  generalize c.toNat = n at hc ⊢
  by_cases h1 : 48 ≤ n
  · by_cases h2 : n ≤ 57
    · rw [if_pos ⟨h1, h2⟩]
      go_enter Tryd.func47, Tryd.ntmps47
      go_wp2_with fail
      go_ret
      exact ⟨rfl, rfl⟩
    · rw [if_neg (by omega)]
      by_cases h3 : 97 ≤ n
      · by_cases h4 : n ≤ 102
        · rw [if_pos ⟨h3, h4⟩]
          go_enter Tryd.func47, Tryd.ntmps47
          go_wp2_with fail
          go_ret
          exact ⟨rfl, rfl⟩
        · rw [if_neg (by omega), if_neg (by omega)]
          go_enter Tryd.func47, Tryd.ntmps47
          go_wp2_with fail
          go_ret
          exact ⟨rfl, rfl⟩
      · rw [if_neg (by omega)]
        by_cases h5 : 65 ≤ n
        · by_cases h6 : n ≤ 70
          · rw [if_pos ⟨h5, h6⟩]
            go_enter Tryd.func47, Tryd.ntmps47
            go_wp2_with fail
            go_ret
            exact ⟨rfl, rfl⟩
          · rw [if_neg (by omega)]
            go_enter Tryd.func47, Tryd.ntmps47
            go_wp2_with fail
            go_ret
            exact ⟨rfl, rfl⟩
        · rw [if_neg (by omega)]
          go_enter Tryd.func47, Tryd.ntmps47
          go_wp2_with fail
          go_ret
          exact ⟨rfl, rfl⟩
  · rw [if_neg (by omega), if_neg (by omega), if_neg (by omega)]
    go_enter Tryd.func47, Tryd.ntmps47
    go_wp2_with fail
    go_ret
    exact ⟨rfl, rfl⟩
end Go.Proofs.YtlefkmgcahpobaaDoor
