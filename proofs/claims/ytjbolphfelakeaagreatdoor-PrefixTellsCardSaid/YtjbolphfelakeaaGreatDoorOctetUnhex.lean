/- digit and Unhex, the program's and the document's. -/
import Derived.Test.YtjbolphfelakeaaGreatDoorOctetRune
namespace Go.Proofs.YtjbolphfelakeaaGreatDoor
set_option linter.unusedVariables false
set_option linter.unusedSimpArgs false
open Go.RowKit Go.Shelf Go.Proofs Go.OctetPlain

theorem dig_index : ∀ n : Fin 128, Lib.indexByte [48, 49, 50, 51, 52, 53, 54, 55, 56, 57, 97, 98, 99, 100, 101, 102] ((if 65 ≤ (n : Nat) ∧ (n : Nat) ≤ 70 then (n : Nat) + 32 else (n : Nat)).toUInt8) = dig (UInt8.ofNat n) := by decide +kernel

set_option maxRecDepth 100000 in
theorem ref_Digit (c : UInt8) (w : World) :
    Calls Tryz.prog 90 #[.int .u8 (c.toNat : Int)] w fun e w' => e = .returned (.int .i64 (dig c)) ∧ w' = w := by
  have hc : c.toNat < 256 := c.toNat_lt
  unfold dig
  generalize c.toNat = n at hc ⊢
  by_cases h1 : 48 ≤ n
  · by_cases h2 : n ≤ 57
    · rw [if_pos ⟨h1, h2⟩]
      go_enter Tryz.func90, Tryz.ntmps90
      go_wp2_with fail
      go_ret
      exact ⟨rfl, rfl⟩
    · rw [if_neg (by omega)]
      by_cases h3 : 97 ≤ n
      · by_cases h4 : n ≤ 102
        · rw [if_pos ⟨h3, h4⟩]
          go_enter Tryz.func90, Tryz.ntmps90
          go_wp2_with fail
          go_ret
          exact ⟨rfl, rfl⟩
        · rw [if_neg (by omega), if_neg (by omega)]
          go_enter Tryz.func90, Tryz.ntmps90
          go_wp2_with fail
          go_ret
          exact ⟨rfl, rfl⟩
      · rw [if_neg (by omega)]
        by_cases h5 : 65 ≤ n
        · by_cases h6 : n ≤ 70
          · rw [if_pos ⟨h5, h6⟩]
            go_enter Tryz.func90, Tryz.ntmps90
            go_wp2_with fail
            go_ret
            exact ⟨rfl, rfl⟩
          · rw [if_neg (by omega)]
            go_enter Tryz.func90, Tryz.ntmps90
            go_wp2_with fail
            go_ret
            exact ⟨rfl, rfl⟩
        · rw [if_neg (by omega)]
          go_enter Tryz.func90, Tryz.ntmps90
          go_wp2_with fail
          go_ret
          exact ⟨rfl, rfl⟩
  · rw [if_neg (by omega), if_neg (by omega), if_neg (by omega)]
    go_enter Tryz.func90, Tryz.ntmps90
    go_wp2_with fail
    go_ret
    exact ⟨rfl, rfl⟩
end Go.Proofs.YtjbolphfelakeaaGreatDoor
