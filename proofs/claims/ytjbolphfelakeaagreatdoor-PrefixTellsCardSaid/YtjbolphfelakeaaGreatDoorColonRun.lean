/- colon.run; the document's zeros. -/
import Derived.Test.YtjbolphfelakeaaGreatDoorColonOf
import Derived.Test.YtjbolphfelakeaaGreatDoorColonPlain
namespace Go.Proofs.YtjbolphfelakeaaGreatDoor
set_option linter.unusedVariables false
set_option linter.unusedSimpArgs false
open Go.RowKit Go.Shelf Go.Proofs Go.OctetPlain Go.ColonPlain

theorem ints_len (G : List Nat) : (ints G).length = G.length := by simp [ints]
theorem ints_get {G : List Nat} {k n : Nat} (h : G[k]? = some n) : (ints G)[k]? = some (n : Int) := by simp [ints, h]

set_option maxRecDepth 100000 in
set_option maxHeartbeats 800000 in
theorem colon_run (G : List Nat) (hG : G.length = 8) (w : World) :
    Calls Tryz.prog 46 #[.agg (arrI (ints G))] w fun e w' => e = .returned (.tuple #[.int .i64 ((run G).1 : Nat), .int .i64 ((run G).2 : Nat)]) ∧ Below w.heap.size w w' := by
  obtain ⟨x0, x1, x2, x3, x4, x5, x6, x7, hx⟩ := list8 ((ints_len G).trans hG)
  have hX : arrI (ints G) = #[.int .i64 x0, .int .i64 x1, .int .i64 x2, .int .i64 x3, .int .i64 x4, .int .i64 x5, .int .i64 x6, .int .i64 x7] := by rw [hx]; rfl
  rw [hX]
  have HX := Lib.hid hX
  clear hX hx
  go_enter Tryz.func46, Tryz.ntmps46
  go_wp2_with fail
  go_loopw [4, 5, 6, 11] (fun vf vt vb vi wr => ∃ k b f t : Nat, vf = .int .i64 f ∧ vt = .int .i64 t ∧ vb = .int .i64 b ∧ vi = .int .i64 k ∧ k ≤ 8 ∧ b ≤ k ∧ f ≤ t ∧ t ≤ k ∧ Hid (run G = runFrom k b f t ((zs G).drop k)) ∧ Hid (Below w.heap.size w wr)) (fun _ _ _ i _ => 8 - (intOf i).toNat)
  case atStart => exact ⟨0, 0, 0, 0, rfl, rfl, rfl, rfl, by omega, by omega, by omega, by omega, Lib.hid rfl, Lib.hid ((Below.refl _ _).alloc (Nat.le_refl _) _)⟩
  case round =>
    obtain ⟨k, b, f, t, rfl, rfl, rfl, rfl, hk, hb, hft, htk, HE, HB⟩ := hrel
    by_cases hlt : k < 8
    · obtain ⟨n, hn⟩ : ∃ n, G[k]? = some n := ⟨G[k], List.getElem?_eq_getElem (by omega)⟩
      have hz : (zs G).drop k = decide (n = 0) :: (zs G).drop (k + 1) := by
        have h1 : (zs G)[k]? = some (decide (n = 0)) := by simp [zs, hn]
        obtain ⟨h2, h3⟩ := List.getElem?_eq_some_iff.1 h1
        rw [List.drop_eq_getElem_cons h2, h3]
      rw [hz, runFrom] at HE
      have hidx := arrI_get (ints_get hn)
      rw [HX.out] at hidx
      have hix := fun W => run_index_ints (w := W) _ k n hlt hidx
      clear hidx
      clear hz hn
      have e1 : IntKind.i64.wrap ((k : Int) + 1) = (k : Int) + 1 := IntWalk.i64_in _ (by omega)
      have e2 : IntKind.i64.wrap ((t : Int) - f) = (t : Int) - f := IntWalk.i64_in _ (by omega)
      have e3 : IntKind.i64.wrap ((k : Int) + 1 - b) = (k : Int) + 1 - b := IntWalk.i64_in _ (by omega)
      by_cases hn0 : n = 0
      · subst hn0
        rw [decide_eq_true rfl] at HE
        simp only [if_true] at HE
        by_cases h1 : (1 : Int) < (k : Int) + 1 - b
        · by_cases h2 : (t : Int) - f < (k : Int) + 1 - b
          · rw [if_pos (by omega)] at HE
            go_wp2_with fail
            exact ⟨⟨k + 1, b, b, k + 1, rfl, by go_num, rfl, by go_num, by omega, by omega, by omega, by omega, HE, HB⟩, by simp [intOf]; omega⟩
          · rw [if_neg (by omega)] at HE
            go_wp2_with fail
            exact ⟨⟨k + 1, b, f, t, rfl, rfl, rfl, by go_num, by omega, by omega, by omega, by omega, HE, HB⟩, by simp [intOf]; omega⟩
        · rw [if_neg (by omega)] at HE
          go_wp2_with fail
          exact ⟨⟨k + 1, b, f, t, rfl, rfl, rfl, by go_num, by omega, by omega, by omega, by omega, HE, HB⟩, by simp [intOf]; omega⟩
      · rw [decide_eq_false hn0] at HE
        simp only [Bool.false_eq_true, if_false] at HE
        rw [if_neg (by omega)] at HE
        have hne : ¬ (n : Int) = 0 := by omega
        have e4 : IntKind.i64.wrap ((k : Int) + 1 - ((k : Int) + 1)) = 0 := by rw [Int.sub_self]; rfl
        clear hn0
        go_wp2_with fail
        exact ⟨⟨k + 1, k + 1, f, t, rfl, rfl, by go_num, by go_num, by omega, by omega, by omega, by omega, HE, HB⟩, by simp [intOf]; omega⟩
    · obtain rfl : k = 8 := by omega
      have hd : (zs G).drop 8 = [] := List.drop_eq_nil_of_le (by rw [zs_length]; omega)
      rw [hd, runFrom] at HE
      have HR := Lib.hid HE.out
      go_wp2_with fail
      refine bodyPost_ret (v := .tuple #[.int .i64 f, .int .i64 t]) ?_ rfl ⟨by rw [HR.out], HB.out⟩
      simp [results, Tryz.results46, go_sem]
end Go.Proofs.YtjbolphfelakeaaGreatDoor
