/- The document's there, Cut, Get, Bytes, Put. -/
import Derived.Test.YtlefkmgcahpobaaDoorOctetFns3
namespace Go.Proofs.YtlefkmgcahpobaaDoor
set_option linter.unusedVariables false
set_option linter.unusedSimpArgs false
open Go.RowKit Go.Shelf Go.Proofs Go.OctetPlain

set_option maxRecDepth 100000 in
theorem ref_there (l : List UInt8) (hl : l.length ≤ 1073741824) (k size : Int) (hk : -9223372036854775808 ≤ k ∧ k ≤ 9223372036854775807) (hs : -9223372036854775808 ≤ size ∧ size ≤ 9223372036854775807) (w : World) :
    Calls Tryd.prog 43 #[.string (str l), .int .i64 k, .int .i64 size] w fun e w' => e = .returned (.bool (decide (there l.length k size))) ∧ w' = w := by
  have hsz : (str l).size = l.length := str_size l
  by_cases h1 : 0 ≤ k
  · by_cases h2 : 0 ≤ size
    · by_cases h3 : k ≤ l.length
      · have e1 : IntKind.i64.wrap ((l.length : Int) - k) = (l.length : Int) - k := IntWalk.i64_in _ (by omega)
        have hd : decide (there l.length k size) = decide (size ≤ (l.length : Int) - k) := decide_eq_decide.2 ⟨fun h => h.2.2.2, fun h => ⟨h1, h2, h3, h⟩⟩
        rw [hd]
        clear hd
        go_enter Tryd.func43, Tryd.ntmps43
        go_wp2_with fail
        go_ret
        exact ⟨rfl, rfl⟩
      · rw [show decide (there l.length k size) = false from decide_eq_false fun h => h3 h.2.2.1]
        go_enter Tryd.func43, Tryd.ntmps43
        go_wp2_with fail
        go_ret
        exact ⟨rfl, rfl⟩
    · rw [show decide (there l.length k size) = false from decide_eq_false fun h => h2 h.2.1]
      go_enter Tryd.func43, Tryd.ntmps43
      go_wp2_with fail
      go_ret
      exact ⟨rfl, rfl⟩
  · rw [show decide (there l.length k size) = false from decide_eq_false fun h => h1 h.1]
    go_enter Tryd.func43, Tryd.ntmps43
    go_wp2_with fail
    go_ret
    exact ⟨rfl, rfl⟩

set_option maxRecDepth 100000 in
theorem ref_Cut (l : List UInt8) (hl : l.length ≤ 1073741824) (k size : Int) (hk : -9223372036854775808 ≤ k ∧ k ≤ 9223372036854775807) (hs : -9223372036854775808 ≤ size ∧ size ≤ 9223372036854775807) (w : World) :
    Calls Tryd.prog 18 #[.string (str l), .int .i64 k, .int .i64 size] w fun e w' => e = .returned (.tuple #[.string (str (cutL l k size)), .bool (decide (there l.length k size))]) ∧ w' = w := by
  have hsz : (str l).size = l.length := str_size l
  have HC := Lib.hid (ref_there l hl k size hk hs w)
  by_cases ht : there l.length k size
  · have HD := Lib.hid (decide_eq_true ht)
    have HE := Lib.hid (cutL_of ht)
    rw [decide_eq_true ht]
    unfold there at ht
    obtain ⟨h1, h2, h3, h4⟩ := ht
    have e2 : IntKind.i64.wrap (k + size) = k + size := IntWalk.i64_in _ (by omega)
    have e3 : (k + size).toNat - k.toNat = size.toNat := by omega
    have HX := Lib.hid e3
    clear e3
    go_enter Tryd.func18, Tryd.ntmps18
    go_wp2_with fail
    refine HC.out.mono ?_
    rintro e w1 ⟨rfl, rfl⟩
    rw [HD.out]
    go_wp2_with fail
    refine bodyPost_ret (v := .tuple #[.string (str (cutL l k size)), .bool true]) ?_ rfl ⟨rfl, rfl⟩
    rw [HE.out, ← HX.out, ← str_cut]
    simp [results, Tryd.results18, go_sem]
  · have HD := Lib.hid (decide_eq_false ht)
    rw [decide_eq_false ht, show cutL l k size = [] by unfold cutL; rw [if_neg ht]]
    clear ht
    go_enter Tryd.func18, Tryd.ntmps18
    go_wp2_with fail
    refine HC.out.mono ?_
    rintro e w1 ⟨rfl, rfl⟩
    rw [HD.out]
    go_wp2_with fail
    exact bodyPost_ret (v := .tuple #[.string (str []), .bool false]) (by simp [results, Tryd.results18, go_sem, str]) rfl ⟨rfl, rfl⟩

set_option maxRecDepth 100000 in
set_option maxHeartbeats 1000000 in
theorem ref_Get (l : List UInt8) (hl : l.length ≤ 1073741824) (k size : Int) (hk : -9223372036854775808 ≤ k ∧ k ≤ 9223372036854775807) (hs : -9223372036854775808 ≤ size ∧ size ≤ 9223372036854775807) (w : World) :
    Calls Tryd.prog 16 #[.string (str l), .int .i64 k, .int .i64 size] w fun e w' => e = .returned (.tuple #[.int .u64 (getN l k size : Nat), .bool (decide (getOk l.length k size))]) ∧ w' = w := by
  have hsz : (str l).size = l.length := str_size l
  have HC := Lib.hid (ref_there l hl k size hk hs w)
  have hok : getOk l.length k size ↔ there l.length k size ∧ 1 ≤ size ∧ size ≤ 8 := Iff.rfl
  by_cases ht : there l.length k size
  · have HD := Lib.hid (decide_eq_true ht)
    by_cases h1 : size < 1
    · have hno : ¬ getOk l.length k size := fun h => by have := hok.1 h; omega
      rw [decide_eq_false hno, show getN l k size = 0 by unfold getN; rw [if_neg hno]]
      clear hno hok ht
      go_enter Tryd.func16, Tryd.ntmps16
      go_wp2_with fail
      refine HC.out.mono ?_
      rintro e w1 ⟨rfl, rfl⟩
      rw [HD.out]
      go_wp2_with fail
      exact bodyPost_ret (v := .tuple #[.int .u64 0, .bool false]) (by simp [results, Tryd.results16, go_sem]) rfl ⟨rfl, rfl⟩
    by_cases h2 : 8 < size
    · have hno : ¬ getOk l.length k size := fun h => by have := hok.1 h; omega
      rw [decide_eq_false hno, show getN l k size = 0 by unfold getN; rw [if_neg hno]]
      clear hno hok ht
      go_enter Tryd.func16, Tryd.ntmps16
      go_wp2_with fail
      refine HC.out.mono ?_
      rintro e w1 ⟨rfl, rfl⟩
      rw [HD.out]
      go_wp2_with fail
      exact bodyPost_ret (v := .tuple #[.int .u64 0, .bool false]) (by simp [results, Tryd.results16, go_sem]) rfl ⟨rfl, rfl⟩
    have hyes : getOk l.length k size := hok.2 ⟨ht, by omega, by omega⟩
    rw [decide_eq_true hyes, show getN l k size = num 0 (cutL l k size) by unfold getN; rw [if_pos hyes]]
    have hm := cutL_length ht
    have HGET : Hid (∀ i : Nat, i < size.toNat → (cutL l k size)[i]? = l[k.toNat + i]?) := fun i hi => cutL_get ht hi
    unfold there at ht
    clear hyes hok
    generalize cutL l k size = m at hm HGET ⊢
    go_enter Tryd.func16, Tryd.ntmps16
    go_wp2_with fail
    refine HC.out.mono ?_
    rintro e w1 ⟨rfl, rfl⟩
    rw [HD.out]
    go_wp2_with fail
    go_loop [9, 10] (fun n i => ∃ j : Nat, (j : Int) ≤ size ∧ i = .int .i64 j ∧ n = .int .u64 (num 0 (m.take j) : Nat)) (fun _ i => size.toNat - (intOf i).toNat)
    case atStart => exact ⟨0, by omega, rfl, rfl⟩
    case round =>
      obtain ⟨j, hj, rfl, rfl⟩ := hrel
      by_cases hlt : (j : Int) < size
      · have hn := num_take_7 m (i := j) (by omega)
        have hlt' : j < m.length := by omega
        have hT := Lib.hid (num_take (List.getElem?_eq_getElem hlt'))
        have hc : m[j].toNat < 256 := m[j].toNat_lt
        have hb : k.toNat + j < l.length := by omega
        have hg : l[k.toNat + j] = m[j] := by
          have := HGET.out j (by omega)
          rw [List.getElem?_eq_getElem hlt', List.getElem?_eq_getElem hb] at this
          exact (Option.some.inj this).symm
        have e1 : IntKind.i64.wrap (k + j) = k + j := IntWalk.i64_in _ (by omega)
        have hg' : ∀ h, (str l)[(k + (j : Int)).toNat]'h = m[j] := fun h => by
          rw [str_get, ← hg]
          congr 1
          omega
        clear hg
        generalize num 0 (m.take j) = t at hn hT ⊢
        go_wp2_with fail
        exact ⟨⟨j + 1, by omega, by go_num, by rw [hT.out]; simp⟩, by simp [intOf]; omega⟩
      · go_wp2_with fail
        exact bodyPost_ret (v := .tuple #[.int .u64 (num 0 m : Nat), .bool true]) (by simp [results, Tryd.results16, go_sem, List.take_of_length_le (show m.length ≤ j by omega)]) rfl ⟨rfl, rfl⟩
  · have hno : ¬ getOk l.length k size := fun h => ht (hok.1 h).1
    rw [decide_eq_false hno, show getN l k size = 0 by unfold getN; rw [if_neg hno]]
    have HD := Lib.hid (decide_eq_false ht)
    clear hno hok ht
    go_enter Tryd.func16, Tryd.ntmps16
    go_wp2_with fail
    refine HC.out.mono ?_
    rintro e w1 ⟨rfl, rfl⟩
    rw [HD.out]
    go_wp2_with fail
    exact bodyPost_ret (v := .tuple #[.int .u64 0, .bool false]) (by simp [results, Tryd.results16, go_sem]) rfl ⟨rfl, rfl⟩
end Go.Proofs.YtlefkmgcahpobaaDoor
