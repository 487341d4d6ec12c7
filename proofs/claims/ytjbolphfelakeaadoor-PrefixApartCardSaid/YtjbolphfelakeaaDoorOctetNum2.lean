/- Number, the program's and the document's. -/
import Derived.Test.YtjbolphfelakeaaDoorOctetNum
namespace Go.Proofs.YtjbolphfelakeaaDoor
set_option linter.unusedVariables false
set_option linter.unusedSimpArgs false
open Go.RowKit Go.Shelf Go.Proofs Go.OctetPlain

theorem str_tl (l : List UInt8) : (str l).toList = l := ByteArray.toList_mk l

set_option maxRecDepth 100000 in
set_option maxHeartbeats 1000000 in
theorem octet_Number (l : List UInt8) (hl : l.length ≤ 1073741824) (most : Int) (w : World) (ht : Tabs w) :
    Calls Tryd.prog 20 #[.string (str l), .int .i64 most] w fun e w' => e = .returned (.tuple #[.int .i64 ((number l most).getD 0), .bool (number l most).isSome]) ∧ Below w.heap.size w w' := by
  have hsz : (str l).size = l.length := str_size l
  have hll : (str l).data.toList = l := list_str l
  match ha : Lib.atoiAll l with
  | Lib.NumEnd.syntax =>
    obtain ⟨tp, p, hv⟩ := ht.syn
    have hcon := Any.strconv_Atoi_syntax_var Tryd.atoi (str l) (by omega) (by rw [hll]; exact ha) tp p w hv
    change Calls Tryd.prog 31 _ _ _ at hcon
    rw [show number l most = none by unfold number; rw [ha]]
    have HC := Lib.hid hcon
    clear hcon hv ha ht
    go_enter Tryd.func20, Tryd.ntmps20
    go_wp2_with fail
    refine HC.out.mono ?_
    rintro e w1 ⟨g, rfl, _, _, hb⟩
    go_wp2_with fail
    exact bodyPost_ret (v := .tuple #[.int .i64 0, .bool false]) (by simp [results, Tryd.results20, go_sem]) rfl ⟨rfl, hb⟩
  | .range =>
    obtain ⟨tp, p, hv⟩ := ht.rng
    have hcon := Any.strconv_Atoi_range_var Tryd.atoi (str l) (by omega) (by rw [hll]; exact ha) tp p w hv
    change Calls Tryd.prog 31 _ _ _ at hcon
    rw [show number l most = none by unfold number; rw [ha]]
    have HC := Lib.hid hcon
    clear hcon hv ha ht
    go_enter Tryd.func20, Tryd.ntmps20
    go_wp2_with fail
    refine HC.out.mono ?_
    rintro e w1 ⟨g, rfl, _, _, hb⟩
    go_wp2_with fail
    exact bodyPost_ret (v := .tuple #[.int .i64 0, .bool false]) (by simp [results, Tryd.results20, go_sem]) rfl ⟨rfl, hb⟩
  | .ok v =>
    have hcon := Any.strconv_Atoi_ok Tryd.atoi (str l) (by omega) v (by rw [hll]; exact ha) w
    change Calls Tryd.prog 31 _ _ _ at hcon
    have hcon' : Calls Tryd.prog 31 #[.string (str l)] w fun e w' => e = .returned (.tuple #[.int .i64 v, .nilIface]) ∧ Below w.heap.size w w' := by
      refine hcon.mono ?_
      rintro e w' ⟨rfl, h⟩
      refine ⟨rfl, ?_⟩
      rcases h with rfl | ⟨t, rfl⟩
      · exact Below.refl _ _
      · exact Lib.below_freeze ((Below.drew (Below.refl _ w)).alloc (Nat.le_refl _) _) (p := ⟨w.heap.size, _, none⟩) (Nat.le_refl _) 1
    have hnum : number l most = if 0 ≤ v ∧ v ≤ most ∧ Lib.itoa v = l then some v else none := by unfold number; rw [ha]
    obtain ⟨hv0, hv1⟩ := Lib.atoiAll_bounds ha
    have HC := Lib.hid hcon'
    have HN := Lib.hid hnum
    clear hcon hcon' hnum ha
    by_cases h1 : v < 0
    · rw [HN.out, if_neg (by omega)]
      go_enter Tryd.func20, Tryd.ntmps20
      go_wp2_with fail
      refine HC.out.mono ?_
      rintro e w1 ⟨rfl, hb⟩
      go_wp2_with fail
      exact bodyPost_ret (v := .tuple #[.int .i64 0, .bool false]) (by simp [results, Tryd.results20, go_sem]) rfl ⟨rfl, hb⟩
    by_cases h2 : most < v
    · rw [HN.out, if_neg (by omega)]
      go_enter Tryd.func20, Tryd.ntmps20
      go_wp2_with fail
      refine HC.out.mono ?_
      rintro e w1 ⟨rfl, hb⟩
      go_wp2_with fail
      exact bodyPost_ret (v := .tuple #[.int .i64 0, .bool false]) (by simp [results, Tryd.results20, go_sem]) rfl ⟨rfl, hb⟩
    have HD := Lib.hid fun W (h : Tabs W) => octet_Digits v ⟨hv0, hv1⟩ W h
    by_cases h3 : Lib.itoa v = l
    · rw [HN.out, if_pos ⟨by omega, by omega, h3⟩]
      have h3' : str (Lib.itoa v) = str l := by rw [h3]
      clear h3
      go_enter Tryd.func20, Tryd.ntmps20
      go_wp2_with fail
      refine HC.out.mono ?_
      rintro e w1 ⟨rfl, hb⟩
      go_wp2_with fail
      refine (HD.out _ (ht.below hb)).mono ?_
      rintro e w2 ⟨rfl, hb2⟩
      rw [h3']
      go_wp2_with fail
      exact bodyPost_ret (v := .tuple #[.int .i64 v, .bool true]) (by simp [results, Tryd.results20, go_sem]) rfl ⟨rfl, hb.trans (hb2.mono hb.size)⟩
    · rw [HN.out, if_neg (fun h => h3 h.2.2)]
      have htl := str_tl
      have hbq : (Lib.itoa v == l) = false := by simp [h3]
      clear h3
      go_enter Tryd.func20, Tryd.ntmps20
      go_wp2_with fail
      refine HC.out.mono ?_
      rintro e w1 ⟨rfl, hb⟩
      go_wp2_with fail
      refine (HD.out _ (ht.below hb)).mono ?_
      rintro e w2 ⟨rfl, hb2⟩
      go_wp2_with fail
      exact bodyPost_ret (v := .tuple #[.int .i64 0, .bool false]) (by simp [results, Tryd.results20, go_sem]) rfl ⟨rfl, hb.trans (hb2.mono hb.size)⟩

end Go.Proofs.YtjbolphfelakeaaDoor
