/- Number, the program's and the document's. -/
import Derived.Test.YtilahcnpjbnjiaaDoorOctetNum
namespace Go.Proofs.YtilahcnpjbnjiaaDoor
set_option linter.unusedVariables false
set_option linter.unusedSimpArgs false
open Go.RowKit Go.Shelf Go.Proofs Go.OctetPlain

theorem str_tl (l : List UInt8) : (str l).toList = l := ByteArray.toList_mk l

set_option maxRecDepth 100000 in
set_option maxHeartbeats 1000000 in
theorem octet_Number (l : List UInt8) (hl : l.length ≤ 1073741824) (most : Int) (w : World) (ht : Tabs w) :
    Calls Tryd.prog 46 #[.string (str l), .int .i64 most] w fun e w' => e = .returned (.tuple #[.int .i64 ((number l most).getD 0), .bool (number l most).isSome]) ∧ Below w.heap.size w w' := by
  have hsz : (str l).size = l.length := str_size l
  have hll : (str l).data.toList = l := list_str l
  match ha : Lib.atoiAll l with
  | Lib.NumEnd.syntax =>
    obtain ⟨tp, p, hv⟩ := ht.syn
    have hcon := Any.strconv_Atoi_syntax_var Tryd.atoi (str l) (by omega) (by rw [hll]; exact ha) tp p w hv
    change Calls Tryd.prog 54 _ _ _ at hcon
    rw [show number l most = none by unfold number; rw [ha]]
    have HC := Lib.hid hcon
    clear hcon hv ha ht
    go_enter Tryd.func46, Tryd.ntmps46
    go_wp2_with fail
    refine HC.out.mono ?_
    rintro e w1 ⟨g, rfl, _, _, hb⟩
    go_wp2_with fail
    exact bodyPost_ret (v := .tuple #[.int .i64 0, .bool false]) (by simp [results, Tryd.results46, go_sem]) rfl ⟨rfl, hb⟩
  | .range =>
    obtain ⟨tp, p, hv⟩ := ht.rng
    have hcon := Any.strconv_Atoi_range_var Tryd.atoi (str l) (by omega) (by rw [hll]; exact ha) tp p w hv
    change Calls Tryd.prog 54 _ _ _ at hcon
    rw [show number l most = none by unfold number; rw [ha]]
    have HC := Lib.hid hcon
    clear hcon hv ha ht
    go_enter Tryd.func46, Tryd.ntmps46
    go_wp2_with fail
    refine HC.out.mono ?_
    rintro e w1 ⟨g, rfl, _, _, hb⟩
    go_wp2_with fail
    exact bodyPost_ret (v := .tuple #[.int .i64 0, .bool false]) (by simp [results, Tryd.results46, go_sem]) rfl ⟨rfl, hb⟩
  | .ok v =>
    have hcon := Any.strconv_Atoi_ok Tryd.atoi (str l) (by omega) v (by rw [hll]; exact ha) w
    change Calls Tryd.prog 54 _ _ _ at hcon
    have hcon' : Calls Tryd.prog 54 #[.string (str l)] w fun e w' => e = .returned (.tuple #[.int .i64 v, .nilIface]) ∧ Below w.heap.size w w' := by
      refine hcon.mono ?_
      rintro e w' ⟨rfl, h⟩
      refine ⟨rfl, ?_⟩
      rcases h with rfl | ⟨t, rfl⟩
      · exact Below.refl _ _
      · exact Lib.below_freeze ((Below.drew (Below.refl _ w)).alloc (Nat.le_refl _) _) (p := ⟨w.heap.size, _, none⟩) (Nat.le_refl _) 1
    have hnum : number l most = if 0 ≤ v ∧ v ≤ most ∧ Lib.itoa v = l then some v else none := by unfold number; rw [ha]
    obtain ⟨hv0, hv1⟩ := Lib.atoiAll_bounds ha
    have HC := Lib.hid hcon'
    have HN := Lib.hid hnum
    clear hcon hcon' hnum ha
    by_cases h1 : v < 0
    · rw [HN.out, if_neg (by omega)]
      go_enter Tryd.func46, Tryd.ntmps46
      go_wp2_with fail
      refine HC.out.mono ?_
      rintro e w1 ⟨rfl, hb⟩
      go_wp2_with fail
      exact bodyPost_ret (v := .tuple #[.int .i64 0, .bool false]) (by simp [results, Tryd.results46, go_sem]) rfl ⟨rfl, hb⟩
    by_cases h2 : most < v
    · rw [HN.out, if_neg (by omega)]
      go_enter Tryd.func46, Tryd.ntmps46
      go_wp2_with fail
      refine HC.out.mono ?_
      rintro e w1 ⟨rfl, hb⟩
      go_wp2_with fail
      exact bodyPost_ret (v := .tuple #[.int .i64 0, .bool false]) (by simp [results, Tryd.results46, go_sem]) rfl ⟨rfl, hb⟩
    have HD := Lib.hid fun W (h : Tabs W) => octet_Digits v ⟨hv0, hv1⟩ W h
    by_cases h3 : Lib.itoa v = l
    · rw [HN.out, if_pos ⟨by omega, by omega, h3⟩]
      have h3' : str (Lib.itoa v) = str l := by rw [h3]
      clear h3
      go_enter Tryd.func46, Tryd.ntmps46
      go_wp2_with fail
      refine HC.out.mono ?_
      rintro e w1 ⟨rfl, hb⟩
      go_wp2_with fail
      refine (HD.out _ (ht.below hb)).mono ?_
      rintro e w2 ⟨rfl, hb2⟩
      rw [h3']
      go_wp2_with fail
      exact bodyPost_ret (v := .tuple #[.int .i64 v, .bool true]) (by simp [results, Tryd.results46, go_sem]) rfl ⟨rfl, hb.trans (hb2.mono hb.size)⟩
    · rw [HN.out, if_neg (fun h => h3 h.2.2)]
      have htl := str_tl
      have hbq : (Lib.itoa v == l) = false := by simp [h3]
      clear h3
      go_enter Tryd.func46, Tryd.ntmps46
      go_wp2_with fail
      refine HC.out.mono ?_
      rintro e w1 ⟨rfl, hb⟩
      go_wp2_with fail
      refine (HD.out _ (ht.below hb)).mono ?_
      rintro e w2 ⟨rfl, hb2⟩
      go_wp2_with fail
      exact bodyPost_ret (v := .tuple #[.int .i64 0, .bool false]) (by simp [results, Tryd.results46, go_sem]) rfl ⟨rfl, hb.trans (hb2.mono hb.size)⟩

set_option maxRecDepth 100000 in
set_option maxHeartbeats 1000000 in
theorem ref_Number (l : List UInt8) (hl : l.length ≤ 1073741824) (most : Int) (w : World) :
    Calls Tryd.prog 36 #[.string (str l), .int .i64 most] w fun e w' => e = .returned (.tuple #[.int .i64 ((number l most).getD 0), .bool (number l most).isSome]) ∧ w' = w := by
  rw [← refNumber_eq]
  have hsz : (str l).size = l.length := str_size l
  have htl := str_tl
  by_cases h0 : l = []
  · rw [show refNumber l most = none by unfold refNumber; rw [if_pos (Or.inl h0)]]
    subst h0
    have hb : (⟨#[]⟩ : ByteArray).toList = [] := ByteArray.toList_mk []
    go_enter Tryd.func36, Tryd.ntmps36
    go_wp2_with fail
    exact bodyPost_ret (v := .tuple #[.int .i64 0, .bool false]) (by simp [results, Tryd.results36, go_sem]) rfl ⟨rfl, rfl⟩
  have hb : (⟨#[]⟩ : ByteArray).toList = [] := ByteArray.toList_mk []
  have hb0 : (l == []) = false := by simp [h0]
  have hlpos : 0 < l.length := List.length_pos_iff.2 h0
  by_cases h1 : 19 < l.length
  · rw [show refNumber l most = none by unfold refNumber; rw [if_pos (Or.inr h1)]]
    go_enter Tryd.func36, Tryd.ntmps36
    go_wp2_with fail
    exact bodyPost_ret (v := .tuple #[.int .i64 0, .bool false]) (by simp [results, Tryd.results36, go_sem]) rfl ⟨rfl, rfl⟩
  have HR : Hid (refNumber l most = match refNum 0 l with | none => none | some k => if Lib.decDigits k = l ∧ (k : Int) ≤ most then some (k : Int) else none) := by
    unfold refNumber
    rw [if_neg (by rintro (h | h); exact h0 h; exact h1 h)]
    exact Lib.hid rfl
  go_enter Tryd.func36, Tryd.ntmps36
  go_wp2_with fail
  go_loop [6, 7, 8] (fun n i d => ∃ (j k : Nat), j ≤ l.length ∧ i = .int .i64 j ∧ n = .int .i64 k ∧ k ≤ 9223372036854775807 ∧ Hid (refNum 0 l = refNum k (l.drop j))) (fun _ i _ => l.length - (intOf i).toNat)
  case atStart => exact ⟨0, 0, Nat.zero_le _, rfl, rfl, by omega, Lib.hid (by rw [List.drop_zero])⟩
  case round =>
    obtain ⟨j, k, hj, rfl, rfl, hk, HI⟩ := hrel
    by_cases hlt : j < l.length
    · have hg' : ∀ h, (str l)[j]'h = l[j] := fun h => str_get l j h
      have hc : l[j].toNat < 256 := l[j].toNat_lt
      have HN : Hid (refNum 0 l = if l[j].toNat < 48 ∨ 57 < l[j].toNat ∨ (9223372036854775807 - (l[j].toNat - 48)) / 10 < k then none else refNum (10 * k + (l[j].toNat - 48)) (l.drop (j + 1))) := by
        rw [HI.out, List.drop_eq_getElem_cons hlt]
        exact Lib.hid rfl
      by_cases g1 : l[j].toNat < 48
      · have HF : Hid (refNumber l most = none) := by rw [HR.out, HN.out, if_pos (Or.inl g1)]; exact Lib.hid rfl
        go_wp2_with fail
        rw [HF.out]
        exact bodyPost_ret (v := .tuple #[.int .i64 0, .bool false]) (by simp [results, Tryd.results36, go_sem]) rfl ⟨rfl, rfl⟩
      by_cases g2 : 57 < l[j].toNat
      · have HF : Hid (refNumber l most = none) := by rw [HR.out, HN.out, if_pos (Or.inr (Or.inl g2))]; exact Lib.hid rfl
        go_wp2_with fail
        rw [HF.out]
        exact bodyPost_ret (v := .tuple #[.int .i64 0, .bool false]) (by simp [results, Tryd.results36, go_sem]) rfl ⟨rfl, rfl⟩
      have e1 : IntKind.i64.wrap (9223372036854775807 - ((l[j].toNat : Int) - 48)) = 9223372036854775807 - ((l[j].toNat : Int) - 48) := IntWalk.i64_in _ (by omega)
      by_cases g3 : (9223372036854775807 - (l[j].toNat - 48)) / 10 < k
      · have HF : Hid (refNumber l most = none) := by rw [HR.out, HN.out, if_pos (Or.inr (Or.inr g3))]; exact Lib.hid rfl
        have e2 : (9223372036854775807 - ((l[j].toNat : Int) - 48)) / 10 < k := by omega
        go_wp2_with fail
        rw [HF.out]
        exact bodyPost_ret (v := .tuple #[.int .i64 0, .bool false]) (by simp [results, Tryd.results36, go_sem]) rfl ⟨rfl, rfl⟩
      · have e2 : ¬ (9223372036854775807 - ((l[j].toNat : Int) - 48)) / 10 < k := by omega
        go_wp2_with fail
        exact ⟨⟨j + 1, 10 * k + (l[j].toNat - 48), by omega, by go_num, by congr 1; omega, by omega, Lib.hid (by rw [HN.out, if_neg (by omega)])⟩, by simp [intOf]; omega⟩
    · have HE : Hid (refNum 0 l = some k) := by
        rw [HI.out, List.drop_eq_nil_of_le (by omega)]
        exact Lib.hid rfl
      have HD := Lib.hid fun W => ref_Digits (k : Int) (by omega) W
      have hit : Lib.itoa (k : Int) = Lib.decDigits k := by unfold Lib.itoa; rw [if_neg (by omega)]; rfl
      by_cases h3 : Lib.decDigits k = l
      · by_cases h4 : (k : Int) ≤ most
        · have HF : Hid (refNumber l most = some (k : Int)) := by rw [HR.out, HE.out]; simp only; rw [if_pos ⟨h3, h4⟩]; exact Lib.hid rfl
          go_wp2_with fail
          refine (HD.out _).mono ?_
          rintro e w1 ⟨rfl, rfl⟩
          rw [hit, h3]
          go_wp2_with fail
          rw [HF.out]
          exact bodyPost_ret (v := .tuple #[.int .i64 k, .bool true]) (by simp [results, Tryd.results36, go_sem]) rfl ⟨rfl, rfl⟩
        · have HF : Hid (refNumber l most = none) := by rw [HR.out, HE.out]; simp only; rw [if_neg (fun h => h4 h.2)]; exact Lib.hid rfl
          go_wp2_with fail
          refine (HD.out _).mono ?_
          rintro e w1 ⟨rfl, rfl⟩
          rw [hit, h3]
          go_wp2_with fail
          rw [HF.out]
          exact bodyPost_ret (v := .tuple #[.int .i64 0, .bool false]) (by simp [results, Tryd.results36, go_sem]) rfl ⟨rfl, rfl⟩
      · have HF : Hid (refNumber l most = none) := by rw [HR.out, HE.out]; simp only; rw [if_neg (fun h => h3 h.1)]; exact Lib.hid rfl
        have hbq : (Lib.decDigits k == l) = false := by simp [h3]
        clear h3
        go_wp2_with fail
        refine (HD.out _).mono ?_
        rintro e w1 ⟨rfl, rfl⟩
        rw [hit]
        go_wp2_with fail
        rw [HF.out]
        exact bodyPost_ret (v := .tuple #[.int .i64 0, .bool false]) (by simp [results, Tryd.results36, go_sem]) rfl ⟨rfl, rfl⟩
end Go.Proofs.YtilahcnpjbnjiaaDoor
