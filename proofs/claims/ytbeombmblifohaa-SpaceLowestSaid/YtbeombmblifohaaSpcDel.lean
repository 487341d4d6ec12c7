/- slices.Delete of one block. -/
import Derived.Test.YtbeombmblifohaaSpcIns
namespace Go.Proofs.Ytbeombmblifohaa
set_option linter.unusedVariables false
set_option linter.unusedSimpArgs false
open Go.RowKit Go.Shelf Go.Proofs

theorem Blk.setCellsR {g : Nat} {t : TypeId} : ∀ (vs : List Value) (o : Nat) {w : World} {cur : Array Value}, Blk w g t cur → o + vs.length ≤ cur.size → Blk (w.setCells g o vs) g t (splice cur.toList o vs).toArray
  | [], o, w, cur, h, _ => by
    have e : (splice cur.toList o []).toArray = cur := by simp [splice]
    rw [e]; exact h
  | v :: r, o, w, cur, h, hl => by
    have h1 := Blk.setCellsR r (o + 1) (h.set o v) (by simp only [Array.size_setIfInBounds, List.length_cons] at hl ⊢; omega)
    have e : splice (cur.setIfInBounds o v).toList (o + 1) r = splice cur.toList o (v :: r) := by
      unfold splice
      have ho : o < cur.toList.length := by simp only [List.length_cons] at hl; simp; omega
      rw [Array.toList_setIfInBounds, List.drop_set_of_lt (by omega), List.length_cons, show o + (r.length + 1) = o + 1 + r.length by omega, List.take_succ_eq_append_getElem (by simpa using ho), List.take_set, List.getElem_set_self, List.set_eq_of_length_le (by simp; omega)]
      simp
    rw [e] at h1
    exact h1
theorem Blk.otherR {g b : Nat} {t : TypeId} {cs : Array Value} (hne : g ≠ b) : ∀ (vs : List Value) (o : Nat) {w : World}, Blk w g t cs → Blk (w.setCells b o vs) g t cs
  | [], o, w, h => h
  | v :: r, o, w, h => Blk.otherR hne r (o + 1) (h.other ⟨b, o, none⟩ v hne)
theorem heap_setCellsR (b k : Nat) (hne : k ≠ b) : ∀ (vs : List Value) (o : Nat) (w : World), (w.setCells b o vs).heap[k]? = w.heap[k]?
  | [], o, w => rfl
  | v :: r, o, w => (heap_setCellsR b k hne r (o + 1) _).trans (Below.heap_setCell w ⟨b, o, none⟩ v k hne)
theorem size_setCellsR (b : Nat) : ∀ (vs : List Value) (o : Nat) (w : World), (w.setCells b o vs).heap.size = w.heap.size
  | [], o, w => rfl
  | v :: r, o, w => (size_setCellsR b r (o + 1) _).trans (by simp)
theorem same_setCellsR (b : Nat) : ∀ (vs : List Value) (o : Nat) (w : World), (w.setCells b o vs).os = w.os ∧ (w.setCells b o vs).tape = w.tape ∧ (w.setCells b o vs).output = w.output
  | [], o, w => ⟨rfl, rfl, rfl⟩
  | v :: r, o, w => same_setCellsR b r (o + 1) _
theorem grown_setCellsR {W : World} (g : Nat) (o : Nat) (vs : List Value) : W.grownBy (W.setCells g o vs) (some g) :=
  ⟨(same_setCellsR g vs o W).1, (same_setCellsR g vs o W).2.1, (same_setCellsR g vs o W).2.2, by rw [size_setCellsR]; exact Nat.le_refl _, fun k _ hr => heap_setCellsR g k (fun e => hr (by rw [e])) vs o W⟩

theorem erase_cells {α : Type} (cur F : List α) (i k n : Nat) (hF : cur.take (n * k) = F) (hi : i < n) (hl : n * k ≤ cur.length) :
    (splice cur (i * k) (F.drop ((i + 1) * k))).take ((n - 1) * k) = F.take (i * k) ++ F.drop ((i + 1) * k) := by
  have h1 : (i + 1) * k ≤ n * k := Nat.mul_le_mul_right k hi
  have h2 : (i + 1) * k = i * k + k := by rw [Nat.add_mul]; omega
  have h3 : (n - 1) * k + k = n * k := by
    obtain ⟨m, rfl⟩ : ∃ m, n = m + 1 := ⟨n - 1, by omega⟩
    rw [Nat.add_sub_cancel, Nat.add_mul]; omega
  have hFl : F.length = n * k := by rw [← hF, List.length_take]; omega
  have hd : (F.drop ((i + 1) * k)).length = n * k - (i + 1) * k := by simp [hFl]
  have h := splice_take cur (F.drop ((i + 1) * k)) (i * k) (by omega)
  rw [hd, show i * k + (n * k - (i + 1) * k) = (n - 1) * k by omega] at h
  rw [h, ← hF, List.take_take, Nat.min_eq_left (by omega)]
theorem flat_erase {α : Type} {enc : α → List Value} {k : Nat} (hk : ∀ x, (enc x).length = k) (xs : List α) (i : Nat) (hi : i < xs.length) : flat enc (xs.eraseIdx i) = (flat enc xs).take (i * k) ++ (flat enc xs).drop ((i + 1) * k) := by
  rw [List.eraseIdx_eq_take_drop_succ, flat_append, flat_take hk xs i (by omega), flat_drop hk xs (i + 1) (by omega)]

theorem bk_zero {i : TypeInfo} {z : Value} (hi : Try.prog.info? 47 = some i) (hz : i.zero = some z) : z = .agg #[.int .i64 0, .int .i64 0, .int .i64 0, .int .i64 0] := by
  have h : (Try.prog.info? 47).map (·.zero) = some (some (.agg #[.int .i64 0, .int .i64 0, .int .i64 0, .int .i64 0])) := by kernel_rfl
  rw [hi] at h
  simp only [Option.map_some, Option.some.injEq, hz] at h
  exact h
theorem bk_zeros : (Builtin.zeroCells (Value.agg #[.int .i64 0, .int .i64 0, .int .i64 0, .int .i64 0]).cells 1).toList = [.int .i64 0, .int .i64 0, .int .i64 0, .int .i64 0] := by kernel_rfl
set_option maxRecDepth 100000 in
set_option maxHeartbeats 2000000 in
theorem delete_row (g n c i : Nat) (cur : Array Value) (F : List Value) (W : World) (hg : Blk W g 47 cur) (hi : i < n) (hnc : n ≤ c) (hc : c ≤ 9223372036854775807) (hnn : n ≤ 1000000)
    (hcs : cur.size = c * 4) (hF : cur.toList.take (n * 4) = F) (h1 : ∀ u ∈ F, u.oneCell' = true) :
    Calls Try.prog 45 #[.slice (some ⟨g, 0, none⟩) n c, .int .i64 i, .int .i64 ((i : Int) + 1)] W fun e w' =>
      e = .returned (.slice (some ⟨g, 0, none⟩) (n - 1) c) ∧ ∃ cs : Array Value, Blk w' g 47 cs ∧ cs.size = c * 4 ∧ cs.toList.take ((n - 1) * 4) = F.take (i * 4) ++ F.drop ((i + 1) * 4) ∧ W.grownBy w' (some g) := by
  obtain ⟨i0, z, hi0, hz0, hzs, hzb, hzc⟩ := bk_info
  have hF4 : F.length = n * 4 := by rw [← hF, List.length_take]; simp; omega
  have hd4 : (F.drop ((i + 1) * 4)).length = (n - (i + 1)) * 4 := by rw [List.length_drop, hF4]; omega
  obtain ⟨news, hnews⟩ : ∃ news, news = F.drop ((i + 1) * 4) := ⟨_, rfl⟩
  obtain ⟨A, hA, hsrc⟩ : ∃ A : Addr, (if c = i + 1 then (some (⟨g, 0, none⟩ : Addr)) else some ⟨g, (i + 1) * 4, none⟩) = some A ∧ Hid (∀ t u, news[t]? = some u → W.drew.cell? (A.add t) = some u) := by
    by_cases h : c = i + 1
    · refine ⟨⟨g, 0, none⟩, by rw [if_pos h], fun t u hu => ?_⟩
      have : news.length = 0 := by rw [hnews, hd4]; omega
      rw [List.length_eq_zero_iff.1 this] at hu
      simp at hu
    · refine ⟨⟨g, (i + 1) * 4, none⟩, by rw [if_neg h], fun t u hu => ?_⟩
      rw [Addr.add_lit, cell_of_row W.drew g _ cur _ (0, 0) hg.drew]
      rw [hnews, List.getElem?_drop, ← hF, List.getElem?_take] at hu
      split at hu
      · rw [← hu, Array.getElem?_toList]
      · cases hu
  have s1 : Hid (news.length = (n - (i + 1)) * 4) := Lib.hid (by rw [hnews]; exact hd4)
  have s2 : Hid (∀ u ∈ news, u.oneCell' = true) := Lib.hid (by rw [hnews]; exact fun u hu => h1 u (List.mem_of_mem_drop hu))
  have s3 : Hid (∀ t, t < news.length → (W.drew.cell? ⟨g, 0 + i * 4 + t, none⟩).isSome = true ∧ W.drew.frozen? ⟨g, 0 + i * 4 + t, none⟩ = false) := Lib.hid fun t ht => by
    rw [s1.out] at ht
    exact ⟨by rw [cell_of_row W.drew g _ cur _ (0, 0) hg.drew, Array.getElem?_eq_getElem (by omega)]; rfl, hg.drew.frozen' _⟩
  obtain ⟨W1, hW1⟩ : ∃ W1, W1 = W.drew.setCells g (0 + i * 4) news := ⟨_, rfl⟩
  obtain ⟨C1, hC1⟩ : ∃ C1 : Array Value, C1 = (splice cur.toList (i * 4) news).toArray := ⟨_, rfl⟩
  have hfit : i * 4 + news.length ≤ cur.size := by rw [s1.out]; omega
  have B1 : Blk W1 g 47 C1 := by
    rw [hW1, hC1, Nat.zero_add]
    exact hg.drew.setCellsR news (i * 4) hfit
  have hC1s : C1.size = c * 4 := by rw [hC1]; simp only [List.size_toArray]; rw [length_splice _ _ _ (by simpa using hfit)]; simpa using hcs
  have L1 : W.grownBy W1 (some g) := by
    have h := grown_setCellsR (W := W.drew) g (0 + i * 4) news
    rw [← hW1] at h
    exact ⟨h.os, h.tape, h.output, h.size, h.block⟩
  have hT : C1.toList.take ((n - 1) * 4) = F.take (i * 4) ++ F.drop ((i + 1) * 4) := by
    rw [hC1, hnews]
    exact erase_cells cur.toList F i 4 n hF hi (by simp; omega)
  have hz4 : (Builtin.zeroCells z.cells 1).toList.length = 4 := by rw [Array.length_toList, zero_cells, hzc]
  obtain ⟨zs, hzs'⟩ : ∃ zs, (Builtin.zeroCells z.cells 1).toList = zs := ⟨_, rfl⟩
  rw [hzs'] at hz4
  have hzero : ∀ w, (zeroValue 47).run Try.prog w = .ok z w := fun w => by simp [zeroValue, typeInfo, hi0, hz0]
  have hz1 : ∀ u ∈ zs, u.oneCell' = true := by
    rw [← hzs', bk_zero hi0 hz0, bk_zeros]
    intro u hu
    simp at hu
    subst hu
    rfl
  have hcl : ∀ ty cc, (Builtin.clear_ #[44] ty #[.slice (some ⟨g, (n - 1) * 4, none⟩) (n - (n - 1)) cc]).run Try.prog W1 = .ok (.tuple #[]) (W1.setRow g (C1.toList.take ((n - 1) * 4) ++ zs ++ C1.toList.drop ((n - 1) * 4 + zs.length)).toArray) := fun ty cc => by
    rw [show n - (n - 1) = 1 by omega]
    exact run_clearK W1 44 ty 47 g ((n - 1) * 4) 1 cc C1 _ zs (by omega) Try.underlying44 z hzero hzs' B1 (by omega) hz1
  have mixed : Try.prog.follows .mixedOrders = true := by kernel_rfl
  have hw1 : IntKind.i64.wrap ((i : Int) + 1) = (i : Int) + 1 := IntWalk.i64_in _ (by omega)
  have hb0 : (0 : Int) ≤ (i : Int) + 1 := by omega
  have htn : ((i : Int) + 1).toNat = i + 1 := by omega
  have hin : i ≤ n := by omega
  have hin1 : i + 1 ≤ n := by omega
  have hb5 : (i : Int) + 1 ≤ (n : Int) := by omega
  have hb6 : (n : Int) ≤ (c : Int) := by omega
  have hb7 : (i : Int) ≤ (i : Int) + 1 := by omega
  have hz2 : ¬ ((i : Int) = (i : Int) + 1) := by omega
  have hnm : i + (n - (i + 1)) = n - 1 := by omega
  have HZ4 := Lib.hid hz4
  have HW1 : Hid (W1 = W.drew.setCells g (0 + i * 4) news) := Lib.hid hW1
  have HT := Lib.hid hT
  have hic : i ≤ c := by omega
  have hjc : i + 1 ≤ c := by omega
  clear hF hnews hd4 hF4 hzs' hC1 hT hW1 hcs hfit hz4
  go_enter Try.func45, Try.ntmps45
  go_wp2_with fail
  go_region_law_o (refine step_append_room rfl (.tmp 22) (.tmp 25) 44 rfl 47 i0 4 Try.underlying44 hi0 hzs g 0 i c (by simp [Act.eval, Act.put]) A (n - (i + 1)) (c - (i + 1)) news (by simp [Act.eval, Act.put]) s1.out hsrc.out s2.out (by omega) s3.out ?_; rw [← HW1.out, hnm])
  go_wp2_with (refine wpList_clear_run1 _ rfl _ 44 rfl _ rfl (hcl _ _) ?_)
  go_ret
  refine ⟨rfl, _, B1.setRow _, by have := HZ4.out; simp; omega, ?_, ⟨L1.os, L1.tape, L1.output, by simpa [World.setRow] using L1.size, fun k hk hr => (setRow_other W1 g k _ (fun e => hr (by rw [e]))).trans (L1.block k hk hr)⟩⟩
  rw [← HT.out]
  show List.take _ (List.take _ C1.toList ++ _) = _
  exact List.take_left' (by rw [List.length_take]; simp; omega)
/-- slices.Delete of one block -/
theorem delete_bk (base : Nat) (v : Value) (L : List Sp.Bk) (i : Nat) (W : World) (ho : W.ownsRow base 47 4 v L.length (flat encBk L)) (hi : i < L.length) (hn : L.length ≤ 1000000) :
    Calls Try.prog 45 #[v, .int .i64 i, .int .i64 ((i : Int) + 1)] W fun e w' =>
      ∃ v', e = .returned v' ∧ w'.ownsRow base 47 4 v' (L.eraseIdx i).length (flat encBk (L.eraseIdx i)) ∧ W.grownBy w' v.ownBlock ∧ v'.ownBlock = v.ownBlock := by
  have hl : (L.eraseIdx i).length = L.length - 1 := List.length_eraseIdx_of_lt hi
  rw [flat_erase encBk_len L i hi, hl]
  have h1 := flat_one encBk_one L
  have hFl : (flat encBk L).length = L.length * 4 := flat_length encBk_len L
  rcases ho.2 with ⟨rfl, h0⟩ | ⟨g, cap, cur, rfl, hg1, hg2, hg3, hg4, hg5, hg6⟩
  · omega
  · refine (delete_row g L.length cap i cur (flat encBk L) W hg2 hi hg3 (by unfold maxLen at hg4; omega) hn hg5 hg6 h1).mono ?_
    rintro e w' ⟨rfl, cs, c1, c2, c3, c4⟩
    exact ⟨_, rfl, ⟨by simp [hFl]; omega, Or.inr ⟨g, cap, cs, rfl, hg1, c1, by omega, hg4, c2, c3⟩⟩, c4, rfl⟩
end Go.Proofs.Ytbeombmblifohaa
