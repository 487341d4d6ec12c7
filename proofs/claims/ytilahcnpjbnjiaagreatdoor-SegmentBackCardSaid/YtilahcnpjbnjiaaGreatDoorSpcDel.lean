/- slices.Delete of one block. -/
import Derived.Test.YtilahcnpjbnjiaaGreatDoorSpcIns
namespace Go.Proofs.YtilahcnpjbnjiaaGreatDoor
set_option linter.unusedVariables false
set_option linter.unusedSimpArgs false
open Go.RowKit Go.Shelf Go.Proofs

theorem Blk.setCellsR {g : Nat} {t : TypeId} : ∀ (vs : List Value) (o : Nat) {w : World} {cur : Array Value}, Blk w g t cur → o + vs.length ≤ cur.size → Blk (w.setCells g o vs) g t (splice cur.toList o vs).toArray
  | [], o, w, cur, h, _ => by
    have e : (splice cur.toList o []).toArray = cur := by simp [splice]
    rw [e]; exact h
  | v :: r, o, w, cur, h, hl => by
    have h1 := Blk.setCellsR r (o + 1) (h.set o v) (by simp only [Array.size_setIfInBounds, List.length_cons] at hl ⊢; omega)
    have e : splice (cur.setIfInBounds o v).toList (o + 1) r = splice cur.toList o (v :: r) := by
      unfold splice
      have ho : o < cur.toList.length := by simp only [List.length_cons] at hl; simp; omega
      rw [Array.toList_setIfInBounds, List.drop_set_of_lt (by omega), List.length_cons, show o + (r.length + 1) = o + 1 + r.length by omega, List.take_succ_eq_append_getElem (by simpa using ho), List.take_set, List.getElem_set_self, List.set_eq_of_length_le (by simp; omega)]
      simp
    rw [e] at h1
    exact h1
theorem Blk.otherR {g b : Nat} {t : TypeId} {cs : Array Value} (hne : g ≠ b) : ∀ (vs : List Value) (o : Nat) {w : World}, Blk w g t cs → Blk (w.setCells b o vs) g t cs
  | [], o, w, h => h
  | v :: r, o, w, h => Blk.otherR hne r (o + 1) (h.other ⟨b, o, none⟩ v hne)
theorem heap_setCellsR (b k : Nat) (hne : k ≠ b) : ∀ (vs : List Value) (o : Nat) (w : World), (w.setCells b o vs).heap[k]? = w.heap[k]?
  | [], o, w => rfl
  | v :: r, o, w => (heap_setCellsR b k hne r (o + 1) _).trans (Below.heap_setCell w ⟨b, o, none⟩ v k hne)
theorem size_setCellsR (b : Nat) : ∀ (vs : List Value) (o : Nat) (w : World), (w.setCells b o vs).heap.size = w.heap.size
  | [], o, w => rfl
  | v :: r, o, w => (size_setCellsR b r (o + 1) _).trans (by simp)
theorem same_setCellsR (b : Nat) : ∀ (vs : List Value) (o : Nat) (w : World), (w.setCells b o vs).os = w.os ∧ (w.setCells b o vs).tape = w.tape ∧ (w.setCells b o vs).output = w.output
  | [], o, w => ⟨rfl, rfl, rfl⟩
  | v :: r, o, w => same_setCellsR b r (o + 1) _
theorem grown_setCellsR {W : World} (g : Nat) (o : Nat) (vs : List Value) : W.grownBy (W.setCells g o vs) (some g) :=
  ⟨(same_setCellsR g vs o W).1, (same_setCellsR g vs o W).2.1, (same_setCellsR g vs o W).2.2, by rw [size_setCellsR]; exact Nat.le_refl _, fun k _ hr => heap_setCellsR g k (fun e => hr (by rw [e])) vs o W⟩

theorem erase_cells {α : Type} (cur F : List α) (i k n : Nat) (hF : cur.take (n * k) = F) (hi : i < n) (hl : n * k ≤ cur.length) :
    (splice cur (i * k) (F.drop ((i + 1) * k))).take ((n - 1) * k) = F.take (i * k) ++ F.drop ((i + 1) * k) := by
  have h1 : (i + 1) * k ≤ n * k := Nat.mul_le_mul_right k hi
  have h2 : (i + 1) * k = i * k + k := by rw [Nat.add_mul]; omega
  have h3 : (n - 1) * k + k = n * k := by
    obtain ⟨m, rfl⟩ : ∃ m, n = m + 1 := ⟨n - 1, by omega⟩
    rw [Nat.add_sub_cancel, Nat.add_mul]; omega
  have hFl : F.length = n * k := by rw [← hF, List.length_take]; omega
  have hd : (F.drop ((i + 1) * k)).length = n * k - (i + 1) * k := by simp [hFl]
  have h := splice_take cur (F.drop ((i + 1) * k)) (i * k) (by omega)
  rw [hd, show i * k + (n * k - (i + 1) * k) = (n - 1) * k by omega] at h
  rw [h, ← hF, List.take_take, Nat.min_eq_left (by omega)]
theorem flat_erase {α : Type} {enc : α → List Value} {k : Nat} (hk : ∀ x, (enc x).length = k) (xs : List α) (i : Nat) (hi : i < xs.length) : flat enc (xs.eraseIdx i) = (flat enc xs).take (i * k) ++ (flat enc xs).drop ((i + 1) * k) := by
  rw [List.eraseIdx_eq_take_drop_succ, flat_append, flat_take hk xs i (by omega), flat_drop hk xs (i + 1) (by omega)]

theorem bk_zero {i : TypeInfo} {z : Value} (hi : Tryz.prog.info? 99 = some i) (hz : i.zero = some z) : z = .agg #[.int .i64 0, .int .i64 0, .int .i64 0, .int .i64 0] := by
  have h : (Tryz.prog.info? 99).map (·.zero) = some (some (.agg #[.int .i64 0, .int .i64 0, .int .i64 0, .int .i64 0])) := by kernel_rfl
  rw [hi] at h
  simp only [Option.map_some, Option.some.injEq, hz] at h
  exact h
theorem bk_zeros : (Builtin.zeroCells (Value.agg #[.int .i64 0, .int .i64 0, .int .i64 0, .int .i64 0]).cells 1).toList = [.int .i64 0, .int .i64 0, .int .i64 0, .int .i64 0] := by kernel_rfl
end Go.Proofs.YtilahcnpjbnjiaaGreatDoor
