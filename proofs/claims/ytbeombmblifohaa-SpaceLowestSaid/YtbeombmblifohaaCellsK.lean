/- copy, clear, append of zeros at elements of several cells; what is laid into a row. -/
import Derived.Test.YtbeombmblifohaaBlk
import Derived.Lib.AppendZerosOnto
import Derived.Lib.Overlaps
import Derived.Laws.CopyRow
namespace Go.Proofs.Ytbeombmblifohaa
set_option linter.unusedVariables false
set_option linter.unusedSimpArgs false
open Go.RowKit Go.Shelf Go.Proofs

theorem min_cells {n k : Nat} : n * k = k * n := Nat.mul_comm _ _
theorem run_copyK {P : Program} (w : World) (dT sT ty elem : TypeId) (k g o dLen dCap : Nat) (a : Addr) (sLen sCap : Nat) (cur : Array Value) (t : TypeId) (cs : List Value)
    (hu : P.underlying dT = some (.slice elem)) (hs : (P.info? elem).map (·.size) = some k)
    (hg : w.heap[g]? = some (.cells cur t (0, 0))) (hn : cs.length = Nat.min sLen dLen * k)
    (hsrc : ∀ j v, cs[j]? = some v → w.cell? (a.add j) = some v) (hfit : o + cs.length ≤ cur.size) (h1 : ∀ v ∈ cs, v.oneCell' = true) :
    (Builtin.copy_ #[dT, sT] ty #[.slice (some ⟨g, o, none⟩) dLen dCap, .slice (some a) sLen sCap]).run P w =
      .ok (goInt (Nat.min sLen dLen)) (w.setRow g (cur.toList.take o ++ cs ++ cur.toList.drop (o + cs.length)).toArray) := by
  have hl := run_loadCells_list (P := P) w a cs hsrc
  have hst := run_storeCells_at P g o t cs 0 cur w hg (by simpa using hfit) h1
  cases hq : P.info? elem with
  | none => simp [hq] at hs
  | some i =>
    have hi : i.size = k := by simpa [hq] using hs
    rw [hn] at hl
    simp only [Nat.add_zero] at hst
    simp [Builtin.copy_, run_underlying hu, Builtin.lenOf, Builtin.firstCells, sizeOf, typeInfo, hq, hi, hl, hst]
theorem run_clearK {P : Program} (w : World) (t ty elem : TypeId) (g o n c : Nat) (cur : Array Value) (bt : TypeId) (zs : List Value) (hn : 0 < n)
    (hu : P.underlying t = some (.slice elem)) (z : Value) (hz : ∀ w, (zeroValue elem).run P w = .ok z w) (hzs : (Builtin.zeroCells z.cells n).toList = zs)
    (hg : w.heap[g]? = some (.cells cur bt (0, 0))) (hfit : o + zs.length ≤ cur.size) (h1 : ∀ v ∈ zs, v.oneCell' = true) :
    (Builtin.clear_ #[t] ty #[.slice (some ⟨g, o, none⟩) n c]).run P w = .ok (.tuple #[]) (w.setRow g (cur.toList.take o ++ zs ++ cur.toList.drop (o + zs.length)).toArray) := by
  have hst := run_storeCells_at P g o bt zs 0 cur w hg (by simpa using hfit) h1
  obtain ⟨m, rfl⟩ : ∃ m, n = m + 1 := ⟨n - 1, by omega⟩
  simp only [Nat.add_zero] at hst
  simp [Builtin.clear_, run_underlying hu, hz, hzs, hst]

theorem wpList_copy_run1 {P : Program} (w : World) {ops : Array Oper} {rest : List Oper} {o : Oper} {a : Act} {Q : Exit → Act → World → Prop} (hgd : o.guard = none) (d s : Operand) (t t' : TypeId)
    (ho : o.op = .call { callee := .builtin .copy, args := #[d, s], argTypes := #[t, t'] }) (v u : Value) (hd : a.eval d = v) (hs : a.eval s = u) {v' : Value} {w' : World}
    (hr : (Builtin.copy_ #[t, t'] o.type #[v, u]).run P w = .ok v' w') (h : wpList P ops Q rest (a.put o.dst v') w') : wpList P ops Q (o :: rest) a w :=
  wpList_plain hgd fun _ hK => by
    unfold Oper.wp execOp
    simp only [ho, resolve, invoke, builtin, Sem.run_bind, Sem.run_pure, Result.andThen_ok, List.map_toArray, List.map_cons, List.map_nil, hd, hs, hr]
    exact hK _ _ h
theorem wpList_clear_run1 {P : Program} (w : World) {ops : Array Oper} {rest : List Oper} {o : Oper} {a : Act} {Q : Exit → Act → World → Prop} (hgd : o.guard = none) (d : Operand) (t : TypeId)
    (ho : o.op = .call { callee := .builtin .clear, args := #[d], argTypes := #[t] }) (v : Value) (hd : a.eval d = v) {v' : Value} {w' : World}
    (hr : (Builtin.clear_ #[t] o.type #[v]).run P w = .ok v' w') (h : wpList P ops Q rest (a.put o.dst v') w') : wpList P ops Q (o :: rest) a w :=
  wpList_plain hgd fun _ hK => by
    unfold Oper.wp execOp
    simp only [ho, resolve, invoke, builtin, Sem.run_bind, Sem.run_pure, Result.andThen_ok, List.map_toArray, List.map_cons, List.map_nil, hd, hr]
    exact hK _ _ h
theorem step_copy_run1 {P : Program} {ops : Array Oper} {o : Oper} {a : Act} {w : World} {K : Act → World → Prop} {Q : Exit → Act → World → Prop} {E : Prop}
    (hg : o.guard = none) (d x : Operand) (dT sT : TypeId) (hop : o.op = Op.call { callee := Callee.builtin Builtin.copy, args := #[d, x], argTypes := #[dT, sT] })
    (v u : Value) (hd : a.eval d = v) (hx : a.eval x = u) {v' : Value} {w' : World} (hr : (Builtin.copy_ #[dT, sT] o.type #[v, u]).run P w = .ok v' w') (hK : K (a.put o.dst v') w') :
    if Region.wanted o (yielded ops a.tmps) = true then Oper.wp P o a w K Q else E := by
  have hw : Region.wanted o (yielded ops a.tmps) = true := by simp [Region.wanted, hg]
  rw [if_pos hw]
  unfold Oper.wp
  simp [execOp, hop, resolve, invoke, builtin, hd, hx, hr, Result.andThen]
  exact hK

/-- what stands ahead of a place, the new cells, what stood behind -/
theorem splice_take {α : Type} (L cs : List α) (o : Nat) (h : o + cs.length ≤ L.length) : (splice L o cs).take (o + cs.length) = L.take o ++ cs := by
  unfold splice
  rw [← List.append_assoc, List.take_append_of_le_length (by simp; omega), List.take_of_length_le (by simp; omega)]
theorem splice_drop {α : Type} (L cs : List α) (o : Nat) (h : o + cs.length ≤ L.length) : (splice L o cs).drop (o + cs.length) = L.drop (o + cs.length) := by
  unfold splice
  rw [← List.append_assoc, List.drop_append_of_le_length (by simp; omega), List.drop_of_length_le (by simp; omega)]
  rfl
/-- room in place: the cells from i on move, the new ones come -/
theorem insert_cells {α : Type} (cur F E : List α) (i k n : Nat) (hF : cur.take (n * k) = F) (hl : n * k + k ≤ cur.length) (hi : i ≤ n) (hE : E.length = k) :
    (splice (splice cur (i * k + k) (F.drop (i * k))) (i * k) E).take (n * k + k) = F.take (i * k) ++ (E ++ F.drop (i * k)) := by
  have hik : i * k ≤ n * k := Nat.mul_le_mul_right k hi
  have hFl : F.length = n * k := by rw [← hF, List.length_take]; omega
  have hd : (F.drop (i * k)).length = n * k - i * k := by simp [hFl]
  have h1 : (splice cur (i * k + k) (F.drop (i * k))).take (n * k + k) = cur.take (i * k + k) ++ F.drop (i * k) := by
    have := splice_take cur (F.drop (i * k)) (i * k + k) (by omega)
    rw [hd, show i * k + k + (n * k - i * k) = n * k + k by omega] at this
    exact this
  have hl1 : (splice cur (i * k + k) (F.drop (i * k))).length = cur.length := length_splice _ _ _ (by omega)
  generalize splice cur (i * k + k) (F.drop (i * k)) = M at h1 hl1
  unfold splice
  have hM1 : M.take (i * k) = F.take (i * k) := by
    have h := congrArg (List.take (i * k)) h1
    rw [List.take_take, Nat.min_eq_left (by omega), List.take_append_of_le_length (by simp; omega), List.take_take, Nat.min_eq_left (by omega)] at h
    rw [h, ← hF, List.take_take, Nat.min_eq_left hik]
  have hM2 : (M.drop (i * k + k)).take (n * k - i * k) = F.drop (i * k) := by
    have h := congrArg (List.drop (i * k + k)) h1
    rw [List.drop_take, show (cur.take (i * k + k) ++ F.drop (i * k)).drop (i * k + k) = F.drop (i * k) from List.drop_left' (by simp; omega)] at h
    rw [show n * k + k - (i * k + k) = n * k - i * k by omega] at h
    exact h
  rw [hE, hM1]
  have h3 : F.take (i * k) ++ (E ++ M.drop (i * k + k)) = (F.take (i * k) ++ E) ++ M.drop (i * k + k) := by simp
  rw [h3, List.take_append, List.take_of_length_le (by simp; omega), show n * k + k - (F.take (i * k) ++ E).length = n * k - i * k by simp; omega, hM2]
  simp
theorem flat_take {α : Type} {enc : α → List Value} {k : Nat} (hk : ∀ x, (enc x).length = k) (xs : List α) (i : Nat) (hi : i ≤ xs.length) : (flat enc xs).take (i * k) = flat enc (xs.take i) := by
  have h1 : flat enc xs = flat enc (xs.take i) ++ flat enc (xs.drop i) := by rw [← flat_append, List.take_append_drop]
  have h2 : (flat enc (xs.take i)).length = i * k := by rw [flat_length hk, List.length_take, Nat.min_eq_left hi]
  rw [h1]
  exact List.take_left' h2
theorem flat_drop {α : Type} {enc : α → List Value} {k : Nat} (hk : ∀ x, (enc x).length = k) (xs : List α) (i : Nat) (hi : i ≤ xs.length) : (flat enc xs).drop (i * k) = flat enc (xs.drop i) := by
  have h1 : flat enc xs = flat enc (xs.take i) ++ flat enc (xs.drop i) := by rw [← flat_append, List.take_append_drop]
  have h2 : (flat enc (xs.take i)).length = i * k := by rw [flat_length hk, List.length_take, Nat.min_eq_left hi]
  rw [h1]
  exact List.drop_left' h2
theorem flat_insert {α : Type} {enc : α → List Value} {k : Nat} (hk : ∀ x, (enc x).length = k) (xs : List α) (i : Nat) (hi : i ≤ xs.length) (x : α) : flat enc (xs.take i ++ x :: xs.drop i) = (flat enc xs).take (i * k) ++ (enc x ++ (flat enc xs).drop (i * k)) := by
  rw [flat_take hk xs i hi, flat_drop hk xs i hi]
  simp [flat]
theorem flat_one {α : Type} {enc : α → List Value} (h1 : ∀ x, ∀ u ∈ enc x, u.oneCell' = true) (xs : List α) : ∀ u ∈ flat enc xs, u.oneCell' = true := by
  intro u hu
  simp only [flat, List.mem_flatMap] at hu
  obtain ⟨x, _, hx⟩ := hu
  exact h1 x u hx
end Go.Proofs.Ytbeombmblifohaa
