/- '==' of arrays. -/
import Derived.Test.YtjbolphfelakeaaGreatDoorArr
import Derived.ChangeKeysEq
import Derived.Laws.StructEq
import Derived.Deep.WholeRow
import Derived.BigFrame
namespace Go.Proofs.YtjbolphfelakeaaGreatDoor
set_option linter.unusedVariables false
set_option linter.unusedSimpArgs false
open Go.RowKit Go.Shelf Go.Proofs

/-- a whole array stored into the block that was made last; a whole array loaded -/
theorem wpList_store_new {P : Program} {ops : Array Oper} {rest : List Oper} {o : Oper} {a : Act} {w : World} {Q : Exit → Act → World → Prop} (hgd : o.guard = none) (ty : TypeId) (x y : Operand) (ho : o.op = .store ty x y)
    (cells : Array Value) (hx : a.eval x = .pointer (some ⟨w.heap.size, 0, none⟩)) (hy : a.eval y = .agg cells) (t : TypeId) (old : Array Value) (hi : (P.info? ty).map (·.size) = some cells.size) (hold : old.size = cells.size) (h1 : cells.all (·.oneCell') = true)
    (h : wpList P ops Q rest (a.put o.dst undef) (w.alloc (.cells cells t))) : wpList P ops Q (o :: rest) a (w.alloc (.cells old t)) := by
  refine wpList_store_row hgd ty x y ho w.heap.size cells hx hy t old (heap_alloc_last w _) hi hold h1 ?_
  rw [World.setRow_alloc_new]
  exact h
/-- a guarded load of a whole array -/
theorem wpList_load_want {P : Program} {ops : Array Oper} {rest : List Oper} {o : Oper} {a : Act} {w : World} {Q : Exit → Act → World → Prop} (hw : Region.wanted o (yielded ops a.tmps) = true) (ty : TypeId) (x : Operand) (ho : o.op = .load ty x)
    (g : Nat) (hx : a.eval x = .pointer (some ⟨g, 0, none⟩)) (t : TypeId) (cs : Array Value) (fr : Nat × Nat) (d : TypeDesc) (hg : w.heap[g]? = some (.cells cs t fr))
    (hu : P.underlying ty = some d) (hd : (match d with | .struct _ | .array _ _ => true | _ => false) = true) (hi : (P.info? ty).map (·.size) = some cs.size)
    (h : wpList P ops Q rest (a.put o.dst (.agg cs)) w) : wpList P ops Q (o :: rest) a w :=
  BigFrame.wpList_want hw fun _ hK => wp_load_row ty x ho g hx t cs fr d hg hu hd hi (hK _ _ h)
/-- an array of sixteen, written out -/
theorem arr16_ex {X : Array Value} (h : X.size = 16) : ∃ x0 x1 x2 x3 x4 x5 x6 x7 x8 x9 x10 x11 x12 x13 x14 x15 : Value, #[x0, x1, x2, x3, x4, x5, x6, x7, x8, x9, x10, x11, x12, x13, x14, x15] = X := by
  obtain ⟨l⟩ := X
  obtain ⟨x0, x1, x2, x3, x4, x5, x6, x7, x8, x9, x10, x11, x12, x13, x14, x15, hl⟩ := list16 (show l.length = 16 from h)
  exact ⟨x0, x1, x2, x3, x4, x5, x6, x7, x8, x9, x10, x11, x12, x13, x14, x15, by rw [hl]⟩
theorem Blk.cellsX {w : World} {g : Nat} {t : TypeId} {X : Array Value} {x0 x1 x2 x3 x4 x5 x6 x7 x8 x9 x10 x11 x12 x13 x14 x15 : Value} (h : Blk w g t X) (e : #[x0, x1, x2, x3, x4, x5, x6, x7, x8, x9, x10, x11, x12, x13, x14, x15] = X) : w.cell? ⟨g, 0, none⟩ = some x0 ∧ w.cell? ⟨g, 1, none⟩ = some x1 ∧ w.cell? ⟨g, 2, none⟩ = some x2 ∧ w.cell? ⟨g, 3, none⟩ = some x3 ∧ w.cell? ⟨g, 4, none⟩ = some x4 ∧ w.cell? ⟨g, 5, none⟩ = some x5 ∧ w.cell? ⟨g, 6, none⟩ = some x6 ∧ w.cell? ⟨g, 7, none⟩ = some x7 ∧ w.cell? ⟨g, 8, none⟩ = some x8 ∧ w.cell? ⟨g, 9, none⟩ = some x9 ∧ w.cell? ⟨g, 10, none⟩ = some x10 ∧ w.cell? ⟨g, 11, none⟩ = some x11 ∧ w.cell? ⟨g, 12, none⟩ = some x12 ∧ w.cell? ⟨g, 13, none⟩ = some x13 ∧ w.cell? ⟨g, 14, none⟩ = some x14 ∧ w.cell? ⟨g, 15, none⟩ = some x15 := by
  subst e
  exact ⟨h.cell 0, h.cell 1, h.cell 2, h.cell 3, h.cell 4, h.cell 5, h.cell 6, h.cell 7, h.cell 8, h.cell 9, h.cell 10, h.cell 11, h.cell 12, h.cell 13, h.cell 14, h.cell 15⟩
theorem eqItems_any {α : Type} [DecidableEq α] {P : Program} {e : TypeId} {d : Nat} (f : α → Value) (hp : ∀ (cs : Array Value) (off : Nat) (v : Value) (w : World), cs[off]? = some v → (part e cs off).run P w = .ok v w)
    (hf : ∀ (x y : α) (w : World), (Op.equalIn d e (f x) (f y)).run P w = .ok (decide (x = y)) w) (a b : List α) : ∀ (is : List Nat) (w : World), (∀ j ∈ is, j < a.length ∧ j < b.length) →
      (Op.eqItems d e 1 (a.map f).toArray (b.map f).toArray is).run P w = .ok (decide (∀ j ∈ is, a[j]? = b[j]?)) w
  | [], w, _ => by simp [Op.eqItems]
  | j :: is, w, h => by
    obtain ⟨h1, h2⟩ := h j (by simp)
    have ih := eqItems_any f hp hf a b is w fun k hk => h k (by simp [hk])
    have p1 := hp (a.map f).toArray (j * 1) (f a[j]) w (by simp [h1])
    have p2 := hp (b.map f).toArray (j * 1) (f b[j]) w (by simp [h2])
    simp only [Op.eqItems, Sem.run_bind, p1, p2, Result.andThen_ok, hf]
    by_cases hab : a[j] = b[j]
    · rw [decide_eq_true hab]
      simp only [Bool.not_true, Bool.false_eq_true, if_false]
      rw [ih]
      congr 1
      simp [h1, h2, hab]
    · rw [decide_eq_false hab]
      simp [h1, h2, hab]
theorem range_eq {α : Type} {a b : List α} {n : Nat} (ha : a.length = n) (hb : b.length = n) : (∀ j ∈ List.range n, a[j]? = b[j]?) ↔ a = b := by
  constructor
  · intro h
    apply List.ext_getElem?
    intro j
    by_cases hj : j < n
    · exact h j (by simpa using hj)
    · rw [List.getElem?_eq_none (by omega), List.getElem?_eq_none (by omega)]
  · rintro rfl _ _; rfl
set_option maxRecDepth 100000 in
theorem eq_bytes {a b : List UInt8} (ha : a.length = 16) (hb : b.length = 16) (w : World) : (Op.equalIn 10000 22 (.agg (arrB a)) (.agg (arrB b))).run Tryz.prog w = .ok (decide (a = b)) w := by
  have hi : ∃ i, Tryz.prog.info? 5 = some i := by
    have h : (Tryz.prog.info? 5).isSome = true := by kernel_rfl
    exact Option.isSome_iff_exists.1 h
  obtain ⟨i, hi⟩ := hi
  have h := run_equalIn_array (P := Tryz.prog) (w := w) 9999 (arrB a) (arrB b) Tryz.underlying22 hi
  rw [show Tryz.prog.cellsOf 5 = 1 by kernel_rfl] at h
  rw [h]
  have h2 := eqItems_any (P := Tryz.prog) (e := 5) (d := 9999) (fun c : UInt8 => Value.int .u8 (c.toNat : Int)) (fun cs off v w hv => by simp [part, Tryz.isAgg5, hv])
    (fun x y w => by
      rw [run_equalIn_int w 9998 5 .u8 .u8 _ _ Tryz.underlying5]
      congr 1
      rw [Bool.eq_iff_iff]
      simp only [beq_iff_eq, decide_eq_true_eq]
      constructor
      · intro h; exact UInt8.toNat_inj.1 (Int.ofNat.inj h)
      · rintro rfl; rfl) a b (List.range 16) w (by intro j hj; simp at hj; omega)
  unfold arrB
  rw [h2]
  congr 1
  exact decide_eq_decide.2 (range_eq ha hb)
set_option maxRecDepth 100000 in
theorem eq_ints {a b : List Int} (ha : a.length = 8) (hb : b.length = 8) (w : World) : (Op.equalIn 10000 64 (.agg (arrI a)) (.agg (arrI b))).run Tryz.prog w = .ok (decide (a = b)) w := by
  have hi : ∃ i, Tryz.prog.info? 3 = some i := by
    have h : (Tryz.prog.info? 3).isSome = true := by kernel_rfl
    exact Option.isSome_iff_exists.1 h
  obtain ⟨i, hi⟩ := hi
  have h := run_equalIn_array (P := Tryz.prog) (w := w) 9999 (arrI a) (arrI b) Tryz.underlying64 hi
  rw [show Tryz.prog.cellsOf 3 = 1 by kernel_rfl] at h
  rw [h]
  have h2 := eqItems_any (P := Tryz.prog) (e := 3) (d := 9999) (fun n : Int => Value.int .i64 n) (fun cs off v w hv => by simp [part, Tryz.isAgg3, hv])
    (fun x y w => by
      rw [run_equalIn_int w 9998 3 .i64 .i64 _ _ Tryz.underlying3]
      congr 1) a b (List.range 8) w (by intro j hj; simp at hj; omega)
  unfold arrI
  rw [h2]
  congr 1
  exact decide_eq_decide.2 (range_eq ha hb)
end Go.Proofs.YtjbolphfelakeaaGreatDoor
