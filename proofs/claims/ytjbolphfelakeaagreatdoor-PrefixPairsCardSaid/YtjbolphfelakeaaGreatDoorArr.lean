/- Arrays: blocks known whole; a whole array loaded, stored; two bytes as a number. -/
import Derived.Test.YtjbolphfelakeaaGreatDoorLit
import Derived.Test.YtjbolphfelakeaaGreatDoorBaseIn
import Derived.Laws.Rows
import Derived.Laws.Tables
import Derived.Laws.CopyOwn
import Derived.Lib.OthersKept
namespace Go.Proofs.YtjbolphfelakeaaGreatDoor
set_option linter.unusedVariables false
set_option linter.unusedSimpArgs false
open Go.RowKit Go.Shelf Go.Proofs

theorem Blk.alloc {w : World} {g : Nat} {t : TypeId} {cs : Array Value} (h : Blk w g t cs) (o : Obj) : Blk (w.alloc o) g t cs := (Below.heap_alloc w o g h.lt).trans h
theorem Blk.other {w : World} {g : Nat} {t : TypeId} {cs : Array Value} (h : Blk w g t cs) (a : Addr) (v : Value) (hne : g ≠ a.block) : Blk (w.setCell a v) g t cs := (Below.heap_setCell w a v g hne).trans h
theorem Blk.set {w : World} {g : Nat} {t : TypeId} {cs : Array Value} (h : Blk w g t cs) (i : Nat) (v : Value) : Blk (w.setCell ⟨g, i, none⟩ v) g t (cs.setIfInBounds i v) := by
  obtain ⟨hlt, hk⟩ := Array.getElem?_eq_some_iff.1 h
  show (w.heap.modify g _)[g]? = _
  rw [Array.getElem?_eq_getElem (by rw [Array.size_modify]; exact hlt), Array.getElem_modify_self, hk]
  rfl
theorem Blk.drewN {w : World} {g : Nat} {t : TypeId} {cs : Array Value} (h : Blk w g t cs) (n : Nat) : Blk (w.drewN n) g t cs := h
theorem Blk.drew {w : World} {g : Nat} {t : TypeId} {cs : Array Value} (h : Blk w g t cs) : Blk w.drew g t cs := h
theorem Blk.frozen' {w : World} {g : Nat} {t : TypeId} {cs : Array Value} (h : Blk w g t cs) (i : Nat) : w.frozen? ⟨g, i, none⟩ = false := by
  simp [World.frozen?, show w.heap[g]? = _ from h]
theorem Blk.below {w w' : World} {g : Nat} {t : TypeId} {cs : Array Value} (h : Blk w g t cs) {B : Nat} (hb : Below B w w') (hg : g < B) : Blk w' g t cs := (hb.block g hg).trans h
theorem Blk.setRow {w : World} {g : Nat} {t : TypeId} {cs : Array Value} (h : Blk w g t cs) (cs' : Array Value) : Blk (w.setRow g cs') g t cs' := setRow_heap w g cs cs' t (0, 0) h
theorem Blk.otherRow {w : World} {g : Nat} {t : TypeId} {cs : Array Value} (h : Blk w g t cs) (k : Nat) (cs' : Array Value) (hne : g ≠ k) : Blk (w.setRow k cs') g t cs := (setRow_other w k g cs' hne).trans h
/-- the whole array, by value -/
theorem Blk.loadAt {w : World} {g : Nat} {t : TypeId} {cs : Array Value} (h : Blk w g t cs) {ty e : TypeId} {n : Nat} (hu : Tryz.prog.underlying ty = some (.array n e)) (hi : (Tryz.prog.info? ty).map (·.size) = some cs.size) :
    (Instr.loadAt ty (.pointer (some ⟨g, 0, none⟩))).run Tryz.prog w = .ok (.agg cs) w := by
  simp only [Instr.loadAt, Instr.sureAddr, Sem.run_bind, Sem.run_pure, Result.andThen]
  exact run_loadVar_row w g t ty cs (0, 0) _ h hu rfl hi
theorem Blk.loadVar {w : World} {g : Nat} {t : TypeId} {cs : Array Value} (h : Blk w g t cs) {ty e : TypeId} {n : Nat} (hu : Tryz.prog.underlying ty = some (.array n e)) (hi : (Tryz.prog.info? ty).map (·.size) = some cs.size) :
    (Go.loadVar ty ⟨g, 0, none⟩).run Tryz.prog w = .ok (.agg cs) w := run_loadVar_row w g t ty cs (0, 0) _ h hu rfl hi
theorem Blk.storeAt {w : World} {g : Nat} {t : TypeId} {cs : Array Value} (h : Blk w g t cs) {ty : TypeId} (cs' : Array Value) (hi : (Tryz.prog.info? ty).map (·.size) = some cs'.size) (ho : cs.size = cs'.size) (h1 : cs'.all (·.oneCell') = true) :
    (Instr.storeAt ty (.pointer (some ⟨g, 0, none⟩)) (.agg cs')).run Tryz.prog w = .ok () (w.setRow g cs') := by
  simp only [Instr.storeAt, Instr.sureAddr, Sem.run_bind, Sem.run_pure, Result.andThen]
  exact run_storeVar_row w g t ty cs cs' h hi ho h1

/-- an array of bytes; one of numbers -/
def arrB (l : List UInt8) : Array Value := (l.map fun c => Value.int .u8 (c.toNat : Int)).toArray
def arrI (l : List Int) : Array Value := (l.map fun n => Value.int .i64 n).toArray
theorem arrB_size (l : List UInt8) : (arrB l).size = l.length := by simp [arrB]
theorem arrI_size (l : List Int) : (arrI l).size = l.length := by simp [arrI]
theorem arrB_get {l : List UInt8} {i : Nat} {c : UInt8} (h : l[i]? = some c) : (arrB l)[i]? = some (.int .u8 (c.toNat : Int)) := by simp [arrB, h]
theorem arrI_get {l : List Int} {i : Nat} {n : Int} (h : l[i]? = some n) : (arrI l)[i]? = some (.int .i64 n) := by simp [arrI, h]
theorem arrB_set (l : List UInt8) (i : Nat) (c : UInt8) : (arrB l).setIfInBounds i (.int .u8 (c.toNat : Int)) = arrB (l.set i c) := by
  unfold arrB
  rw [List.setIfInBounds_toArray, List.map_set]
theorem arrI_set (l : List Int) (i : Nat) (n : Int) : (arrI l).setIfInBounds i (.int .i64 n) = arrI (l.set i n) := by
  unfold arrI
  rw [List.setIfInBounds_toArray, List.map_set]
theorem arrB_one (l : List UInt8) : (arrB l).all (·.oneCell') = true := by
  simp [arrB, Array.all_eq_true, Value.oneCell']
theorem arrI_one (l : List Int) : (arrI l).all (·.oneCell') = true := by
  simp [arrI, Array.all_eq_true, Value.oneCell']
theorem arrB_inj {a b : List UInt8} (h : arrB a = arrB b) : a = b := by
  have h' := congrArg Array.toList h
  simp only [arrB] at h'
  exact List.map_inj_right (f := fun c : UInt8 => Value.int .u8 (c.toNat : Int)) (fun x y e => by
    simp only [Value.int.injEq, true_and] at e
    exact UInt8.toNat_inj.1 (Int.ofNat.inj e)) |>.1 h'

theorem list8 {α : Type} : ∀ {l : List α}, l.length = 8 → ∃ x0 x1 x2 x3 x4 x5 x6 x7, l = [x0, x1, x2, x3, x4, x5, x6, x7]
  | [x0, x1, x2, x3, x4, x5, x6, x7], _ => ⟨x0, x1, x2, x3, x4, x5, x6, x7, rfl⟩
theorem list16 {α : Type} : ∀ {l : List α}, l.length = 16 → ∃ x0 x1 x2 x3 x4 x5 x6 x7 x8 x9 x10 x11 x12 x13 x14 x15, l = [x0, x1, x2, x3, x4, x5, x6, x7, x8, x9, x10, x11, x12, x13, x14, x15]
  | [x0, x1, x2, x3, x4, x5, x6, x7, x8, x9, x10, x11, x12, x13, x14, x15], _ => ⟨x0, x1, x2, x3, x4, x5, x6, x7, x8, x9, x10, x11, x12, x13, x14, x15, rfl⟩
theorem Blk.cells8 {w : World} {g : Nat} {t : TypeId} {x0 x1 x2 x3 x4 x5 x6 x7 : Int} (h : Blk w g t (arrI [x0, x1, x2, x3, x4, x5, x6, x7])) : w.cell? ⟨g, 0, none⟩ = some (.int .i64 x0) ∧ w.cell? ⟨g, 1, none⟩ = some (.int .i64 x1) ∧ w.cell? ⟨g, 2, none⟩ = some (.int .i64 x2) ∧ w.cell? ⟨g, 3, none⟩ = some (.int .i64 x3) ∧ w.cell? ⟨g, 4, none⟩ = some (.int .i64 x4) ∧ w.cell? ⟨g, 5, none⟩ = some (.int .i64 x5) ∧ w.cell? ⟨g, 6, none⟩ = some (.int .i64 x6) ∧ w.cell? ⟨g, 7, none⟩ = some (.int .i64 x7) := ⟨h.cell 0, h.cell 1, h.cell 2, h.cell 3, h.cell 4, h.cell 5, h.cell 6, h.cell 7⟩
theorem Blk.cells16 {w : World} {g : Nat} {t : TypeId} {x0 x1 x2 x3 x4 x5 x6 x7 x8 x9 x10 x11 x12 x13 x14 x15 : UInt8} (h : Blk w g t (arrB [x0, x1, x2, x3, x4, x5, x6, x7, x8, x9, x10, x11, x12, x13, x14, x15])) : w.cell? ⟨g, 0, none⟩ = some (.int .u8 (x0.toNat : Int)) ∧ w.cell? ⟨g, 1, none⟩ = some (.int .u8 (x1.toNat : Int)) ∧ w.cell? ⟨g, 2, none⟩ = some (.int .u8 (x2.toNat : Int)) ∧ w.cell? ⟨g, 3, none⟩ = some (.int .u8 (x3.toNat : Int)) ∧ w.cell? ⟨g, 4, none⟩ = some (.int .u8 (x4.toNat : Int)) ∧ w.cell? ⟨g, 5, none⟩ = some (.int .u8 (x5.toNat : Int)) ∧ w.cell? ⟨g, 6, none⟩ = some (.int .u8 (x6.toNat : Int)) ∧ w.cell? ⟨g, 7, none⟩ = some (.int .u8 (x7.toNat : Int)) ∧ w.cell? ⟨g, 8, none⟩ = some (.int .u8 (x8.toNat : Int)) ∧ w.cell? ⟨g, 9, none⟩ = some (.int .u8 (x9.toNat : Int)) ∧ w.cell? ⟨g, 10, none⟩ = some (.int .u8 (x10.toNat : Int)) ∧ w.cell? ⟨g, 11, none⟩ = some (.int .u8 (x11.toNat : Int)) ∧ w.cell? ⟨g, 12, none⟩ = some (.int .u8 (x12.toNat : Int)) ∧ w.cell? ⟨g, 13, none⟩ = some (.int .u8 (x13.toNat : Int)) ∧ w.cell? ⟨g, 14, none⟩ = some (.int .u8 (x14.toNat : Int)) ∧ w.cell? ⟨g, 15, none⟩ = some (.int .u8 (x15.toNat : Int)) := ⟨h.cell 0, h.cell 1, h.cell 2, h.cell 3, h.cell 4, h.cell 5, h.cell 6, h.cell 7, h.cell 8, h.cell 9, h.cell 10, h.cell 11, h.cell 12, h.cell 13, h.cell 14, h.cell 15⟩
theorem Blk.set8 {w : World} {g : Nat} {t : TypeId} {y0 y1 y2 y3 y4 y5 y6 y7 x0 x1 x2 x3 x4 x5 x6 x7 : Int} (h : Blk w g t (arrI [y0, y1, y2, y3, y4, y5, y6, y7])) : Blk ((((((((w.setCell ⟨g, 0, none⟩ (.int .i64 x0)).setCell ⟨g, 1, none⟩ (.int .i64 x1)).setCell ⟨g, 2, none⟩ (.int .i64 x2)).setCell ⟨g, 3, none⟩ (.int .i64 x3)).setCell ⟨g, 4, none⟩ (.int .i64 x4)).setCell ⟨g, 5, none⟩ (.int .i64 x5)).setCell ⟨g, 6, none⟩ (.int .i64 x6)).setCell ⟨g, 7, none⟩ (.int .i64 x7)) g t (arrI [x0, x1, x2, x3, x4, x5, x6, x7]) := by
  simpa [arrI] using ((((((((h.set 0 _).set 1 _).set 2 _).set 3 _).set 4 _).set 5 _).set 6 _).set 7 _)
theorem below_set8 {B g : Nat} {w0 w : World} {x0 x1 x2 x3 x4 x5 x6 x7 : Int} (h : Below B w0 w) (hg : B ≤ g) : Below B w0 ((((((((w.setCell ⟨g, 0, none⟩ (.int .i64 x0)).setCell ⟨g, 1, none⟩ (.int .i64 x1)).setCell ⟨g, 2, none⟩ (.int .i64 x2)).setCell ⟨g, 3, none⟩ (.int .i64 x3)).setCell ⟨g, 4, none⟩ (.int .i64 x4)).setCell ⟨g, 5, none⟩ (.int .i64 x5)).setCell ⟨g, 6, none⟩ (.int .i64 x6)).setCell ⟨g, 7, none⟩ (.int .i64 x7)) := ((((((((h.setCell hg _).setCell hg _).setCell hg _).setCell hg _).setCell hg _).setCell hg _).setCell hg _).setCell hg _)

theorem Blk.set16 {w : World} {g : Nat} {t : TypeId} {y0 y1 y2 y3 y4 y5 y6 y7 y8 y9 y10 y11 y12 y13 y14 y15 x0 x1 x2 x3 x4 x5 x6 x7 x8 x9 x10 x11 x12 x13 x14 x15 : UInt8} (h : Blk w g t (arrB [y0, y1, y2, y3, y4, y5, y6, y7, y8, y9, y10, y11, y12, y13, y14, y15])) : Blk ((((((((((((((((w.setCell ⟨g, 0, none⟩ (.int .u8 (x0.toNat : Int))).setCell ⟨g, 1, none⟩ (.int .u8 (x1.toNat : Int))).setCell ⟨g, 2, none⟩ (.int .u8 (x2.toNat : Int))).setCell ⟨g, 3, none⟩ (.int .u8 (x3.toNat : Int))).setCell ⟨g, 4, none⟩ (.int .u8 (x4.toNat : Int))).setCell ⟨g, 5, none⟩ (.int .u8 (x5.toNat : Int))).setCell ⟨g, 6, none⟩ (.int .u8 (x6.toNat : Int))).setCell ⟨g, 7, none⟩ (.int .u8 (x7.toNat : Int))).setCell ⟨g, 8, none⟩ (.int .u8 (x8.toNat : Int))).setCell ⟨g, 9, none⟩ (.int .u8 (x9.toNat : Int))).setCell ⟨g, 10, none⟩ (.int .u8 (x10.toNat : Int))).setCell ⟨g, 11, none⟩ (.int .u8 (x11.toNat : Int))).setCell ⟨g, 12, none⟩ (.int .u8 (x12.toNat : Int))).setCell ⟨g, 13, none⟩ (.int .u8 (x13.toNat : Int))).setCell ⟨g, 14, none⟩ (.int .u8 (x14.toNat : Int))).setCell ⟨g, 15, none⟩ (.int .u8 (x15.toNat : Int))) g t (arrB [x0, x1, x2, x3, x4, x5, x6, x7, x8, x9, x10, x11, x12, x13, x14, x15]) := by
  simpa [arrB] using ((((((((((((((((h.set 0 _).set 1 _).set 2 _).set 3 _).set 4 _).set 5 _).set 6 _).set 7 _).set 8 _).set 9 _).set 10 _).set 11 _).set 12 _).set 13 _).set 14 _).set 15 _)
theorem below_set16 {B g : Nat} {w0 w : World} {x0 x1 x2 x3 x4 x5 x6 x7 x8 x9 x10 x11 x12 x13 x14 x15 : UInt8} (h : Below B w0 w) (hg : B ≤ g) : Below B w0 ((((((((((((((((w.setCell ⟨g, 0, none⟩ (.int .u8 (x0.toNat : Int))).setCell ⟨g, 1, none⟩ (.int .u8 (x1.toNat : Int))).setCell ⟨g, 2, none⟩ (.int .u8 (x2.toNat : Int))).setCell ⟨g, 3, none⟩ (.int .u8 (x3.toNat : Int))).setCell ⟨g, 4, none⟩ (.int .u8 (x4.toNat : Int))).setCell ⟨g, 5, none⟩ (.int .u8 (x5.toNat : Int))).setCell ⟨g, 6, none⟩ (.int .u8 (x6.toNat : Int))).setCell ⟨g, 7, none⟩ (.int .u8 (x7.toNat : Int))).setCell ⟨g, 8, none⟩ (.int .u8 (x8.toNat : Int))).setCell ⟨g, 9, none⟩ (.int .u8 (x9.toNat : Int))).setCell ⟨g, 10, none⟩ (.int .u8 (x10.toNat : Int))).setCell ⟨g, 11, none⟩ (.int .u8 (x11.toNat : Int))).setCell ⟨g, 12, none⟩ (.int .u8 (x12.toNat : Int))).setCell ⟨g, 13, none⟩ (.int .u8 (x13.toNat : Int))).setCell ⟨g, 14, none⟩ (.int .u8 (x14.toNat : Int))).setCell ⟨g, 15, none⟩ (.int .u8 (x15.toNat : Int))) := ((((((((((((((((h.setCell hg _).setCell hg _).setCell hg _).setCell hg _).setCell hg _).setCell hg _).setCell hg _).setCell hg _).setCell hg _).setCell hg _).setCell hg _).setCell hg _).setCell hg _).setCell hg _).setCell hg _).setCell hg _)
/-- 'a[i]' of an array of numbers by value -/
theorem run_index_ints {w : World} (cs : Array Value) (i : Nat) (n : Int) (hi : i < 8) (hc : cs[i]? = some (.int .i64 n)) :
    (Instr.index 64 (.agg cs) (.int .i64 (i : Int))).run Tryz.prog w = .ok (.int .i64 n) w := by
  have h1 : (i : Int) < 8 := by omega
  simp [Instr.index, run_underlying Tryz.underlying64, asIntOf, h1, hc, go_sem, Tryz.sizeOf3, Tryz.isAgg3, part]
  intro h; omega
theorem Blk.setV16 {w : World} {g : Nat} {t : TypeId} {y0 y1 y2 y3 y4 y5 y6 y7 y8 y9 y10 y11 y12 y13 y14 y15 x0 x1 x2 x3 x4 x5 x6 x7 x8 x9 x10 x11 x12 x13 x14 x15 : Value} (h : Blk w g t #[y0, y1, y2, y3, y4, y5, y6, y7, y8, y9, y10, y11, y12, y13, y14, y15]) : Blk ((((((((((((((((w.setCell ⟨g, 0, none⟩ x0).setCell ⟨g, 1, none⟩ x1).setCell ⟨g, 2, none⟩ x2).setCell ⟨g, 3, none⟩ x3).setCell ⟨g, 4, none⟩ x4).setCell ⟨g, 5, none⟩ x5).setCell ⟨g, 6, none⟩ x6).setCell ⟨g, 7, none⟩ x7).setCell ⟨g, 8, none⟩ x8).setCell ⟨g, 9, none⟩ x9).setCell ⟨g, 10, none⟩ x10).setCell ⟨g, 11, none⟩ x11).setCell ⟨g, 12, none⟩ x12).setCell ⟨g, 13, none⟩ x13).setCell ⟨g, 14, none⟩ x14).setCell ⟨g, 15, none⟩ x15) g t #[x0, x1, x2, x3, x4, x5, x6, x7, x8, x9, x10, x11, x12, x13, x14, x15] := by
  simpa using ((((((((((((((((h.set 0 _).set 1 _).set 2 _).set 3 _).set 4 _).set 5 _).set 6 _).set 7 _).set 8 _).set 9 _).set 10 _).set 11 _).set 12 _).set 13 _).set 14 _).set 15 _)
theorem below_setV16 {B g : Nat} {w0 w : World} {x0 x1 x2 x3 x4 x5 x6 x7 x8 x9 x10 x11 x12 x13 x14 x15 : Value} (h : Below B w0 w) (hg : B ≤ g) : Below B w0 ((((((((((((((((w.setCell ⟨g, 0, none⟩ x0).setCell ⟨g, 1, none⟩ x1).setCell ⟨g, 2, none⟩ x2).setCell ⟨g, 3, none⟩ x3).setCell ⟨g, 4, none⟩ x4).setCell ⟨g, 5, none⟩ x5).setCell ⟨g, 6, none⟩ x6).setCell ⟨g, 7, none⟩ x7).setCell ⟨g, 8, none⟩ x8).setCell ⟨g, 9, none⟩ x9).setCell ⟨g, 10, none⟩ x10).setCell ⟨g, 11, none⟩ x11).setCell ⟨g, 12, none⟩ x12).setCell ⟨g, 13, none⟩ x13).setCell ⟨g, 14, none⟩ x14).setCell ⟨g, 15, none⟩ x15) := ((((((((((((((((h.setCell hg _).setCell hg _).setCell hg _).setCell hg _).setCell hg _).setCell hg _).setCell hg _).setCell hg _).setCell hg _).setCell hg _).setCell hg _).setCell hg _).setCell hg _).setCell hg _).setCell hg _).setCell hg _)
theorem results_cell_tmp {P : Program} {fn : Func} {p q : Tmp} {ty : TypeId} (h : fn.results = #[.cell p ty, .tmp q]) (tmps : Array Value) (w : World) (g : Nat) (t : TypeId) (cs : Array Value) (fr : Nat × Nat) (d : TypeDesc)
    (hp : tmps.getD p undef = .pointer (some ⟨g, 0, none⟩)) (hg : w.heap[g]? = some (.cells cs t fr))
    (hu : P.underlying ty = some d) (hd : (match d with | .struct _ | .array _ _ => true | _ => false) = true) (hi : (P.info? ty).map (·.size) = some cs.size) :
    (results fn tmps).run P w = .ok (.tuple #[.agg cs, tmps.getD q undef]) w := by
  have hp' : tmps[p]?.getD undef = .pointer (some ⟨g, 0, none⟩) := by simpa using hp
  simp [results, h, hp', asAddr, run_loadVar_row w g t ty cs fr d hg hu hd hi]
theorem Blk.setV4 {w : World} {g : Nat} {t : TypeId} {y0 y1 y2 y3 x0 x1 x2 x3 : Value} (h : Blk w g t #[y0, y1, y2, y3]) : Blk ((((w.setCell ⟨g, 0, none⟩ x0).setCell ⟨g, 1, none⟩ x1).setCell ⟨g, 2, none⟩ x2).setCell ⟨g, 3, none⟩ x3) g t #[x0, x1, x2, x3] := by
  simpa using ((((h.set 0 _).set 1 _).set 2 _).set 3 _)
theorem below_setV4 {B g : Nat} {w0 w : World} {x0 x1 x2 x3 : Value} (h : Below B w0 w) (hg : B ≤ g) : Below B w0 ((((w.setCell ⟨g, 0, none⟩ x0).setCell ⟨g, 1, none⟩ x1).setCell ⟨g, 2, none⟩ x2).setCell ⟨g, 3, none⟩ x3) := ((((h.setCell hg _).setCell hg _).setCell hg _).setCell hg _)
theorem Blk.cells4 {w : World} {g : Nat} {t : TypeId} {x0 x1 x2 x3 : UInt8} (h : Blk w g t (arrB [x0, x1, x2, x3])) : w.cell? ⟨g, 0, none⟩ = some (.int .u8 (x0.toNat : Int)) ∧ w.cell? ⟨g, 1, none⟩ = some (.int .u8 (x1.toNat : Int)) ∧ w.cell? ⟨g, 2, none⟩ = some (.int .u8 (x2.toNat : Int)) ∧ w.cell? ⟨g, 3, none⟩ = some (.int .u8 (x3.toNat : Int)) := ⟨h.cell 0, h.cell 1, h.cell 2, h.cell 3⟩
theorem list4 {α : Type} : ∀ {l : List α}, l.length = 4 → ∃ x0 x1 x2 x3, l = [x0, x1, x2, x3]
  | [x0, x1, x2, x3], _ => ⟨x0, x1, x2, x3, rfl⟩
theorem Blk.iterAt {w : World} {g : Nat} {t : TypeId} {cs : Array Value} (h : Blk w g t cs) {k : Nat} {s : ByteArray} {pos : Nat} (hk : w.heap[k]? = some (.stringIter s pos)) (pos' : Nat) : Blk (w.iterAt k s pos') g t cs :=
  (Lib.iterAt_other w k g s pos' (fun e => by subst e; rw [show w.heap[g]? = _ from h] at hk; cases hk)).trans h
theorem bits_or_i64_nat (a b : Nat) (ha : a < 4611686018427387904) (hb : b < 4611686018427387904) :
    bits .or .i64 (a : Int) (b : Int) = ((a ||| b : Nat) : Int) := by
  have hx : a ||| b < 2 ^ 62 := Nat.or_lt_two_pow (by omega) (by omega)
  have h1 : (BitVec.ofInt 64 (a : Int)).toNat = a := by
    rw [BitVec.ofInt_natCast, BitVec.toNat_ofNat]; exact Nat.mod_eq_of_lt (by omega)
  have h2 : (BitVec.ofInt 64 (b : Int)).toNat = b := by
    rw [BitVec.ofInt_natCast, BitVec.toNat_ofNat]; exact Nat.mod_eq_of_lt (by omega)
  show IntKind.i64.wrap ((BitVec.ofInt 64 (a : Int) ||| BitVec.ofInt 64 (b : Int)).toNat : Int) = _
  rw [BitVec.toNat_or, h1, h2]
  exact IntWalk.i64_in _ (by omega)
/-- 'a<<8 | b' of two bytes -/
theorem or_256 (a b : Nat) (ha : a < 72057594037927936 / 256) (hb : b < 256) : bits .or .i64 ((a : Int) * 256) (b : Int) = ((256 * a + b : Nat) : Int) := by
  have h := bits_or_i64_nat (a * 256) b (by omega) (by omega)
  have e : a * 256 ||| b = a * 256 + b := by
    have := Nat.shiftLeft_add_eq_or_of_lt (show b < 2 ^ 8 by omega) a
    rw [Nat.shiftLeft_eq] at this
    exact this.symm
  rw [e] at h
  rw [← Nat.mul_comm a 256, ← h]
  congr 1
theorem or_16 (a b : Nat) (ha : a < 72057594037927936 / 256) (hb : b < 16) : bits .or .i64 ((a : Int) * 16) (b : Int) = ((a * 16 + b : Nat) : Int) := by
  have h := bits_or_i64_nat (a * 16) b (by omega) (by omega)
  have e : a * 16 ||| b = a * 16 + b := by
    have := Nat.shiftLeft_add_eq_or_of_lt (show b < 2 ^ 4 by omega) a
    rw [Nat.shiftLeft_eq] at this
    exact this.symm
  rw [e] at h
  rw [← h]
  congr 1
end Go.Proofs.YtjbolphfelakeaaGreatDoor
