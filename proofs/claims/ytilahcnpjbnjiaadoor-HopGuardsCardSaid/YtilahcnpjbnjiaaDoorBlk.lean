import Derived.Test.YtilahcnpjbnjiaaDoorBaseIn
import Derived.Laws.Rows
import Derived.Laws.Tables
import Derived.Laws.CopyOwn
import Derived.Lib.OthersKept
/- Blocks known whole: what an alloc, a store, a call leaves of them. -/
namespace Go.Proofs.YtilahcnpjbnjiaaDoor
set_option linter.unusedVariables false
set_option linter.unusedSimpArgs false
open Go.RowKit Go.Shelf Go.Proofs

theorem slr_lit {α : Type} {enc : α → List Value} {k : Nat} (hk : ∀ x, (enc x).length = k) (w : World) (e : TypeId) (xs : List α) (hl : xs.length ≤ 1048576) (cs : Array Value) (hcs : cs = (flat enc xs).toArray) :
    SlR (w.alloc (.cells cs e)) k enc (.slice (some ⟨w.heap.size, 0, none⟩) xs.length xs.length) xs := by
  subst hcs
  refine ⟨_, _, rfl, Nat.le_refl _, by omega, (fun h => by cases h), fun a ha => ?_⟩
  cases ha
  refine ⟨rfl, by simp, fun i x hx j u hu => ?_⟩
  have h := cell_new_list w (flat enc xs) e (i * k + j) u (flat_at hk hx hu)
  have hadd : (⟨w.heap.size, 0, none⟩ : Addr).add (i * k + j) = ⟨w.heap.size, 0 + i * k + j, none⟩ := by unfold Addr.add; split <;> simp_all [Nat.add_assoc]
  rw [hadd] at h
  exact h

theorem belowA (W : World) (o : Obj) : Below W.heap.size W (W.alloc o) := (Below.refl W.heap.size _).alloc (Nat.le_refl _) _
theorem belowA2 {W W' : World} {o : Obj} (h : Below (W.alloc o).heap.size (W.alloc o) W') : Below W.heap.size W W' := (belowA W o).trans (h.mono (by simp))
theorem Blk.alloc {w : World} {g : Nat} {t : TypeId} {cs : Array Value} (h : Blk w g t cs) (o : Obj) : Blk (w.alloc o) g t cs := (Below.heap_alloc w o g h.lt).trans h
theorem Blk.other {w : World} {g : Nat} {t : TypeId} {cs : Array Value} (h : Blk w g t cs) (a : Addr) (v : Value) (hne : g ≠ a.block) : Blk (w.setCell a v) g t cs := (Below.heap_setCell w a v g hne).trans h
theorem Blk.set {w : World} {g : Nat} {t : TypeId} {cs : Array Value} (h : Blk w g t cs) (i : Nat) (v : Value) : Blk (w.setCell ⟨g, i, none⟩ v) g t (cs.setIfInBounds i v) := by
  obtain ⟨hlt, hk⟩ := Array.getElem?_eq_some_iff.1 h
  show (w.heap.modify g _)[g]? = _
  rw [Array.getElem?_eq_getElem (by rw [Array.size_modify]; exact hlt), Array.getElem_modify_self, hk]
  rfl
theorem Blk.drewN {w : World} {g : Nat} {t : TypeId} {cs : Array Value} (h : Blk w g t cs) (n : Nat) : Blk (w.drewN n) g t cs := h
theorem Blk.drew {w : World} {g : Nat} {t : TypeId} {cs : Array Value} (h : Blk w g t cs) : Blk w.drew g t cs := h
theorem Blk.frozen' {w : World} {g : Nat} {t : TypeId} {cs : Array Value} (h : Blk w g t cs) (i : Nat) : w.frozen? ⟨g, i, none⟩ = false := by
  simp [World.frozen?, show w.heap[g]? = _ from h]
theorem Blk.below {w w' : World} {g : Nat} {t : TypeId} {cs : Array Value} (h : Blk w g t cs) {B : Nat} (hb : Below B w w') (hg : g < B) : Blk w' g t cs := (hb.block g hg).trans h
theorem Blk.setRow {w : World} {g : Nat} {t : TypeId} {cs : Array Value} (h : Blk w g t cs) (cs' : Array Value) : Blk (w.setRow g cs') g t cs' := setRow_heap w g cs cs' t (0, 0) h
theorem Blk.otherRow {w : World} {g : Nat} {t : TypeId} {cs : Array Value} (h : Blk w g t cs) (k : Nat) (cs' : Array Value) (hne : g ≠ k) : Blk (w.setRow k cs') g t cs := (setRow_other w k g cs' hne).trans h
/-- the whole array, by value -/
theorem Blk.loadAt {w : World} {g : Nat} {t : TypeId} {cs : Array Value} (h : Blk w g t cs) {ty e : TypeId} {n : Nat} (hu : Tryd.prog.underlying ty = some (.array n e)) (hi : (Tryd.prog.info? ty).map (·.size) = some cs.size) :
    (Instr.loadAt ty (.pointer (some ⟨g, 0, none⟩))).run Tryd.prog w = .ok (.agg cs) w := by
  simp only [Instr.loadAt, Instr.sureAddr, Sem.run_bind, Sem.run_pure, Result.andThen]
  exact run_loadVar_row w g t ty cs (0, 0) _ h hu rfl hi
theorem Blk.loadVar {w : World} {g : Nat} {t : TypeId} {cs : Array Value} (h : Blk w g t cs) {ty e : TypeId} {n : Nat} (hu : Tryd.prog.underlying ty = some (.array n e)) (hi : (Tryd.prog.info? ty).map (·.size) = some cs.size) :
    (Go.loadVar ty ⟨g, 0, none⟩).run Tryd.prog w = .ok (.agg cs) w := run_loadVar_row w g t ty cs (0, 0) _ h hu rfl hi
theorem Blk.storeAt {w : World} {g : Nat} {t : TypeId} {cs : Array Value} (h : Blk w g t cs) {ty : TypeId} (cs' : Array Value) (hi : (Tryd.prog.info? ty).map (·.size) = some cs'.size) (ho : cs.size = cs'.size) (h1 : cs'.all (·.oneCell') = true) :
    (Instr.storeAt ty (.pointer (some ⟨g, 0, none⟩)) (.agg cs')).run Tryd.prog w = .ok () (w.setRow g cs') := by
  simp only [Instr.storeAt, Instr.sureAddr, Sem.run_bind, Sem.run_pure, Result.andThen]
  exact run_storeVar_row w g t ty cs cs' h hi ho h1

end Go.Proofs.YtilahcnpjbnjiaaDoor
