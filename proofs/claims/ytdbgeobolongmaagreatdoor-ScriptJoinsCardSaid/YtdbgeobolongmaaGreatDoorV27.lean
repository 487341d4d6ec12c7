/- Part of the proof: contracts of the functions that the statements of layer 32 reach. -/
import Derived.Test.YtdbgeobolongmaaGreatDoorV26
set_option linter.unusedVariables false
set_option linter.unusedSimpArgs false
set_option maxRecDepth 100000
set_option maxHeartbeats 1000000
namespace Go.Proofs.YtdbgeobolongmaaGreatDoor
open Go.RowKit Go.Shelf Go.Proofs Go.OctetPlain Go.PrefixPlain
def kindI (x : Hp.Wd) : Int := if Sc.idx x < 16 then (Sc.idx x : Int) else -1
theorem names_len : Sc.names.length = 16 := rfl
theorem idx_found {x : Hp.Wd} {k : Nat} (h : Sc.names[k]? = some x) : Sc.idx x = k := by
 have hk : k < 16 := by obtain ⟨h1, -⟩ := List.getElem?_eq_some_iff.1 h; exact h1
 have hd := (Sc.names_idx k hk).1
 rw [List.getD_eq_getElem?_getD, h] at hd
 exact hd
theorem idx_none {x : Hp.Wd} (h : ∀ k, k < 16 → Sc.names[k]? ≠ some x) : ¬ Sc.idx x < 16 := fun hi => h _ hi (Sc.idx_get hi)
theorem scr_index (x : Hp.Wd) (w : World) (ht : ST w) :
  Calls Tryz.prog 24 #[.slice (some ⟨0, 0, none⟩) 16 16, .string (str x)] w fun e w' => e = .returned (.int .i64 (kindI x)) ∧ w' = w := by
 have HT := qh ht.nm
 clear ht
 go_enter Tryz.func24, Tryz.ntmps24
 go_wp2_with fail
 go_loop [5, 8] (fun _ i => ∃ k : Nat, i = .int .i64 k ∧ k ≤ 16 ∧ Hid (∀ j, j < k → Sc.names[j]? ≠ some x)) (fun _ i => 16 - (intOf i).toNat)
 case atStart => exact ⟨0, rfl, Nat.zero_le _, qh fun j hj => absurd hj (Nat.not_lt_zero _)⟩
 case round =>
  obtain ⟨k, rfl, hk, HJ⟩ := hrel
  by_cases hlt : k < 16
  ·obtain ⟨y, hy⟩ : ∃ y, Sc.names[k]? = some y := ⟨_, List.getElem?_eq_getElem (by rw [names_len]; exact hlt)⟩
   have hc := HT.out k y hy
   have HY := qh hy
   clear hy
   have hx := str_tl x
   have hz := str_tl y
   by_cases he : x = y
   ·subst he
    have HK : Hid (kindI x = (k : Int)) := qh (by unfold kindI; rw [idx_found HY.out, if_pos hlt])
    have hb : ((str x).toList == (str x).toList) = true := by simp
    go_wp2_with fail
    go_ret
    exact ⟨by rw [HK.out]; rfl, rfl⟩
   ·have hb : ((str x).toList == (str y).toList) = false := by rw [hx, hz]; simpa using he
    have HN : Hid (∀ j, j < k + 1 → Sc.names[j]? ≠ some x) := qh fun j hj hjx => by
     by_cases h : j = k
     ·subst h; rw [HY.out] at hjx; cases hjx; exact he rfl
     ·exact HJ.out j (by omega) hjx
    clear he hx hz
    go_wp2_with fail
    go_round
    case rel => exact ⟨k + 1, by go_num, by omega, HN⟩
    case measure => simp [intOf]; omega
  ·obtain rfl : k = 16 := by omega
   have HK : Hid (kindI x = -1) := qh (by unfold kindI; rw [if_neg (idx_none fun j hj => HJ.out j hj)])
   go_wp2_with fail
   go_ret
   exact ⟨by rw [HK.out]; rfl, rfl⟩
theorem kind_max (x : Hp.Wd) : max (kindI x) 0 = (Sc.x0 x).kind := by
 unfold kindI Sc.x0
 simp only
 split <;> omega
theorem join_tail (x : Hp.Wd) (r : List Hp.Wd) : (Hp.join r).length ≤ (Hp.join (x :: r)).length := by
 cases r with
 | nil => simp [Hp.join]
 | cons y t => simp [Hp.join]; omega
theorem Fine8.tail {x : Hp.Wd} {r : List Hp.Wd} (h : Fine8 (x :: r)) : Fine8 r :=
 ⟨by have := h.1; simp at this; omega, fun y hy => h.2.1 y (List.mem_cons_of_mem _ hy), Nat.le_trans (join_tail x r) h.2.2⟩
theorem Fine8.nil : Fine8 [] := ⟨by simp, fun x hx => (by cases hx), by simp [Hp.join]⟩
theorem read_tail {p : Sc.Part} {t y : Sc.Stp} {l r : List Hp.Wd} (h : Sc.read p t l = some (y, r)) : r = [] ∨ r = l.tail := by
 cases p <;> cases l <;> simp only [Sc.read] at h
 all_goals first
  | (cases h; done)
  | (repeat' split at h) <;> first | (cases h; done) | (cases h; first | exact Or.inl rfl | exact Or.inr rfl) | (simp only [Option.map_eq_some_iff] at h; obtain ⟨_, _, h⟩ := h; cases h; first | exact Or.inl rfl | exact Or.inr rfl)
theorem Fine8.read {p : Sc.Part} {t y : Sc.Stp} {l r : List Hp.Wd} (h : Fine8 l) (hr : Sc.read p t l = some (y, r)) : Fine8 r := by
 rcases read_tail hr with rfl | rfl
 ·exact Fine8.nil
 ·cases l with
  | nil => exact Fine8.nil
  | cons x s => exact h.tail
theorem Fine8.spl {s : List UInt8} (h : s.length ≤ 65536) : Fine8 (Hp.spl s) := ⟨by rw [spl_len]; have := List.count_le_length (a := (32 : UInt8)) (l := s); omega, fun x hx => Nat.le_trans (spl_le s x hx) h, by rw [Hp.join_spl]; exact h⟩
theorem read_ways {p : Sc.Part} {t y : Sc.Stp} {l r : List Hp.Wd} (hp : p ≠ .W) (h : Sc.read p t l = some (y, r)) : y.ways = t.ways := by
 cases p <;> cases l <;> simp only [Sc.read] at h
 all_goals first
  | (exact absurd rfl hp)
  | (cases h; done)
  | (repeat' split at h) <;> first | (cases h; done) | (cases h; rfl) | (simp only [Option.map_eq_some_iff] at h; obtain ⟨_, _, h⟩ := h; cases h; rfl)
theorem wpList_box_as {P : Program} {ops : Array Oper} {rest : List Oper} {o : Oper} {a : Act} {w : World} {Q : Exit → Act → World → Prop} (hg : o.guard = none) (ty : TypeId) (x : Operand) (ho : o.op = .box ty x) (cells : Array Value) (hx : a.eval x = .agg cells)
  (h : ∀ w', w' = w.alloc (.cells cells ty) → wpList P ops Q rest (a.put o.dst (.pointer (some ⟨w.heap.size, 0, none⟩))) w') : wpList P ops Q (o :: rest) a w := by
 refine wpList_plain hg fun K hK => ?_
 unfold Oper.wp execOp
 simp only [ho, hx, Sem.run_bind, Instr.box, newVar, newRow, run_newObj_alloc, Sem.run_pure, Result.andThen_ok, Value.cells]
 exact hK _ _ (h _ rfl)
theorem wpList_alloc_as {P : Program} {ops : Array Oper} {rest : List Oper} {o : Oper} {a : Act} {w : World} {Q : Exit → Act → World → Prop} (hg : o.guard = none) (ty : TypeId) (ho : o.op = .alloc ty) (cells : Array Value) (hz : ∀ w, (zeroValue ty).run P w = .ok (.agg cells) w)
  (h : ∀ w', w' = w.alloc (.cells cells ty) → wpList P ops Q rest (a.put o.dst (.pointer (some ⟨w.heap.size, 0, none⟩))) w') : wpList P ops Q (o :: rest) a w := by
 refine wpList_plain hg fun K hK => ?_
 unfold Oper.wp execOp
 simp only [ho, Sem.run_bind, Instr.alloc, hz, newVar, newRow, run_newObj_alloc, Sem.run_pure, Result.andThen_ok, Value.cells]
 exact hK _ _ (h _ rfl)
theorem wpList_store_row_as {P : Program} {ops : Array Oper} {rest : List Oper} {o : Oper} {a : Act} {w : World} {Q : Exit → Act → World → Prop} (hgd : o.guard = none) (ty : TypeId) (x y : Operand) (ho : o.op = .store ty x y)
  (g : Nat) (cells : Array Value) (hx : a.eval x = .pointer (some ⟨g, 0, none⟩)) (hy : a.eval y = .agg cells)
  (t : TypeId) (old : Array Value) (hg : Blk w g t old) (hi : (P.info? ty).map (·.size) = some cells.size)
  (hold : old.size = cells.size) (h1 : cells.all (·.oneCell') = true)
  (h : ∀ w', w' = w.setRow g cells → wpList P ops Q rest (a.put o.dst undef) w') : wpList P ops Q (o :: rest) a w :=
 wpList_store_row hgd ty x y ho g cells hx hy t old hg hi hold h1 (h _ rfl)
theorem wpList_tail1 {P : Program} {ops : Array Oper} {rest : List Oper} {o : Oper} {a : Act} {w : World} {Q : Exit → Act → World → Prop} (hg : o.guard = none) (ty : TypeId) (x : Operand) (hop : o.op = Op.slice ty x (some (.const (.int .i64 1))) none none)
  (hu : P.underlying ty = some (.slice (P.elem ty))) (hz : ∀ w, (sizeOf (P.elem ty)).run P w = .ok 1 w) {α : Type} {enc : α → List Value} {Pr : Nat → Prop} {xs : List α} {y : α} {v : Value} (hx : a.eval x = v) (hv : SlP Pr w 1 enc v (y :: xs))
  (hK : ∀ v', SlP Pr w 1 enc v' xs → wpList P ops Q rest (a.put o.dst v') w) : wpList P ops Q (o :: rest) a w := by
 refine wpList_plain hg fun K' hK' => ?_
 obtain ⟨p, cap, rfl, c1, c2, hR, hq⟩ := hv
 obtain ⟨b, off, rfl, hbl, hc⟩ := hR.at (i := 0) (by simp)
 simp only [List.length_cons] at c1 hx
 unfold Oper.wp
 have h1 : ((1 : Int) ≤ ((xs.length + 1 : Nat) : Int)) := by omega
 have hr := run_slice_l (P := P) (w := w) ty (some ⟨b, off, none⟩) (xs.length + 1) cap hu .i64 1 (by omega) h1
 have hs := run_sliceAt_slice (P := P) (w := w) ty (.slice (some ⟨b, off, none⟩) (xs.length + 1) cap) (some (.int .i64 1)) none none hu
 have hev : a.eval (.const (.int .i64 1)) = .int .i64 1 := rfl
 simp only [execOp, hop, hx, Option.map_some, Option.map_none, Sem.run_bind, hev, hs, hr, hz, Result.andThen_ok, Sem.run_pure, Oper.upon_value, sliced]
 refine hK' _ _ (hK _ ?_)
 rw [show Int.toNat 1 = 1 from rfl]
 by_cases hcap : cap = 1
 ·subst hcap
  have hxs : xs = [] := List.eq_nil_of_length_eq_zero (by omega)
  subst hxs
  exact SlP.tailA (by simp) hR (hq _ rfl (by simp))
 ·rw [if_neg hcap]
  exact SlP.tailB c1 c2 hR (hq _ rfl (by simp))
end Go.Proofs.YtdbgeobolongmaaGreatDoor
