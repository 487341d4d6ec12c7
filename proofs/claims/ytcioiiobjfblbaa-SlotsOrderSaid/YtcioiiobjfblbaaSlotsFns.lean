/- The functions of slots.Table: what they hand back, and what they leave. -/
import Derived.Test.YtcioiiobjfblbaaSlotsFind
import Derived.Laws.MakeOwn
namespace Go.Proofs.Ytcioiiobjfblbaa
set_option linter.unusedVariables false
set_option linter.unusedSimpArgs false
open Go.RowKit Go.Shelf Go.Proofs

/-! ## blocks known whole -/
theorem Blk.alloc {w : World} {g : Nat} {t : TypeId} {cs : Array Value} (h : Blk w g t cs) (o : Obj) : Blk (w.alloc o) g t cs := (Below.heap_alloc w o g h.lt).trans h
theorem Blk.other {w : World} {g : Nat} {t : TypeId} {cs : Array Value} (h : Blk w g t cs) (a : Addr) (v : Value) (hne : g ≠ a.block) : Blk (w.setCell a v) g t cs := (Below.heap_setCell w a v g hne).trans h
theorem Blk.set {w : World} {g : Nat} {t : TypeId} {cs : Array Value} (h : Blk w g t cs) (i : Nat) (v : Value) : Blk (w.setCell ⟨g, i, none⟩ v) g t (cs.setIfInBounds i v) := by
  obtain ⟨hlt, hk⟩ := Array.getElem?_eq_some_iff.1 h
  show (w.heap.modify g _)[g]? = _
  rw [Array.getElem?_eq_getElem (by rw [Array.size_modify]; exact hlt), Array.getElem_modify_self, hk]
  rfl
theorem Blk.drewN {w : World} {g : Nat} {t : TypeId} {cs : Array Value} (h : Blk w g t cs) (n : Nat) : Blk (w.drewN n) g t cs := h
theorem Blk.frozen' {w : World} {g : Nat} {t : TypeId} {cs : Array Value} (h : Blk w g t cs) (i : Nat) : w.frozen? ⟨g, i, none⟩ = false := by
  simp [World.frozen?, show w.heap[g]? = _ from h]

/-- what a table's own steps keep: every block but those of tables and slots -/
structure KeepT (W W' : World) : Prop where
  size : W.heap.size ≤ W'.heap.size
  same : ∀ (j : Nat) (cs : Array Value) (t : TypeId) (f : Nat × Nat), W.heap[j]? = some (.cells cs t f) → t ≠ 71 → t ≠ 74 → W'.heap[j]? = some (.cells cs t f)
theorem KeepT.refl (W : World) : KeepT W W := ⟨Nat.le_refl _, fun _ _ _ _ h _ _ => h⟩
theorem KeepT.trans {A B C : World} (h : KeepT A B) (k : KeepT B C) : KeepT A C := ⟨Nat.le_trans h.size k.size, fun j cs t f hj h1 h2 => k.same j cs t f (h.same j cs t f hj h1 h2) h1 h2⟩
theorem KeepT.of_below {A B : World} (h : Below A.heap.size A B) : KeepT A B := ⟨h.size, fun j cs t f hj _ _ => (h.block j (Array.getElem?_eq_some_iff.1 hj).1).trans hj⟩
theorem KeepT.setT {A B : World} (h : KeepT A B) {g : Nat} {cs : Array Value} (hb : Blk B g 71 cs) (i : Nat) (v : Value) : KeepT A (B.setCell ⟨g, i, none⟩ v) :=
  h.trans ⟨by simp [World.setCell], fun j cs' t f hj h1 h2 => by
    rw [Below.heap_setCell _ _ _ _ (fun e => by subst e; rw [show B.heap[_]? = _ from hb] at hj; cases hj; exact h1 rfl)]; exact hj⟩
theorem KeepT.setS {A B : World} (h : KeepT A B) {g : Nat} {cs : Array Value} (hb : Blk B g 74 cs) (i : Nat) (v : Value) : KeepT A (B.setCell ⟨g, i, none⟩ v) :=
  h.trans ⟨by simp [World.setCell], fun j cs' t f hj h1 h2 => by
    rw [Below.heap_setCell _ _ _ _ (fun e => by subst e; rw [show B.heap[_]? = _ from hb] at hj; cases hj; exact h2 rfl)]; exact hj⟩
theorem KeepT.alloc {A B : World} (h : KeepT A B) (o : Obj) : KeepT A (B.alloc o) := h.trans (KeepT.of_below ((Below.refl _ _).alloc (Nat.le_refl _) o))
theorem Blk.keepT {A B : World} {g : Nat} {t : TypeId} {cs : Array Value} (h : Blk A g t cs) (k : KeepT A B) (h1 : t ≠ 71) (h2 : t ≠ 74) : Blk B g t cs := k.same g cs t _ h h1 h2

/-! ## a table -/
structure TabS (Bt : Nat) (room : Int) (M : List Sl.It) (Bs cap k0 : Nat) (s : List Sl.Slt) (w : World) : Prop where
  mem : TabW w Bt room (M.length : Int) (Sl.usedN s : Int) Bs cap s
  pow : s.length = 2 ^ k0
  lo : 8 ≤ s.length
  hi : s.length ≤ 524288
  tbl : Sl.Tbl home s (· ∈ M)
  rise : Sl.Rise M
  lab : ∀ x ∈ M, 0 ≤ x.1 ∧ x.1 ≤ 1048575
  half : 2 * Sl.usedN s ≤ s.length
  cnt : Sl.thereN s = M.length
  room1 : 1 ≤ room
  room2 : room ≤ 65536
  fits : (M.length : Int) ≤ room
/-- a table of the call's own, from block B on -/
def TabI (B Bt : Nat) (room : Int) (M : List Sl.It) (w : World) : Prop := B ≤ Bt ∧ ∃ Bs cap k0 s, B ≤ Bs ∧ TabS Bt room M Bs cap k0 s w
theorem TabI.below {B Bt : Nat} {room : Int} {M : List Sl.It} {w w' : World} (h : TabI B Bt room M w) (hb : Below w.heap.size w w') : TabI B Bt room M w' := by
  obtain ⟨h0, Bs, cap, k0, s, h1, h2⟩ := h
  exact ⟨h0, Bs, cap, k0, s, h1, { h2 with mem := h2.mem.below hb (Nat.le_refl _) }⟩
theorem TabI.rise {B Bt : Nat} {room : Int} {M : List Sl.It} {w : World} (h : TabI B Bt room M w) : Sl.Rise M := by obtain ⟨_, _, _, _, _, _, h⟩ := h; exact h.rise
theorem TabI.lab {B Bt : Nat} {room : Int} {M : List Sl.It} {w : World} (h : TabI B Bt room M w) : ∀ x ∈ M, 0 ≤ x.1 ∧ x.1 ≤ 1048575 := by obtain ⟨_, _, _, _, _, _, h⟩ := h; exact h.lab
theorem TabI.fits {B Bt : Nat} {room : Int} {M : List Sl.It} {w : World} (h : TabI B Bt room M w) : (M.length : Int) ≤ room ∧ room ≤ 65536 := by obtain ⟨_, _, _, _, _, _, h⟩ := h; exact ⟨h.fits, h.room2⟩

def okLab (lab : Int) : Bool := decide (0 ≤ lab) && decide (lab ≤ 1048575)
theorem okLab_iff {lab : Int} : okLab lab = true ↔ 0 ≤ lab ∧ lab ≤ 1048575 := by simp [okLab]

set_option maxHeartbeats 1000000 in
theorem slots_right (lab : Int) (w : World) : Calls Try.prog 50 #[.int .i64 lab] w fun e w' => e = .returned (.bool (okLab lab)) ∧ w = w' := by
  have HF := Lib.hid (okLab_iff (lab := lab))
  generalize okLab lab = r at HF ⊢
  go_enter Try.func50, Try.ntmps50
  go_wp2
  all_goals go_ret
  all_goals refine ⟨ret_bool ?_, rfl⟩
  all_goals have := HF.out
  all_goals cases r <;> simp at this ⊢ <;> omega

theorem TabS.use {Bt : Nat} {room : Int} {M : List Sl.It} {Bs cap k0 : Nat} {s : List Sl.Slt} {w : World} (h : TabS Bt room M Bs cap k0 s w) (lab : Int) (h0 : 0 ≤ lab) (h1 : lab ≤ 1048575) :
    Calls Try.prog 51 #[.pointer (some ⟨Bt, 0, none⟩), .int .i64 lab] w (FindRet s (home lab s.length) lab w) :=
  find_any lab h0 h1 Bt room _ _ Bs cap k0 s h.pow (by have := h.half; have := h.lo; omega) w h.mem

/-- a label's value -/
def getV (M : List Sl.It) (lab : Int) : Int := if Sl.hasB M lab = true then Sl.got M lab else 0

set_option maxHeartbeats 1000000 in
theorem slots_Get (B Bt : Nat) (room : Int) (M : List Sl.It) (lab : Int) (w : World) (hT : TabI B Bt room M w) :
    Calls Try.prog 37 #[.pointer (some ⟨Bt, 0, none⟩), .int .i64 lab] w fun e w' => e = .returned (.tuple #[.int .i64 (getV M lab), .bool (Sl.hasB M lab)]) ∧ Below w.heap.size w w' := by
  obtain ⟨h0, Bs, cap, k0, s, h1, h2⟩ := hT
  cases ho : okLab lab
  · have hno : Sl.hasB M lab = false := by
      cases hh : Sl.hasB M lab
      · rfl
      · obtain ⟨v, hv⟩ := (Sl.has_iff h2.rise lab).1 hh
        have := h2.lab _ hv
        rw [okLab_iff.2 this] at ho; cases ho
    have hgv : getV M lab = 0 := by unfold getV; rw [hno]; rfl
    rw [hno, hgv]
    have HO := Lib.hid ho
    clear ho hno hgv
    go_enter Try.func37, Try.ntmps37
    go_wp2_with (go_at_call 50; refine (slots_right lab _).mono ?_; rw [HO.out]; rintro e w1 ⟨rfl, rfl⟩)
    go_ret2
    exact ⟨rfl, Below.refl _ _⟩
  · obtain ⟨hl0, hl1⟩ := okLab_iff.1 ho
    have HO := Lib.hid ho
    clear ho
    have hcall := Lib.hid (h2.use lab hl0 hl1)
    have H2 := Lib.hid h2
    clear h2
    go_enter Try.func37, Try.ntmps37
    go_wp2_with (go_at_call 50; refine (slots_right lab _).mono ?_; rw [HO.out]; rintro e w1 ⟨rfl, rfl⟩)
    refine hcall.out.mono ?_
    rintro e w2 ⟨p, b, rfl, hy, hn, hb⟩
    cases b
    · have hno : Sl.hasB M lab = false := by
        cases hh : Sl.hasB M lab
        · rfl
        · obtain ⟨v, hv⟩ := (Sl.has_iff H2.out.rise lab).1 hh
          exact absurd hv (H2.out.tbl.not_there (hn rfl) v)
      have hgv : getV M lab = 0 := by unfold getV; rw [hno]; rfl
      have HN := Lib.hid hno
      have HV := Lib.hid hgv
      clear hy hn hno hgv
      go_wp2
      go_ret2
      rw [HN.out, HV.out]
      exact ⟨rfl, hb⟩
    · obtain ⟨v, hx⟩ := hy rfl
      have hin := H2.out.tbl.of_yes hx
      have hyes : Sl.hasB M lab = true := (Sl.has_iff H2.out.rise lab).2 ⟨v, hin⟩
      have hgv : getV M lab = v := by unfold getV; rw [hyes]; exact Sl.got_of H2.out.rise hin
      have HN := Lib.hid hyes
      have HV := Lib.hid hgv
      have hT := H2.out.mem.below hb (Nat.le_refl _)
      obtain ⟨c0, c1, c2⟩ := hT.slot hx
      have ch := hT.head.cell 3
      simp at ch
      have hp : p < s.length := (List.getElem?_eq_some_iff.1 hx).1
      have hs := H2.out.hi
      clear hy hn hin hyes hgv hT hx
      go_wp2
      go_ret2
      rw [HN.out, HV.out]
      exact ⟨rfl, hb⟩

set_option maxHeartbeats 1000000 in
theorem slots_Get_nil (lab : Int) (w : World) :
    Calls Try.prog 37 #[.pointer none, .int .i64 lab] w fun e w' => e = .returned (.tuple #[.int .i64 0, .bool false]) ∧ w = w' := by
  go_enter Try.func37, Try.ntmps37
  go_wp2
  go_ret2
  exact ⟨rfl, rfl⟩

set_option maxHeartbeats 1000000 in
theorem slots_Len (B Bt : Nat) (room : Int) (M : List Sl.It) (w : World) (hT : TabI B Bt room M w) :
    Calls Try.prog 39 #[.pointer (some ⟨Bt, 0, none⟩)] w fun e w' => e = .returned (.int .i64 (M.length : Int)) ∧ w = w' := by
  obtain ⟨h0, Bs, cap, k0, s, h1, h2⟩ := hT
  have ch := h2.mem.head.cell 1
  simp at ch
  clear h2
  go_enter Try.func39, Try.ntmps39
  go_wp2
  go_ret
  exact ⟨rfl, rfl⟩
set_option maxHeartbeats 1000000 in
theorem slots_Len_nil (w : World) :
    Calls Try.prog 39 #[.pointer none] w fun e w' => e = .returned (.int .i64 0) ∧ w = w' := by
  go_enter Try.func39, Try.ntmps39
  go_wp2
  go_ret
  exact ⟨rfl, rfl⟩
end Go.Proofs.Ytcioiiobjfblbaa
