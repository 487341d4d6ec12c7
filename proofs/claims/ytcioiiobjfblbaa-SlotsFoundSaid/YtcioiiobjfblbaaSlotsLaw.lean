/- The laws of layer 13: both sides' steps, whatever table; awake. -/
import Derived.Test.YtcioiiobjfblbaaSlotsAll
import Derived.Test.YtcioiiobjfblbaaSlotsRef3
namespace Go.Proofs.Ytcioiiobjfblbaa
set_option linter.unusedVariables false
set_option linter.unusedSimpArgs false
open Go.RowKit Go.Shelf Go.Proofs

def putS (is : Bool) (room : Int) (M : List Sl.It) (lab v : Int) : Int × List Sl.It :=
  if is = false then (1, M) else if okLab lab = false then (40, M) else if Sl.hasB M lab = false ∧ (M.length : Int) = room then (30, M) else (0, Sl.put M lab v)
def delS (is : Bool) (M : List Sl.It) (lab : Int) : Int × List Sl.It :=
  if is = false then (1, M) else if okLab lab = false then (40, M) else if Sl.hasB M lab = false then (31, M) else (0, Sl.del M lab)

/-- a table, or none -/
def TS (B : Nat) (p : Value) (is : Bool) (room : Int) (M : List Sl.It) (w : World) : Prop :=
  (is = true ∧ ∃ Bt, p = .pointer (some ⟨Bt, 0, none⟩) ∧ TabI B Bt room M w) ∨ (is = false ∧ p = .pointer none ∧ M = [])
theorem TS.below {B : Nat} {p : Value} {is : Bool} {room : Int} {M : List Sl.It} {w w' : World} (h : TS B p is room M w) (hb : Below w.heap.size w w') : TS B p is room M w' := by
  rcases h with ⟨h1, Bt, h2, h3⟩ | h
  · exact .inl ⟨h1, Bt, h2, h3.below hb⟩
  · exact .inr h
theorem TS.len {B : Nat} {p : Value} {is : Bool} {room : Int} {M : List Sl.It} {w : World} (h : TS B p is room M w) : M.length ≤ 65536 := by
  rcases h with ⟨h1, Bt, h2, h3⟩ | ⟨_, _, rfl⟩
  · have := h3.fits; omega
  · simp

def StepRet (B : Nat) (p : Value) (is : Bool) (room code : Int) (M' : List Sl.It) (w : World) (e : Ending) (w' : World) : Prop :=
  e = .returned (.int .i64 code) ∧ TS B p is room M' w' ∧ KeepT w w' ∧ Below B w w'

theorem put_any (B : Nat) (p : Value) (is : Bool) (room : Int) (M : List Sl.It) (lab v : Int) (w : World) (h : TS B p is room M w) (hB : B ≤ w.heap.size) :
    Calls Try.prog 33 #[p, .int .i64 lab, .int .i64 v] w (StepRet B p is room (putS is room M lab v).1 (putS is room M lab v).2 w) := by
  have hsame : ∀ {code : Int} {w' : World}, Below w.heap.size w w' → StepRet B p is room code M w (.returned (.int .i64 code)) w' := fun hb => ⟨rfl, h.below hb, KeepT.of_below hb, hb.mono hB⟩
  have h' := h
  rcases h with ⟨rfl, Bt, rfl, hT⟩ | ⟨rfl, rfl, rfl⟩
  · cases ho : okLab lab
    · have e : putS true room M lab v = (40, M) := by simp [putS, ho]
      rw [e]
      exact (slots_Put_bad _ lab v w ho).mono fun e w' ⟨h1, h2⟩ => by subst h1; subst h2; exact hsame (Below.refl _ _)
    · obtain ⟨h0, h1⟩ := okLab_iff.1 ho
      cases hh : Sl.hasB M lab
      · by_cases hf : (M.length : Int) = room
        · have e : putS true room M lab v = (30, M) := by simp [putS, ho, hh, hf]
          rw [e]
          exact (slots_Put_full B Bt room M lab v w hT hB h0 h1 hh hf).mono fun e w' ⟨h1, h2⟩ => by subst h1; exact hsame h2
        · have e : putS true room M lab v = (0, Sl.put M lab v) := by simp [putS, ho, hh, hf]
          rw [e]
          have := hT.fits
          exact (slots_Put_new B Bt room M lab v w hT hB h0 h1 hh (by omega)).mono fun e w' ⟨h1, h2, h3, h4⟩ => ⟨h1, .inl ⟨rfl, Bt, rfl, h2⟩, h3, h4⟩
      · have e : putS true room M lab v = (0, Sl.put M lab v) := by simp [putS, ho, hh]
        rw [e]
        exact (slots_Put_old B Bt room M lab v w hT hB h0 h1 hh).mono fun e w' ⟨h1, h2, h3, h4⟩ => ⟨h1, .inl ⟨rfl, Bt, rfl, h2⟩, h3, h4⟩
  · have e : putS false room [] lab v = (1, []) := by simp [putS]
    rw [e]
    exact (slots_Put_nil lab v w).mono fun e w' ⟨h1, h2⟩ => by subst h1; subst h2; exact hsame (Below.refl _ _)

theorem del_any (B : Nat) (p : Value) (is : Bool) (room : Int) (M : List Sl.It) (lab : Int) (w : World) (h : TS B p is room M w) (hB : B ≤ w.heap.size) :
    Calls Try.prog 35 #[p, .int .i64 lab] w (StepRet B p is room (delS is M lab).1 (delS is M lab).2 w) := by
  have hsame : ∀ {code : Int} {w' : World}, Below w.heap.size w w' → StepRet B p is room code M w (.returned (.int .i64 code)) w' := fun hb => ⟨rfl, h.below hb, KeepT.of_below hb, hb.mono hB⟩
  have h' := h
  rcases h with ⟨rfl, Bt, rfl, hT⟩ | ⟨rfl, rfl, rfl⟩
  · cases ho : okLab lab
    · have e : delS true M lab = (40, M) := by simp [delS, ho]
      rw [e]
      exact (slots_Delete_bad _ lab w ho).mono fun e w' ⟨h1, h2⟩ => by subst h1; subst h2; exact hsame (Below.refl _ _)
    · obtain ⟨h0, h1⟩ := okLab_iff.1 ho
      cases hh : Sl.hasB M lab
      · have e : delS true M lab = (31, M) := by simp [delS, ho, hh]
        rw [e]
        exact (slots_Delete_none B Bt room M lab w hT hB h0 h1 hh).mono fun e w' ⟨h1, h2⟩ => by subst h1; exact hsame h2
      · have e : delS true M lab = (0, Sl.del M lab) := by simp [delS, ho, hh]
        rw [e]
        exact (slots_Delete_there B Bt room M lab w hT hB h0 h1 hh).mono fun e w' ⟨h1, h2, h3, h4⟩ => ⟨h1, .inl ⟨rfl, Bt, rfl, h2⟩, h3, h4⟩
  · have e : delS false [] lab = (1, []) := by simp [delS]
    rw [e]
    exact (slots_Delete_nil lab w).mono fun e w' ⟨h1, h2⟩ => by subst h1; subst h2; exact hsame (Below.refl _ _)

theorem get_any (B : Nat) (p : Value) (is : Bool) (room : Int) (M : List Sl.It) (lab : Int) (w : World) (h : TS B p is room M w) :
    Calls Try.prog 37 #[p, .int .i64 lab] w fun e w' => e = .returned (.tuple #[.int .i64 (getW M lab), .bool (Sl.hasB M lab)]) ∧ Below w.heap.size w w' := by
  rcases h with ⟨rfl, Bt, rfl, hT⟩ | ⟨rfl, rfl, rfl⟩
  · exact slots_Get B Bt room M lab w hT
  · exact (slots_Get_nil lab w).mono fun e w' ⟨h1, h2⟩ => by subst h1; subst h2; exact ⟨rfl, Below.refl _ _⟩
theorem len_any (B : Nat) (p : Value) (is : Bool) (room : Int) (M : List Sl.It) (w : World) (h : TS B p is room M w) :
    Calls Try.prog 39 #[p] w fun e w' => e = .returned (.int .i64 (M.length : Int)) ∧ w = w' := by
  rcases h with ⟨rfl, Bt, rfl, hT⟩ | ⟨rfl, rfl, rfl⟩
  · exact slots_Len B Bt room M w hT
  · exact slots_Len_nil w
theorem all_any (B : Nat) (p : Value) (is : Bool) (room : Int) (M : List Sl.It) (w : World) (h : TS B p is room M w) :
    Calls Try.prog 40 #[p] w (RetRow w.heap.size 57 2 M.length (flat encIt M) w) := by
  rcases h with ⟨rfl, Bt, rfl, hT⟩ | ⟨rfl, rfl, rfl⟩
  · exact slots_All B Bt room M w hT
  · exact (slots_All_nil w).mono fun e w' ⟨h1, h2⟩ => by subst h1; subst h2; exact ⟨_, rfl, World.ownsRow_nil _ _ _ _, Below.refl _ _⟩

theorem okLab_no {lab : Int} (h : okLab lab = false) : lab < 0 ∨ 1048575 < lab := by
  by_cases h0 : lab < 0
  · exact .inl h0
  · refine .inr ?_
    refine Classical.byContradiction fun h1 => ?_
    rw [okLab_iff.2 ⟨by omega, by omega⟩] at h; cases h
theorem rput_any (is : Bool) (room : Int) (M : List Sl.It) (hl : M.length ≤ 536870912) (lab x : Int) (v : Value) (w : World) (hv : SlR w 2 encIt v M) (hty : TyI w v) :
    Calls Try.prog 34 #[.agg #[.bool is, .int .i64 room, v], .int .i64 lab, .int .i64 x] w (RetTE is room (putS is room M lab x).1 (putS is room M lab x).2 w) := by
  cases is
  · have e : putS false room M lab x = (1, M) := by simp [putS]
    rw [e]; exact ref13_Put_not room M lab x v w hv hty
  · cases ho : okLab lab
    · have e : putS true room M lab x = (40, M) := by simp [putS, ho]
      rw [e]; exact ref13_Put_bad room M lab x v w hv hty (okLab_no ho)
    · obtain ⟨h0, h1⟩ := okLab_iff.1 ho
      by_cases hc : Sl.hasB M lab = false ∧ (M.length : Int) = room
      · have e : putS true room M lab x = (30, M) := by simp [putS, ho, hc]
        rw [e]; exact ref13_Put_full room M hl lab x v w hv hty h0 h1 hc.1 hc.2
      · have e : putS true room M lab x = (0, Sl.put M lab x) := by unfold putS; rw [if_neg (by simp), if_neg (by simp [ho]), if_neg hc]
        rw [e]; exact ref13_Put_ok room M hl lab x v w hv h0 h1 (by
          cases hh : Sl.hasB M lab
          · exact .inr fun h => hc ⟨hh, h⟩
          · exact .inl rfl)
theorem rdel_any (is : Bool) (room : Int) (M : List Sl.It) (hl : M.length ≤ 536870912) (lab : Int) (v : Value) (w : World) (hv : SlR w 2 encIt v M) (hty : TyI w v) :
    Calls Try.prog 36 #[.agg #[.bool is, .int .i64 room, v], .int .i64 lab] w (RetTE is room (delS is M lab).1 (delS is M lab).2 w) := by
  cases is
  · have e : delS false M lab = (1, M) := by simp [delS]
    rw [e]; exact ref13_Delete_not room M lab v w hv hty
  · cases ho : okLab lab
    · have e : delS true M lab = (40, M) := by simp [delS, ho]
      rw [e]; exact ref13_Delete_bad room M lab v w hv hty (okLab_no ho)
    · obtain ⟨h0, h1⟩ := okLab_iff.1 ho
      cases hh : Sl.hasB M lab
      · have e : delS true M lab = (31, M) := by simp [delS, ho, hh]
        rw [e]; exact ref13_Delete_none room M hl lab v w hv hty h0 h1 hh
      · have e : delS true M lab = (0, Sl.del M lab) := by simp [delS, ho, hh]
        rw [e]; exact ref13_Delete_ok room M hl lab v w hv h0 h1 hh

theorem new_any (room : Int) (w : World) : ∃ (is : Bool) (R : Int), (is = true ↔ 1 ≤ room ∧ room ≤ 65536) ∧ (is = true → R = room) ∧
    Calls Try.prog 31 #[.int .i64 room] w (fun e w' => ∃ p, e = .returned p ∧ TS w.heap.size p is R [] w' ∧ (∃ a, p = .pointer a ∧ a.isSome = is) ∧ Below w.heap.size w w') ∧
    ∀ w2, Calls Try.prog 32 #[.int .i64 room] w2 fun e w' => e = .returned (.agg #[.bool is, .int .i64 R, .slice none 0 0]) ∧ Below w2.heap.size w2 w' := by
  by_cases h : 1 ≤ room ∧ room ≤ 65536
  · refine ⟨true, room, by simp [h], fun _ => rfl, (slots_New room w h.1 h.2).mono fun e w' ⟨Bt, h1, h2, h3⟩ => ⟨_, h1, .inl ⟨rfl, Bt, rfl, h2⟩, ⟨_, rfl, rfl⟩, h3⟩, fun w2 => ref13_New room w2 h.1 h.2⟩
  · have h' : room < 1 ∨ 65536 < room := by omega
    refine ⟨false, 0, by simp; omega, fun e => (by cases e), (slots_New_no room w h').mono fun e w' ⟨h1, h2⟩ => ⟨_, h1, .inr ⟨rfl, rfl, rfl⟩, ⟨_, rfl, rfl⟩, by subst h2; exact Below.refl _ _⟩, fun w2 => ref13_New_no room w2 h'⟩
end Go.Proofs.Ytcioiiobjfblbaa
