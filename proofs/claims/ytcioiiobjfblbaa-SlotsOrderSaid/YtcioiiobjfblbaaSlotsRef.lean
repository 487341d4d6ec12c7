/- footplateref13: rows of labels. -/
import Derived.Test.YtcioiiobjfblbaaSlotsAllBase
import Derived.Test.YtcioiiobjfblbaaBaseIn
namespace Go.Proofs.Ytcioiiobjfblbaa
set_option linter.unusedVariables false
set_option linter.unusedSimpArgs false
open Go.RowKit

theorem pos_step {l : List Sl.It} {lab : Int} {k : Nat} (hk : k < l.length) (hpre : ∀ i (x : Sl.It), i < k → l[i]? = some x → x.1 < lab) (h : l[k].1 < lab) : ∀ i (x : Sl.It), i < k + 1 → l[i]? = some x → x.1 < lab := by
  intro i x hi hx
  by_cases e : i < k
  · exact hpre i x e hx
  · obtain rfl : i = k := by omega
    rw [List.getElem?_eq_getElem hk] at hx
    cases hx
    exact h

/-- where a search in a row ends -/
def FindIs (L : List Sl.It) (lab : Int) (w : World) (e : Ending) (w' : World) : Prop := e = .returned (.tuple #[.int .i64 (Sl.pos L lab : Int), .bool (Sl.hasB L lab)]) ∧ Below w.heap.size w w'

set_option maxRecDepth 100000 in
set_option maxHeartbeats 2000000 in
theorem ref13_find (L : List Sl.It) (hl : L.length ≤ 1073741824) (lab : Int) (v : Value) (w : World) (hv : SlR w 2 encIt v L) :
    Calls Try.prog 53 #[v, .int .i64 lab] w (FindIs L lab w) := by
  obtain ⟨p, cap, rfl, hc1, hc2, hR⟩ := hv
  go_enter Try.func53, Try.ntmps53
  go_wp2
  go_loop [6] (fun i => ∃ k : Nat, i = .int .i64 k ∧ k ≤ L.length ∧ Hid (∀ i (x : Sl.It), i < k → L[i]? = some x → x.1 < lab)) (fun i => L.length - (intOf i).toNat)
  case atStart => exact ⟨0, rfl, Nat.zero_le _, Lib.hid (fun i x h => by omega)⟩
  case round =>
    obtain ⟨k, rfl, hk, hpre⟩ := hrel
    by_cases hlt : k < L.length
    · obtain ⟨b, off, rfl, hb, h3⟩ := hR.at hlt
      have x0 : w.cell? ⟨b, off + k * 2, none⟩ = some (.int .i64 L[k].1) := h3 0 _ rfl
      have d1 : decide ((k : Int) < (L.length : Int)) = true := by simp; omega
      by_cases hless : L[k].1 < lab
      · have d2 : decide (L[k].1 < lab) = true := by simpa using hless
        have HS := Lib.hid (pos_step hlt hpre.out hless)
        go_wp2
        exact ⟨⟨k + 1, by simp, by omega, HS⟩, by simp [intOf]; omega⟩
      · have d2 : decide (L[k].1 < lab) = false := by simpa using hless
        have hpos : Sl.pos L lab = k := Sl.pos_of hpre.out hk (fun x hx => by rw [List.getElem?_eq_getElem hlt] at hx; cases hx; exact hless)
        have hhas : Sl.hasB L lab = (L[k].1 == lab) := by unfold Sl.hasB; rw [hpos, List.getElem?_eq_getElem hlt]
        have HP := Lib.hid hpos
        have HH := Lib.hid hhas
        clear hpos hhas hR h3
        go_wp2
        go_quiet (fail)
        go_wp2
        go_ret2
        exact ⟨by rw [HP.out, HH.out]; rfl, below_drewN (Below.refl _ _) nq⟩
    · have hke : k = L.length := by omega
      have d1 : decide ((k : Int) < (L.length : Int)) = false := by simp; omega
      have hpos : Sl.pos L lab = k := Sl.pos_of hpre.out hk (fun x hx => by rw [List.getElem?_eq_none (by omega)] at hx; cases hx)
      have hhas : Sl.hasB L lab = false := by unfold Sl.hasB; rw [hpos, List.getElem?_eq_none (by omega)]
      have HP := Lib.hid hpos
      have HH := Lib.hid hhas
      have HKE := Lib.hid hke
      clear hpos hhas hR hke
      go_wp2
      go_quiet (fail)
      go_wp2
      go_ret2
      exact ⟨by rw [HP.out, HH.out]; rfl, below_drewN (Below.refl _ _) nq⟩

/-- a table's value, boxed -/
def encT (is : Bool) (room : Int) (v : Value) : Value := .agg #[.bool is, .int .i64 room, v]

def RetT (is : Bool) (room : Int) (L : List Sl.It) (w : World) (e : Ending) (w' : World) : Prop := ∃ v, e = .returned (.agg #[.bool is, .int .i64 room, v]) ∧ SlR w' 2 encIt v L ∧ Below w.heap.size w w'
set_option maxHeartbeats 1000000 in
theorem ref13_New (room : Int) (w : World) (h1 : 1 ≤ room) (h2 : room ≤ 65536) :
    Calls Try.prog 32 #[.int .i64 room] w fun e w' => e = .returned (.agg #[.bool true, .int .i64 room, .slice none 0 0]) ∧ Below w.heap.size w w' := by
  go_enter Try.func32, Try.ntmps32
  go_wp2
  exact bodyPost_ret (v := .agg #[.bool true, .int .i64 room, .slice none 0 0]) (by simp [results, Try.results32, go_sem]) rfl ⟨rfl, (Below.refl _ _).alloc (Nat.le_refl _) _⟩
set_option maxHeartbeats 1000000 in
theorem ref13_New_no (room : Int) (w : World) (h : room < 1 ∨ 65536 < room) :
    Calls Try.prog 32 #[.int .i64 room] w fun e w' => e = .returned (.agg #[.bool false, .int .i64 0, .slice none 0 0]) ∧ Below w.heap.size w w' := by
  rcases h with h | h
  · go_enter Try.func32, Try.ntmps32
    go_wp2
    exact bodyPost_ret (v := .agg #[.bool false, .int .i64 0, .slice none 0 0]) (by simp [results, Try.results32, go_sem]) rfl ⟨rfl, (Below.refl _ _).alloc (Nat.le_refl _) _⟩
  · have h' : ¬ room < 1 := by omega
    go_enter Try.func32, Try.ntmps32
    go_wp2
    exact bodyPost_ret (v := .agg #[.bool false, .int .i64 0, .slice none 0 0]) (by simp [results, Try.results32, go_sem]) rfl ⟨rfl, (Below.refl _ _).alloc (Nat.le_refl _) _⟩

theorem gotten (L : List Sl.It) (lab : Int) (h : Sl.hasB L lab = true) : ∃ h : Sl.pos L lab < L.length, Sl.got L lab = L[Sl.pos L lab].2 := by
  unfold Sl.hasB at h
  cases hx : L[Sl.pos L lab]? with
  | none => rw [hx] at h; cases h
  | some x =>
    obtain ⟨hlt, rfl⟩ := List.getElem?_eq_some_iff.1 hx
    exact ⟨hlt, by unfold Sl.got; rw [hx]⟩

/-- a label's value -/
def getW (M : List Sl.It) (lab : Int) : Int := if Sl.hasB M lab = true then Sl.got M lab else 0
set_option maxHeartbeats 1000000 in
theorem ref13_Get (is : Bool) (room : Int) (L : List Sl.It) (hl : L.length ≤ 1073741824) (lab : Int) (v : Value) (w : World) (hv : SlR w 2 encIt v L) :
    Calls Try.prog 38 #[.agg #[.bool is, .int .i64 room, v], .int .i64 lab] w fun e w' => e = .returned (.tuple #[.int .i64 (getW L lab), .bool (Sl.hasB L lab)]) ∧ Below w.heap.size w w' := by
  have hba : Below w.heap.size w (w.alloc (.cells #[.bool is, .int .i64 room, v] 40)) := (Below.refl _ _).alloc (Nat.le_refl _) _
  have HF := Lib.hid (ref13_find L hl lab v _ (hv.below hba (Nat.le_refl _)))
  have hv' := hv
  obtain ⟨p, cap, rfl, hc1, hc2, hR⟩ := hv'
  have HBA := Lib.hid hba
  cases hh : Sl.hasB L lab
  · have HH := Lib.hid hh
    have HG : Hid (getW L lab = 0) := Lib.hid (by unfold getW; rw [hh]; rfl)
    clear hh hba hv hc1 hc2 hR
    go_enter Try.func38, Try.ntmps38
    go_wp2_with fail
    refine HF.out.mono ?_
    rintro e w2 ⟨rfl, hb⟩
    rw [HH.out]
    go_wp2
    go_ret2
    exact ⟨by rw [HG.out]; rfl, HBA.out.trans (hb.mono (by simp))⟩
  · obtain ⟨hlt, hgot⟩ := gotten L lab hh
    have HH := Lib.hid hh
    have hG : getW L lab = L[Sl.pos L lab].2 := by unfold getW; rw [hh]; exact hgot
    obtain ⟨b, off, rfl, hb, h3⟩ := hR.at hlt
    have x1 : w.cell? ⟨b, off + Sl.pos L lab * 2 + 1, none⟩ = some (.int .i64 L[Sl.pos L lab].2) := h3 1 _ rfl
    obtain ⟨y, hy⟩ : ∃ y, y = L[Sl.pos L lab].2 := ⟨_, rfl⟩
    rw [← hy] at x1 hG hgot
    clear hy h3
    have HG := Lib.hid hG
    have HX := Lib.hid x1
    clear hG
    unfold FindIs at HF
    rw [hh] at HF
    generalize Sl.pos L lab = k at HF HX hlt x1
    have HB := Lib.hid hb
    clear hh hba hv hR hgot x1
    go_enter Try.func38, Try.ntmps38
    go_wp2_with fail
    refine HF.out.mono ?_
    rintro e w2 ⟨rfl, hb2⟩
    have q := (hb2.cell (p := ⟨w.heap.size, 2, none⟩) (by simp)).trans ((Blk.new w _ _).cell 2)
    simp at q
    have x1 := (hb2.cell (p := ⟨b, off + k * 2 + 1, none⟩) (by have := HB.out; simp; omega)).trans ((HBA.out.cell (p := ⟨b, off + k * 2 + 1, none⟩) HB.out).trans HX.out)
    go_wp2
    go_ret2
    exact ⟨by rw [HG.out]; rfl, HBA.out.trans (hb2.mono (by simp))⟩
end Go.Proofs.Ytcioiiobjfblbaa
