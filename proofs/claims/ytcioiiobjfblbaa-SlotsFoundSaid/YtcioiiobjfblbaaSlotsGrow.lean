/- slots.New; slots.grow: a greater table, with what is there put in anew. -/
import Derived.Test.YtcioiiobjfblbaaSlotsFns2
import Derived.StillTailTactics
namespace Go.Proofs.Ytcioiiobjfblbaa
set_option linter.unusedVariables false
set_option linter.unusedSimpArgs false
open Go.RowKit Go.Shelf Go.Proofs

/-- n slots that were never used -/
def zeros (n : Nat) : Array Value := (flat encSlt (List.replicate n (0, 0, 0))).toArray
theorem zeros_made (n : Nat) : madeCells (Value.cells (.agg #[.int .i64 0, .int .i64 0, .int .i64 0])) (n * 3) = zeros n := by
  have hc : Value.cells (.agg #[.int .i64 0, .int .i64 0, .int .i64 0]) = #[.int .i64 0, .int .i64 0, .int .i64 0] := by simp [Value.cells]
  rw [hc]
  unfold madeCells zeros
  apply Array.toList_inj.1
  apply List.ext_getElem?
  intro i
  by_cases hi : i < n * 3
  · have hq : i / 3 < n := by omega
    have hx : (List.replicate n ((0, 0, 0) : Sl.Slt))[i / 3]? = some (0, 0, 0) := by simp [hq]
    have hm : ∀ j, j < 3 → (encSlt (0, 0, 0))[j]? = some (.int .i64 0) := by
      intro j hj
      rcases (show j = 0 ∨ j = 1 ∨ j = 2 by omega) with rfl | rfl | rfl <;> rfl
    have hf := flat_at encSlt_len hx (hm (i % 3) (by omega))
    rw [show i / 3 * 3 + i % 3 = i by omega] at hf
    simp only [List.toList_toArray] at hf ⊢
    rw [hf]
    simp [hi]
    rcases (show i % 3 = 0 ∨ i % 3 = 1 ∨ i % 3 = 2 by omega) with h | h | h <;> simp [h]
  · rw [List.getElem?_eq_none (by simp; omega), List.getElem?_eq_none (by simp [flat_length encSlt_len]; omega)]
theorem infoSlot : (Try.prog.info? 74).map (fun i => (i.zero, i.size, i.bytes)) = some (some (.agg #[.int .i64 0, .int .i64 0, .int .i64 0]), 3, 24) := by kernel_rfl
theorem make_slots (n : Nat) (hn : n ≤ 1048576) (w : World) :
    (Instr.makeSlice 69 (.int .i64 (n : Int)) (.int .i64 (n : Int))).run Try.prog w = .ok (.slice (some ⟨w.heap.size, 0, none⟩) n n) (w.alloc (.cells (zeros n) 74)) := by
  obtain ⟨i, hi, hz, hs, hb⟩ := info_parts infoSlot
  have := run_make w 69 74 i _ Try.underlying69 hi hz .i64 .i64 (n : Int) (n : Int) (by omega) (Int.le_refl _) (by rw [hb]; omega) (by omega)
  rw [hs, Int.toNat_natCast, zeros_made] at this
  exact this

/-- a table comes back -/
def RetTab (room : Int) (w : World) (e : Ending) (w' : World) : Prop := ∃ Bt, e = .returned (.pointer (some ⟨Bt, 0, none⟩)) ∧ TabI w.heap.size Bt room [] w' ∧ Below w.heap.size w w'

theorem fresh_tab (n : Nat) (room : Int) (h1 : 1 ≤ room) (h2 : room ≤ 65536) (k0 : Nat) (hn : n = 2 ^ k0) (h8 : 8 ≤ n) (hm : n ≤ 524288) (w : World) :
    TabI w.heap.size (w.heap.size + 1) room [] ((w.alloc (.cells (zeros n) 74)).alloc (.cells #[.int .i64 room, .int .i64 0, .int .i64 0, .slice (some ⟨w.heap.size, 0, none⟩) n n] 71)) := by
  refine ⟨by omega, w.heap.size, n, k0, List.replicate n (0, 0, 0), Nat.le_refl _, ⟨?_, by simpa using hn, by simpa using h8, by simpa using hm, (Sl.Tbl.fresh home n).congr (fun x => by simp), List.Pairwise.nil, fun x hx => by simp at hx, by rw [Sl.usedN_replicate]; omega, by rw [Sl.thereN_replicate]; rfl, h1, h2, by simp; omega⟩⟩
  refine ⟨?_, ?_, ?_, by omega⟩
  · have := Blk.new (w.alloc (.cells (zeros n) 74)) 71 #[.int .i64 room, .int .i64 0, .int .i64 0, .slice (some ⟨w.heap.size, 0, none⟩) n n]
    rw [World.size_alloc] at this
    rw [Sl.usedN_replicate, List.length_replicate]
    exact this
  · exact (Blk.new w 74 (zeros n)).alloc _
  · rw [List.length_replicate]; omega

set_option maxHeartbeats 1000000 in
theorem slots_New (room : Int) (w : World) (h1 : 1 ≤ room) (h2 : room ≤ 65536) : Calls Try.prog 31 #[.int .i64 room] w (RetTab room w) := by
  have hmk : ∀ W, (Instr.makeSlice 69 (.int .i64 8) (.int .i64 8)).run Try.prog W = .ok (.slice (some ⟨W.heap.size, 0, none⟩) 8 8) (W.alloc (.cells (zeros 8) 74)) := fun W => make_slots 8 (by omega) W
  have hf := Lib.hid (fresh_tab 8 room h1 h2 3 rfl (by omega) (by omega) w)
  go_enter Try.func31, Try.ntmps31
  go_wp2
  go_ret
  exact ⟨_, rfl, hf.out, ((Below.refl _ _).alloc (Nat.le_refl _) _).alloc (by simp) _⟩
set_option maxHeartbeats 1000000 in
theorem slots_New_no (room : Int) (w : World) (h1 : room < 1 ∨ 65536 < room) : Calls Try.prog 31 #[.int .i64 room] w fun e w' => e = .returned (.pointer none) ∧ w = w' := by
  rcases h1 with h | h
  · go_enter Try.func31, Try.ntmps31
    go_wp2
    go_ret
    exact ⟨rfl, rfl⟩
  · have h' : ¬ room < 1 := by omega
    go_enter Try.func31, Try.ntmps31
    go_wp2
    go_ret
    exact ⟨rfl, rfl⟩
end Go.Proofs.Ytcioiiobjfblbaa
