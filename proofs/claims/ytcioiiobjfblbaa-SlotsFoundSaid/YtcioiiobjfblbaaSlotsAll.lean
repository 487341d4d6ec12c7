/- slots.Table: All. -/
import Derived.Test.YtcioiiobjfblbaaSlotsPut
import Derived.Test.YtcioiiobjfblbaaSlotsSort
namespace Go.Proofs.Ytcioiiobjfblbaa
set_option linter.unusedVariables false
set_option linter.unusedSimpArgs false
open Go.RowKit Go.Shelf Go.Proofs

set_option maxHeartbeats 1000000 in
theorem slots_All_nil (w : World) : Calls Try.prog 40 #[.pointer none] w fun e w' => e = .returned (.slice none 0 0) ∧ w = w' := by
  go_enter Try.func40, Try.ntmps40
  go_wp2
  go_ret
  exact ⟨rfl, rfl⟩

set_option maxRecDepth 100000 in
set_option maxHeartbeats 4000000 in
theorem slots_All (B Bt : Nat) (room : Int) (M : List Sl.It) (w : World) (hT : TabI B Bt room M w) :
    Calls Try.prog 40 #[.pointer (some ⟨Bt, 0, none⟩)] w (RetRow w.heap.size 57 2 M.length (flat encIt M) w) := by
  obtain ⟨h0, Bs, cap, k0, s, h1, h2⟩ := hT
  have ch := h2.mem.head.cell 3
  simp at ch
  have hhi := h2.hi
  have H2 := Lib.hid h2
  clear h2
  go_enter Try.func40, Try.ntmps40
  go_wp2
  go_loopw [3, 13] (fun o i wr => ∃ k : Nat, i = .int .i64 k ∧ k ≤ s.length ∧ wr.ownsRow w.heap.size 57 2 o (Sl.items (s.take k)).length (flat encIt (Sl.items (s.take k))) ∧ Below w.heap.size w wr) (fun _ i _ => s.length - (intOf i).toNat)
  case atStart => exact ⟨0, rfl, Nat.zero_le _, World.ownsRow_nil _ _ _ _, Below.refl _ _⟩
  case round =>
    clear ch
    obtain ⟨k, rfl, hk, hrow, hbl⟩ := hrel
    by_cases hlt : k < s.length
    · have hx : s[k]? = some s[k] := List.getElem?_eq_getElem hlt
      obtain ⟨x0, x1, x2⟩ := (H2.out.mem.below hbl (Nat.le_refl _)).slot hx
      have HI := Lib.hid (Sl.items_take hlt)
      have hil := Sl.items_length (s.take k)
      rw [List.length_take] at hil
      obtain ⟨⟨a, lb, v⟩, hxx⟩ : ∃ x, x = s[k] := ⟨_, rfl⟩
      rw [← hxx] at x0 x1 x2
      simp only at x0 x1 x2
      have HX := Lib.hid hxx
      have hsz := hbl.size
      have hba : Below wr.heap.size wr (wr.alloc (.cells #[.int .i64 a, .int .i64 lb, .int .i64 v] 74)) := (Below.refl _ _).alloc (Nat.le_refl _) _
      have HBA : Hid (Below w.heap.size w (wr.alloc (.cells #[.int .i64 a, .int .i64 lb, .int .i64 v] 74))) := Lib.hid (hbl.trans (hba.mono hsz))
      generalize Sl.items (s.take k) = m at hrow HI hil
      obtain ⟨po, co, rfl, ho1, ho2, hRo⟩ := owns_it hrow
      have HRa := Lib.hid (hrow.alloc (.cells #[.int .i64 a, .int .i64 lb, .int .i64 v] 74))
      clear hx hxx hrow hRo hba
      by_cases ha : a = 2
      · subst ha
        have HJ : Hid (Sl.items (s.take (k + 1)) = m ++ [(lb, v)]) := Lib.hid (by rw [HI.out, ← HX.out]; rfl)
        go_wp2_with (at_builtin; refine wpList_appB elemIt rfl (.tmp 20) (.tmp 23) rfl w.heap.size (.slice po m.length co) _ _ rfl HRa.out 1 1 (wr.heap.size + 1) (by simp) [.int .i64 lb, .int .i64 v] rfl rfl (by simp [Value.oneCell']) (by omega) (by simp; omega) ?_; intro v' w2 hown' _ _ hb2)
        exact ⟨⟨k + 1, by simp, by omega, by rw [HJ.out]; simpa [flat_append, flat, encIt] using hown', HBA.out.trans hb2⟩, by simp [intOf]; omega⟩
      · have ea : (a == 2) = false := by simpa using ha
        have HJ : Hid (Sl.items (s.take (k + 1)) = m) := Lib.hid (by rw [HI.out, ← HX.out]; unfold Sl.item1; rw [if_neg ha]; simp)
        go_wp2
        exact ⟨⟨k + 1, by simp, by omega, by rw [HJ.out]; exact HRa.out, HBA.out⟩, by simp [intOf]; omega⟩
    · have hkl : s.take k = s := List.take_of_length_le (by omega)
      rw [hkl] at hrow
      have hil := Sl.items_length s
      have hss := Lib.hid (sortIt (Sl.items s) (by omega) u3 wr w.heap.size hbl.size hrow)
      have HB := Lib.hid hbl
      clear hrow hbl hkl hil
      go_wp2_with fail
      refine hss.out.mono ?_
      rintro e w2 ⟨rfl, d, hp, hsd, hown, hb2⟩
      have hd : d = M := Sl.sorted_eq H2.out.tbl H2.out.rise hp hsd
      subst hd
      go_wp2
      go_ret
      exact ⟨_, rfl, hown, HB.out.trans hb2⟩
end Go.Proofs.Ytcioiiobjfblbaa
