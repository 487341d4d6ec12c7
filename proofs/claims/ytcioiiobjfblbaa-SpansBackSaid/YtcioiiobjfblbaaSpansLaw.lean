/- The laws of layer 11: awake first. -/
import Derived.Test.YtcioiiobjfblbaaSpansCut
namespace Go.Proofs.Ytcioiiobjfblbaa
set_option linter.unusedVariables false
set_option linter.unusedSimpArgs false
open Go.RowKit Go.Shelf Go.Proofs

theorem slr_lit {α : Type} {enc : α → List Value} {k : Nat} (hk : ∀ x, (enc x).length = k) (w : World) (e : TypeId) (xs : List α) (hl : xs.length ≤ 1048576) (cs : Array Value) (hcs : cs = (flat enc xs).toArray) :
    SlR (w.alloc (.cells cs e)) k enc (.slice (some ⟨w.heap.size, 0, none⟩) xs.length xs.length) xs := by
  subst hcs
  refine ⟨_, _, rfl, Nat.le_refl _, by omega, (fun h => by cases h), fun a ha => ?_⟩
  cases ha
  refine ⟨rfl, by simp, fun i x hx j u hu => ?_⟩
  have h := cell_new_list w (flat enc xs) e (i * k + j) u (flat_at hk hx hu)
  have hadd : (⟨w.heap.size, 0, none⟩ : Addr).add (i * k + j) = ⟨w.heap.size, 0 + i * k + j, none⟩ := by unfold Addr.add; split <;> simp_all [Nat.add_assoc]
  rw [hadd] at h
  exact h

def l0 : List Sp.S := [(20, 29), (16, 19), (5, 4)]

/-- what every law of this layer keeps at hand: its rows, one boxed span, and that nothing older changed -/
structure St (w : World) (v : Value) (l : List Sp.S) (b : Nat) (s : Sp.S) (W : World) : Prop where
  row : SlR W 2 encSp v l
  lo : W.cell? ⟨b, 0, none⟩ = some (.int .i64 s.1)
  hi : W.cell? ⟨b, 1, none⟩ = some (.int .i64 s.2)
  lt : b < W.heap.size
  below : Below w.heap.size w W

theorem St.next {w : World} {v : Value} {l : List Sp.S} {b : Nat} {s : Sp.S} {W W' : World} (h : St w v l b s W) (hb : Below W.heap.size W W') : St w v l b s W' :=
  ⟨h.row.below hb (Nat.le_refl _), ((bcell hb).1 _ _ h.lt).trans h.lo, ((bcell hb).1 _ _ h.lt).trans h.hi, Nat.lt_of_lt_of_le h.lt hb.size, h.below.trans (hb.mono h.below.size)⟩

theorem belowA (W : World) (o : Obj) : Below W.heap.size W (W.alloc o) := (Below.refl W.heap.size _).alloc (Nat.le_refl _) _
theorem belowA2 {W W' : World} {o : Obj} (h : Below (W.alloc o).heap.size (W.alloc o) W') : Below W.heap.size W W' := (belowA W o).trans (h.mono (by simp))

set_option maxRecDepth 100000 in
set_option maxHeartbeats 8000000 in
theorem law11_awake (w : World) : Calls Try.prog 11 #[] w fun e w' => e = .returned (.bool true) ∧ Below w.heap.size w w' := by
  have hb1 : Below w.heap.size w (w.alloc (.cells #[.int .i64 20, .int .i64 29, .int .i64 16, .int .i64 19, .int .i64 5, .int .i64 4] 24)) := (Below.refl _ _).alloc (Nat.le_refl _) _
  have hs1 : SlR (w.alloc (.cells #[.int .i64 20, .int .i64 29, .int .i64 16, .int .i64 19, .int .i64 5, .int .i64 4] 24)) 2 encSp (.slice (some ⟨w.heap.size, 0, none⟩) 3 3) l0 := slr_lit encSp_len w _ l0 (by decide) _ rfl
  go_enter Try.func11, Try.ntmps11
  go_wp2_with fail
  refine (spans_First l0 (by decide) 14 (by omega) (by omega) _ _ hs1).mono ?_
  rintro e w2 ⟨rfl, hb2⟩
  have hs2 := hs1.below hb2 (Nat.le_refl _)
  have hB2 := hb1.trans (hb2.mono hb1.size)
  rw [show Sp.first l0 14 = ((16, 29), true) by decide]
  simp only
  clear hb2 hs1 hb1
  go_wp2_with fail
  refine (spans_Norm l0 (by decide) _ _ (hs2.below ((Below.refl w2.heap.size _).alloc (Nat.le_refl _) _) (Nat.le_refl _))).mono ?_
  rintro e w3 ⟨v3, rfl, ho3, hb3⟩
  obtain ⟨hc0, hc1, hz, hbA⟩ := box2 hb3
  have h3 : St w (.slice (some ⟨w.heap.size, 0, none⟩) 3 3) l0 w2.heap.size (16, 29) w3 := ⟨hs2.below hbA (Nat.le_refl _), hc0, hc1, hz, hB2.trans (hbA.mono hB2.size)⟩
  have hN := SlR.of_owns encSp_len ho3
  clear hs2 hB2 ho3 hb3 hbA hc0 hc1 hz
  go_wp2_with fail
  refine (ref_Same (Sp.norm l0) [(16, 29)] _ _ _ (by decide) (hN.below (belowA w3 _) (Nat.le_refl _)) (slr_lit encSp_len w3 _ [(16, 29)] (by decide) _ rfl)).mono ?_
  rintro e w4 ⟨rfl, hb4⟩
  have h4 := h3.next (belowA2 hb4)
  rw [show decide (Sp.norm l0 = [(16, 29)]) = true by decide]
  clear h3 hb4 hN
  go_wp2_with fail
  refine (spans_Cut l0 (18, 24) _ _ (by decide) h4.row).mono ?_
  rintro e w5 ⟨v5, rfl, ho5, hb5⟩
  have h5 := h4.next hb5
  have hN := SlR.of_owns encSp_len ho5
  clear h4 hb5 ho5
  go_wp2_with fail
  refine (ref_Same (Sp.cut l0 (18, 24)) [(16, 17), (25, 29)] _ _ _ (by decide) (hN.below (belowA w5 _) (Nat.le_refl _)) (slr_lit encSp_len w5 _ [(16, 17), (25, 29)] (by decide) _ rfl)).mono ?_
  rintro e w6 ⟨rfl, hb6⟩
  have h6 := h5.next (belowA2 hb6)
  rw [show decide (Sp.cut l0 (18, 24) = [(16, 17), (25, 29)]) = true by decide]
  clear h5 hb6 hN
  go_wp2_with fail
  refine (spans_Count l0 (by decide) _ _ h6.row).mono ?_
  rintro e w7 ⟨rfl, hb7⟩
  have h7 := h6.next hb7
  rw [show Sp.count l0 = 14 by decide]
  clear h6 hb7
  have hc0 := h7.lo
  have hc1 := h7.hi
  go_wp2_with fail
  clear hc0 hc1
  refine (spans_Longest l0 (by decide) _ _ h7.row).mono ?_
  rintro e w8 ⟨rfl, hb8⟩
  have h8 := h7.next hb8
  rw [show Sp.longest l0 = 14 by decide]
  clear h7 hb8
  go_wp2_with fail
  refine (spans_Has l0 (by decide) (17, 21) _ _ h8.row).mono ?_
  rintro e w9 ⟨rfl, hb9⟩
  have h9 := h8.next hb9
  rw [show Sp.has l0 (17, 21) = true by decide]
  clear h8 hb9
  go_wp2_with fail
  refine (spans_Meets l0 (by decide) (29, 40) _ _ h9.row).mono ?_
  rintro e w10 ⟨rfl, hb10⟩
  have h10 := h9.next hb10
  rw [show Sp.meets l0 (29, 40) = true by decide]
  clear h9 hb10
  go_wp2_with fail
  refine (spans_Add l0 (by decide) (40, 40) _ _ h10.row).mono ?_
  rintro e w11 ⟨v11, rfl, ho11, hb11⟩
  have h11 := h10.next hb11
  obtain ⟨p, cap, rfl, hq1, hq2, hq3⟩ := owns_sp ho11
  rw [show (Sp.add l0 (40, 40)).length = 2 by decide]
  clear h10 hb11 ho11 hq3
  go_wp2_with fail
  go_ret
  exact ⟨rfl, h11.below⟩
end Go.Proofs.Ytcioiiobjfblbaa
