/- The space package: Take, Draw. -/
import Derived.Test.YtbeombmblifohaaSpcPut
namespace Go.Proofs.Ytbeombmblifohaa
set_option linter.unusedVariables false
set_option linter.unusedSimpArgs false
open Go.RowKit Go.Shelf Go.Proofs

theorem Left.trans {g : Nat} {r r1 : Option Nat} {m1 : Sp.Spc} {W W1 W2 : World} (h : Frm g r W W1) (ho : Old g W W1) (hn : NewRow W r r1) (k : Left g r1 m1 W1 W2) : Left g r m1 W W2 := by
  obtain ⟨r2, h1, h2, h3, h4⟩ := k
  exact ⟨r2, h1, hn.trans h2 h.size, h.trans h3 hn, ho.trans h4 h.size⟩
/-- an error's number comes back -/
def RetE (g : Nat) (r : Option Nat) (q : Sp.Spc × Int) (W : World) (e : Ending) (w' : World) : Prop := e = .returned (.int .i64 q.2) ∧ Left g r q.1 W w'
/-- a space, and a span's box -/
structure MU (w W : World) (g : Nat) (r : Option Nat) (m : Sp.Spc) (x : Nat) (a b : Int) : Prop where
  sp : SpcR W g r m
  box : Blk W x 27 #[.int .i64 a, .int .i64 b]
  below : Below w.heap.size w W
theorem MU.next {w W W' : World} {g : Nat} {r : Option Nat} {m : Sp.Spc} {x : Nat} {a b : Int} (h : MU w W g r m x a b) (hb : Below W.heap.size W W') : MU w W' g r m x a b := ⟨h.sp.below hb, h.box.below hb h.box.lt, h.below.trans (hb.mono h.below.size)⟩
theorem MU.drew {w W : World} {g : Nat} {r : Option Nat} {m : Sp.Spc} {x : Nat} {a b : Int} (h : MU w W g r m x a b) : MU w W.drew g r m x a b := h.next (Below.refl _ _).drew
abbrev SMU (w : World) (g : Nat) (r : Option Nat) (m : Sp.Spc) (x : Nat) (a b : Int) (W : World) : Prop :=
  W.cell? ⟨x, 0, none⟩ = some (.int .i64 a) ∧ W.cell? ⟨x, 1, none⟩ = some (.int .i64 b) ∧ MU w W g r m x a b
theorem MU.smu {w W : World} {g : Nat} {r : Option Nat} {m : Sp.Spc} {x : Nat} {a b : Int} (h : MU w W g r m x a b) : SMU w g r m x a b W := ⟨h.box.cell 0, h.box.cell 1, h⟩
theorem spc_in' (g : Nat) (a b : Int) (m : Sp.Spc) (hm : Sp.WF m) (r : Option Nat) (w : World) (h : SpcR w g r m) :
    Calls Try.prog 47 #[.pointer (some ⟨g, 0, none⟩), .agg #[.int .i64 a, .int .i64 b]] w fun e w' => e = .returned (.int .i64 (Sp.inR m (a, b))) ∧ Below w.heap.size w w' := by
  obtain ⟨v0, v1, v2, vb, h⟩ := h
  exact spc_in g a b v0 v1 v2 vb m hm r w h
set_option maxRecDepth 100000 in
set_option maxHeartbeats 4000000 in
theorem spc_Take (g : Nat) (r : Option Nat) (m : Sp.Spc) (hm : Sp.WF m) (hl : m.L.length ≤ 1000) (o : Int) (a b : Int) (w : World) (h : SpcR w g r m) :
    Calls Try.prog 24 #[.pointer (some ⟨g, 0, none⟩), .int .i64 o, .agg #[.int .i64 a, .int .i64 b]] w (RetE g r (Sp.takeR m o (a, b)) w) := by
  have P0 : Hid (MU w (w.alloc (.cells #[.int .i64 a, .int .i64 b] 27)) g r m w.heap.size a b) := Lib.hid ⟨h.below (belowA w _), Blk.new _ _ _, belowA w _⟩
  have HS := Lib.hid h
  have OW := Lib.hid fun W => spc_owns a b W
  have IN := Lib.hid fun W h => spc_in' g a b m hm r W h
  by_cases ho : o < 1
  · have hr : Sp.takeR m o (a, b) = (m, 1) := by unfold Sp.takeR; rw [if_pos ho]
    rw [hr]
    clear hr h
    go_enter Try.func24, Try.ntmps24
    go_wp2_with fail
    go_ret
    exact ⟨rfl, Left.same HS.out (belowA w _)⟩
  · cases how : Sp.owns (a, b)
    · have hr : Sp.takeR m o (a, b) = (m, 40) := by unfold Sp.takeR; rw [if_neg ho, if_pos how]
      rw [hr]
      rw [how] at OW
      clear hr h how
      go_enter Try.func24, Try.ntmps24
      go_wp2_with fail
      refine (OW.out _).mono ?_
      rintro e w1 ⟨rfl, hb1⟩
      go_wp2_with fail
      go_ret
      exact ⟨rfl, Left.same HS.out ((belowA w _).trans (hb1.mono (by simp)))⟩
    · have hin : Sp.takeR m o (a, b) = if Sp.inR m (a, b) < 0 then (m, 42) else (Sp.putR m ⟨(a, b), o, Sp.inR m (a, b)⟩, 0) := by unfold Sp.takeR; rw [if_neg ho, if_neg (by rw [how]; simp)]
      rw [hin, ]
      rw [how] at OW
      have hok : ¬ Sp.inR m (a, b) < 0 → 0 ≤ Sp.inR m (a, b) ∧ Sp.inR m (a, b) ≤ 2 ∧ Sp.has (Sp.leftR m (Sp.inR m (a, b))) (a, b) = true := Sp.inR_ok
      have HOK := Lib.hid hok
      generalize Sp.inR m (a, b) = k at IN HOK ⊢
      clear hin h how hok
      by_cases hk : k < 0
      · rw [if_pos hk]
        go_enter Try.func24, Try.ntmps24
        go_wp2_with fail
        refine (OW.out _).mono ?_
        rintro e w1 ⟨rfl, hb1⟩
        have P1 := Lib.hid (P0.out.next hb1)
        clear hb1
        go_wp2_with fail
        have hst := P1.out
        go_region_held3 (fun W => SMU w g r m w.heap.size a b W)
          (first
            | exact MU.smu (by assumption)
            | (go_split_ands; exact MU.smu (by assumption))
            | (go_split_ands; exact MU.smu (MU.drew (by assumption))))
          (first
            | (go_at_call 47; go_split_ands; refine (IN.out _ (MU.sp (by assumption))).mono ?_; rintro e w2 ⟨rfl, hb2⟩; have hst2 := MU.next (w := w) (g := g) (r := r) (m := m) (x := w.heap.size) (a := a) (b := b) (by assumption) hb2))
        have P2 := Lib.hid hst2
        clear hst hst2 hb2
        go_wp2_with fail
        go_ret
        exact ⟨rfl, Left.same HS.out P2.out.below⟩
      · rw [if_neg hk]
        obtain ⟨k0, k2, hh⟩ := HOK.out hk
        have PC := Lib.hid fun W h => spc_put g r m hm hl (a, b) o k k0 k2 (by omega) hh W h
        simp only [encBk] at PC
        clear hh
        go_enter Try.func24, Try.ntmps24
        go_wp2_with fail
        refine (OW.out _).mono ?_
        rintro e w1 ⟨rfl, hb1⟩
        have P1 := Lib.hid (P0.out.next hb1)
        clear hb1
        go_wp2_with fail
        have hst := P1.out
        go_region_held3 (fun W => SMU w g r m w.heap.size a b W)
          (first
            | exact MU.smu (by assumption)
            | (go_split_ands; exact MU.smu (by assumption))
            | (go_split_ands; exact MU.smu (MU.drew (by assumption))))
          (first
            | (go_at_call 47; go_split_ands; refine (IN.out _ (MU.sp (by assumption))).mono ?_; rintro e w2 ⟨rfl, hb2⟩; have hst2 := MU.next (w := w) (g := g) (r := r) (m := m) (x := w.heap.size) (a := a) (b := b) (by assumption) hb2))
        have P2 := Lib.hid hst2
        have c0 := hst2.box.cell 0
        have c1 := hst2.box.cell 1
        clear hst hst2 hb2
        go_wp2_with fail
        refine (PC.out _ P2.out.sp).mono ?_
        rintro e w3 ⟨rfl, hL⟩
        have HL := Lib.hid hL
        clear hL
        go_wp2_with fail
        go_ret
        exact ⟨rfl, Left.trans (Frm.of_below P2.out.below) (Old.of_below HS.out.lt P2.out.below) (NewRow.refl _ _) HL.out⟩
end Go.Proofs.Ytbeombmblifohaa
