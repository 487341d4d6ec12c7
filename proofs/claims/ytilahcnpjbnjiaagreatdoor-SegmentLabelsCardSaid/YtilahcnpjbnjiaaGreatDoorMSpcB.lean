import Derived.Test.YtilahcnpjbnjiaaGreatDoorMSpcA
/- The space package: Take, Draw. -/
namespace Go.Proofs.YtilahcnpjbnjiaaGreatDoor
set_option linter.unusedVariables false
set_option linter.unusedSimpArgs false
open Go.RowKit Go.Shelf Go.Proofs

theorem Left.trans {g : Nat} {r r1 : Option Nat} {m1 : Sp.Spc} {W W1 W2 : World} (h : Frm g r W W1) (ho : Old g W W1) (hn : NewRow W r r1) (k : Left g r1 m1 W1 W2) : Left g r m1 W W2 := by
  obtain ⟨r2, h1, h2, h3, h4⟩ := k
  exact ⟨r2, h1, hn.trans h2 h.size, h.trans h3 hn, ho.trans h4 h.size⟩
/-- an error's number comes back -/
def RetE (g : Nat) (r : Option Nat) (q : Sp.Spc × Int) (W : World) (e : Ending) (w' : World) : Prop := e = .returned (.int .i64 q.2) ∧ Left g r q.1 W w'
/-- a space, and a span's box -/
structure MU (w W : World) (g : Nat) (r : Option Nat) (m : Sp.Spc) (x : Nat) (a b : Int) : Prop where
  sp : SpcR W g r m
  box : Blk W x 35 #[.int .i64 a, .int .i64 b]
  below : Below w.heap.size w W
theorem MU.next {w W W' : World} {g : Nat} {r : Option Nat} {m : Sp.Spc} {x : Nat} {a b : Int} (h : MU w W g r m x a b) (hb : Below W.heap.size W W') : MU w W' g r m x a b := ⟨h.sp.below hb, h.box.below hb h.box.lt, h.below.trans (hb.mono h.below.size)⟩
theorem MU.drew {w W : World} {g : Nat} {r : Option Nat} {m : Sp.Spc} {x : Nat} {a b : Int} (h : MU w W g r m x a b) : MU w W.drew g r m x a b := h.next (Below.refl _ _).drew
abbrev SMU (w : World) (g : Nat) (r : Option Nat) (m : Sp.Spc) (x : Nat) (a b : Int) (W : World) : Prop :=
  W.cell? ⟨x, 0, none⟩ = some (.int .i64 a) ∧ W.cell? ⟨x, 1, none⟩ = some (.int .i64 b) ∧ MU w W g r m x a b
theorem MU.smu {w W : World} {g : Nat} {r : Option Nat} {m : Sp.Spc} {x : Nat} {a b : Int} (h : MU w W g r m x a b) : SMU w g r m x a b W := ⟨h.box.cell 0, h.box.cell 1, h⟩
theorem spc_in' (g : Nat) (a b : Int) (m : Sp.Spc) (hm : Sp.WF m) (r : Option Nat) (w : World) (h : SpcR w g r m) :
    Calls Tryz.prog 60 #[.pointer (some ⟨g, 0, none⟩), .agg #[.int .i64 a, .int .i64 b]] w fun e w' => e = .returned (.int .i64 (Sp.inR m (a, b))) ∧ Below w.heap.size w w' := by
  obtain ⟨v0, v1, v2, vb, h⟩ := h
  exact spc_in g a b v0 v1 v2 vb m hm r w h
set_option maxRecDepth 100000 in
set_option maxHeartbeats 4000000 in
theorem spc_Take (g : Nat) (r : Option Nat) (m : Sp.Spc) (hm : Sp.WF m) (hl : m.L.length ≤ 1000) (o : Int) (a b : Int) (w : World) (h : SpcR w g r m) :
    Calls Tryz.prog 33 #[.pointer (some ⟨g, 0, none⟩), .int .i64 o, .agg #[.int .i64 a, .int .i64 b]] w (RetE g r (Sp.takeR m o (a, b)) w) := by
  have P0 : Hid (MU w (w.alloc (.cells #[.int .i64 a, .int .i64 b] 35)) g r m w.heap.size a b) := Lib.hid ⟨h.below (belowA w _), Blk.new _ _ _, belowA w _⟩
  have HS := Lib.hid h
  have OW := Lib.hid fun W => spc_owns a b W
  have IN := Lib.hid fun W h => spc_in' g a b m hm r W h
  by_cases ho : o < 1
  · have hr : Sp.takeR m o (a, b) = (m, 1) := by unfold Sp.takeR; rw [if_pos ho]
    rw [hr]
    clear hr h
    go_enter Tryz.func33, Tryz.ntmps33
    go_wp2_with fail
    go_ret
    exact ⟨rfl, Left.same HS.out (belowA w _)⟩
  · cases how : Sp.owns (a, b)
    · have hr : Sp.takeR m o (a, b) = (m, 40) := by unfold Sp.takeR; rw [if_neg ho, if_pos how]
      rw [hr]
      rw [how] at OW
      clear hr h how
      go_enter Tryz.func33, Tryz.ntmps33
      go_wp2_with fail
      refine (OW.out _).mono ?_
      rintro e w1 ⟨rfl, hb1⟩
      go_wp2_with fail
      go_ret
      exact ⟨rfl, Left.same HS.out ((belowA w _).trans (hb1.mono (by simp)))⟩
    · have hin : Sp.takeR m o (a, b) = if Sp.inR m (a, b) < 0 then (m, 42) else (Sp.putR m ⟨(a, b), o, Sp.inR m (a, b)⟩, 0) := by unfold Sp.takeR; rw [if_neg ho, if_neg (by rw [how]; simp)]
      rw [hin, ]
      rw [how] at OW
      have hok : ¬ Sp.inR m (a, b) < 0 → 0 ≤ Sp.inR m (a, b) ∧ Sp.inR m (a, b) ≤ 2 ∧ Sp.has (Sp.leftR m (Sp.inR m (a, b))) (a, b) = true := Sp.inR_ok
      have HOK := Lib.hid hok
      generalize Sp.inR m (a, b) = k at IN HOK ⊢
      clear hin h how hok
      by_cases hk : k < 0
      · rw [if_pos hk]
        go_enter Tryz.func33, Tryz.ntmps33
        go_wp2_with fail
        refine (OW.out _).mono ?_
        rintro e w1 ⟨rfl, hb1⟩
        have P1 := Lib.hid (P0.out.next hb1)
        clear hb1
        go_wp2_with fail
        have hst := P1.out
        go_region_held3 (fun W => SMU w g r m w.heap.size a b W)
          (first
            | exact MU.smu (by assumption)
            | (go_split_ands; exact MU.smu (by assumption))
            | (go_split_ands; exact MU.smu (MU.drew (by assumption))))
          (first
            | (go_at_call 60; go_split_ands; refine (IN.out _ (MU.sp (by assumption))).mono ?_; rintro e w2 ⟨rfl, hb2⟩; have hst2 := MU.next (w := w) (g := g) (r := r) (m := m) (x := w.heap.size) (a := a) (b := b) (by assumption) hb2))
        have P2 := Lib.hid hst2
        clear hst hst2 hb2
        go_wp2_with fail
        go_ret
        exact ⟨rfl, Left.same HS.out P2.out.below⟩
      · rw [if_neg hk]
        obtain ⟨k0, k2, hh⟩ := HOK.out hk
        have PC := Lib.hid fun W h => spc_put g r m hm hl (a, b) o k k0 k2 (by omega) hh W h
        simp only [encBk] at PC
        clear hh
        go_enter Tryz.func33, Tryz.ntmps33
        go_wp2_with fail
        refine (OW.out _).mono ?_
        rintro e w1 ⟨rfl, hb1⟩
        have P1 := Lib.hid (P0.out.next hb1)
        clear hb1
        go_wp2_with fail
        have hst := P1.out
        go_region_held3 (fun W => SMU w g r m w.heap.size a b W)
          (first
            | exact MU.smu (by assumption)
            | (go_split_ands; exact MU.smu (by assumption))
            | (go_split_ands; exact MU.smu (MU.drew (by assumption))))
          (first
            | (go_at_call 60; go_split_ands; refine (IN.out _ (MU.sp (by assumption))).mono ?_; rintro e w2 ⟨rfl, hb2⟩; have hst2 := MU.next (w := w) (g := g) (r := r) (m := m) (x := w.heap.size) (a := a) (b := b) (by assumption) hb2))
        have P2 := Lib.hid hst2
        have c0 := hst2.box.cell 0
        have c1 := hst2.box.cell 1
        clear hst hst2 hb2
        go_wp2_with fail
        refine (PC.out _ P2.out.sp).mono ?_
        rintro e w3 ⟨rfl, hL⟩
        have HL := Lib.hid hL
        clear hL
        go_wp2_with fail
        go_ret
        exact ⟨rfl, Left.trans (Frm.of_below P2.out.below) (Old.of_below HS.out.lt P2.out.below) (NewRow.refl _ _) HL.out⟩
end Go.Proofs.YtilahcnpjbnjiaaGreatDoor

/- The space package: Draw. -/
namespace Go.Proofs.YtilahcnpjbnjiaaGreatDoor
set_option linter.unusedVariables false
set_option linter.unusedSimpArgs false
open Go.RowKit Go.Shelf Go.Proofs

def RetD (g : Nat) (r : Option Nat) (q : Sp.Spc × Sp.S × Int) (W : World) (e : Ending) (w' : World) : Prop := e = .returned (.tuple #[.agg #[.int .i64 q.2.1.1, .int .i64 q.2.1.2], .int .i64 q.2.2]) ∧ Left g r q.1 W w'
theorem spc_Area' (g : Nat) (k : Int) (m : Sp.Spc) (hm : Sp.WF m) (r : Option Nat) (w : World) (h : SpcR w g r m) :
    Calls Tryz.prog 22 #[.pointer (some ⟨g, 0, none⟩), .int .i64 k] w (RetSB (Sp.areaR m k) w) := by
  obtain ⟨v0, v1, v2, vb, h⟩ := h
  exact spc_Area g k v0 v1 v2 vb m hm w h.1
/-- a call that only reads leaves the space and the result's cell -/
structure DU (w W : World) (g : Nat) (r : Option Nat) (m : Sp.Spc) : Prop where
  sp : SpcR W g r m
  res : Blk W w.heap.size 35 #[.int .i64 0, .int .i64 0]
  below : Below w.heap.size w W
theorem DU.next {w W W' : World} {g : Nat} {r : Option Nat} {m : Sp.Spc} (h : DU w W g r m) (hb : Below W.heap.size W W') : DU w W' g r m := ⟨h.sp.below hb, h.res.below hb h.res.lt, h.below.trans (hb.mono h.below.size)⟩
theorem SpcR.slt {W : World} {g : Nat} {r : Option Nat} {m : Sp.Spc} (h : SpcR W g r m) : ∀ k : Nat, k ≤ 2 → ∀ a n c, W.cell? ⟨g, k, none⟩ = some (.slice (some a) n c) → a.block < W.heap.size := by
  obtain ⟨V, vb, G⟩ := SpcG.of h
  intro k hk a n c hc
  have h1 := G.cell (k := (k : Int)) (by omega) (by omega)
  rw [Int.toNat_natCast, hc] at h1
  obtain ⟨p, cap, hv, _, _, hR⟩ := (G.left k (by omega) (by omega)).1
  rw [← Option.some.inj h1] at hv
  cases hv
  exact hR.lt
theorem Frm.setNew {g : Nat} {r : Option Nat} {W W1 : World} (h : Frm g r W W1) {b0 : Nat} (hb : W.heap.size ≤ b0) (i : Nat) (v : Value) : Frm g r W (W1.setCell ⟨b0, i, none⟩ v) :=
  ⟨h.os, h.tape, h.output, Nat.le_trans h.size (by simp), fun k hk hg hr => (Below.heap_setCell W1 _ v k (by show k ≠ b0; omega)).trans (h.block k hk hg hr)⟩
theorem Old.setNew {g : Nat} {W W1 : World} (h : Old g W W1) {b0 : Nat} (hb : g ≠ b0) (i : Nat) (v : Value) : Old g W (W1.setCell ⟨b0, i, none⟩ v) := fun k hk a n c hc =>
  h k hk a n c (by rw [← hc]; exact (World.cell?_of_block (a := ⟨g, k, none⟩) (Below.heap_setCell W1 _ v g hb)).symm)
theorem infoSp : (Tryz.prog.info? 35).map (·.size) = some 2 := by kernel_rfl
theorem results_cell2 {P : Program} {fn : Func} {p q : Tmp} {ty : TypeId} (h : fn.results = #[.cell p ty, .tmp q]) (tmps : Array Value) (w : World) (g : Nat) (t : TypeId) (cs : Array Value) (fr : Nat × Nat) (d : TypeDesc)
    (hp : tmps.getD p undef = .pointer (some ⟨g, 0, none⟩)) (hg : w.heap[g]? = some (.cells cs t fr))
    (hu : P.underlying ty = some d) (hd : (match d with | .struct _ | .array _ _ => true | _ => false) = true) (hi : (P.info? ty).map (·.size) = some cs.size) :
    (results fn tmps).run P w = .ok (.tuple #[.agg cs, tmps.getD q undef]) w := by
  have hp' : tmps[p]?.getD undef = .pointer (some ⟨g, 0, none⟩) := by simpa using hp
  simp [results, h, hp', asAddr, run_loadVar_row w g t ty cs fr d hg hu hd hi]
theorem Blk.two {w : World} {g : Nat} {t : TypeId} {x0 x1 : Value} (h : Blk w g t #[x0, x1]) (y0 y1 : Value) : Blk ((w.setCell ⟨g, 0, none⟩ y0).setCell ⟨g, 1, none⟩ y1) g t #[y0, y1] := by
  simpa using (h.set 0 y0).set 1 y1
end Go.Proofs.YtilahcnpjbnjiaaGreatDoor

/- The space package: Free. -/
namespace Go.Proofs.YtilahcnpjbnjiaaGreatDoor
set_option linter.unusedVariables false
set_option linter.unusedSimpArgs false
open Go.RowKit Go.Shelf Go.Proofs

/-- Free, between two calls -/
structure FU (w W : World) (g : Nat) (r : Option Nat) (F : Int → List Sp.S) (V : Int → Value) (a1 a2 : Sp.S) (L : List Sp.Bk) (vb : Value) (o a b : Int) : Prop where
  G : SpcG W g r F V a1 a2 L vb
  bo : Blk W w.heap.size 3 #[.int .i64 o]
  bs : Blk W (w.heap.size + 1) 35 #[.int .i64 a, .int .i64 b]
  frm : Frm g r w W
section
variable {w W : World} {g : Nat} {r : Option Nat} {F : Int → List Sp.S} {V : Int → Value} {a1 a2 : Sp.S} {L : List Sp.Bk} {vb : Value} {o a b : Int}
theorem FU.next (h : FU w W g r F V a1 a2 L vb o a b) {W' : World} (hb : Below W.heap.size W W') : FU w W' g r F V a1 a2 L vb o a b :=
  ⟨h.G.below hb, h.bo.below hb h.bo.lt, h.bs.below hb h.bs.lt, h.frm.trans (Frm.of_below hb) (NewRow.refl _ _)⟩
theorem FU.drew (h : FU w W g r F V a1 a2 L vb o a b) : FU w W.drew g r F V a1 a2 L vb o a b := h.next (Below.refl _ _).drew
theorem FU.init (h : SpcG w g r F V a1 a2 L vb) : FU w ((w.alloc (.cells #[.int .i64 o] 3)).alloc (.cells #[.int .i64 a, .int .i64 b] 35)) g r F V a1 a2 L vb o a b := by
  have hb : Below w.heap.size w ((w.alloc (.cells #[.int .i64 o] 3)).alloc (.cells #[.int .i64 a, .int .i64 b] 35)) := (belowA w _).alloc (by simp) _
  refine ⟨h.below hb, (Blk.new _ _ _).alloc _, ?_, Frm.of_below hb⟩
  have h2 := Blk.new (w.alloc (.cells #[.int .i64 o] 3)) 35 #[.int .i64 a, .int .i64 b]
  rw [World.size_alloc] at h2
  exact h2
theorem FU.put (h : FU w W g r F V a1 a2 L vb o a b) {k : Int} (h0 : 0 ≤ k) (h2 : k ≤ 2) {l : List Sp.S} {W1 : World} {v : Value} (ho : W1.ownsRow W.heap.size 35 2 v l.length (flat encSp l)) (hb : Below W.heap.size W W1) (hg : g < w.heap.size) :
    FU w (W1.setCell ⟨g, k.toNat, none⟩ v) g r (upd F k l) (upd V k v) a1 a2 L vb o a b := by
  have hn := h.next hb
  exact ⟨hn.G.put h0 h2 ho (Nat.lt_of_lt_of_le hg h.frm.size) (fun b hb => (h.G.rowlt b hb).2), hn.bo.other _ _ (show w.heap.size ≠ g by omega), hn.bs.other _ _ (show w.heap.size + 1 ≠ g by omega), hn.frm.trans (Frm.setCell g r W1 _ _) (NewRow.refl _ _)⟩
end
abbrev SFU (w : World) (g gb i : Nat) (vb : Value) (ar a b : Int) (W : World) : Prop :=
  W.cell? ⟨w.heap.size + 1, 0, none⟩ = some (.int .i64 a) ∧ W.cell? ⟨w.heap.size + 1, 1, none⟩ = some (.int .i64 b) ∧ W.cell? ⟨g, 9, none⟩ = some vb ∧ W.cell? ⟨gb, i * 4 + 3, none⟩ = some (.int .i64 ar)
theorem FU.sfu {w W : World} {g : Nat} {r : Option Nat} {F : Int → List Sp.S} {V : Int → Value} {a1 a2 : Sp.S} {L : List Sp.Bk} {gb n cap : Nat} {o a b : Int} (h : FU w W g r F V a1 a2 L (.slice (some ⟨gb, 0, none⟩) n cap) o a b) {i : Nat} {c : Sp.Bk} (hc : L[i]? = some c) : SFU w g gb i (.slice (some ⟨gb, 0, none⟩) n cap) c.area a b W := by
  obtain ⟨p, cp, hv, _, _, hR⟩ := SlR.of_owns encBk_len h.G.own
  cases hv
  obtain ⟨h1, h2⟩ := List.getElem?_eq_some_iff.1 hc
  have h3 := hR.in h1 3 (.int .i64 c.area) (by rw [h2]; rfl)
  rw [Nat.zero_add] at h3
  exact ⟨h.bs.cell 0, h.bs.cell 1, h.G.blk.cell 9, h3⟩
end Go.Proofs.YtilahcnpjbnjiaaGreatDoor

/- The space package: Carve. -/
namespace Go.Proofs.YtilahcnpjbnjiaaGreatDoor
set_option linter.unusedVariables false
set_option linter.unusedSimpArgs false
open Go.RowKit Go.Shelf Go.Proofs

/-- Carve and Close, between two calls: the space, a span's box x, and what has turned since w -/
structure CU (w W : World) (g : Nat) (r : Option Nat) (F : Int → List Sp.S) (V : Int → Value) (a1 a2 : Sp.S) (L : List Sp.Bk) (vb : Value) (x : Nat) (a b : Int) : Prop where
  G : SpcG W g r F V a1 a2 L vb
  bs : Blk W x 35 #[.int .i64 a, .int .i64 b]
  frm : Frm g r w W
section
variable {w W : World} {g : Nat} {r : Option Nat} {F : Int → List Sp.S} {V : Int → Value} {a1 a2 : Sp.S} {L : List Sp.Bk} {vb : Value} {x : Nat} {a b : Int}
theorem CU.next (h : CU w W g r F V a1 a2 L vb x a b) {W' : World} (hb : Below W.heap.size W W') : CU w W' g r F V a1 a2 L vb x a b :=
  ⟨h.G.below hb, h.bs.below hb h.bs.lt, h.frm.trans (Frm.of_below hb) (NewRow.refl _ _)⟩
theorem CU.drew (h : CU w W g r F V a1 a2 L vb x a b) : CU w W.drew g r F V a1 a2 L vb x a b := h.next (Below.refl _ _).drew
theorem CU.put (h : CU w W g r F V a1 a2 L vb x a b) {k : Int} (h0 : 0 ≤ k) (h2 : k ≤ 2) {l : List Sp.S} {W1 : World} {v : Value} (ho : W1.ownsRow W.heap.size 35 2 v l.length (flat encSp l)) (hb : Below W.heap.size W W1) (hg : g < w.heap.size) (hx : x ≠ g) :
    CU w (W1.setCell ⟨g, k.toNat, none⟩ v) g r (upd F k l) (upd V k v) a1 a2 L vb x a b := by
  have hn := h.next hb
  exact ⟨hn.G.put h0 h2 ho (Nat.lt_of_lt_of_le hg h.frm.size) (fun b hb => (h.G.rowlt b hb).2), hn.bs.other _ _ hx, hn.frm.trans (Frm.setCell g r W1 _ _) (NewRow.refl _ _)⟩
theorem CU.lay (h : CU w W g r F V a1 a2 L vb x a b) {k : Int} (hk : k = 1 ∨ k = 2) (c d : Int) (hx : x ≠ g) :
    CU w ((W.setCell ⟨g, 3 + k.toNat * 2, none⟩ (.int .i64 c)).setCell ⟨g, 3 + k.toNat * 2 + 1, none⟩ (.int .i64 d)) g r F V (if k = 1 then (c, d) else a1) (if k = 1 then a2 else (c, d)) L vb x a b :=
  ⟨h.G.lay hk c d, (h.bs.other _ _ hx).other _ _ hx, (h.frm.trans (Frm.setCell g r W _ _) (NewRow.refl _ _)).trans (Frm.setCell g r _ _ _) (NewRow.refl _ _)⟩
end
abbrev SCU (x : Nat) (a b : Int) (W : World) : Prop := W.cell? ⟨x, 0, none⟩ = some (.int .i64 a) ∧ W.cell? ⟨x, 1, none⟩ = some (.int .i64 b)
theorem CU.scu {w W : World} {g : Nat} {r : Option Nat} {F : Int → List Sp.S} {V : Int → Value} {a1 a2 : Sp.S} {L : List Sp.Bk} {vb : Value} {x : Nat} {a b : Int} (h : CU w W g r F V a1 a2 L vb x a b) : SCU x a b W := ⟨h.bs.cell 0, h.bs.cell 1⟩
abbrev SCV (g x : Nat) (a b : Int) (v : Value) (W : World) : Prop := W.cell? ⟨x, 0, none⟩ = some (.int .i64 a) ∧ W.cell? ⟨x, 1, none⟩ = some (.int .i64 b) ∧ W.cell? ⟨g, 0, none⟩ = some v
theorem CU.scv {w W : World} {g : Nat} {r : Option Nat} {F : Int → List Sp.S} {V : Int → Value} {a1 a2 : Sp.S} {L : List Sp.Bk} {vb : Value} {x : Nat} {a b : Int} (h : CU w W g r F V a1 a2 L vb x a b) : SCV g x a b (V 0) W := ⟨h.bs.cell 0, h.bs.cell 1, h.G.blk.cell 0⟩
/-- the slices that stand in the end -/
theorem Old.of_upd {w W : World} {g : Nat} {r : Option Nat} {F : Int → List Sp.S} {V V' : Int → Value} {a1 a2 : Sp.S} {L : List Sp.Bk} {vb : Value} (hG : SpcG W g r F V' a1 a2 L vb) (hV : ∀ j : Int, 0 ≤ j → j ≤ 2 → w.cell? ⟨g, j.toNat, none⟩ = some (V j)) (hn : ∀ j : Int, 0 ≤ j → j ≤ 2 → V' j = V j ∨ ∀ a n c, V' j = .slice (some a) n c → w.heap.size ≤ a.block) : Old g w W := fun j hj q n d hd => by
  have hcj := hG.cell (k := (j : Int)) (by omega) (by omega)
  rw [Int.toNat_natCast, hd] at hcj
  rcases hn j (by omega) (by omega) with h | h
  · refine Or.inr ⟨j, q, n, d, hj, ?_, rfl⟩
    have := hV j (by omega) (by omega)
    rw [Int.toNat_natCast, ← h, ← Option.some.inj hcj] at this
    exact this
  · exact Or.inl (h q n d (Option.some.inj hcj).symm)
set_option maxRecDepth 100000 in
set_option maxHeartbeats 8000000 in
theorem spc_Carve (g : Nat) (r : Option Nat) (m : Sp.Spc) (hm : Sp.WF m) (k a b : Int) (w : World) (h : SpcR w g r m) :
    Calls Tryz.prog 31 #[.pointer (some ⟨g, 0, none⟩), .int .i64 k, .agg #[.int .i64 a, .int .i64 b]] w (RetE g r (Sp.carveR m k (a, b)) w) := by
  have HS := Lib.hid h
  have hgl := h.lt
  have IS := Lib.hid fun W => spc_is g k W
  have AR := Lib.hid fun W h => spc_Area' g k m hm r W h
  have OW := Lib.hid fun W => spc_owns a b W
  obtain ⟨V, vb, hG⟩ := SpcG.of h
  have HVC := Lib.hid fun (j : Int) (j0 : 0 ≤ j) (j2 : j ≤ 2) => hG.cell j0 j2
  have P0 : Hid (CU w (w.alloc (.cells #[.int .i64 a, .int .i64 b] 35)) g r (Sp.leftR m) V m.a1 m.a2 m.L vb w.heap.size a b) := Lib.hid ⟨hG.below (belowA w _), Blk.new _ _ _, Frm.of_below (belowA w _)⟩
  by_cases hk : k < 1 ∨ 2 < k
  · have hr : Sp.carveR m k (a, b) = (m, 1) := by unfold Sp.carveR; rw [if_pos hk]
    have e : (decide (0 < k) && decide (k < 3)) = false := by simp; omega
    rw [hr]
    rw [e] at IS
    clear e hr hk hG h
    go_enter Tryz.func31, Tryz.ntmps31
    go_wp2_with fail
    refine (IS.out _).mono ?_
    rintro e w1 ⟨rfl, hw1⟩
    subst hw1
    go_wp2_with fail
    go_ret
    exact ⟨rfl, Left.same HS.out (belowA w _)⟩
  · have e : (decide (0 < k) && decide (k < 3)) = true := by simp; omega
    rw [e] at IS
    clear e
    obtain ⟨ax, ay, ai, har, hai⟩ : ∃ ax ay ai, Sp.areaR m k = ((ax, ay), ai) ∧ (ai = true ↔ (m.at k).1 ≠ 0) := by
      by_cases hz : (m.at k).1 = 0
      · exact ⟨0, 0, false, by unfold Sp.areaR; rw [if_pos (by omega)], by simp [hz]⟩
      · exact ⟨(m.at k).1, (m.at k).2, true, by unfold Sp.areaR; rw [if_neg (by omega)], by simp [hz]⟩
    rw [har] at AR
    clear har
    cases how : Sp.owns (a, b)
    · have hr : Sp.carveR m k (a, b) = (m, 40) := by unfold Sp.carveR; rw [if_neg hk, if_pos how]
      rw [hr]
      rw [how] at OW
      clear hr hk how hai hG h
      go_enter Tryz.func31, Tryz.ntmps31
      go_wp2_with fail
      refine (IS.out _).mono ?_
      rintro e w1 ⟨rfl, hw1⟩
      subst hw1
      go_wp2_with fail
      refine (AR.out _ (P0.out.G.spcR fun _ _ _ => rfl)).mono ?_
      rintro e w1 ⟨rfl, hb1⟩
      have P1 := (P0.out.next hb1).next (belowA _ (.cells #[.int .i64 ax, .int .i64 ay] 35))
      have HP1 := Lib.hid P1
      have c0 := fun o => ((P0.out.next hb1).bs.alloc o).cell 0
      have c1 := fun o => ((P0.out.next hb1).bs.alloc o).cell 1
      have HB1 := Lib.hid ((belowA w (.cells #[.int .i64 a, .int .i64 b] 35)).trans (hb1.mono (by simp)))
      simp only [List.getElem?_toArray, List.getElem?_cons_zero, List.getElem?_cons_succ] at c0 c1
      clear hb1 P1
      go_wp2_with fail
      refine (OW.out _).mono ?_
      rintro e w2 ⟨rfl, hb2⟩
      have HB2 := Lib.hid ((HB1.out.alloc HB1.out.size (.cells #[.int .i64 ax, .int .i64 ay] 35)).trans (hb2.mono (by have := HB1.out.size; simp; omega)))
      clear hb2
      go_wp2_with fail
      go_ret
      exact ⟨rfl, Left.same HS.out HB2.out⟩
    · rw [how] at OW
      have hown := how
      clear how
      cases ai
      · have hz : (m.at k).1 = 0 := by
          by_cases hz : (m.at k).1 = 0
          · exact hz
          · have := hai.2 hz; cases this
        have hd : Sp.carveR m k (a, b) = if Sp.has (Sp.leftR m 0) (a, b) = false then (m, 42) else (m.lay k (a, b), 0) := by unfold Sp.carveR; rw [if_neg hk, if_neg (by rw [hown]; simp), if_neg (by rw [hz]; simp)]
        have hll := Sp.left_len hm 0
        have HA := Lib.hid fun (W : World) (h : SlR W 2 encSp (V 0) (Sp.leftR m 0)) => spans_Has (Sp.leftR m 0) (by omega) (a, b) (V 0) W h
        rw [hd]
        cases hh : Sp.has (Sp.leftR m 0) (a, b)
        all_goals rw [hh] at HA
        · rw [if_pos rfl]
          clear hd hh hz hai hown hG h hk hll
          go_enter Tryz.func31, Tryz.ntmps31
          go_wp2_with fail
          refine (IS.out _).mono ?_
          rintro e w1 ⟨rfl, hw1⟩
          subst hw1
          go_wp2_with fail
          refine (AR.out _ (P0.out.G.spcR fun _ _ _ => rfl)).mono ?_
          rintro e w1 ⟨rfl, hb1⟩
          have c0 := fun o => ((P0.out.next hb1).bs.alloc o).cell 0
          have c1 := fun o => ((P0.out.next hb1).bs.alloc o).cell 1
          have HB1 := Lib.hid ((belowA w (.cells #[.int .i64 a, .int .i64 b] 35)).trans (hb1.mono (by simp)))
          have P1 := (P0.out.next hb1).next (belowA _ (.cells #[.int .i64 ax, .int .i64 ay] 35))
          have HP1 := Lib.hid P1
          simp only [List.getElem?_toArray, List.getElem?_cons_zero, List.getElem?_cons_succ] at c0 c1
          clear hb1 P1
          go_wp2_with fail
          refine (OW.out _).mono ?_
          rintro e w2 ⟨rfl, hb2⟩
          have HP2 := Lib.hid (HP1.out.next hb2)
          have HB2 := Lib.hid ((HB1.out.alloc HB1.out.size (.cells #[.int .i64 ax, .int .i64 ay] 35)).trans (hb2.mono (by have := HB1.out.size; simp; omega)))
          clear hb2 HP1 c0 c1
          go_wp2_with fail
          have hst := HP2.out
          go_region_held3 (fun W => SCV g w.heap.size a b (V 0) W)
            (first
              | exact CU.scv (by assumption)
              | (go_split_ands; exact CU.scv (by assumption))
              | (go_split_ands; exact CU.scv (CU.drew (by assumption))))
            (first
              | (go_at_call 55; refine (HA.out _ (by first | exact (HP2.out.drew.G.left 0 (by omega) (by omega)).1 | exact (HP2.out.G.left 0 (by omega) (by omega)).1)).mono ?_; rintro e w3 ⟨rfl, hb3⟩; have hst3 := (by first | exact HP2.out.drew.next hb3 | exact HP2.out.next hb3)))
          have HB3 := Lib.hid (HB2.out.trans (by first | exact hb3.mono HB2.out.size | exact ((Below.refl _ _).drew.trans hb3).mono HB2.out.size))
          clear hb3 hst hst3
          go_wp2_with fail
          go_ret
          exact ⟨rfl, Left.same HS.out HB3.out⟩
        · rw [if_neg (by simp)]
          have hk12 : k = 1 ∨ k = 2 := by omega
          have HOK := Lib.hid (Sp.carve_ok hm hk12 hz hh)
          have hllk := Sp.left_len hm k
          clear hd hh hz hai hown hG h hk
          rcases hk12 with rfl | rfl
          · go_enter Tryz.func31, Tryz.ntmps31
            go_wp2_with fail
            refine (IS.out _).mono ?_
            rintro e w1 ⟨rfl, hw1⟩
            subst hw1
            go_wp2_with fail
            refine (AR.out _ (P0.out.G.spcR fun _ _ _ => rfl)).mono ?_
            rintro e w1 ⟨rfl, hb1⟩
            have c0 := fun o => ((P0.out.next hb1).bs.alloc o).cell 0
            have c1 := fun o => ((P0.out.next hb1).bs.alloc o).cell 1
            have HB1 := Lib.hid ((belowA w (.cells #[.int .i64 a, .int .i64 b] 35)).trans (hb1.mono (by simp)))
            have P1 := (P0.out.next hb1).next (belowA _ (.cells #[.int .i64 ax, .int .i64 ay] 35))
            have HP1 := Lib.hid P1
            simp only [List.getElem?_toArray, List.getElem?_cons_zero, List.getElem?_cons_succ] at c0 c1
            clear hb1 P1
            go_wp2_with fail
            refine (OW.out _).mono ?_
            rintro e w2 ⟨rfl, hb2⟩
            have HP2 := Lib.hid (HP1.out.next hb2)
            have HB2 := Lib.hid ((HB1.out.alloc HB1.out.size (.cells #[.int .i64 ax, .int .i64 ay] 35)).trans (hb2.mono (by have := HB1.out.size; simp; omega)))
            clear hb2 HP1 c0 c1
            go_wp2_with fail
            have hst := HP2.out
            go_region_held3 (fun W => SCV g w.heap.size a b (V 0) W)
              (first
                | exact CU.scv (by assumption)
                | (go_split_ands; exact CU.scv (by assumption))
                | (go_split_ands; exact CU.scv (CU.drew (by assumption))))
              (first
                | (go_at_call 55; refine (HA.out _ (by first | exact (HP2.out.drew.G.left 0 (by omega) (by omega)).1 | exact (HP2.out.G.left 0 (by omega) (by omega)).1)).mono ?_; rintro e w3 ⟨rfl, hb3⟩; have hst3 := (by first | exact HP2.out.drew.next hb3 | exact HP2.out.next hb3)))
            have P3 := Lib.hid hst3
            have b0 := hst3.bs.cell 0
            have b1 := hst3.bs.cell 1
            have d5 := hst3.G.blk.cell 5
            have d6 := hst3.G.blk.cell 6
            have d7 := hst3.G.blk.cell 7
            have d8 := hst3.G.blk.cell 8
            have f5 := hst3.G.blk.frozen' 5
            have f6 := hst3.G.blk.frozen' 6
            have f7 := hst3.G.blk.frozen' 7
            have f8 := hst3.G.blk.frozen' 8
            simp only [spcG, List.getElem?_toArray, List.getElem?_cons_zero, List.getElem?_cons_succ] at b0 b1 d5 d6 d7 d8
            have hx : w.heap.size ≠ g := by omega
            clear hb3 hst hst3 HB2 HP2
            go_wp2_with fail
            go_region_with (fail)
            have P4 : CU w (((w3.setCell ⟨g, 5, none⟩ (.int .i64 a)).setCell ⟨g, 6, none⟩ (.int .i64 b)).drew) g r (Sp.leftR m) V (if (1 : Int) = 1 then ((a, b) : Sp.S) else m.a1) (if (1 : Int) = 1 then m.a2 else ((a, b) : Sp.S)) m.L vb w.heap.size a b := (P3.out.lay (k := 1) (Or.inl rfl) a b hx).drew
            generalize (((w3.setCell ⟨g, 5, none⟩ (.int .i64 a)).setCell ⟨g, 6, none⟩ (.int .i64 b)).drew) = w4 at P4 ⊢
            have HP4 := Lib.hid P4
            have FC := Lib.hid fun (W : World) (hP : CU w W g r (Sp.leftR m) V (if (1 : Int) = 1 then ((a, b) : Sp.S) else m.a1) (if (1 : Int) = 1 then m.a2 else ((a, b) : Sp.S)) m.L vb w.heap.size a b) => free_cut g 0 (by omega) (by omega) (V 0) (Sp.leftR m 0) a b W (hP.G.cell (by omega) (by omega)) (hP.G.blk.frozen' _) (hP.G.left 0 (by omega) (by omega)).1 (by omega)
            clear b0 b1 d5 d6 d7 d8 f5 f6 f7 f8 P3
            go_wp2_with fail
            have hst4 := P4
            go_region_held3 (fun W => SCU w.heap.size a b W)
              (first
                | exact CU.scu (by assumption)
                | (go_split_ands; exact CU.scu (by assumption))
                | (go_split_ands; exact CU.scu (CU.drew (by assumption))))
              (first
                | (go_at_call 56; refine (FC.out _ (by first | exact HP4.out.drew | exact HP4.out)).mono ?_; rintro e w5 ⟨rfl, v5, W5, ho5, hb5, hw5⟩; have P5 := (by first | exact CU.put (k := 0) (l := Sp.cut (Sp.leftR m 0) (a, b)) HP4.out.drew (by omega) (by omega) ho5 hb5 hgl hx | exact CU.put (k := 0) (l := Sp.cut (Sp.leftR m 0) (a, b)) HP4.out (by omega) (by omega) ho5 hb5 hgl hx); rw [← hw5] at P5; clear hw5))
            have HP5 := Lib.hid P5
            have HV5 : Hid (∀ a n c, v5 = .slice (some a) n c → w.heap.size ≤ a.block) := Lib.hid fun q n c e => by
              have h1 := (ho5.lt q.block (by rw [e]; rfl)).1
              have h2 := HP4.out.frm.size
              simp at h1
              omega
            have FA := Lib.hid fun (W : World) (hP : CU w W g r (upd (Sp.leftR m) 0 (Sp.cut (Sp.leftR m 0) (a, b))) (upd V 0 v5) (if (1 : Int) = 1 then ((a, b) : Sp.S) else m.a1) (if (1 : Int) = 1 then m.a2 else ((a, b) : Sp.S)) m.L vb w.heap.size a b) => free_add g 1 (by omega) (by omega) (V 1) (Sp.leftR m 1) a b W (hP.G.cell (by omega) (by omega)) (hP.G.blk.frozen' _) (hP.G.left 1 (by omega) (by omega)).1 (by omega)
            clear hst4 P4 ho5 hb5 FC
            go_wp2_with fail
            have hst5 := P5
            go_region_held3 (fun W => SCU w.heap.size a b W)
              (first
                | exact CU.scu (by assumption)
                | (go_split_ands; exact CU.scu (by assumption))
                | (go_split_ands; exact CU.scu (CU.drew (by assumption))))
              (first
                | (go_at_call 53; refine (FA.out _ (by first | exact HP5.out.drew | exact HP5.out)).mono ?_; rintro e w6 ⟨rfl, v6, W6, ho6, hb6, hw6⟩; have P6 := (by first | exact CU.put (k := 1) (l := Sp.add (Sp.leftR m 1) (a, b)) HP5.out.drew (by omega) (by omega) ho6 hb6 hgl hx | exact CU.put (k := 1) (l := Sp.add (Sp.leftR m 1) (a, b)) HP5.out (by omega) (by omega) ho6 hb6 hgl hx); rw [← hw6] at P6; clear hw6))
            have HP6 := Lib.hid P6
            have HV6 : Hid (∀ a n c, v6 = .slice (some a) n c → w.heap.size ≤ a.block) := Lib.hid fun q n c e => by
              have h1 := (ho6.lt q.block (by rw [e]; rfl)).1
              have h2 := HP5.out.frm.size
              simp at h1
              omega
            clear hst5 P5 P6 ho6 hb6 FA
            go_wp2_with fail
            go_ret
            refine ⟨rfl, r, SpcG.spcR (m := m.lay 1 (a, b)) HP6.out.G fun j j0 j2 => ?_, NewRow.refl _ _, HP6.out.frm, Old.of_upd HP6.out.G HVC.out fun j j0 j2 => ?_⟩
            · obtain ⟨-, q1, q2, q3⟩ := HOK.out
              have : j = 0 ∨ j = 1 ∨ j = 2 := by omega
              rcases this with rfl | rfl | rfl
              · exact q1.symm
              · first | exact q2.symm | exact q3.symm
              · first | exact q2.symm | exact q3.symm
            · have : j = 0 ∨ j = 1 ∨ j = 2 := by omega
              rcases this with rfl | rfl | rfl
              all_goals first | exact Or.inl rfl | exact Or.inr HV5.out | exact Or.inr HV6.out
          · go_enter Tryz.func31, Tryz.ntmps31
            go_wp2_with fail
            refine (IS.out _).mono ?_
            rintro e w1 ⟨rfl, hw1⟩
            subst hw1
            go_wp2_with fail
            refine (AR.out _ (P0.out.G.spcR fun _ _ _ => rfl)).mono ?_
            rintro e w1 ⟨rfl, hb1⟩
            have c0 := fun o => ((P0.out.next hb1).bs.alloc o).cell 0
            have c1 := fun o => ((P0.out.next hb1).bs.alloc o).cell 1
            have HB1 := Lib.hid ((belowA w (.cells #[.int .i64 a, .int .i64 b] 35)).trans (hb1.mono (by simp)))
            have P1 := (P0.out.next hb1).next (belowA _ (.cells #[.int .i64 ax, .int .i64 ay] 35))
            have HP1 := Lib.hid P1
            simp only [List.getElem?_toArray, List.getElem?_cons_zero, List.getElem?_cons_succ] at c0 c1
            clear hb1 P1
            go_wp2_with fail
            refine (OW.out _).mono ?_
            rintro e w2 ⟨rfl, hb2⟩
            have HP2 := Lib.hid (HP1.out.next hb2)
            have HB2 := Lib.hid ((HB1.out.alloc HB1.out.size (.cells #[.int .i64 ax, .int .i64 ay] 35)).trans (hb2.mono (by have := HB1.out.size; simp; omega)))
            clear hb2 HP1 c0 c1
            go_wp2_with fail
            have hst := HP2.out
            go_region_held3 (fun W => SCV g w.heap.size a b (V 0) W)
              (first
                | exact CU.scv (by assumption)
                | (go_split_ands; exact CU.scv (by assumption))
                | (go_split_ands; exact CU.scv (CU.drew (by assumption))))
              (first
                | (go_at_call 55; refine (HA.out _ (by first | exact (HP2.out.drew.G.left 0 (by omega) (by omega)).1 | exact (HP2.out.G.left 0 (by omega) (by omega)).1)).mono ?_; rintro e w3 ⟨rfl, hb3⟩; have hst3 := (by first | exact HP2.out.drew.next hb3 | exact HP2.out.next hb3)))
            have P3 := Lib.hid hst3
            have b0 := hst3.bs.cell 0
            have b1 := hst3.bs.cell 1
            have d5 := hst3.G.blk.cell 5
            have d6 := hst3.G.blk.cell 6
            have d7 := hst3.G.blk.cell 7
            have d8 := hst3.G.blk.cell 8
            have f5 := hst3.G.blk.frozen' 5
            have f6 := hst3.G.blk.frozen' 6
            have f7 := hst3.G.blk.frozen' 7
            have f8 := hst3.G.blk.frozen' 8
            simp only [spcG, List.getElem?_toArray, List.getElem?_cons_zero, List.getElem?_cons_succ] at b0 b1 d5 d6 d7 d8
            have hx : w.heap.size ≠ g := by omega
            clear hb3 hst hst3 HB2 HP2
            go_wp2_with fail
            go_region_with (fail)
            have P4 : CU w (((w3.setCell ⟨g, 7, none⟩ (.int .i64 a)).setCell ⟨g, 8, none⟩ (.int .i64 b)).drew) g r (Sp.leftR m) V (if (2 : Int) = 1 then ((a, b) : Sp.S) else m.a1) (if (2 : Int) = 1 then m.a2 else ((a, b) : Sp.S)) m.L vb w.heap.size a b := (P3.out.lay (k := 2) (Or.inr rfl) a b hx).drew
            generalize (((w3.setCell ⟨g, 7, none⟩ (.int .i64 a)).setCell ⟨g, 8, none⟩ (.int .i64 b)).drew) = w4 at P4 ⊢
            have HP4 := Lib.hid P4
            have FC := Lib.hid fun (W : World) (hP : CU w W g r (Sp.leftR m) V (if (2 : Int) = 1 then ((a, b) : Sp.S) else m.a1) (if (2 : Int) = 1 then m.a2 else ((a, b) : Sp.S)) m.L vb w.heap.size a b) => free_cut g 0 (by omega) (by omega) (V 0) (Sp.leftR m 0) a b W (hP.G.cell (by omega) (by omega)) (hP.G.blk.frozen' _) (hP.G.left 0 (by omega) (by omega)).1 (by omega)
            clear b0 b1 d5 d6 d7 d8 f5 f6 f7 f8 P3
            go_wp2_with fail
            have hst4 := P4
            go_region_held3 (fun W => SCU w.heap.size a b W)
              (first
                | exact CU.scu (by assumption)
                | (go_split_ands; exact CU.scu (by assumption))
                | (go_split_ands; exact CU.scu (CU.drew (by assumption))))
              (first
                | (go_at_call 56; refine (FC.out _ (by first | exact HP4.out.drew | exact HP4.out)).mono ?_; rintro e w5 ⟨rfl, v5, W5, ho5, hb5, hw5⟩; have P5 := (by first | exact CU.put (k := 0) (l := Sp.cut (Sp.leftR m 0) (a, b)) HP4.out.drew (by omega) (by omega) ho5 hb5 hgl hx | exact CU.put (k := 0) (l := Sp.cut (Sp.leftR m 0) (a, b)) HP4.out (by omega) (by omega) ho5 hb5 hgl hx); rw [← hw5] at P5; clear hw5))
            have HP5 := Lib.hid P5
            have HV5 : Hid (∀ a n c, v5 = .slice (some a) n c → w.heap.size ≤ a.block) := Lib.hid fun q n c e => by
              have h1 := (ho5.lt q.block (by rw [e]; rfl)).1
              have h2 := HP4.out.frm.size
              simp at h1
              omega
            have FA := Lib.hid fun (W : World) (hP : CU w W g r (upd (Sp.leftR m) 0 (Sp.cut (Sp.leftR m 0) (a, b))) (upd V 0 v5) (if (2 : Int) = 1 then ((a, b) : Sp.S) else m.a1) (if (2 : Int) = 1 then m.a2 else ((a, b) : Sp.S)) m.L vb w.heap.size a b) => free_add g 2 (by omega) (by omega) (V 2) (Sp.leftR m 2) a b W (hP.G.cell (by omega) (by omega)) (hP.G.blk.frozen' _) (hP.G.left 2 (by omega) (by omega)).1 (by omega)
            clear hst4 P4 ho5 hb5 FC
            go_wp2_with fail
            have hst5 := P5
            go_region_held3 (fun W => SCU w.heap.size a b W)
              (first
                | exact CU.scu (by assumption)
                | (go_split_ands; exact CU.scu (by assumption))
                | (go_split_ands; exact CU.scu (CU.drew (by assumption))))
              (first
                | (go_at_call 53; refine (FA.out _ (by first | exact HP5.out.drew | exact HP5.out)).mono ?_; rintro e w6 ⟨rfl, v6, W6, ho6, hb6, hw6⟩; have P6 := (by first | exact CU.put (k := 2) (l := Sp.add (Sp.leftR m 2) (a, b)) HP5.out.drew (by omega) (by omega) ho6 hb6 hgl hx | exact CU.put (k := 2) (l := Sp.add (Sp.leftR m 2) (a, b)) HP5.out (by omega) (by omega) ho6 hb6 hgl hx); rw [← hw6] at P6; clear hw6))
            have HP6 := Lib.hid P6
            have HV6 : Hid (∀ a n c, v6 = .slice (some a) n c → w.heap.size ≤ a.block) := Lib.hid fun q n c e => by
              have h1 := (ho6.lt q.block (by rw [e]; rfl)).1
              have h2 := HP5.out.frm.size
              simp at h1
              omega
            clear hst5 P5 P6 ho6 hb6 FA
            go_wp2_with fail
            go_ret
            refine ⟨rfl, r, SpcG.spcR (m := m.lay 2 (a, b)) HP6.out.G fun j j0 j2 => ?_, NewRow.refl _ _, HP6.out.frm, Old.of_upd HP6.out.G HVC.out fun j j0 j2 => ?_⟩
            · obtain ⟨-, q1, q2, q3⟩ := HOK.out
              have : j = 0 ∨ j = 1 ∨ j = 2 := by omega
              rcases this with rfl | rfl | rfl
              · exact q1.symm
              · first | exact q2.symm | exact q3.symm
              · first | exact q2.symm | exact q3.symm
            · have : j = 0 ∨ j = 1 ∨ j = 2 := by omega
              rcases this with rfl | rfl | rfl
              all_goals first | exact Or.inl rfl | exact Or.inr HV5.out | exact Or.inr HV6.out
      · have hz : (m.at k).1 ≠ 0 := hai.1 rfl
        have hr : Sp.carveR m k (a, b) = (m, 32) := by unfold Sp.carveR; rw [if_neg hk, if_neg (by rw [hown]; simp), if_pos hz]
        rw [hr]
        clear hr hk hown hai hz hG h
        go_enter Tryz.func31, Tryz.ntmps31
        go_wp2_with fail
        refine (IS.out _).mono ?_
        rintro e w1 ⟨rfl, hw1⟩
        subst hw1
        go_wp2_with fail
        refine (AR.out _ (P0.out.G.spcR fun _ _ _ => rfl)).mono ?_
        rintro e w1 ⟨rfl, hb1⟩
        have c0 := fun o => ((P0.out.next hb1).bs.alloc o).cell 0
        have c1 := fun o => ((P0.out.next hb1).bs.alloc o).cell 1
        have HB1 := Lib.hid ((belowA w (.cells #[.int .i64 a, .int .i64 b] 35)).trans (hb1.mono (by simp)))
        have P1 := (P0.out.next hb1).next (belowA _ (.cells #[.int .i64 ax, .int .i64 ay] 35))
        have HP1 := Lib.hid P1
        simp only [List.getElem?_toArray, List.getElem?_cons_zero, List.getElem?_cons_succ] at c0 c1
        clear hb1 P1
        go_wp2_with fail
        refine (OW.out _).mono ?_
        rintro e w2 ⟨rfl, hb2⟩
        have HP2 := Lib.hid (HP1.out.next hb2)
        have HB2 := Lib.hid ((HB1.out.alloc HB1.out.size (.cells #[.int .i64 ax, .int .i64 ay] 35)).trans (hb2.mono (by have := HB1.out.size; simp; omega)))
        clear hb2 HP1 c0 c1
        go_wp2_with fail
        go_ret
        exact ⟨rfl, Left.same HS.out HB2.out⟩
end Go.Proofs.YtilahcnpjbnjiaaGreatDoor

/- The space package: Close. -/
namespace Go.Proofs.YtilahcnpjbnjiaaGreatDoor
set_option linter.unusedVariables false
set_option linter.unusedSimpArgs false
open Go.RowKit Go.Shelf Go.Proofs

/-- Close, between two calls: the area's box, too -/
structure KU (w W : World) (g : Nat) (r : Option Nat) (F : Int → List Sp.S) (V : Int → Value) (a1 a2 : Sp.S) (L : List Sp.Bk) (vb : Value) (x : Nat) (a b k : Int) : Prop where
  cu : CU w W g r F V a1 a2 L vb x a b
  kb : Blk W w.heap.size 3 #[.int .i64 k]
section
variable {w W : World} {g : Nat} {r : Option Nat} {F : Int → List Sp.S} {V : Int → Value} {a1 a2 : Sp.S} {L : List Sp.Bk} {vb : Value} {x : Nat} {a b q : Int}
theorem KU.next (h : KU w W g r F V a1 a2 L vb x a b q) {W' : World} (hb : Below W.heap.size W W') : KU w W' g r F V a1 a2 L vb x a b q := ⟨h.cu.next hb, h.kb.below hb h.kb.lt⟩
theorem KU.drew (h : KU w W g r F V a1 a2 L vb x a b q) : KU w W.drew g r F V a1 a2 L vb x a b q := h.next (Below.refl _ _).drew
theorem KU.put (h : KU w W g r F V a1 a2 L vb x a b q) {k : Int} (h0 : 0 ≤ k) (h2 : k ≤ 2) {l : List Sp.S} {W1 : World} {v : Value} (ho : W1.ownsRow W.heap.size 35 2 v l.length (flat encSp l)) (hb : Below W.heap.size W W1) (hg : g < w.heap.size) (hx : x ≠ g) :
    KU w (W1.setCell ⟨g, k.toNat, none⟩ v) g r (upd F k l) (upd V k v) a1 a2 L vb x a b q := ⟨h.cu.put h0 h2 ho hb hg hx, (h.kb.below hb h.kb.lt).other _ _ (show w.heap.size ≠ g by omega)⟩
theorem KU.lay (h : KU w W g r F V a1 a2 L vb x a b q) {k : Int} (hk : k = 1 ∨ k = 2) (c d : Int) (hx : x ≠ g) (hg : g < w.heap.size) :
    KU w ((W.setCell ⟨g, 3 + k.toNat * 2, none⟩ (.int .i64 c)).setCell ⟨g, 3 + k.toNat * 2 + 1, none⟩ (.int .i64 d)) g r F V (if k = 1 then (c, d) else a1) (if k = 1 then a2 else (c, d)) L vb x a b q :=
  ⟨h.cu.lay hk c d hx, (h.kb.other _ _ (show w.heap.size ≠ g by omega)).other _ _ (show w.heap.size ≠ g by omega)⟩
end
abbrev SKU (w : World) (x : Nat) (a b k : Int) (W : World) : Prop := W.cell? ⟨x, 0, none⟩ = some (.int .i64 a) ∧ W.cell? ⟨x, 1, none⟩ = some (.int .i64 b) ∧ W.cell? ⟨w.heap.size, 0, none⟩ = some (.int .i64 k)
theorem KU.sku {w W : World} {g : Nat} {r : Option Nat} {F : Int → List Sp.S} {V : Int → Value} {a1 a2 : Sp.S} {L : List Sp.Bk} {vb : Value} {x : Nat} {a b k : Int} (h : KU w W g r F V a1 a2 L vb x a b k) : SKU w x a b k W := ⟨h.cu.bs.cell 0, h.cu.bs.cell 1, h.kb.cell 0⟩
end Go.Proofs.YtilahcnpjbnjiaaGreatDoor

/- The space package: Owner. -/
namespace Go.Proofs.YtilahcnpjbnjiaaGreatDoor
set_option linter.unusedVariables false
set_option linter.unusedSimpArgs false
open Go.RowKit Go.Shelf Go.Proofs

theorem find_hit {α : Type} {q : α → Bool} : ∀ {l : List α} {k : Nat} {c : α}, l[k]? = some c → (∀ (j : Nat) (d : α), l[j]? = some d → j < k → q d = false) → q c = true → l.find? q = some c
  | [], k, c, h, _, _ => by simp at h
  | d :: r, 0, c, h, _, hq => by cases h; simp [hq]
  | d :: r, k + 1, c, h, h0, hq => by
    have hd := h0 0 d rfl (by omega)
    rw [List.find?_cons, hd]
    exact find_hit (by simpa using h) (fun j e he hj => h0 (j + 1) e (by simpa using he) (by omega)) hq
theorem find_miss {α : Type} {q : α → Bool} {l : List α} (h : ∀ (j : Nat) (d : α), l[j]? = some d → j < l.length → q d = false) : l.find? q = none := by
  rw [List.find?_eq_none]
  intro x hx
  obtain ⟨j, hj⟩ := List.getElem?_of_mem hx
  have := h j x hj (List.getElem?_eq_some_iff.1 hj).1
  simp [this]
/-- two ints come back -/
def RetII (q : Int × Int) (w : World) (e : Ending) (w' : World) : Prop := e = .returned (.tuple #[.int .i64 q.1, .int .i64 q.2]) ∧ Below w.heap.size w w'
structure OU (w W : World) (v : Value) (L : List Sp.Bk) : Prop where
  rd : SlR W 4 encBk v L
  below : Below w.heap.size w W
theorem OU.next {w W W' : World} {v : Value} {L : List Sp.Bk} (h : OU w W v L) (hb : Below W.heap.size W W') : OU w W' v L := ⟨h.rd.below hb (Nat.le_refl _), h.below.trans (hb.mono h.below.size)⟩
set_option maxRecDepth 100000 in
set_option maxHeartbeats 2000000 in
theorem spc_Owner (g : Nat) (n : Int) (m : Sp.Spc) (hl : m.L.length ≤ 1000000) (r : Option Nat) (w : World) (h : SpcR w g r m) :
    Calls Tryz.prog 23 #[.pointer (some ⟨g, 0, none⟩), .int .i64 n] w (RetII (Sp.ownerR m n) w) := by
  obtain ⟨v0, v1, v2, vb, h⟩ := h
  have BL := Lib.hid (spc_Blocks g v0 v1 v2 vb m hl r w h)
  have hr : Sp.ownerR m n = match m.L.find? (Sp.hasL n) with | some b => (b.owner, b.area) | none => (0, 0) := rfl
  obtain ⟨z, hz⟩ : ∃ z, z = Sp.ownerR m n := ⟨_, rfl⟩
  have HZ : Hid (z = match m.L.find? (Sp.hasL n) with | some b => (b.owner, b.area) | none => (0, 0)) := Lib.hid (hz.trans hr)
  rw [← hz]
  clear hr h hz
  generalize m.L = L at BL hl HZ
  go_enter Tryz.func23, Tryz.ntmps23
  go_wp2_with fail
  refine BL.out.mono ?_
  rintro e w1 ⟨v, rfl, ho, hb1⟩
  have HO : Hid (OU w w1 v L) := Lib.hid ⟨SlR.of_owns encBk_len ho, hb1⟩
  obtain ⟨p, cap, rfl, hc1, hc2, -⟩ := SlR.of_owns encBk_len ho
  clear ho hb1
  go_wp2_with fail
  go_loopw [11] (fun vi wr => ∃ k : Nat, k ≤ L.length ∧ vi = .int .i64 k ∧ Hid (∀ (j : Nat) (d : Sp.Bk), L[j]? = some d → j < k → Sp.hasL n d = false) ∧ Hid (OU w wr (.slice p L.length cap) L)) (fun vi _ => L.length - (intOf vi).toNat)
  case atStart => exact ⟨0, Nat.zero_le _, rfl, Lib.hid (fun j d _ h => by omega), HO⟩
  case round =>
    obtain ⟨k, hk, rfl, HE, HU⟩ := hrel
    by_cases hlt : k < L.length
    · have hltI : (k : Int) < (L.length : Int) := by omega
      obtain ⟨c, hc⟩ : ∃ c, L[k]? = some c := ⟨_, List.getElem?_eq_getElem hlt⟩
      have hcc : L[k] = c := (List.getElem?_eq_some_iff.1 hc).2
      obtain ⟨q1, cap1, hq1, _, _, hR⟩ := HU.out.rd
      cases hq1
      obtain ⟨bb, off, rfl, hbs, hcl⟩ := hR.at hlt
      rw [hcc] at hcl
      have c0 := hcl 0 _ rfl
      have c1 := hcl 1 _ rfl
      have c2 := hcl 2 _ rfl
      have c3 := hcl 3 _ rfl
      simp only [Nat.add_zero] at c0
      have HC := Lib.hid hc
      clear hcl hcc hc hR
      by_cases h1 : c.sp.1 ≤ n
      · by_cases h2 : n ≤ c.sp.2
        · have hf : L.find? (Sp.hasL n) = some c := find_hit HC.out HE.out (by simp [Sp.hasL, h1, h2])
          have hv : Hid (z = (c.owner, c.area)) := Lib.hid (by rw [HZ.out, hf])
          clear hf
          go_wp2_with fail
          go_quiet (fail)
          go_wp2_with fail
          exact bodyPost_ret (v := .tuple #[.int .i64 c.owner, .int .i64 c.area]) (by simp [results, Tryz.results23, go_sem]) rfl ⟨by rw [hv.out], below_drewN (HU.out.below.alloc HU.out.below.size _) _⟩
        · have HE2 : Hid (∀ (j : Nat) (d : Sp.Bk), L[j]? = some d → j < k + 1 → Sp.hasL n d = false) := Lib.hid fun j d hd hj => by
            rcases Nat.lt_or_ge j k with h | h
            · exact HE.out j d hd h
            · obtain rfl : j = k := by omega
              rw [HC.out] at hd; cases hd
              simp [Sp.hasL]; omega
          clear HE
          go_wp2_with fail
          exact ⟨⟨k + 1, by omega, by go_num, HE2, Lib.hid (HU.out.next (belowA _ _))⟩, by simp [intOf]; omega⟩
      · have HE2 : Hid (∀ (j : Nat) (d : Sp.Bk), L[j]? = some d → j < k + 1 → Sp.hasL n d = false) := Lib.hid fun j d hd hj => by
          rcases Nat.lt_or_ge j k with h | h
          · exact HE.out j d hd h
          · obtain rfl : j = k := by omega
            rw [HC.out] at hd; cases hd
            simp [Sp.hasL, h1]
        clear HE
        go_wp2_with fail
        exact ⟨⟨k + 1, by omega, by go_num, HE2, Lib.hid (HU.out.next (belowA _ _))⟩, by simp [intOf]; omega⟩
    · obtain rfl : k = L.length := by omega
      have hf : L.find? (Sp.hasL n) = none := find_miss HE.out
      have hv : Hid (z = (0, 0)) := Lib.hid (by rw [HZ.out, hf])
      clear hf
      go_wp2_with fail
      exact bodyPost_ret (v := .tuple #[.int .i64 0, .int .i64 0]) (by simp [results, Tryz.results23, go_sem]) rfl ⟨by rw [hv.out], HU.out.below⟩
end Go.Proofs.YtilahcnpjbnjiaaGreatDoor
