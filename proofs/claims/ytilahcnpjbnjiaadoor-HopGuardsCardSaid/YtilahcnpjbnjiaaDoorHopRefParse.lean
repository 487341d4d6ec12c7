/- The document's parse of a hop. -/
import Derived.Test.YtilahcnpjbnjiaaDoorHopWords
import Derived.Test.YtilahcnpjbnjiaaDoorHopRefShow
import Derived.Test.YtilahcnpjbnjiaaDoorHopParse
import Derived.Test.YtilahcnpjbnjiaaDoorOctetNum2
namespace Go.Proofs.YtilahcnpjbnjiaaDoor
set_option linter.unusedVariables false
set_option linter.unusedSimpArgs false
open Go.RowKit Go.Shelf Go.Proofs Go.OctetPlain

/-! ## words read so far -/
def h00 : Hp.Hop := ⟨-1, [], 0, -1, [], false⟩
def stp (L : List Hp.Wd) (k : Nat) : Hp.St := match L with
  | [] => ⟨h00, 0⟩
  | w :: ws => if k = 0 then ⟨h00, 0⟩ else (ws.take (k - 1)).foldl Hp.wd (Hp.st0 w)
theorem stp_zero (L : List Hp.Wd) : stp L 0 = ⟨h00, 0⟩ := by cases L <;> simp [stp]
theorem stp_one {L : List Hp.Wd} {x : Hp.Wd} (h : L[0]? = some x) : stp L 1 = Hp.st0 x := by
  cases L with
  | nil => simp at h
  | cons w ws => simp at h; subst h; simp [stp]
theorem stp_succ {L : List Hp.Wd} {x : Hp.Wd} {k : Nat} (hk : 0 < k) (h : L[k]? = some x) : stp L (k + 1) = Hp.wd (stp L k) x := by
  cases L with
  | nil => simp at h
  | cons w ws =>
    obtain ⟨j, rfl⟩ : ∃ j, k = j + 1 := ⟨k - 1, by omega⟩
    have hx : ws[j]? = some x := by simpa using h
    simp only [stp, Nat.add_sub_cancel, Nat.add_eq_zero_iff, Nat.one_ne_zero, and_false, if_false]
    obtain ⟨h1, h2⟩ := List.getElem?_eq_some_iff.1 hx
    rw [List.take_succ_eq_append_getElem h1, List.foldl_append, h2]
    rfl
theorem stp_end {L : List Hp.Wd} (hL : L ≠ []) {k : Nat} (hk : k = 60 ∨ k = L.length) (h60 : k ≤ 60) : (stp L k).h = Hp.interp L := by
  cases L with
  | nil => exact absurd rfl hL
  | cons w ws =>
    have hk0 : k ≠ 0 := by rcases hk with rfl | rfl <;> simp
    simp only [stp, if_neg hk0, Hp.interp]
    congr 2
    rcases hk with rfl | rfl
    · rfl
    · simp only [List.length_cons] at h60 ⊢
      rw [List.take_of_length_le (by omega), List.take_of_length_le (by omega)]

theorem owns_form {w : World} {base : Nat} {e : TypeId} {size : Nat} {v : Value} {n : Nat} {xs : List Value} (h : w.ownsRow base e size v n xs) : ∃ p c, v = .slice p n c := by
  rcases h.2 with ⟨rfl, rfl⟩ | ⟨g, cap, cur, rfl, _⟩
  · exact ⟨_, _, rfl⟩
  · exact ⟨_, _, rfl⟩
/-! ## the state -/
structure RP (w w2 : World) (B H : Nat) (W : World) (h : Hp.Hop) (part : Int) (l r : Value) : Prop where
  hb : Blk W H 24 (hopA h l r)
  ol : W.ownsRow B 3 1 l h.labels.length (flat encI h.labels)
  or : W.ownsRow B 3 1 r h.repair.length (flat encI h.repair)
  ne : l.ownBlock = none ∨ l.ownBlock ≠ r.ownBlock
  p0 : part = 0 → r = .slice none 0 0 ∧ h.repair = []
  fr : TwoB H H w2 W
  bel : Below w.heap.size w W
  hB : H < B
  hB2 : B = w2.heap.size
  hH : w.heap.size ≤ H
section
variable {w w2 W W' : World} {B H : Nat} {h : Hp.Hop} {part : Int} {l r : Value}
theorem RP.Bl (R : RP w w2 B H W h part l r) : B ≤ W.heap.size := by rw [R.hB2]; exact R.fr.size
/-- what makes memory only -/
theorem RP.below (R : RP w w2 B H W h part l r) (hb : Below W.heap.size W W') : RP w w2 B H W' h part l r :=
  ⟨R.hb.below hb R.hb.lt, owns_below R.ol hb (Nat.le_refl _), owns_below R.or hb (Nat.le_refl _), R.ne, R.p0, R.fr.trans (.below hb), R.bel.trans (hb.mono R.bel.size), R.hB, R.hB2, R.hH⟩
theorem RP.alloc (R : RP w w2 B H W h part l r) (o : Obj) : RP w w2 B H (W.alloc o) h part l r := R.below (belowA W o)
theorem RP.drew (R : RP w w2 B H W h part l r) : RP w w2 B H W.drew h part l r := R.below (Below.refl W.heap.size W).drew
/-- the part alone turned -/
theorem RP.turn (R : RP w w2 B H W h part l r) (p : Int) (hp : p ≠ 0) : RP w w2 B H W h p l r := ⟨R.hb, R.ol, R.or, R.ne, fun e => absurd e hp, R.fr, R.bel, R.hB, R.hB2, R.hH⟩
/-- a plain cell was written -/
theorem RP.write (R : RP w w2 B H W h part l r) {h' : Hp.Hop} {p : Int} (i : Nat) (v : Value) (hw : (hopA h l r).setIfInBounds i v = hopA h' l r) (e1 : h'.labels = h.labels) (e2 : h'.repair = h.repair) (hp : p = 0 → part = 0) : RP w w2 B H (W.setCell ⟨H, i, none⟩ v) h' p l r := by
  have hg := grown_set W H i v
  have hk : ∀ {u : Value} {n : Nat} {xs : List Value}, W.ownsRow B 3 1 u n xs → (W.setCell ⟨H, i, none⟩ v).ownsRow B 3 1 u n xs := fun ho => owns_set ho R.hB i v
  exact ⟨by rw [← hw]; exact R.hb.set i v, by rw [e1]; exact hk R.ol, by rw [e2]; exact hk R.or, R.ne, fun e => by rw [e2]; exact R.p0 (hp e), R.fr.trans (.h hg), R.bel.trans (grown_Below hg R.bel.size R.hH), R.hB, R.hB2, R.hH⟩
/-- labels grew -/
theorem RP.addL (R : RP w w2 B H W h part l r) (h0 : part = 0) {n : Int} {v' : Value} (ho : W'.ownsRow B 3 1 v' (h.labels.length + 1) (flat encI h.labels ++ [.int .i64 n])) (hg : W.grownBy W' l.ownBlock) (hb : Below B W W') :
    RP w w2 B H (W'.setCell ⟨H, 1, none⟩ v') { h with labels := h.labels ++ [n] } part v' r := by
  obtain ⟨hr, hr2⟩ := R.p0 h0
  subst hr
  have hgs := grown_set W' H 1 v'
  have hb2 : Below w.heap.size W W' := hb.mono (by have := R.hH; have := R.hB; omega)
  have hfr : TwoB H H w2 W' := ⟨Nat.le_trans R.fr.size hb.size, fun k hk h1 h2 => (hb.block k (by rw [R.hB2]; exact hk)).trans (R.fr.block k hk h1 h2)⟩
  refine ⟨(R.hb.below hb R.hB).set 1 v', ?_, ?_, ?_, fun _ => ⟨rfl, hr2⟩, hfr.trans (.h hgs), (R.bel.trans hb2).trans (grown_Below hgs (Nat.le_trans R.bel.size hb.size) R.hH), R.hB, R.hB2, R.hH⟩
  · have := owns_set ho R.hB 1 v'
    rw [List.length_append, flat_append]; exact this
  · simp only [hr2]; exact World.ownsRow_nil _ _ _ _
  · cases hv : v'.ownBlock with
    | none => exact .inl rfl
    | some b => exact .inr (by simp [Value.ownBlock])
/-- the repair grew -/
theorem RP.addR (R : RP w w2 B H W h part l r) (h0 : part ≠ 0) {n : Int} {v' : Value} (ho : W'.ownsRow B 3 1 v' (h.repair.length + 1) (flat encI h.repair ++ [.int .i64 n])) (hg : W.grownBy W' r.ownBlock) (hob : v'.ownBlock = r.ownBlock ∨ v'.ownBlock = some (W.heap.size + 1)) (hb : Below B W W') :
    RP w w2 B H (W'.setCell ⟨H, 4, none⟩ v') { h with repair := h.repair ++ [n] } part l v' := by
  have hgs := grown_set W' H 4 v'
  have hb2 : Below w.heap.size W W' := hb.mono (by have := R.hH; have := R.hB; omega)
  have hfr : TwoB H H w2 W' := ⟨Nat.le_trans R.fr.size hb.size, fun k hk h1 h2 => (hb.block k (by rw [R.hB2]; exact hk)).trans (R.fr.block k hk h1 h2)⟩
  refine ⟨(R.hb.below hb R.hB).set 4 v', owns_set (R.ol.kept hg R.ne) R.hB 4 v', ?_, ?_, fun e => absurd e h0, hfr.trans (.h hgs), (R.bel.trans hb2).trans (grown_Below hgs (Nat.le_trans R.bel.size hb.size) R.hH), R.hB, R.hB2, R.hH⟩
  · have := owns_set ho R.hB 4 v'
    rw [List.length_append, flat_append]; exact this
  · cases hv : l.ownBlock with
    | none => exact .inl rfl
    | some b =>
      refine .inr (fun e => ?_)
      have hlt := (R.ol.lt b hv).2
      rcases hob with h1 | h1
      · rcases R.ne with h2 | h2
        · rw [hv] at h2; cases h2
        · exact h2 (by rw [hv, e, h1])
      · rw [h1] at e; cases e; omega
end

theorem wd_len (s : Hp.St) (x : Hp.Wd) : (Hp.wd s x).h.labels.length ≤ s.h.labels.length + 1 ∧ (Hp.wd s x).h.repair.length ≤ s.h.repair.length + 1 := by
  unfold Hp.wd
  split
  · exact ⟨by simp, by simp⟩
  split
  · exact ⟨by simp, by simp⟩
  split
  · exact ⟨by simp, by simp⟩
  split
  · exact ⟨by simp, by simp⟩
  · split
    · exact ⟨by simp, by simp⟩
    split
    · exact ⟨by simp, by simp⟩
    split
    · exact ⟨by simp, by simp⟩
    · exact ⟨by simp, by simp⟩
theorem stp_len {L : List Hp.Wd} : ∀ {k : Nat}, k ≤ L.length → (stp L k).h.labels.length ≤ k ∧ (stp L k).h.repair.length ≤ k
  | 0, _ => by rw [stp_zero]; exact ⟨Nat.le_refl _, Nat.le_refl _⟩
  | 1, h => by
    rw [stp_one (List.getElem?_eq_getElem (show 0 < L.length by omega))]
    exact ⟨by simp [Hp.st0], by simp [Hp.st0]⟩
  | k + 2, h => by
    have ih := stp_len (L := L) (k := k + 1) (by omega)
    rw [stp_succ (by omega) (List.getElem?_eq_getElem (show k + 1 < L.length by omega))]
    have := wd_len (stp L (k + 1)) (L[k + 1]'(by omega))
    omega
def opAt (x : Hp.Wd) : Nat → Int
  | 0 => -1
  | j + 1 => if x = Hp.opW j then j else opAt x j
theorem opAt_four (x : Hp.Wd) : opAt x 4 = Hp.opV x := by
  unfold Hp.opV Hp.opOf
  simp only [opAt]
  rw [show Hp.opW ((3 : Nat) : Int) = Hp.wHere from rfl, show Hp.opW ((2 : Nat) : Int) = Hp.wPop from rfl, show Hp.opW ((1 : Nat) : Int) = Hp.wSwap from rfl, show Hp.opW ((0 : Nat) : Int) = Hp.wPush from rfl]
  by_cases c0 : x = Hp.wPush
  · subst c0; decide
  by_cases c1 : x = Hp.wSwap
  · subst c1; decide
  by_cases c2 : x = Hp.wPop
  · subst c2; decide
  by_cases c3 : x = Hp.wHere
  · subst c3; decide
  simp [c0, c1, c2, c3]
theorem rd_two {w2 W : World} {H : Nat} {p : Option Addr} {L : List Hp.Wd} (h : RdP w2 1 encS p L) (hne : ∀ a, p = some a → a.block ≠ H) (hf : TwoB H H w2 W) : RdP W 1 encS p L := by
  refine ⟨h.1, fun a ha => ?_⟩
  obtain ⟨g1, g2, g3⟩ := h.2 a ha
  exact ⟨g1, Nat.lt_of_lt_of_le g2 hf.size, fun i x hx j u hu => (World.cell?_of_block (a := ⟨a.block, _, none⟩) (hf.block a.block g2 (hne a ha) (hne a ha))).trans (g3 i x hx j u hu)⟩
section
variable {w w2 W : World} {B H : Nat} {op P B' : Int} {L R : List Int} {C : Bool} {part : Int} {l r : Value}
theorem RP.cs (h : RP w w2 B H W ⟨op, L, P, B', R, C⟩ part l r) : W.cell? ⟨H, 0, none⟩ = some (.int .i64 op) ∧ W.cell? ⟨H, 1, none⟩ = some l ∧ W.cell? ⟨H, 2, none⟩ = some (.int .i64 P) ∧ W.cell? ⟨H, 3, none⟩ = some (.int .i64 B') ∧ W.cell? ⟨H, 4, none⟩ = some r ∧ W.cell? ⟨H, 5, none⟩ = some (.bool C) :=
  ⟨h.hb.cell 0, h.hb.cell 1, h.hb.cell 2, h.hb.cell 3, h.hb.cell 4, h.hb.cell 5⟩
theorem RP.fz (h : RP w w2 B H W ⟨op, L, P, B', R, C⟩ part l r) : W.frozen? ⟨H, 0, none⟩ = false ∧ W.frozen? ⟨H, 1, none⟩ = false ∧ W.frozen? ⟨H, 2, none⟩ = false ∧ W.frozen? ⟨H, 3, none⟩ = false ∧ W.frozen? ⟨H, 4, none⟩ = false ∧ W.frozen? ⟨H, 5, none⟩ = false :=
  ⟨h.hb.frozen' 0, h.hb.frozen' 1, h.hb.frozen' 2, h.hb.frozen' 3, h.hb.frozen' 4, h.hb.frozen' 5⟩
end

set_option maxRecDepth 100000 in
set_option maxHeartbeats 8000000 in
theorem ref_Parse15 (s : List UInt8) (hs : s.length ≤ 1000000) (w : World) :
    Calls Tryd.prog 16 #[.string (str s)] w (RetHop (Hp.refParse s) w) := by
  have HW := Lib.hid fun W => ref_words s hs W
  have htl := str_tl
  have hL := Hp.spl_ne s
  have HSL := Lib.hid (spl_le s)
  have hLl : (Hp.spl s).length ≤ 1000001 := by
    have h1 := spl_len s
    have := List.count_le_length (a := (32 : UInt8)) (l := s)
    omega
  have HRP : Hid (Hp.refParse s = if Hp.checkR (Hp.interp (Hp.spl s)) = 0 ∧ Hp.showR (Hp.interp (Hp.spl s)) = s then some (Hp.interp (Hp.spl s)) else none) := Lib.hid rfl
  generalize Hp.spl s = L at *
  have HLN := Lib.hid hL
  have HN0 := Lib.hid (Blk.new w 24 #[.int .i64 0, .slice none 0 0, .int .i64 0, .int .i64 0, .slice none 0 0, .bool false])
  clear hL
  go_enter Tryd.func16, Tryd.ntmps16
  go_wp2_with fail
  refine (HW.out _).mono ?_
  rintro e w2 ⟨v, rfl, ho, hb⟩
  obtain ⟨p, cap, rfl, h1, h2, hR, hpA⟩ := SlP.of_owns encS_len ho
  have hne : ∀ a, p = some a → a.block ≠ w.heap.size + 1 := fun a ha => by have := hpA a ha; simp at this; omega
  have HRD : Hid (∀ W, TwoB (w.heap.size + 1) (w.heap.size + 1) w2 W → RdP W 1 encS p L) := Lib.hid fun W hf => rd_two hR hne hf
  have hHb := Blk.new (w.alloc (.cells #[.int .i64 0, .slice none 0 0, .int .i64 0, .int .i64 0, .slice none 0 0, .bool false] 24)) 24 (hopA h00 (.slice none 0 0) (.slice none 0 0))
  rw [World.size_alloc] at hHb
  have hsz2 : w.heap.size + 1 + 1 ≤ w2.heap.size := by have := hb.size; simpa using this
  have HR0 : Hid (RP w w2 w2.heap.size (w.heap.size + 1) w2 (stp L 0).h (stp L 0).part (.slice none 0 0) (.slice none 0 0)) := by
    rw [stp_zero]
    refine Lib.hid ⟨hHb.below hb (by simp), World.ownsRow_nil _ _ _ _, World.ownsRow_nil _ _ _ _, .inl rfl, fun _ => ⟨rfl, rfl⟩, TwoB.refl _ _ _, ?_, by omega, rfl, by omega⟩
    exact ((belowA w _).alloc (by simp) _).trans (hb.mono (by simp; omega))
  have HN2 : Hid (Blk w2 w.heap.size 24 #[.int .i64 0, .slice none 0 0, .int .i64 0, .int .i64 0, .slice none 0 0, .bool false]) := Lib.hid ((HN0.out.alloc _).below hb (by simp; omega))
  clear ho hb hR hpA hne hHb HN0 HW
  go_wp2_with fail
  go_loopw [6, 7] (fun vp vi wr => ∃ (k : Nat) (l r : Value), vi = .int .i64 k ∧ k ≤ L.length ∧ k ≤ 60 ∧ vp = .int .i64 (stp L k).part ∧ Hid (RP w w2 w2.heap.size (w.heap.size + 1) wr (stp L k).h (stp L k).part l r)) (fun _ vi _ => 60 - (intOf vi).toNat)
  case atStart => exact ⟨0, _, _, rfl, Nat.zero_le _, by omega, by rw [stp_zero], HR0⟩
  case round =>
    obtain ⟨k, l, r, rfl, hk, hk60, rfl, HR⟩ := hrel
    by_cases hlt : k < L.length ∧ k < 60
    · obtain ⟨hlt1, hlt2⟩ := hlt
      obtain ⟨x, hLx⟩ : ∃ x, L[k]? = some x := ⟨L[k], List.getElem?_eq_getElem hlt1⟩
      have hxl : x.length ≤ 1000000 := Nat.le_trans (HSL.out x (List.mem_of_getElem? hLx)) hs
      have HN := Lib.hid fun W => ref_Number x (by omega) 1048575 W
      obtain ⟨b, off, rfl, hbl, hc⟩ := (HRD.out wr HR.out.fr).at hlt1
      have hx : wr.cell? ⟨b, off + k, none⟩ = some (.string (str x)) := by
        have hLk : L[k] = x := by have := List.getElem?_eq_getElem hlt1; rw [hLx] at this; cases this; rfl
        have := hc 0 (.string (str x)) (by rw [hLk]; rfl)
        simpa using this
      have HLX := Lib.hid hLx
      have hlk := stp_len (L := L) hk
      clear hc hLx
      by_cases hk0 : k = 0
      · subst hk0
        rw [stp_zero] at HR
        simp only at HR
        have HR' : Hid (RP w w2 w2.heap.size (w.heap.size + 1) wr ⟨opAt x 0, [], 0, -1, [], false⟩ 0 l r) := HR
        obtain ⟨d0, d1, d2, d3, d4, d5⟩ := RP.cs (op := -1) HR'.out
        rw [stp_zero]
        have HST := Lib.hid (stp_one HLX.out)
        have HX0 : Hid (∀ W h l r, RP w w2 w2.heap.size (w.heap.size + 1) W h 0 l r → W.cell? ⟨b, off, none⟩ = some (.string (str x))) := Lib.hid fun W h l r hW => by
          obtain ⟨b', off', hbo, _, hc⟩ := (HRD.out W hW.fr).at hlt1
          cases hbo
          have hLk : L[0] = x := by have := List.getElem?_eq_getElem hlt1; rw [HLX.out] at this; cases this; rfl
          have := hc 0 (.string (str x)) (by rw [hLk]; rfl)
          simpa using this
        clear HR
        have hx00 := HX0.out _ _ _ _ HR'.out
        go_wp2_with fail
        refine (HN.out _).mono ?_
        rintro e w3 ⟨rfl, hw3⟩
        subst hw3
        go_wp2_with fail
        go_loopw [10] (fun vj W => ∃ j : Nat, j ≤ 4 ∧ vj = .int .i64 j ∧ Hid (RP w w2 w2.heap.size (w.heap.size + 1) W ⟨opAt x j, [], 0, -1, [], false⟩ 0 l r)) (fun vj _ => 4 - (intOf vj).toNat)
        case atStart => exact ⟨0, by omega, rfl, HR'⟩
        case round =>
          obtain ⟨j, hj, rfl, HJ⟩ := hrel
          by_cases hj4 : j = 4
          · subst hj4
            have HE : Hid (stp L 1 = ⟨⟨opAt x 4, [], 0, -1, [], false⟩, 0⟩) := by rw [HST.out, opAt_four]; exact Lib.hid rfl
            go_wp2_with fail
            refine ⟨⟨1, l, r, by go_num, by omega, by omega, by rw [HE.out], ?_⟩, by simp [intOf]⟩
            rw [HE.out]
            exact HJ
          have hcs : j = 0 ∨ j = 1 ∨ j = 2 ∨ j = 3 := by omega
          rcases hcs with rfl | rfl | rfl | rfl
          · by_cases cx : x = [112, 117, 115, 104]
            · have q : (x == [112, 117, 115, 104]) = true := by rw [cx]; rfl
              have HO : Hid (opAt x 1 = 0) := Lib.hid (if_pos (show x = Hp.opW ((0 : Nat) : Int) from cx))
              clear cx
              go_wp2_with fail
              refine wp_region_held_drew (S := fun W => RP w w2 w2.heap.size (w.heap.size + 1) W ⟨opAt x 0, [], 0, -1, [], false⟩ 0 l r) (by kernel_rfl) HJ.out.drew (fun hHeld => ?_)
              refine wpAnyH_take (i := 0) (v := ?_) rfl (by kernel_rfl) (by kernel_rfl) (by kernel_rfl) (fun _ _ _ h => h) (Or.inl ⟨by rfl, ?_⟩) (by assumption) ?_
              rotate_left
              · intro w hSw; go_simp; try with_reducible rfl
              simp only [Act.put, List.setIfInBounds_toArray, List.set_cons_zero, List.set_cons_succ, List.getElem_toArray, List.getElem_cons_zero, List.getElem_cons_succ]
              refine wpAnyH_take (i := 1) (v := ?_) rfl (by kernel_rfl) (by kernel_rfl) (by kernel_rfl) (fun _ _ _ h => h) (Or.inl ⟨by rfl, ?_⟩) (by assumption) ?_
              rotate_left
              · intro w hSw; go_simp; try with_reducible rfl
              simp only [Act.put, List.setIfInBounds_toArray, List.set_cons_zero, List.set_cons_succ, List.getElem_toArray, List.getElem_cons_zero, List.getElem_cons_succ]
              refine wpAnyH_take (i := 2) (v := ?_) rfl (by kernel_rfl) (by kernel_rfl) (by kernel_rfl) (fun _ _ _ h => h) (Or.inl ⟨by rfl, ?_⟩) (by assumption) ?_
              rotate_left
              · intro w h; have hf := HX0.out _ _ _ _ h; go_simp; try with_reducible rfl
              simp only [Act.put, List.setIfInBounds_toArray, List.set_cons_zero, List.set_cons_succ, List.getElem_toArray, List.getElem_cons_zero, List.getElem_cons_succ]
              refine wpAnyH_take (i := 4) (v := ?_) rfl (by kernel_rfl) (by kernel_rfl) (by kernel_rfl) (fun _ _ _ h => h) (Or.inl ⟨by rfl, ?_⟩) (by assumption) ?_
              rotate_left
              · intro w hSw; go_simp; try with_reducible rfl
              simp only [Act.put, List.setIfInBounds_toArray, List.set_cons_zero, List.set_cons_succ, List.getElem_toArray, List.getElem_cons_zero, List.getElem_cons_succ]
              refine held_step (i := 3) rfl (by kernel_rfl) (by rfl) (fun K hK => ?_)
              go_simp
              refine hK.out _ _ (RP.alloc (by assumption) _) (fun hHeld => ?_)
              clear hK K
              try simp only [Act.put, List.setIfInBounds_toArray, List.set_cons_zero, List.set_cons_succ, List.getElem_toArray, List.getElem_cons_zero, List.getElem_cons_succ]
              refine wpAnyH_take (i := 5) (v := ?_) rfl (by kernel_rfl) (by kernel_rfl) (by kernel_rfl) (fun _ _ _ h => h) (Or.inl ⟨by rfl, ?_⟩) (by assumption) ?_
              rotate_left
              · intro w hSw; go_simp; try with_reducible rfl
              simp only [Act.put, List.setIfInBounds_toArray, List.set_cons_zero, List.set_cons_succ, List.getElem_toArray, List.getElem_cons_zero, List.getElem_cons_succ]
              refine held_step (i := 6) rfl (by kernel_rfl) (by rfl) (fun K hK => ?_)
              go_simp
              refine hK.out _ _ (by assumption) (fun hHeld => ?_)
              clear hK K
              try simp only [Act.put, List.setIfInBounds_toArray, List.set_cons_zero, List.set_cons_succ, List.getElem_toArray, List.getElem_cons_zero, List.getElem_cons_succ]
              refine wpAnyH_take (i := 7) (v := ?_) rfl (by kernel_rfl) (by kernel_rfl) (by kernel_rfl) (fun _ _ _ h => h) (Or.inl ⟨by rfl, ?_⟩) (by assumption) ?_
              rotate_left
              · intro w hSw; go_simp; try with_reducible rfl
              simp only [Act.put, List.setIfInBounds_toArray, List.set_cons_zero, List.set_cons_succ, List.getElem_toArray, List.getElem_cons_zero, List.getElem_cons_succ]
              refine wpAnyH_done (by kernel_rfl) ?_ _
              have HK := Lib.hid hHeld
              obtain ⟨k0, k1, k2, k3, k4, k5⟩ := RP.cs HK.out
              obtain ⟨f0, f1, f2, f3, f4, f5⟩ := RP.fz HK.out
              go_wp2_with fail
              refine ⟨⟨1, by omega, by go_num, ?_⟩, by simp [intOf]⟩
              rw [HO.out]
              exact Lib.hid (HK.out.write 0 (.int .i64 0) rfl rfl rfl id)
            · have q : (x == [112, 117, 115, 104]) = false := by rw [beq_eq_false_iff_ne]; exact cx
              have HO : Hid (opAt x 1 = opAt x 0) := Lib.hid (if_neg (show ¬ x = Hp.opW ((0 : Nat) : Int) from cx))
              clear cx
              go_wp2_with fail
              refine wp_region_held_drew (S := fun W => RP w w2 w2.heap.size (w.heap.size + 1) W ⟨opAt x 0, [], 0, -1, [], false⟩ 0 l r) (by kernel_rfl) HJ.out.drew (fun hHeld => ?_)
              refine wpAnyH_take (i := 0) (v := ?_) rfl (by kernel_rfl) (by kernel_rfl) (by kernel_rfl) (fun _ _ _ h => h) (Or.inl ⟨by rfl, ?_⟩) (by assumption) ?_
              rotate_left
              · intro w hSw; go_simp; try with_reducible rfl
              simp only [Act.put, List.setIfInBounds_toArray, List.set_cons_zero, List.set_cons_succ, List.getElem_toArray, List.getElem_cons_zero, List.getElem_cons_succ]
              refine wpAnyH_take (i := 1) (v := ?_) rfl (by kernel_rfl) (by kernel_rfl) (by kernel_rfl) (fun _ _ _ h => h) (Or.inl ⟨by rfl, ?_⟩) (by assumption) ?_
              rotate_left
              · intro w hSw; go_simp; try with_reducible rfl
              simp only [Act.put, List.setIfInBounds_toArray, List.set_cons_zero, List.set_cons_succ, List.getElem_toArray, List.getElem_cons_zero, List.getElem_cons_succ]
              refine wpAnyH_take (i := 2) (v := ?_) rfl (by kernel_rfl) (by kernel_rfl) (by kernel_rfl) (fun _ _ _ h => h) (Or.inl ⟨by rfl, ?_⟩) (by assumption) ?_
              rotate_left
              · intro w h; have hf := HX0.out _ _ _ _ h; go_simp; try with_reducible rfl
              simp only [Act.put, List.setIfInBounds_toArray, List.set_cons_zero, List.set_cons_succ, List.getElem_toArray, List.getElem_cons_zero, List.getElem_cons_succ]
              refine wpAnyH_take (i := 4) (v := ?_) rfl (by kernel_rfl) (by kernel_rfl) (by kernel_rfl) (fun _ _ _ h => h) (Or.inl ⟨by rfl, ?_⟩) (by assumption) ?_
              rotate_left
              · intro w hSw; go_simp; try with_reducible rfl
              simp only [Act.put, List.setIfInBounds_toArray, List.set_cons_zero, List.set_cons_succ, List.getElem_toArray, List.getElem_cons_zero, List.getElem_cons_succ]
              refine held_step (i := 3) rfl (by kernel_rfl) (by rfl) (fun K hK => ?_)
              go_simp
              refine hK.out _ _ (RP.alloc (by assumption) _) (fun hHeld => ?_)
              clear hK K
              try simp only [Act.put, List.setIfInBounds_toArray, List.set_cons_zero, List.set_cons_succ, List.getElem_toArray, List.getElem_cons_zero, List.getElem_cons_succ]
              refine wpAnyH_take (i := 5) (v := ?_) rfl (by kernel_rfl) (by kernel_rfl) (by kernel_rfl) (fun _ _ _ h => h) (Or.inl ⟨by rfl, ?_⟩) (by assumption) ?_
              rotate_left
              · intro w hSw; go_simp; try with_reducible rfl
              simp only [Act.put, List.setIfInBounds_toArray, List.set_cons_zero, List.set_cons_succ, List.getElem_toArray, List.getElem_cons_zero, List.getElem_cons_succ]
              refine held_step (i := 6) rfl (by kernel_rfl) (by rfl) (fun K hK => ?_)
              go_simp
              refine hK.out _ _ (by assumption) (fun hHeld => ?_)
              clear hK K
              try simp only [Act.put, List.setIfInBounds_toArray, List.set_cons_zero, List.set_cons_succ, List.getElem_toArray, List.getElem_cons_zero, List.getElem_cons_succ]
              refine wpAnyH_take (i := 7) (v := ?_) rfl (by kernel_rfl) (by kernel_rfl) (by kernel_rfl) (fun _ _ _ h => h) (Or.inl ⟨by rfl, ?_⟩) (by assumption) ?_
              rotate_left
              · intro w hSw; go_simp; try with_reducible rfl
              simp only [Act.put, List.setIfInBounds_toArray, List.set_cons_zero, List.set_cons_succ, List.getElem_toArray, List.getElem_cons_zero, List.getElem_cons_succ]
              refine wpAnyH_done (by kernel_rfl) ?_ _
              have HK := Lib.hid hHeld
              obtain ⟨k0, k1, k2, k3, k4, k5⟩ := RP.cs HK.out
              obtain ⟨f0, f1, f2, f3, f4, f5⟩ := RP.fz HK.out
              go_wp2_with fail
              refine ⟨⟨1, by omega, by go_num, ?_⟩, by simp [intOf]⟩
              rw [HO.out]
              exact HK
          · by_cases cx : x = [115, 119, 97, 112]
            · have q : (x == [115, 119, 97, 112]) = true := by rw [cx]; rfl
              have HO : Hid (opAt x 2 = 1) := Lib.hid (if_pos (show x = Hp.opW ((1 : Nat) : Int) from cx))
              clear cx
              go_wp2_with fail
              refine wp_region_held_drew (S := fun W => RP w w2 w2.heap.size (w.heap.size + 1) W ⟨opAt x 1, [], 0, -1, [], false⟩ 0 l r) (by kernel_rfl) HJ.out.drew (fun hHeld => ?_)
              refine wpAnyH_take (i := 0) (v := ?_) rfl (by kernel_rfl) (by kernel_rfl) (by kernel_rfl) (fun _ _ _ h => h) (Or.inl ⟨by rfl, ?_⟩) (by assumption) ?_
              rotate_left
              · intro w hSw; go_simp; try with_reducible rfl
              simp only [Act.put, List.setIfInBounds_toArray, List.set_cons_zero, List.set_cons_succ, List.getElem_toArray, List.getElem_cons_zero, List.getElem_cons_succ]
              refine wpAnyH_take (i := 1) (v := ?_) rfl (by kernel_rfl) (by kernel_rfl) (by kernel_rfl) (fun _ _ _ h => h) (Or.inl ⟨by rfl, ?_⟩) (by assumption) ?_
              rotate_left
              · intro w hSw; go_simp; try with_reducible rfl
              simp only [Act.put, List.setIfInBounds_toArray, List.set_cons_zero, List.set_cons_succ, List.getElem_toArray, List.getElem_cons_zero, List.getElem_cons_succ]
              refine wpAnyH_take (i := 2) (v := ?_) rfl (by kernel_rfl) (by kernel_rfl) (by kernel_rfl) (fun _ _ _ h => h) (Or.inl ⟨by rfl, ?_⟩) (by assumption) ?_
              rotate_left
              · intro w h; have hf := HX0.out _ _ _ _ h; go_simp; try with_reducible rfl
              simp only [Act.put, List.setIfInBounds_toArray, List.set_cons_zero, List.set_cons_succ, List.getElem_toArray, List.getElem_cons_zero, List.getElem_cons_succ]
              refine wpAnyH_take (i := 4) (v := ?_) rfl (by kernel_rfl) (by kernel_rfl) (by kernel_rfl) (fun _ _ _ h => h) (Or.inl ⟨by rfl, ?_⟩) (by assumption) ?_
              rotate_left
              · intro w hSw; go_simp; try with_reducible rfl
              simp only [Act.put, List.setIfInBounds_toArray, List.set_cons_zero, List.set_cons_succ, List.getElem_toArray, List.getElem_cons_zero, List.getElem_cons_succ]
              refine held_step (i := 3) rfl (by kernel_rfl) (by rfl) (fun K hK => ?_)
              go_simp
              refine hK.out _ _ (RP.alloc (by assumption) _) (fun hHeld => ?_)
              clear hK K
              try simp only [Act.put, List.setIfInBounds_toArray, List.set_cons_zero, List.set_cons_succ, List.getElem_toArray, List.getElem_cons_zero, List.getElem_cons_succ]
              refine wpAnyH_take (i := 5) (v := ?_) rfl (by kernel_rfl) (by kernel_rfl) (by kernel_rfl) (fun _ _ _ h => h) (Or.inl ⟨by rfl, ?_⟩) (by assumption) ?_
              rotate_left
              · intro w hSw; go_simp; try with_reducible rfl
              simp only [Act.put, List.setIfInBounds_toArray, List.set_cons_zero, List.set_cons_succ, List.getElem_toArray, List.getElem_cons_zero, List.getElem_cons_succ]
              refine held_step (i := 6) rfl (by kernel_rfl) (by rfl) (fun K hK => ?_)
              go_simp
              refine hK.out _ _ (by assumption) (fun hHeld => ?_)
              clear hK K
              try simp only [Act.put, List.setIfInBounds_toArray, List.set_cons_zero, List.set_cons_succ, List.getElem_toArray, List.getElem_cons_zero, List.getElem_cons_succ]
              refine wpAnyH_take (i := 7) (v := ?_) rfl (by kernel_rfl) (by kernel_rfl) (by kernel_rfl) (fun _ _ _ h => h) (Or.inl ⟨by rfl, ?_⟩) (by assumption) ?_
              rotate_left
              · intro w hSw; go_simp; try with_reducible rfl
              simp only [Act.put, List.setIfInBounds_toArray, List.set_cons_zero, List.set_cons_succ, List.getElem_toArray, List.getElem_cons_zero, List.getElem_cons_succ]
              refine wpAnyH_done (by kernel_rfl) ?_ _
              have HK := Lib.hid hHeld
              obtain ⟨k0, k1, k2, k3, k4, k5⟩ := RP.cs HK.out
              obtain ⟨f0, f1, f2, f3, f4, f5⟩ := RP.fz HK.out
              go_wp2_with fail
              refine ⟨⟨2, by omega, by go_num, ?_⟩, by simp [intOf]⟩
              rw [HO.out]
              exact Lib.hid (HK.out.write 0 (.int .i64 1) rfl rfl rfl id)
            · have q : (x == [115, 119, 97, 112]) = false := by rw [beq_eq_false_iff_ne]; exact cx
              have HO : Hid (opAt x 2 = opAt x 1) := Lib.hid (if_neg (show ¬ x = Hp.opW ((1 : Nat) : Int) from cx))
              clear cx
              go_wp2_with fail
              refine wp_region_held_drew (S := fun W => RP w w2 w2.heap.size (w.heap.size + 1) W ⟨opAt x 1, [], 0, -1, [], false⟩ 0 l r) (by kernel_rfl) HJ.out.drew (fun hHeld => ?_)
              refine wpAnyH_take (i := 0) (v := ?_) rfl (by kernel_rfl) (by kernel_rfl) (by kernel_rfl) (fun _ _ _ h => h) (Or.inl ⟨by rfl, ?_⟩) (by assumption) ?_
              rotate_left
              · intro w hSw; go_simp; try with_reducible rfl
              simp only [Act.put, List.setIfInBounds_toArray, List.set_cons_zero, List.set_cons_succ, List.getElem_toArray, List.getElem_cons_zero, List.getElem_cons_succ]
              refine wpAnyH_take (i := 1) (v := ?_) rfl (by kernel_rfl) (by kernel_rfl) (by kernel_rfl) (fun _ _ _ h => h) (Or.inl ⟨by rfl, ?_⟩) (by assumption) ?_
              rotate_left
              · intro w hSw; go_simp; try with_reducible rfl
              simp only [Act.put, List.setIfInBounds_toArray, List.set_cons_zero, List.set_cons_succ, List.getElem_toArray, List.getElem_cons_zero, List.getElem_cons_succ]
              refine wpAnyH_take (i := 2) (v := ?_) rfl (by kernel_rfl) (by kernel_rfl) (by kernel_rfl) (fun _ _ _ h => h) (Or.inl ⟨by rfl, ?_⟩) (by assumption) ?_
              rotate_left
              · intro w h; have hf := HX0.out _ _ _ _ h; go_simp; try with_reducible rfl
              simp only [Act.put, List.setIfInBounds_toArray, List.set_cons_zero, List.set_cons_succ, List.getElem_toArray, List.getElem_cons_zero, List.getElem_cons_succ]
              refine wpAnyH_take (i := 4) (v := ?_) rfl (by kernel_rfl) (by kernel_rfl) (by kernel_rfl) (fun _ _ _ h => h) (Or.inl ⟨by rfl, ?_⟩) (by assumption) ?_
              rotate_left
              · intro w hSw; go_simp; try with_reducible rfl
              simp only [Act.put, List.setIfInBounds_toArray, List.set_cons_zero, List.set_cons_succ, List.getElem_toArray, List.getElem_cons_zero, List.getElem_cons_succ]
              refine held_step (i := 3) rfl (by kernel_rfl) (by rfl) (fun K hK => ?_)
              go_simp
              refine hK.out _ _ (RP.alloc (by assumption) _) (fun hHeld => ?_)
              clear hK K
              try simp only [Act.put, List.setIfInBounds_toArray, List.set_cons_zero, List.set_cons_succ, List.getElem_toArray, List.getElem_cons_zero, List.getElem_cons_succ]
              refine wpAnyH_take (i := 5) (v := ?_) rfl (by kernel_rfl) (by kernel_rfl) (by kernel_rfl) (fun _ _ _ h => h) (Or.inl ⟨by rfl, ?_⟩) (by assumption) ?_
              rotate_left
              · intro w hSw; go_simp; try with_reducible rfl
              simp only [Act.put, List.setIfInBounds_toArray, List.set_cons_zero, List.set_cons_succ, List.getElem_toArray, List.getElem_cons_zero, List.getElem_cons_succ]
              refine held_step (i := 6) rfl (by kernel_rfl) (by rfl) (fun K hK => ?_)
              go_simp
              refine hK.out _ _ (by assumption) (fun hHeld => ?_)
              clear hK K
              try simp only [Act.put, List.setIfInBounds_toArray, List.set_cons_zero, List.set_cons_succ, List.getElem_toArray, List.getElem_cons_zero, List.getElem_cons_succ]
              refine wpAnyH_take (i := 7) (v := ?_) rfl (by kernel_rfl) (by kernel_rfl) (by kernel_rfl) (fun _ _ _ h => h) (Or.inl ⟨by rfl, ?_⟩) (by assumption) ?_
              rotate_left
              · intro w hSw; go_simp; try with_reducible rfl
              simp only [Act.put, List.setIfInBounds_toArray, List.set_cons_zero, List.set_cons_succ, List.getElem_toArray, List.getElem_cons_zero, List.getElem_cons_succ]
              refine wpAnyH_done (by kernel_rfl) ?_ _
              have HK := Lib.hid hHeld
              obtain ⟨k0, k1, k2, k3, k4, k5⟩ := RP.cs HK.out
              obtain ⟨f0, f1, f2, f3, f4, f5⟩ := RP.fz HK.out
              go_wp2_with fail
              refine ⟨⟨2, by omega, by go_num, ?_⟩, by simp [intOf]⟩
              rw [HO.out]
              exact HK
          · by_cases cx : x = [112, 111, 112]
            · have q : (x == [112, 111, 112]) = true := by rw [cx]; rfl
              have HO : Hid (opAt x 3 = 2) := Lib.hid (if_pos (show x = Hp.opW ((2 : Nat) : Int) from cx))
              clear cx
              go_wp2_with fail
              refine wp_region_held_drew (S := fun W => RP w w2 w2.heap.size (w.heap.size + 1) W ⟨opAt x 2, [], 0, -1, [], false⟩ 0 l r) (by kernel_rfl) HJ.out.drew (fun hHeld => ?_)
              refine wpAnyH_take (i := 0) (v := ?_) rfl (by kernel_rfl) (by kernel_rfl) (by kernel_rfl) (fun _ _ _ h => h) (Or.inl ⟨by rfl, ?_⟩) (by assumption) ?_
              rotate_left
              · intro w hSw; go_simp; try with_reducible rfl
              simp only [Act.put, List.setIfInBounds_toArray, List.set_cons_zero, List.set_cons_succ, List.getElem_toArray, List.getElem_cons_zero, List.getElem_cons_succ]
              refine wpAnyH_take (i := 1) (v := ?_) rfl (by kernel_rfl) (by kernel_rfl) (by kernel_rfl) (fun _ _ _ h => h) (Or.inl ⟨by rfl, ?_⟩) (by assumption) ?_
              rotate_left
              · intro w hSw; go_simp; try with_reducible rfl
              simp only [Act.put, List.setIfInBounds_toArray, List.set_cons_zero, List.set_cons_succ, List.getElem_toArray, List.getElem_cons_zero, List.getElem_cons_succ]
              refine wpAnyH_take (i := 2) (v := ?_) rfl (by kernel_rfl) (by kernel_rfl) (by kernel_rfl) (fun _ _ _ h => h) (Or.inl ⟨by rfl, ?_⟩) (by assumption) ?_
              rotate_left
              · intro w h; have hf := HX0.out _ _ _ _ h; go_simp; try with_reducible rfl
              simp only [Act.put, List.setIfInBounds_toArray, List.set_cons_zero, List.set_cons_succ, List.getElem_toArray, List.getElem_cons_zero, List.getElem_cons_succ]
              refine wpAnyH_take (i := 4) (v := ?_) rfl (by kernel_rfl) (by kernel_rfl) (by kernel_rfl) (fun _ _ _ h => h) (Or.inl ⟨by rfl, ?_⟩) (by assumption) ?_
              rotate_left
              · intro w hSw; go_simp; try with_reducible rfl
              simp only [Act.put, List.setIfInBounds_toArray, List.set_cons_zero, List.set_cons_succ, List.getElem_toArray, List.getElem_cons_zero, List.getElem_cons_succ]
              refine held_step (i := 3) rfl (by kernel_rfl) (by rfl) (fun K hK => ?_)
              go_simp
              refine hK.out _ _ (RP.alloc (by assumption) _) (fun hHeld => ?_)
              clear hK K
              try simp only [Act.put, List.setIfInBounds_toArray, List.set_cons_zero, List.set_cons_succ, List.getElem_toArray, List.getElem_cons_zero, List.getElem_cons_succ]
              refine wpAnyH_take (i := 5) (v := ?_) rfl (by kernel_rfl) (by kernel_rfl) (by kernel_rfl) (fun _ _ _ h => h) (Or.inl ⟨by rfl, ?_⟩) (by assumption) ?_
              rotate_left
              · intro w hSw; go_simp; try with_reducible rfl
              simp only [Act.put, List.setIfInBounds_toArray, List.set_cons_zero, List.set_cons_succ, List.getElem_toArray, List.getElem_cons_zero, List.getElem_cons_succ]
              refine held_step (i := 6) rfl (by kernel_rfl) (by rfl) (fun K hK => ?_)
              go_simp
              refine hK.out _ _ (by assumption) (fun hHeld => ?_)
              clear hK K
              try simp only [Act.put, List.setIfInBounds_toArray, List.set_cons_zero, List.set_cons_succ, List.getElem_toArray, List.getElem_cons_zero, List.getElem_cons_succ]
              refine wpAnyH_take (i := 7) (v := ?_) rfl (by kernel_rfl) (by kernel_rfl) (by kernel_rfl) (fun _ _ _ h => h) (Or.inl ⟨by rfl, ?_⟩) (by assumption) ?_
              rotate_left
              · intro w hSw; go_simp; try with_reducible rfl
              simp only [Act.put, List.setIfInBounds_toArray, List.set_cons_zero, List.set_cons_succ, List.getElem_toArray, List.getElem_cons_zero, List.getElem_cons_succ]
              refine wpAnyH_done (by kernel_rfl) ?_ _
              have HK := Lib.hid hHeld
              obtain ⟨k0, k1, k2, k3, k4, k5⟩ := RP.cs HK.out
              obtain ⟨f0, f1, f2, f3, f4, f5⟩ := RP.fz HK.out
              go_wp2_with fail
              refine ⟨⟨3, by omega, by go_num, ?_⟩, by simp [intOf]⟩
              rw [HO.out]
              exact Lib.hid (HK.out.write 0 (.int .i64 2) rfl rfl rfl id)
            · have q : (x == [112, 111, 112]) = false := by rw [beq_eq_false_iff_ne]; exact cx
              have HO : Hid (opAt x 3 = opAt x 2) := Lib.hid (if_neg (show ¬ x = Hp.opW ((2 : Nat) : Int) from cx))
              clear cx
              go_wp2_with fail
              refine wp_region_held_drew (S := fun W => RP w w2 w2.heap.size (w.heap.size + 1) W ⟨opAt x 2, [], 0, -1, [], false⟩ 0 l r) (by kernel_rfl) HJ.out.drew (fun hHeld => ?_)
              refine wpAnyH_take (i := 0) (v := ?_) rfl (by kernel_rfl) (by kernel_rfl) (by kernel_rfl) (fun _ _ _ h => h) (Or.inl ⟨by rfl, ?_⟩) (by assumption) ?_
              rotate_left
              · intro w hSw; go_simp; try with_reducible rfl
              simp only [Act.put, List.setIfInBounds_toArray, List.set_cons_zero, List.set_cons_succ, List.getElem_toArray, List.getElem_cons_zero, List.getElem_cons_succ]
              refine wpAnyH_take (i := 1) (v := ?_) rfl (by kernel_rfl) (by kernel_rfl) (by kernel_rfl) (fun _ _ _ h => h) (Or.inl ⟨by rfl, ?_⟩) (by assumption) ?_
              rotate_left
              · intro w hSw; go_simp; try with_reducible rfl
              simp only [Act.put, List.setIfInBounds_toArray, List.set_cons_zero, List.set_cons_succ, List.getElem_toArray, List.getElem_cons_zero, List.getElem_cons_succ]
              refine wpAnyH_take (i := 2) (v := ?_) rfl (by kernel_rfl) (by kernel_rfl) (by kernel_rfl) (fun _ _ _ h => h) (Or.inl ⟨by rfl, ?_⟩) (by assumption) ?_
              rotate_left
              · intro w h; have hf := HX0.out _ _ _ _ h; go_simp; try with_reducible rfl
              simp only [Act.put, List.setIfInBounds_toArray, List.set_cons_zero, List.set_cons_succ, List.getElem_toArray, List.getElem_cons_zero, List.getElem_cons_succ]
              refine wpAnyH_take (i := 4) (v := ?_) rfl (by kernel_rfl) (by kernel_rfl) (by kernel_rfl) (fun _ _ _ h => h) (Or.inl ⟨by rfl, ?_⟩) (by assumption) ?_
              rotate_left
              · intro w hSw; go_simp; try with_reducible rfl
              simp only [Act.put, List.setIfInBounds_toArray, List.set_cons_zero, List.set_cons_succ, List.getElem_toArray, List.getElem_cons_zero, List.getElem_cons_succ]
              refine held_step (i := 3) rfl (by kernel_rfl) (by rfl) (fun K hK => ?_)
              go_simp
              refine hK.out _ _ (RP.alloc (by assumption) _) (fun hHeld => ?_)
              clear hK K
              try simp only [Act.put, List.setIfInBounds_toArray, List.set_cons_zero, List.set_cons_succ, List.getElem_toArray, List.getElem_cons_zero, List.getElem_cons_succ]
              refine wpAnyH_take (i := 5) (v := ?_) rfl (by kernel_rfl) (by kernel_rfl) (by kernel_rfl) (fun _ _ _ h => h) (Or.inl ⟨by rfl, ?_⟩) (by assumption) ?_
              rotate_left
              · intro w hSw; go_simp; try with_reducible rfl
              simp only [Act.put, List.setIfInBounds_toArray, List.set_cons_zero, List.set_cons_succ, List.getElem_toArray, List.getElem_cons_zero, List.getElem_cons_succ]
              refine held_step (i := 6) rfl (by kernel_rfl) (by rfl) (fun K hK => ?_)
              go_simp
              refine hK.out _ _ (by assumption) (fun hHeld => ?_)
              clear hK K
              try simp only [Act.put, List.setIfInBounds_toArray, List.set_cons_zero, List.set_cons_succ, List.getElem_toArray, List.getElem_cons_zero, List.getElem_cons_succ]
              refine wpAnyH_take (i := 7) (v := ?_) rfl (by kernel_rfl) (by kernel_rfl) (by kernel_rfl) (fun _ _ _ h => h) (Or.inl ⟨by rfl, ?_⟩) (by assumption) ?_
              rotate_left
              · intro w hSw; go_simp; try with_reducible rfl
              simp only [Act.put, List.setIfInBounds_toArray, List.set_cons_zero, List.set_cons_succ, List.getElem_toArray, List.getElem_cons_zero, List.getElem_cons_succ]
              refine wpAnyH_done (by kernel_rfl) ?_ _
              have HK := Lib.hid hHeld
              obtain ⟨k0, k1, k2, k3, k4, k5⟩ := RP.cs HK.out
              obtain ⟨f0, f1, f2, f3, f4, f5⟩ := RP.fz HK.out
              go_wp2_with fail
              refine ⟨⟨3, by omega, by go_num, ?_⟩, by simp [intOf]⟩
              rw [HO.out]
              exact HK
          · by_cases cx : x = [104, 101, 114, 101]
            · have q : (x == [104, 101, 114, 101]) = true := by rw [cx]; rfl
              have HO : Hid (opAt x 4 = 3) := Lib.hid (if_pos (show x = Hp.opW ((3 : Nat) : Int) from cx))
              clear cx
              go_wp2_with fail
              refine wp_region_held_drew (S := fun W => RP w w2 w2.heap.size (w.heap.size + 1) W ⟨opAt x 3, [], 0, -1, [], false⟩ 0 l r) (by kernel_rfl) HJ.out.drew (fun hHeld => ?_)
              refine wpAnyH_take (i := 0) (v := ?_) rfl (by kernel_rfl) (by kernel_rfl) (by kernel_rfl) (fun _ _ _ h => h) (Or.inl ⟨by rfl, ?_⟩) (by assumption) ?_
              rotate_left
              · intro w hSw; go_simp; try with_reducible rfl
              simp only [Act.put, List.setIfInBounds_toArray, List.set_cons_zero, List.set_cons_succ, List.getElem_toArray, List.getElem_cons_zero, List.getElem_cons_succ]
              refine wpAnyH_take (i := 1) (v := ?_) rfl (by kernel_rfl) (by kernel_rfl) (by kernel_rfl) (fun _ _ _ h => h) (Or.inl ⟨by rfl, ?_⟩) (by assumption) ?_
              rotate_left
              · intro w hSw; go_simp; try with_reducible rfl
              simp only [Act.put, List.setIfInBounds_toArray, List.set_cons_zero, List.set_cons_succ, List.getElem_toArray, List.getElem_cons_zero, List.getElem_cons_succ]
              refine wpAnyH_take (i := 2) (v := ?_) rfl (by kernel_rfl) (by kernel_rfl) (by kernel_rfl) (fun _ _ _ h => h) (Or.inl ⟨by rfl, ?_⟩) (by assumption) ?_
              rotate_left
              · intro w h; have hf := HX0.out _ _ _ _ h; go_simp; try with_reducible rfl
              simp only [Act.put, List.setIfInBounds_toArray, List.set_cons_zero, List.set_cons_succ, List.getElem_toArray, List.getElem_cons_zero, List.getElem_cons_succ]
              refine wpAnyH_take (i := 4) (v := ?_) rfl (by kernel_rfl) (by kernel_rfl) (by kernel_rfl) (fun _ _ _ h => h) (Or.inl ⟨by rfl, ?_⟩) (by assumption) ?_
              rotate_left
              · intro w hSw; go_simp; try with_reducible rfl
              simp only [Act.put, List.setIfInBounds_toArray, List.set_cons_zero, List.set_cons_succ, List.getElem_toArray, List.getElem_cons_zero, List.getElem_cons_succ]
              refine held_step (i := 3) rfl (by kernel_rfl) (by rfl) (fun K hK => ?_)
              go_simp
              refine hK.out _ _ (RP.alloc (by assumption) _) (fun hHeld => ?_)
              clear hK K
              try simp only [Act.put, List.setIfInBounds_toArray, List.set_cons_zero, List.set_cons_succ, List.getElem_toArray, List.getElem_cons_zero, List.getElem_cons_succ]
              refine wpAnyH_take (i := 5) (v := ?_) rfl (by kernel_rfl) (by kernel_rfl) (by kernel_rfl) (fun _ _ _ h => h) (Or.inl ⟨by rfl, ?_⟩) (by assumption) ?_
              rotate_left
              · intro w hSw; go_simp; try with_reducible rfl
              simp only [Act.put, List.setIfInBounds_toArray, List.set_cons_zero, List.set_cons_succ, List.getElem_toArray, List.getElem_cons_zero, List.getElem_cons_succ]
              refine held_step (i := 6) rfl (by kernel_rfl) (by rfl) (fun K hK => ?_)
              go_simp
              refine hK.out _ _ (by assumption) (fun hHeld => ?_)
              clear hK K
              try simp only [Act.put, List.setIfInBounds_toArray, List.set_cons_zero, List.set_cons_succ, List.getElem_toArray, List.getElem_cons_zero, List.getElem_cons_succ]
              refine wpAnyH_take (i := 7) (v := ?_) rfl (by kernel_rfl) (by kernel_rfl) (by kernel_rfl) (fun _ _ _ h => h) (Or.inl ⟨by rfl, ?_⟩) (by assumption) ?_
              rotate_left
              · intro w hSw; go_simp; try with_reducible rfl
              simp only [Act.put, List.setIfInBounds_toArray, List.set_cons_zero, List.set_cons_succ, List.getElem_toArray, List.getElem_cons_zero, List.getElem_cons_succ]
              refine wpAnyH_done (by kernel_rfl) ?_ _
              have HK := Lib.hid hHeld
              obtain ⟨k0, k1, k2, k3, k4, k5⟩ := RP.cs HK.out
              obtain ⟨f0, f1, f2, f3, f4, f5⟩ := RP.fz HK.out
              go_wp2_with fail
              refine ⟨⟨4, by omega, by go_num, ?_⟩, by simp [intOf]⟩
              rw [HO.out]
              exact Lib.hid (HK.out.write 0 (.int .i64 3) rfl rfl rfl id)
            · have q : (x == [104, 101, 114, 101]) = false := by rw [beq_eq_false_iff_ne]; exact cx
              have HO : Hid (opAt x 4 = opAt x 3) := Lib.hid (if_neg (show ¬ x = Hp.opW ((3 : Nat) : Int) from cx))
              clear cx
              go_wp2_with fail
              refine wp_region_held_drew (S := fun W => RP w w2 w2.heap.size (w.heap.size + 1) W ⟨opAt x 3, [], 0, -1, [], false⟩ 0 l r) (by kernel_rfl) HJ.out.drew (fun hHeld => ?_)
              refine wpAnyH_take (i := 0) (v := ?_) rfl (by kernel_rfl) (by kernel_rfl) (by kernel_rfl) (fun _ _ _ h => h) (Or.inl ⟨by rfl, ?_⟩) (by assumption) ?_
              rotate_left
              · intro w hSw; go_simp; try with_reducible rfl
              simp only [Act.put, List.setIfInBounds_toArray, List.set_cons_zero, List.set_cons_succ, List.getElem_toArray, List.getElem_cons_zero, List.getElem_cons_succ]
              refine wpAnyH_take (i := 1) (v := ?_) rfl (by kernel_rfl) (by kernel_rfl) (by kernel_rfl) (fun _ _ _ h => h) (Or.inl ⟨by rfl, ?_⟩) (by assumption) ?_
              rotate_left
              · intro w hSw; go_simp; try with_reducible rfl
              simp only [Act.put, List.setIfInBounds_toArray, List.set_cons_zero, List.set_cons_succ, List.getElem_toArray, List.getElem_cons_zero, List.getElem_cons_succ]
              refine wpAnyH_take (i := 2) (v := ?_) rfl (by kernel_rfl) (by kernel_rfl) (by kernel_rfl) (fun _ _ _ h => h) (Or.inl ⟨by rfl, ?_⟩) (by assumption) ?_
              rotate_left
              · intro w h; have hf := HX0.out _ _ _ _ h; go_simp; try with_reducible rfl
              simp only [Act.put, List.setIfInBounds_toArray, List.set_cons_zero, List.set_cons_succ, List.getElem_toArray, List.getElem_cons_zero, List.getElem_cons_succ]
              refine wpAnyH_take (i := 4) (v := ?_) rfl (by kernel_rfl) (by kernel_rfl) (by kernel_rfl) (fun _ _ _ h => h) (Or.inl ⟨by rfl, ?_⟩) (by assumption) ?_
              rotate_left
              · intro w hSw; go_simp; try with_reducible rfl
              simp only [Act.put, List.setIfInBounds_toArray, List.set_cons_zero, List.set_cons_succ, List.getElem_toArray, List.getElem_cons_zero, List.getElem_cons_succ]
              refine held_step (i := 3) rfl (by kernel_rfl) (by rfl) (fun K hK => ?_)
              go_simp
              refine hK.out _ _ (RP.alloc (by assumption) _) (fun hHeld => ?_)
              clear hK K
              try simp only [Act.put, List.setIfInBounds_toArray, List.set_cons_zero, List.set_cons_succ, List.getElem_toArray, List.getElem_cons_zero, List.getElem_cons_succ]
              refine wpAnyH_take (i := 5) (v := ?_) rfl (by kernel_rfl) (by kernel_rfl) (by kernel_rfl) (fun _ _ _ h => h) (Or.inl ⟨by rfl, ?_⟩) (by assumption) ?_
              rotate_left
              · intro w hSw; go_simp; try with_reducible rfl
              simp only [Act.put, List.setIfInBounds_toArray, List.set_cons_zero, List.set_cons_succ, List.getElem_toArray, List.getElem_cons_zero, List.getElem_cons_succ]
              refine held_step (i := 6) rfl (by kernel_rfl) (by rfl) (fun K hK => ?_)
              go_simp
              refine hK.out _ _ (by assumption) (fun hHeld => ?_)
              clear hK K
              try simp only [Act.put, List.setIfInBounds_toArray, List.set_cons_zero, List.set_cons_succ, List.getElem_toArray, List.getElem_cons_zero, List.getElem_cons_succ]
              refine wpAnyH_take (i := 7) (v := ?_) rfl (by kernel_rfl) (by kernel_rfl) (by kernel_rfl) (fun _ _ _ h => h) (Or.inl ⟨by rfl, ?_⟩) (by assumption) ?_
              rotate_left
              · intro w hSw; go_simp; try with_reducible rfl
              simp only [Act.put, List.setIfInBounds_toArray, List.set_cons_zero, List.set_cons_succ, List.getElem_toArray, List.getElem_cons_zero, List.getElem_cons_succ]
              refine wpAnyH_done (by kernel_rfl) ?_ _
              have HK := Lib.hid hHeld
              obtain ⟨k0, k1, k2, k3, k4, k5⟩ := RP.cs HK.out
              obtain ⟨f0, f1, f2, f3, f4, f5⟩ := RP.fz HK.out
              go_wp2_with fail
              refine ⟨⟨4, by omega, by go_num, ?_⟩, by simp [intOf]⟩
              rw [HO.out]
              exact HK
      · have e0 : (k == 0) = false := by simpa using hk0
        have e0' : ((k : Int) == 0) = false := by simpa using hk0
        have HST := Lib.hid (stp_succ (by omega : 0 < k) HLX.out)
        generalize stp L k = st at *
        obtain ⟨hh, part⟩ := st
        obtain ⟨op, l1, P, B, R, C⟩ := hh
        simp only at HR hlk ⊢
        obtain ⟨d0, d1, d2, d3, d4, d5⟩ := HR.out.cs
        obtain ⟨f0, f1, f2, f3, f4, f5⟩ := HR.out.fz
        by_cases c1 : x = Hp.wPort
        · have q1 : (x == [112, 111, 114, 116]) = true := by rw [c1]; rfl
          have HE : Hid (stp L (k + 1) = ⟨⟨op, l1, P, B, R, C⟩, 1⟩) := by rw [HST.out, Hp.wd, if_pos c1]; exact Lib.hid rfl
          clear c1
          go_wp2_with fail
          refine (HN.out _).mono ?_
          rintro e w3 ⟨rfl, hw3⟩
          subst hw3
          go_wp2_with fail
          refine ⟨⟨k + 1, l, r, by go_num, by omega, by omega, by rw [HE.out], ?_⟩, by simp [intOf]; omega⟩
          rw [HE.out]
          exact Lib.hid (HR.out.turn 1 (by decide))
        have q1 : (x == [112, 111, 114, 116]) = false := by rw [beq_eq_false_iff_ne]; exact c1
        by_cases c2 : x = Hp.wBackup
        · have q2 : (x == [98, 97, 99, 107, 117, 112]) = true := by rw [c2]; rfl
          have HE : Hid (stp L (k + 1) = ⟨⟨op, l1, P, B, R, C⟩, 2⟩) := by rw [HST.out, Hp.wd, if_neg c1, if_pos c2]; exact Lib.hid rfl
          clear c1 c2
          go_wp2_with fail
          refine (HN.out _).mono ?_
          rintro e w3 ⟨rfl, hw3⟩
          subst hw3
          go_wp2_with fail
          refine ⟨⟨k + 1, l, r, by go_num, by omega, by omega, by rw [HE.out], ?_⟩, by simp [intOf]; omega⟩
          rw [HE.out]
          exact Lib.hid (HR.out.turn 2 (by decide))
        have q2 : (x == [98, 97, 99, 107, 117, 112]) = false := by rw [beq_eq_false_iff_ne]; exact c2
        by_cases c3 : x = Hp.wPipe
        · have q3 : (x == [112, 105, 112, 101]) = true := by rw [c3]; rfl
          have HE : Hid (stp L (k + 1) = ⟨⟨op, l1, P, B, R, true⟩, part⟩) := by rw [HST.out, Hp.wd, if_neg c1, if_neg c2, if_pos c3]; exact Lib.hid rfl
          clear c1 c2 c3
          go_wp2_with fail
          refine (HN.out _).mono ?_
          rintro e w3 ⟨rfl, hw3⟩
          subst hw3
          go_wp2_with fail
          refine ⟨⟨k + 1, l, r, by go_num, by omega, by omega, by rw [HE.out], ?_⟩, by simp [intOf]; omega⟩
          rw [HE.out]
          exact Lib.hid (HR.out.write 5 (.bool true) rfl rfl rfl id)
        have q3 : (x == [112, 105, 112, 101]) = false := by rw [beq_eq_false_iff_ne]; exact c3
        cases hn : number x 1048575 with
        | none =>
          rw [hn] at HN
          have HE : Hid (stp L (k + 1) = ⟨⟨op, l1, P, B, R, C⟩, part⟩) := by rw [HST.out, Hp.wd, if_neg c1, if_neg c2, if_neg c3, hn]; exact Lib.hid rfl
          clear hn c1 c2 c3
          go_wp2_with fail
          refine (HN.out _).mono ?_
          rintro e w3 ⟨rfl, hw3⟩
          subst hw3
          go_wp2_with fail
          refine ⟨⟨k + 1, l, r, by go_num, by omega, by omega, by rw [HE.out], ?_⟩, by simp [intOf]; omega⟩
          rw [HE.out]
          exact Lib.hid (HR.out)
        | some n =>
          rw [hn] at HN
          have HW2 : Hid (stp L (k + 1) = if part = 0 then ⟨⟨op, l1 ++ [n], P, B, R, C⟩, part⟩ else if part = 1 then ⟨⟨op, l1, n, B, R, C⟩, part⟩ else if part = 2 then ⟨⟨op, l1, P, n, R, C⟩, 3⟩ else ⟨⟨op, l1, P, B, R ++ [n], C⟩, part⟩) := by rw [HST.out, Hp.wd, if_neg c1, if_neg c2, if_neg c3, hn]; exact Lib.hid rfl
          clear hn c1 c2 c3
          have hBl := HR.out.Bl
          by_cases p0 : part = 0
          · have HE : Hid (stp L (k + 1) = ⟨⟨op, l1 ++ [n], P, B, R, C⟩, part⟩) := by rw [HW2.out, if_pos p0]; exact Lib.hid rfl
            subst p0
            have HOW : Hid (wr.ownsRow w2.heap.size 3 1 l l1.length (flat encI l1)) := Lib.hid HR.out.ol
            have hHB := HR.out.hB
            go_wp2_with fail
            refine (HN.out _).mono ?_
            rintro e w3 ⟨rfl, hw3⟩
            subst hw3
            go_wp2_with (at_builtin; go_loud (refine wpList_app elemI rfl (.tmp 75) (.tmp 77) rfl w2.heap.size l _ _ rfl HOW.out 1 1 [.int .i64 _] rfl rfl (by simp [Value.oneCell']) (by omega) (by omega) ?_; intro v4 w4 hown4 hgr4 hob4 hb4; have HX := Lib.hid (HR.out.addL rfl hown4 hgr4 hb4); have e1 := (hb4.cell (p := ⟨w.heap.size + 1, 1, none⟩) hHB).trans d1; have g1 := (hb4.frozen (p := ⟨w.heap.size + 1, 1, none⟩) hHB).trans f1; obtain ⟨p4, c4, hv4⟩ := owns_form hown4; clear hown4 hgr4 hob4 hb4; subst hv4))
            refine ⟨⟨k + 1, .slice p4 (l1.length + 1) c4, r, by go_num, by omega, by omega, by rw [HE.out], ?_⟩, by simp [intOf]; omega⟩
            rw [HE.out]
            exact Lib.hid (HX.out)
          have r0 : (part == 0) = false := by simpa using p0
          by_cases p1 : part = 1
          · have HE : Hid (stp L (k + 1) = ⟨⟨op, l1, n, B, R, C⟩, part⟩) := by rw [HW2.out, if_neg p0, if_pos p1]; exact Lib.hid rfl
            subst p1
            clear p0
            go_wp2_with fail
            refine (HN.out _).mono ?_
            rintro e w3 ⟨rfl, hw3⟩
            subst hw3
            go_wp2_with fail
            refine ⟨⟨k + 1, l, r, by go_num, by omega, by omega, by rw [HE.out], ?_⟩, by simp [intOf]; omega⟩
            rw [HE.out]
            exact Lib.hid (HR.out.write 2 (.int .i64 n) rfl rfl rfl id)
          have r1 : (part == 1) = false := by simpa using p1
          by_cases p2 : part = 2
          · have HE : Hid (stp L (k + 1) = ⟨⟨op, l1, P, n, R, C⟩, 3⟩) := by rw [HW2.out, if_neg p0, if_neg p1, if_pos p2]; exact Lib.hid rfl
            subst p2
            clear p0 p1
            go_wp2_with fail
            refine (HN.out _).mono ?_
            rintro e w3 ⟨rfl, hw3⟩
            subst hw3
            go_wp2_with fail
            refine ⟨⟨k + 1, l, r, by go_num, by omega, by omega, by rw [HE.out], ?_⟩, by simp [intOf]; omega⟩
            rw [HE.out]
            exact Lib.hid (HR.out.write (p := 3) 3 (.int .i64 n) rfl rfl rfl (fun e => absurd e (by decide)))
          have r2 : (part == 2) = false := by simpa using p2
          have HE : Hid (stp L (k + 1) = ⟨⟨op, l1, P, B, R ++ [n], C⟩, part⟩) := by rw [HW2.out, if_neg p0, if_neg p1, if_neg p2]; exact Lib.hid rfl
          have HP0 := Lib.hid p0
          have HOW : Hid (wr.ownsRow w2.heap.size 3 1 r R.length (flat encI R)) := Lib.hid HR.out.or
          have hHB := HR.out.hB
          clear p0 p1 p2
          go_wp2_with fail
          refine (HN.out _).mono ?_
          rintro e w3 ⟨rfl, hw3⟩
          subst hw3
          go_wp2_with (at_builtin; go_loud (refine wpList_app elemI rfl (.tmp 99) (.tmp 101) rfl w2.heap.size r _ _ rfl HOW.out 1 1 [.int .i64 _] rfl rfl (by simp [Value.oneCell']) (by omega) (by omega) ?_; intro v4 w4 hown4 hgr4 hob4 hb4; have HX := Lib.hid (HR.out.addR HP0.out hown4 hgr4 hob4 hb4); have e4 := (hb4.cell (p := ⟨w.heap.size + 1, 4, none⟩) hHB).trans d4; have g4 := (hb4.frozen (p := ⟨w.heap.size + 1, 4, none⟩) hHB).trans f4; obtain ⟨p4, c4, hv4⟩ := owns_form hown4; clear hown4 hgr4 hob4 hb4; subst hv4))
          refine ⟨⟨k + 1, l, .slice p4 (R.length + 1) c4, by go_num, by omega, by omega, by rw [HE.out], ?_⟩, by simp [intOf]; omega⟩
          rw [HE.out]
          exact Lib.hid (HX.out)
    · have hk2 : k = 60 ∨ k = L.length := by omega
      have HEnd := Lib.hid (stp_end HLN.out hk2 hk60)
      have hlk := stp_len (L := L) hk
      generalize (stp L k).part = part at *
      generalize hhh : (stp L k).h = hh at *
      obtain ⟨op, l1, P, B, R, C⟩ := hh
      simp only at hlk
      clear hhh
      have HIS : Hid (HopIs wr ⟨op, l1, P, B, R, C⟩ l r) := Lib.hid ⟨by simp only; omega, by simp only; omega, SlR.of_owns encI_len HR.out.ol, SlR.of_owns encI_len HR.out.or⟩
      have HB9 : Hid (Blk wr (w.heap.size + 1) 24 (hopA ⟨op, l1, P, B, R, C⟩ l r)) := Lib.hid HR.out.hb
      have HBN : Hid (Blk wr w.heap.size 24 #[.int .i64 0, .slice none 0 0, .int .i64 0, .int .i64 0, .slice none 0 0, .bool false] ∧ Below w.heap.size w wr) := Lib.hid ⟨HR.out.fr.blk HN2.out (by omega) (by omega), HR.out.bel⟩
      have HBL := Lib.hid HR.out.Bl
      have HOL : Hid (SlP (w2.heap.size ≤ ·) wr 1 encI l l1 ∧ SlP (w2.heap.size ≤ ·) wr 1 encI r R) := Lib.hid ⟨SlP.of_owns encI_len HR.out.ol, SlP.of_owns encI_len HR.out.or⟩
      have hol : ∃ p1 cl1, l = .slice p1 l1.length cl1 := owns_form HR.out.ol
      have hor : ∃ p2 cl2, r = .slice p2 R.length cl2 := owns_form HR.out.or
      obtain ⟨p1, cl1, rfl⟩ := hol
      obtain ⟨p2, cl2, rfl⟩ := hor
      have HCK := Lib.hid (ref_Check ⟨op, l1, P, B, R, C⟩ HIS.out.n1 HIS.out.n2 _ _ wr HIS.out.sl HIS.out.sr)
      have HVA := Lib.hid (Hp.check_iff ⟨op, l1, P, B, R, C⟩)
      have HRQ : Hid (Hp.refParse s = if Hp.checkR ⟨op, l1, P, B, R, C⟩ = 0 ∧ Hp.showR ⟨op, l1, P, B, R, C⟩ = s then some ⟨op, l1, P, B, R, C⟩ else none) := by rw [HRP.out, ← HEnd.out]; exact Lib.hid rfl
      have HSH : Hid (∀ W, Below wr.heap.size wr W → Hp.checkR ⟨op, l1, P, B, R, C⟩ = 0 → Calls Tryd.prog 13 #[.agg (hopA ⟨op, l1, P, B, R, C⟩ (.slice p1 l1.length cl1) (.slice p2 R.length cl2))] W fun e w' => e = .returned (.string (str (Hp.showR ⟨op, l1, P, B, R, C⟩))) ∧ Below W.heap.size W w') := Lib.hid fun W hW hv => ref_Show15 _ (HVA.out.1 hv) _ _ W (HIS.out.below hW (Nat.le_refl _))
      have hH0 := HR.out.hH
      clear HR HRP HEnd HVA HIS
      generalize hck : Hp.checkR ⟨op, l1, P, B, R, C⟩ = ck at *
      generalize hsw : Hp.showR ⟨op, l1, P, B, R, C⟩ = sw at *
      clear hck hsw
      by_cases hkl : k < L.length
      all_goals
        (try have hk60' : ¬ k < 60 := by omega)
        go_wp2_with (refine wpList_load_row rfl _ _ rfl (w.heap.size + 1) rfl _ #[.int .i64 op, .slice p1 l1.length cl1, .int .i64 P, .int .i64 B, .slice p2 R.length cl2, .bool C] (0, 0) _ HB9.out Tryd.underlying24 rfl infoHop ?_)
        refine HCK.out.mono ?_
        rintro e w5 ⟨rfl, hb5⟩
        have HB5 : Hid (Below wr.heap.size wr w5) := Lib.hid hb5
        have HN5 : Hid (Blk w5 w.heap.size 24 #[.int .i64 0, .slice none 0 0, .int .i64 0, .int .i64 0, .slice none 0 0, .bool false] ∧ Below w.heap.size w w5) := Lib.hid ⟨HBN.out.1.below hb5 HBN.out.1.lt, HBN.out.2.trans (hb5.mono HBN.out.2.size)⟩
        have HB95 := Lib.hid (HB9.out.below hb5 HB9.out.lt)
        clear hb5
        by_cases hck : ck = 0
        · subst hck
          go_wp2_with (refine wpListH_load_want rfl _ _ rfl (w.heap.size + 1) rfl _ #[.int .i64 op, .slice p1 l1.length cl1, .int .i64 P, .int .i64 B, .slice p2 R.length cl2, .bool C] (0, 0) _ HB95.out Tryd.underlying24 rfl infoHop ?_)
          refine (HSH.out _ HB5.out (by trivial)).mono ?_
          rintro e w6 ⟨rfl, hb6⟩
          have HB6 : Hid (Below wr.heap.size wr w6) := Lib.hid (HB5.out.trans (hb6.mono HB5.out.size))
          have HN6 : Hid (Blk w6 w.heap.size 24 #[.int .i64 0, .slice none 0 0, .int .i64 0, .int .i64 0, .slice none 0 0, .bool false] ∧ Below w.heap.size w w6) := Lib.hid ⟨HN5.out.1.below hb6 HN5.out.1.lt, HN5.out.2.trans (hb6.mono HN5.out.2.size)⟩
          have HB96 := Lib.hid (HB95.out.below hb6 HB95.out.lt)
          clear hb6
          by_cases hsw : sw = s
          · subst hsw
            have HY : Hid (Hp.refParse sw = some ⟨op, l1, P, B, R, C⟩) := by rw [HRQ.out, if_pos ⟨by trivial, by trivial⟩]; exact Lib.hid rfl
            go_wp2_with (first
              | (refine wpList_load_row rfl _ _ rfl (w.heap.size + 1) rfl _ #[.int .i64 op, .slice p1 l1.length cl1, .int .i64 P, .int .i64 B, .slice p2 R.length cl2, .bool C] (0, 0) _ HB96.out Tryd.underlying24 rfl infoHop ?_)
              | (refine wpList_store_row rfl _ _ _ rfl w.heap.size #[.int .i64 op, .slice p1 l1.length cl1, .int .i64 P, .int .i64 B, .slice p2 R.length cl2, .bool C] rfl rfl _ #[.int .i64 0, .slice none 0 0, .int .i64 0, .int .i64 0, .slice none 0 0, .bool false] HN6.out.1 infoHop rfl (oneHop _ _ _ _ _ _ _ _ _ _) ?_))
            refine bodyPost_ret (resultsH_ct rfl _ _ w.heap.size _ #[.int .i64 op, .slice p1 l1.length cl1, .int .i64 P, .int .i64 B, .slice p2 R.length cl2, .bool C] _ _ rfl (Blk.setRow HN6.out.1 _) Tryd.underlying24 rfl infoHop) rfl ?_
            rw [HY.out]
            have hgr := grown_setRow w6 w.heap.size #[.int .i64 op, .slice p1 l1.length cl1, .int .i64 P, .int .i64 B, .slice p2 R.length cl2, .bool C]
            refine ⟨.slice p1 l1.length cl1, .slice p2 R.length cl2, rfl, ⟨by simp only [Option.getD]; omega, by simp only [Option.getD]; omega, ?_, ?_⟩, below_setRowH HN6.out.2 (Nat.le_refl _) _⟩
            · exact ((HOL.out.1.below HB6.out (Nat.le_refl _)).grown hgr (fun b hb => by simp; omega)).sl
            · exact ((HOL.out.2.below HB6.out (Nat.le_refl _)).grown hgr (fun b hb => by simp; omega)).sl
          · have HNo : Hid (Hp.refParse s = none) := by rw [HRQ.out, if_neg (fun h => hsw h.2)]; exact Lib.hid rfl
            have hne : (sw != s) = true := by simpa using hsw
            have hne2 : (sw == s) = false := by simpa using hsw
            have hne3 : ¬ s = sw := fun e => hsw e.symm
            go_wp2_with (refine wpList_store_row rfl _ _ _ rfl w.heap.size #[.int .i64 0, .slice none 0 0, .int .i64 0, .int .i64 0, .slice none 0 0, .bool false] rfl rfl _ #[.int .i64 0, .slice none 0 0, .int .i64 0, .int .i64 0, .slice none 0 0, .bool false] HN6.out.1 infoHop rfl (oneHop _ _ _ _ _ _ _ _ _ _) ?_)
            refine bodyPost_ret (resultsH_ct rfl _ _ w.heap.size _ #[.int .i64 0, .slice none 0 0, .int .i64 0, .int .i64 0, .slice none 0 0, .bool false] _ _ rfl (Blk.setRow HN6.out.1 _) Tryd.underlying24 rfl infoHop) rfl ?_
            rw [HNo.out]
            exact ⟨.slice none 0 0, .slice none 0 0, rfl, ⟨by simp, by simp, (SlP.nil (Pr := fun _ => True) _ _ _).sl, (SlP.nil (Pr := fun _ => True) _ _ _).sl⟩, below_setRowH HN6.out.2 (Nat.le_refl _) _⟩
        · have HNo : Hid (Hp.refParse s = none) := by rw [HRQ.out, if_neg (fun h => hck h.1)]; exact Lib.hid rfl
          have hne : (ck != 0) = true := by simpa using hck
          clear hck
          go_wp2_with (refine wpList_store_row rfl _ _ _ rfl w.heap.size #[.int .i64 0, .slice none 0 0, .int .i64 0, .int .i64 0, .slice none 0 0, .bool false] rfl rfl _ #[.int .i64 0, .slice none 0 0, .int .i64 0, .int .i64 0, .slice none 0 0, .bool false] HN5.out.1 infoHop rfl (oneHop _ _ _ _ _ _ _ _ _ _) ?_)
          refine bodyPost_ret (resultsH_ct rfl _ _ w.heap.size _ #[.int .i64 0, .slice none 0 0, .int .i64 0, .int .i64 0, .slice none 0 0, .bool false] _ _ rfl (Blk.setRow HN5.out.1 _) Tryd.underlying24 rfl infoHop) rfl ?_
          rw [HNo.out]
          exact ⟨.slice none 0 0, .slice none 0 0, rfl, ⟨by simp, by simp, (SlP.nil (Pr := fun _ => True) _ _ _).sl, (SlP.nil (Pr := fun _ => True) _ _ _).sl⟩, below_setRowH HN5.out.2 (Nat.le_refl _) _⟩
end Go.Proofs.YtilahcnpjbnjiaaDoor
