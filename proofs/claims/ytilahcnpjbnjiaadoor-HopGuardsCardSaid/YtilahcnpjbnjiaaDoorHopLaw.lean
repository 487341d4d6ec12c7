/- Layer 15: the document's example. -/
import Derived.Test.YtilahcnpjbnjiaaDoorHopRefParse
namespace Go.Proofs.YtilahcnpjbnjiaaDoor
set_option linter.unusedVariables false
set_option linter.unusedSimpArgs false
open Go.RowKit Go.Shelf Go.Proofs Go.OctetPlain

/-- what the library reads -/
structure HT0 (w : World) : Prop where
  tabs : Tabs w
  ml : ∃ m, w.cell? ⟨0, 0, none⟩ = some (.int .i64 m)
theorem HT0.next {w w' : World} (h : HT0 w) {B : Nat} (hb : Below B w w') (hB : w.heap.size ≤ B) : HT0 w' := by
  refine ⟨h.tabs.next hb hB, ?_⟩
  obtain ⟨m, hm⟩ := h.ml
  exact ⟨m, by rw [hb.cell (p := ⟨0, 0, none⟩) (Nat.lt_of_lt_of_le (World.block_lt_of_cell? w _ hm) hB)]; exact hm⟩
/-- a hop in a block -/
structure HL (W : World) (g : Nat) (h : Hp.Hop) (l r : Value) : Prop where
  b : Blk W g 24 (hopA h l r)
  h : HopIs W h l r
theorem HL.next {W W' : World} {g : Nat} {h : Hp.Hop} {l r : Value} (H : HL W g h l r) (hb : Below W.heap.size W W') : HL W' g h l r := ⟨H.b.below hb H.b.lt, H.h.below hb (Nat.le_refl _)⟩
theorem HL.new {W : World} {h : Hp.Hop} {l r : Value} (H : HopIs W h l r) : HL (W.alloc (.cells (hopA h l r) 24)) W.heap.size h l r := ⟨Blk.new _ _ _, H.below (belowA W _) (Nat.le_refl _)⟩
theorem dec1 {m : Nat} (h : m < 10) : Hp.dec (m : Int) = [UInt8.ofNat (48 + m)] := by unfold Hp.dec; rw [Int.toNat_natCast, dec_lt h]
theorem dec2 {m : Nat} (h : 10 ≤ m) (h2 : m < 100) : Hp.dec (m : Int) = [UInt8.ofNat (48 + m / 10), UInt8.ofNat (48 + m % 10)] := by unfold Hp.dec; rw [Int.toNat_natCast, dec_ge (by omega), dec_lt (by omega)]; rfl

def exS : List UInt8 := [115, 119, 97, 112, 32, 49, 55, 32, 49, 56, 32, 112, 111, 114, 116, 32, 50, 32, 98, 97, 99, 107, 117, 112, 32, 51, 32, 49, 57]
def exH : Hp.Hop := ⟨1, [17, 18], 2, 3, [19], false⟩
def exG0 : Hp.Hop := ⟨2, [], 1, -1, [], false⟩
def exG : Hp.Hop := ⟨2, [], 1, 4, [20], false⟩
def exB : List UInt8 := [115, 119, 97, 112, 32, 112, 111, 114, 116, 32, 50]
def exT : List UInt8 := [112, 111, 112, 32, 112, 111, 114, 116, 32, 49, 32, 98, 97, 99, 107, 117, 112, 32, 52, 32, 50, 48]
theorem ex_parse : Hp.parseR exS = some exH := by
  rw [Hp.parseR_iff]
  refine ⟨by decide, ?_⟩
  have e1 : Hp.dec 17 = [49, 55] := dec2 (m := 17) (by omega) (by omega)
  have e2 : Hp.dec 18 = [49, 56] := dec2 (m := 18) (by omega) (by omega)
  have e3 : Hp.dec 19 = [49, 57] := dec2 (m := 19) (by omega) (by omega)
  have e4 : Hp.dec 2 = [50] := dec1 (m := 2) (by omega)
  have e5 : Hp.dec 3 = [51] := dec1 (m := 3) (by omega)
  rw [showR_parts]
  simp [exH, rowS, e1, e2, e3, e4, e5, Hp.opW, Hp.wSwap, exS]
theorem ex_show : Hp.showR exG = exT := by
  have e1 : Hp.dec 20 = [50, 48] := dec2 (m := 20) (by omega) (by omega)
  have e4 : Hp.dec 1 = [49] := dec1 (m := 1) (by omega)
  have e5 : Hp.dec 4 = [52] := dec1 (m := 4) (by omega)
  rw [showR_parts]
  simp [exG, rowS, e1, e4, e5, Hp.opW, Hp.wPop, exT]
theorem ex_bad : Hp.parseR exB = none := by
  have hsp : Hp.spl exB = [Hp.wSwap, Hp.wPort, [50]] := by decide
  have h2 : number [50] 1048575 = some 2 := by
    have := Hp.number_dec (n := 2) (by decide) (by decide)
    rw [show Hp.dec 2 = [50] from dec1 (m := 2) (by omega)] at this
    exact this
  have hn : Hp.nums [Hp.wPort, [50]] = ([], [Hp.wPort, [50]]) := by rw [Hp.nums, Hp.num_wPort]
  have hn2 : Hp.nums [[50]] = ([2], []) := by rw [Hp.nums, h2]; rfl
  have hp : Hp.partP 1 [Hp.wPort, [50]] = (2, false, []) := by
    unfold Hp.partP
    rw [if_pos (by decide)]
    simp only [List.tail_cons]
    rw [hn2]; rfl
  rw [Hp.parseR, hsp, Hp.parseW, show Hp.opOf Hp.wSwap = some 1 by decide]
  simp only
  rw [if_pos]
  right
  have : Hp.mk 1 [Hp.wPort, [50]] = ⟨1, [], 2, -1, [], false⟩ := by
    unfold Hp.mk
    rw [hn]
    simp only
    rw [hp]
    rfl
  rw [this]
  decide
theorem exG_valid : Hp.Valid exG := (Hp.check_iff _).1 (by decide)

theorem slr_nil (W : World) : SlR W 1 encI (.slice none 0 0) ([] : List Int) := (SlP.nil (Pr := fun _ => True) W 1 encI).sl
def RetEx (w : World) (e : Ending) (w' : World) : Prop := ∃ p1 c1 p2 c2, e = .returned (.tuple #[.agg #[.int .i64 1, .slice p1 2 c1, .int .i64 2, .int .i64 3, .slice p2 1 c2, .bool false], .bool true]) ∧ HopIs w' exH (.slice p1 2 c1) (.slice p2 1 c2) ∧ Below w.heap.size w w'
def RetNo (w : World) (e : Ending) (w' : World) : Prop := ∃ p1 c1 p2 c2, e = .returned (.tuple #[.agg #[.int .i64 0, .slice p1 0 c1, .int .i64 0, .int .i64 0, .slice p2 0 c2, .bool false], .bool false]) ∧ Below w.heap.size w w'
def RetG (w : World) (e : Ending) (w' : World) : Prop := ∃ p3 c3 p4 c4, e = .returned (.agg #[.int .i64 2, .slice p3 0 c3, .int .i64 1, .int .i64 4, .slice p4 1 c4, .bool false]) ∧ HopIs w' exG (.slice p3 0 c3) (.slice p4 1 c4) ∧ Below w.heap.size w w'
theorem ret_ex {w : World} {e : Ending} {w' : World} (h : RetHop (some exH) w e w') : RetEx w e w' := by
  obtain ⟨l, r, rfl, hi, hb⟩ := h
  have hl := hi.sl
  have hr := hi.sr
  obtain ⟨p1, c1, rfl, -, -, -⟩ := hl
  obtain ⟨p2, c2, rfl, -, -, -⟩ := hr
  exact ⟨p1, c1, p2, c2, rfl, hi, hb⟩
theorem ret_no {w : World} {e : Ending} {w' : World} (h : RetHop none w e w') : RetNo w e w' := by
  obtain ⟨l, r, rfl, hi, hb⟩ := h
  have hl := hi.sl
  have hr := hi.sr
  obtain ⟨p1, c1, rfl, -, -, -⟩ := hl
  obtain ⟨p2, c2, rfl, -, -, -⟩ := hr
  exact ⟨p1, c1, p2, c2, rfl, hb⟩
theorem SlR.lit1 (W : World) (n : Int) : SlR (W.alloc (.cells #[.int .i64 n] 3)) 1 encI (.slice (some ⟨W.heap.size, 0, none⟩) 1 1) [n] := slr_lit (enc := encI) encI_len W 3 [n] (by simp) #[.int .i64 n] rfl
theorem guard_ex (W : World) :
    Calls Tryd.prog 14 #[.agg #[.int .i64 2, .slice none 0 0, .int .i64 1, .int .i64 (-1), .slice none 0 0, .bool false], .int .i64 4, .slice (some ⟨W.heap.size, 0, none⟩) 1 1] (W.alloc (.cells #[.int .i64 20] 3)) (RetG (W.alloc (.cells #[.int .i64 20] 3))) := by
  have h := hop_Guarded exG0 4 [20] (by simp) (.slice none 0 0) (.slice none 0 0) (.slice (some ⟨W.heap.size, 0, none⟩) 1 1) (W.alloc (.cells #[.int .i64 20] 3)) ⟨by simp [exG0], by simp [exG0], slr_nil _, slr_nil _⟩ (SlR.lit1 W 20)
  refine h.mono ?_
  rintro e w' ⟨l, r, rfl, hi, hb⟩
  have hl := hi.sl
  have hr := hi.sr
  obtain ⟨p1, c1, rfl, -, -, -⟩ := hl
  obtain ⟨p2, c2, rfl, -, -, -⟩ := hr
  exact ⟨p1, c1, p2, c2, rfl, hi, hb⟩
set_option maxRecDepth 100000 in
set_option maxHeartbeats 1000000 in
theorem law_awake (w : World) (ht : HT0 w) : Calls Tryd.prog 7 #[] w fun e w' => e = .returned (.bool true) ∧ Below w.heap.size w w' := by
  have HT := Lib.hid ht
  have PA : Hid (∀ W, Below w.heap.size w W → Calls Tryd.prog 15 #[.string ⟨#[115, 119, 97, 112, 32, 49, 55, 32, 49, 56, 32, 112, 111, 114, 116, 32, 50, 32, 98, 97, 99, 107, 117, 112, 32, 51, 32, 49, 57]⟩] W (RetEx W)) := Lib.hid fun W hW => by
    have := hop_Parse exS (by decide) W (ht.next hW (Nat.le_refl _)).tabs (ht.next hW (Nat.le_refl _)).ml
    rw [ex_parse] at this
    exact this.mono fun _ _ h => ret_ex h
  have PB : Hid (∀ W, Below w.heap.size w W → Calls Tryd.prog 15 #[.string ⟨#[115, 119, 97, 112, 32, 112, 111, 114, 116, 32, 50]⟩] W (RetNo W)) := Lib.hid fun W hW => by
    have := hop_Parse exB (by decide) W (ht.next hW (Nat.le_refl _)).tabs (ht.next hW (Nat.le_refl _)).ml
    rw [ex_bad] at this
    exact this.mono fun _ _ h => ret_no h
  have PG := Lib.hid guard_ex
  clear ht
  go_enter Tryd.func7, Tryd.ntmps7
  go_wp2_with fail
  refine (PA.out _ (Below.refl _ _)).mono ?_
  rintro e w1 ⟨p1, c1, p2, c2, rfl, h1, b1⟩
  have K1 : Hid (HL (w1.alloc (.cells #[.int .i64 1, .slice p1 2 c1, .int .i64 2, .int .i64 3, .slice p2 1 c2, .bool false] 24)) w1.heap.size exH (.slice p1 2 c1) (.slice p2 1 c2)) := Lib.hid (HL.new h1)
  have B1 := Lib.hid (b1.trans ((belowA w1 (.cells #[.int .i64 1, .slice p1 2 c1, .int .i64 2, .int .i64 3, .slice p2 1 c2, .bool false] 24)).mono b1.size))
  have hz1 := b1.size
  clear h1 b1
  go_wp2_with fail
  refine (PB.out _ B1.out).mono ?_
  rintro e w2 ⟨p5, c5, p6, c6, rfl, b2⟩
  have K2 := Lib.hid ((K1.out.next b2).next (belowA w2 (.cells #[.int .i64 0, .slice p5 0 c5, .int .i64 0, .int .i64 0, .slice p6 0 c6, .bool false] 24)))
  have B2 := Lib.hid ((B1.out.trans (b2.mono B1.out.size)).alloc (by have := (B1.out.trans (b2.mono B1.out.size)).size; exact this) (.cells #[.int .i64 0, .slice p5 0 c5, .int .i64 0, .int .i64 0, .slice p6 0 c6, .bool false] 24))
  have hz2 := b2.size
  clear b2 K1 B1
  have PG2 := PG.out (w2.alloc (.cells #[.int .i64 0, .slice p5 0 c5, .int .i64 0, .int .i64 0, .slice p6 0 c6, .bool false] 24))
  simp only [World.size_alloc] at PG2
  have PG3 := Lib.hid PG2
  clear PG2
  go_wp2_with fail
  refine PG3.out.mono ?_
  rintro e w3 ⟨p3, c3, p4, c4, rfl, h3, b3⟩
  have HB3 := belowA2 b3
  have K3 := Lib.hid ((K2.out.next HB3).next (belowA w3 (.cells #[.int .i64 2, .slice p3 0 c3, .int .i64 1, .int .i64 4, .slice p4 1 c4, .bool false] 24)))
  have G3 : Hid (HL (w3.alloc (.cells #[.int .i64 2, .slice p3 0 c3, .int .i64 1, .int .i64 4, .slice p4 1 c4, .bool false] 24)) w3.heap.size exG (.slice p3 0 c3) (.slice p4 1 c4)) := Lib.hid (HL.new h3)
  have B3 := Lib.hid ((B2.out.trans (HB3.mono B2.out.size)).alloc (by have := (B2.out.trans (HB3.mono B2.out.size)).size; exact this) (.cells #[.int .i64 2, .slice p3 0 c3, .int .i64 1, .int .i64 4, .slice p4 1 c4, .bool false] 24))
  clear h3 b3 HB3 K2 B2
  have C1 : Hid (∀ W l r, HopIs W exH l r → Calls Tryd.prog 9 #[.agg (hopA exH l r)] W fun e w' => e = .returned (.int .i64 0) ∧ Below W.heap.size W w') := Lib.hid fun W l r h => hop_Check exH h.n1 h.n2 l r W h.sl h.sr
  have C2 : Hid (∀ W l r, HopIs W exG l r → Below w.heap.size w W → Calls Tryd.prog 12 #[.agg (hopA exG l r)] W fun e w' => e = .returned (.string ⟨#[112, 111, 112, 32, 112, 111, 114, 116, 32, 49, 32, 98, 97, 99, 107, 117, 112, 32, 52, 32, 50, 48]⟩) ∧ Below W.heap.size W w') := Lib.hid fun W l r h hW => by
    have := hop_Show exG exG_valid l r W (HT.out.next hW (Nat.le_refl _)).tabs h
    rw [ex_show] at this
    exact this
  have C3 : Hid (∀ W l r, HopIs W exH l r → Calls Tryd.prog 10 #[.agg (hopA exH l r), .agg (hopA exH l r)] W fun e w' => e = .returned (.bool true) ∧ Below W.heap.size W w') := Lib.hid fun W l r h => hop_Same exH exH l r l r W h h
  have C4 : Hid (∀ W l r l' r', HopIs W exG l r → HopIs W exH l' r' → Calls Tryd.prog 10 #[.agg (hopA exG l r), .agg (hopA exH l' r')] W fun e w' => e = .returned (.bool false) ∧ Below W.heap.size W w') := Lib.hid fun W l r l' r' h h' => hop_Same exG exH l r l' r' W h h'
  have C5 : Hid (∀ W, Calls Tryd.prog 9 #[.agg #[.int .i64 4, .slice none 0 0, .int .i64 0, .int .i64 0, .slice none 0 0, .bool false]] W fun e w' => e = .returned (.int .i64 54) ∧ Below W.heap.size W w') := Lib.hid fun W => hop_Check ⟨4, [], 0, 0, [], false⟩ (by simp) (by simp) (.slice none 0 0) (.slice none 0 0) W (slr_nil W) (slr_nil W)
  clear PA PB PG PG3 hz1 hz2
  go_wp2_with (first
    | (refine wpListH_load_want rfl _ _ rfl w1.heap.size rfl _ #[.int .i64 1, .slice p1 2 c1, .int .i64 2, .int .i64 3, .slice p2 1 c2, .bool false] (0, 0) _ K3.out.b Tryd.underlying24 rfl infoHop ?_)
    | (refine wpListH_load_want rfl _ _ rfl w3.heap.size rfl _ #[.int .i64 2, .slice p3 0 c3, .int .i64 1, .int .i64 4, .slice p4 1 c4, .bool false] (0, 0) _ G3.out.b Tryd.underlying24 rfl infoHop ?_))
  refine (C1.out _ _ _ K3.out.h).mono ?_
  rintro e v3 ⟨rfl, hc⟩
  have K4 := Lib.hid (K3.out.next hc)
  have G4 := Lib.hid (G3.out.next hc)
  have B4 := Lib.hid (B3.out.trans (hc.mono B3.out.size))
  have d0 := K4.out.b.cell 0
  have d1 := K4.out.b.cell 1
  have d2 := K4.out.b.cell 2
  have d3 := K4.out.b.cell 3
  have d4 := K4.out.b.cell 4
  simp only [hopA, exH, List.getElem?_toArray, List.getElem?_cons_zero, List.getElem?_cons_succ] at d0 d1 d2 d3 d4
  clear hc
  go_wp2_with (first
    | (refine wpListH_load_want rfl _ _ rfl w1.heap.size rfl _ #[.int .i64 1, .slice p1 2 c1, .int .i64 2, .int .i64 3, .slice p2 1 c2, .bool false] (0, 0) _ K4.out.b Tryd.underlying24 rfl infoHop ?_)
    | (refine wpListH_load_want rfl _ _ rfl w3.heap.size rfl _ #[.int .i64 2, .slice p3 0 c3, .int .i64 1, .int .i64 4, .slice p4 1 c4, .bool false] (0, 0) _ G4.out.b Tryd.underlying24 rfl infoHop ?_))
  refine (C2.out _ _ _ G4.out.h B4.out).mono ?_
  rintro e v4 ⟨rfl, hc⟩
  have K5 := Lib.hid (K4.out.next hc)
  have G5 := Lib.hid (G4.out.next hc)
  have B5 := Lib.hid (B4.out.trans (hc.mono B4.out.size))
  clear hc d0 d1 d2 d3 d4
  go_wp2_with (first
    | (refine wpListH_load_want rfl _ _ rfl w1.heap.size rfl _ #[.int .i64 1, .slice p1 2 c1, .int .i64 2, .int .i64 3, .slice p2 1 c2, .bool false] (0, 0) _ K5.out.b Tryd.underlying24 rfl infoHop ?_)
    | (refine wpListH_load_want rfl _ _ rfl w3.heap.size rfl _ #[.int .i64 2, .slice p3 0 c3, .int .i64 1, .int .i64 4, .slice p4 1 c4, .bool false] (0, 0) _ G5.out.b Tryd.underlying24 rfl infoHop ?_))
  refine (C3.out _ _ _ K5.out.h).mono ?_
  rintro e v5 ⟨rfl, hc⟩
  have K6 := Lib.hid (K5.out.next hc)
  have G6 := Lib.hid (G5.out.next hc)
  have B6 := Lib.hid (B5.out.trans (hc.mono B5.out.size))
  clear hc
  go_wp2_with (first
    | (refine wpListH_load_want rfl _ _ rfl w1.heap.size rfl _ #[.int .i64 1, .slice p1 2 c1, .int .i64 2, .int .i64 3, .slice p2 1 c2, .bool false] (0, 0) _ K6.out.b Tryd.underlying24 rfl infoHop ?_)
    | (refine wpListH_load_want rfl _ _ rfl w3.heap.size rfl _ #[.int .i64 2, .slice p3 0 c3, .int .i64 1, .int .i64 4, .slice p4 1 c4, .bool false] (0, 0) _ G6.out.b Tryd.underlying24 rfl infoHop ?_))
  refine (C4.out _ _ _ _ _ G6.out.h K6.out.h).mono ?_
  rintro e v6 ⟨rfl, hc⟩
  have K7 := Lib.hid (K6.out.next hc)
  have G7 := Lib.hid (G6.out.next hc)
  have B7 := Lib.hid (B6.out.trans (hc.mono B6.out.size))
  clear hc
  go_wp2_with (first
    | (refine wpListH_load_want rfl _ _ rfl w1.heap.size rfl _ #[.int .i64 1, .slice p1 2 c1, .int .i64 2, .int .i64 3, .slice p2 1 c2, .bool false] (0, 0) _ K7.out.b Tryd.underlying24 rfl infoHop ?_)
    | (refine wpListH_load_want rfl _ _ rfl w3.heap.size rfl _ #[.int .i64 2, .slice p3 0 c3, .int .i64 1, .int .i64 4, .slice p4 1 c4, .bool false] (0, 0) _ G7.out.b Tryd.underlying24 rfl infoHop ?_))
  refine (C5.out _).mono ?_
  rintro e v7 ⟨rfl, hc⟩
  have K8 := Lib.hid (K7.out.next hc)
  have G8 := Lib.hid (G7.out.next hc)
  have B8 := Lib.hid (B7.out.trans (hc.mono B7.out.size))
  clear hc
  go_wp2_with fail
  go_ret
  exact ⟨rfl, B8.out⟩
end Go.Proofs.YtilahcnpjbnjiaaDoor
