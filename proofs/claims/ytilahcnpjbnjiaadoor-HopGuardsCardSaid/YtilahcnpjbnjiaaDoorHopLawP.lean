/- Layer 15: HopParses, HopBack. -/
import Derived.Test.YtilahcnpjbnjiaaDoorHopLaw
namespace Go.Proofs.YtilahcnpjbnjiaaDoor
set_option linter.unusedVariables false
set_option linter.unusedSimpArgs false
open Go.RowKit Go.Shelf Go.Proofs Go.OctetPlain

def hop0 : Hp.Hop := ⟨0, [], 0, 0, [], false⟩
/-- a hop, its rows written out -/
def hopX (h : Hp.Hop) (p1 : Option Addr) (c1 : Nat) (p2 : Option Addr) (c2 : Nat) : Array Value := #[.int .i64 h.op, .slice p1 h.labels.length c1, .int .i64 h.port, .int .i64 h.backup, .slice p2 h.repair.length c2, .bool h.pipe]
def RetH (h : Hp.Hop) (b : Bool) (w : World) (e : Ending) (w' : World) : Prop := ∃ p1 c1 p2 c2, e = .returned (.tuple #[.agg #[.int .i64 h.op, .slice p1 h.labels.length c1, .int .i64 h.port, .int .i64 h.backup, .slice p2 h.repair.length c2, .bool h.pipe], .bool b]) ∧ HopIs w' h (.slice p1 h.labels.length c1) (.slice p2 h.repair.length c2) ∧ Below w.heap.size w w'
theorem ret_h {o : Option Hp.Hop} {w : World} {e : Ending} {w' : World} (h : RetHop o w e w') : RetH (o.getD hop0) o.isSome w e w' := by
  obtain ⟨l, r, rfl, hi, hb⟩ := h
  have hl := hi.sl
  have hr := hi.sr
  obtain ⟨p1, c1, rfl, -, -, -⟩ := hl
  obtain ⟨p2, c2, rfl, -, -, -⟩ := hr
  exact ⟨p1, c1, p2, c2, rfl, hi, hb⟩
theorem HL.newX {W : World} {h : Hp.Hop} {p1 : Option Addr} {c1 : Nat} {p2 : Option Addr} {c2 : Nat} (H : HopIs W h (.slice p1 h.labels.length c1) (.slice p2 h.repair.length c2)) :
    HL (W.alloc (.cells #[.int .i64 h.op, .slice p1 h.labels.length c1, .int .i64 h.port, .int .i64 h.backup, .slice p2 h.repair.length c2, .bool h.pipe] 24)) W.heap.size h (.slice p1 h.labels.length c1) (.slice p2 h.repair.length c2) := HL.new H
theorem parse_any (s : List UInt8) (hs : s.length ≤ 1000000) (W : World) (ht : HT0 W) : Calls Tryd.prog 15 #[.string (str s)] W (RetH ((Hp.parseR s).getD hop0) (Hp.parseR s).isSome W) := (hop_Parse s hs W ht.tabs ht.ml).mono fun _ _ h => ret_h h
theorem refParse_any (s : List UInt8) (hs : s.length ≤ 1000000) (W : World) : Calls Tryd.prog 16 #[.string (str s)] W (RetH ((Hp.parseR s).getD hop0) (Hp.parseR s).isSome W) := (ref_Parse15 s hs W).mono fun _ _ h => by
  rw [Hp.refParse_eq] at h; exact ret_h h

set_option maxRecDepth 100000 in
set_option maxHeartbeats 2000000 in
theorem law_parses (s : List UInt8) (hsz : s.length ≤ 9223372036854775807) (w : World) (ht : HT0 w) : Calls Tryd.prog 4 #[.string (str s)] w fun e w' => e = .returned (.bool true) ∧ Below w.heap.size w w' := by
  have AW := Lib.hid (law_awake w ht)
  have HT := Lib.hid ht
  have hs : (str s).size = s.length := str_size s
  clear ht
  by_cases hlen : 400 < s.length
  · have hl2 : decide (400 < (s.length : Int)) = true := decide_eq_true (by omega)
    go_enter Tryd.func4, Tryd.ntmps4
    go_wp2_with fail
    refine AW.out.mono ?_
    rintro e w1 ⟨rfl, b1⟩
    go_wp2_with fail
    go_ret
    exact ⟨rfl, b1⟩
  · have PA : Hid (∀ W, Below w.heap.size w W → Calls Tryd.prog 15 #[.string (str s)] W (RetH ((Hp.parseR s).getD hop0) (Hp.parseR s).isSome W)) := Lib.hid fun W hW => parse_any s (by omega) W (HT.out.next hW (Nat.le_refl _))
    have PB := Lib.hid fun W => refParse_any s (by omega) W
    generalize (Hp.parseR s).getD hop0 = h at *
    generalize (Hp.parseR s).isSome = b at *
    go_enter Tryd.func4, Tryd.ntmps4
    go_wp2_with fail
    refine AW.out.mono ?_
    rintro e w1 ⟨rfl, b1⟩
    have B1 := Lib.hid b1
    clear b1
    go_wp2_with fail
    refine (PA.out _ B1.out).mono ?_
    rintro e w2 ⟨p1, c1, p2, c2, rfl, h2, b2⟩
    have K2 := Lib.hid (HL.newX h2)
    have B2 := Lib.hid ((B1.out.trans (b2.mono B1.out.size)).trans ((belowA w2 (.cells #[.int .i64 h.op, .slice p1 h.labels.length c1, .int .i64 h.port, .int .i64 h.backup, .slice p2 h.repair.length c2, .bool h.pipe] 24)).mono (B1.out.trans (b2.mono B1.out.size)).size))
    clear h2 b2
    go_wp2_with fail
    refine (PB.out _).mono ?_
    rintro e w3 ⟨p3, c3, p4, c4, rfl, h3, b3⟩
    have K3 := Lib.hid ((K2.out.next b3).next (belowA w3 (.cells #[.int .i64 h.op, .slice p3 h.labels.length c3, .int .i64 h.port, .int .i64 h.backup, .slice p4 h.repair.length c4, .bool h.pipe] 24)))
    have G3 := Lib.hid (HL.newX h3)
    have B3 := Lib.hid ((B2.out.trans (b3.mono B2.out.size)).trans ((belowA w3 (.cells #[.int .i64 h.op, .slice p3 h.labels.length c3, .int .i64 h.port, .int .i64 h.backup, .slice p4 h.repair.length c4, .bool h.pipe] 24)).mono (B2.out.trans (b3.mono B2.out.size)).size))
    have SM := Lib.hid (ref_Same15 h h _ _ _ _ _ K3.out.h G3.out.h)
    rw [decide_eq_true rfl] at SM
    clear h3 b3
    go_wp2_with (first
      | (refine wpListH_load_want rfl _ _ rfl w2.heap.size rfl _ (hopA h (.slice p1 h.labels.length c1) (.slice p2 h.repair.length c2)) (0, 0) _ K3.out.b Tryd.underlying24 rfl infoHop ?_)
      | (refine wpListH_load_want rfl _ _ rfl w3.heap.size rfl _ (hopA h (.slice p3 h.labels.length c3) (.slice p4 h.repair.length c4)) (0, 0) _ G3.out.b Tryd.underlying24 rfl infoHop ?_))
    refine SM.out.mono ?_
    rintro e w4 ⟨rfl, b4⟩
    have B4 := Lib.hid (B3.out.trans (b4.mono B3.out.size))
    clear b4
    go_wp2_with fail
    go_ret
    exact ⟨rfl, B4.out⟩
end Go.Proofs.YtilahcnpjbnjiaaDoor
