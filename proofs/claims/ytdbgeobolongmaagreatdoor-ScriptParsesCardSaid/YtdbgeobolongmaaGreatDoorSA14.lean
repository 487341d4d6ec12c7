/- Part of the proof: ScriptLines, ScriptParses, ScriptShows. -/
import Derived.Test.YtdbgeobolongmaaGreatDoorSA10
set_option linter.unusedVariables false
set_option linter.unusedSimpArgs false
set_option maxRecDepth 100000
set_option maxHeartbeats 4000000
namespace Go.Proofs.YtdbgeobolongmaaGreatDoor
open Go.RowKit Go.Shelf Go.Proofs Go.OctetPlain Go.Proofs.Tryz
theorem rd_int {w : World} {p : Option Addr} {L : List Int} (h : RdP w 1 encI p L) {k : Nat} (hk : k < L.length) : ∃ b off, p = some ⟨b, off, none⟩ /\ ∀ n, (w.drewN n).cell? ⟨b, off + k, none⟩ = some (.int .i64 L[k]) := by
 obtain ⟨b, off, rfl, _, hc⟩ := h.at hk; refine ⟨b, off, rfl, fun n => ?_⟩; have := hc 0 (.int .i64 L[k]) rfl
 simpa using this
theorem ref_ints (a b : List Int) (ha : a.length <= 1073741824) (hb : b.length <= 1073741824) (va vb : Value) (w : World) (hva : SlR w 1 encI va a) (hvb : SlR w 1 encI vb b) :
  zCB 69 #[va, vb] w (.bool (decide (a = b))) := by
 obtain ⟨p1, c1, rfl, g1, g2, R1⟩ := hva; obtain ⟨p2, c2, rfl, g3, g4, R2⟩ := hvb
 by_cases hl : a.length = b.length
 ·go_enter func69, ntmps69
  rw [← hl]; have HL := qh hl; clear hl g1 g3; go_wp2_with fail
  go_loopw [5] (fun vi wr => ∃ k : Nat, vi = .int .i64 k /\ k <= a.length /\ Hid (a.take k = b.take k) /\ Hid (zW w wr)) (fun vi _ => a.length - (intOf vi).toNat)
  case atStart => exact ⟨0, rfl, yQ _, qh rfl, qh zb⟩
  case round =>
   obtain ⟨k, rfl, hk, HT, HB⟩ := hrel
   by_cases hlt : k < a.length
   ·have hltb : k < b.length := by rw [← HL.o]; exact hlt
    obtain ⟨b1, o1, rfl, hc1⟩ := rd_int (R1.below HB.o zn) hlt; obtain ⟨b2, o2, rfl, hc2⟩ := rd_int (R2.below HB.o zn) hltb; have hka : a[k]? = some a[k] := zA hlt; have hkb : b[k]? = some b[k] := zA hltb; have HKA := qh hka; have HKB := qh hkb; have HTA := qh (yA hlt); have HTB := qh (yA hltb); generalize a[k] = x at *; generalize b[k] = y at *; clear hka hkb
    by_cases hxy : x = y
    ·subst hxy
     go_wp2_with fail
     go_quiet (fail)
     go_wp2
     exact ⟨⟨k + 1, by go_num, om, qh (by rw [HTA.o, HTB.o, HT.o]), qh (below_drewN HB.o nq)⟩, by simp [intOf]; omega⟩
    ·have hne : (x != y) = true := by simpa using hxy
     have HN : Hid (decide (a = b) = false) := qh (zM fun e => hxy (by
      have h1 := HKA.o; rw [e, HKB.o] at h1; exact (vW h1).symm))
     clear hxy; go_wp2_with fail
     go_quiet (fail)
     go_wp2
     go_ret
     exact ⟨by rw [HN.o]; first | done | rfl, below_drewN HB.o nq⟩
   ·obtain rfl : k = a.length := om
    have HE : Hid (decide (a = b) = true) := qh (zV (by
     have h := HT.o; rw [xK] at h; rw [h, HL.o, xK]))
    go_wp2
    go_ret
    exact ⟨by rw [HE.o]; first | done | rfl, HB.o⟩
 ·have hne : ¬ (a.length : Int) = (b.length : Int) := om
  rw [zM (fun e => hl (by rw [e]))]; clear hl
  go_enter func69, ntmps69
  go_wp2
  go_ret
  exact ⟨rfl, xE _ _⟩
theorem hop_eq2 (a b : Hp.Hop) : decide (a = b) = (decide (a.labels = b.labels) && decide (a.repair = b.repair) && decide (a.op = b.op) && decide (a.port = b.port) && decide (a.backup = b.backup) && decide (a.pipe = b.pipe)) := by
 rw [hop_eq]
 cases decide (a.labels = b.labels) <;> cases decide (a.repair = b.repair) <;> cases decide (a.op = b.op) <;> cases decide (a.port = b.port) <;> cases decide (a.backup = b.backup) <;> cases decide (a.pipe = b.pipe) <;> rfl
theorem ref_SameHop (a b : Hp.Hop) (l1 r1 l2 r2 : Value) (w : World) (A : wP w a l1 r1) (B : wP w b l2 r2) :
  zCB 32 #[.agg (hopA a l1 r1), .agg (hopA b l2 r2)] w (.bool (decide (a = b))) := by
 rw [hop_eq2]; have H1 : Hid (∀ W, zW w W -> zCB 69 #[l1, l2] W (.bool (decide (a.labels = b.labels)))) := qh fun W hW => ref_ints _ _ A.n1 B.n1 l1 l2 W (A.sl.below hW zn) (B.sl.below hW zn); have H2 : Hid (∀ W, zW w W -> zCB 69 #[r1, r2] W (.bool (decide (a.repair = b.repair)))) := qh fun W hW => ref_ints _ _ A.n2 B.n2 r1 r2 W (A.sr.below hW zn) (B.sr.below hW zn); obtain ⟨-, -, ⟨p1, c1, rfl, -, -, -⟩, ⟨p2, c2, rfl, -, -, -⟩⟩ := A; obtain ⟨-, -, ⟨p3, c3, rfl, -, -, -⟩, ⟨p4, c4, rfl, -, -, -⟩⟩ := B; obtain ⟨o1, L1, q1, k1, R1, s1⟩ := a; obtain ⟨o2, L2, q2, k2, R2, s2⟩ := b; unfold hopA; simp only at *; have hb0 : ∀ o o', zW w ((w.alloc o).alloc o') := fun o o' => (yD w o).alloc zi _; have HB0 := qh hb0; clear hb0; generalize decide (L1 = L2) = e1 at *; generalize decide (R1 = R2) = e2 at *; simp only [eq_dec]; generalize h1 : (o1 == o2) = d1; generalize h2 : (q1 == q2) = d2; generalize h3 : (k1 == k2) = d3; generalize h4 : (s1 == s2) = d4
 go_enter func32, ntmps32
 go_wp2_with fail
 refine zT (H1.o _ (HB0.o _ _)) fun w1 hb1 => ?_; obtain ⟨hcc, hcf⟩ := aX hb1; have hz1 : w.heap.size + 1 < w1.heap.size := by have := hb1.size; simp at this; omega
 have hz1' : w.heap.size < w1.heap.size := om; have B1 := qh ((HB0.o (.cells #[.int .i64 o1, .slice p1 L1.length c1, .int .i64 q1, .int .i64 k1, .slice p2 R1.length c2, .bool s1] 29) (.cells #[.int .i64 o2, .slice p3 L2.length c3, .int .i64 q2, .int .i64 k2, .slice p4 R2.length c4, .bool s2] 29)).trans (hb1.mono zo)); go_wp2_with fail
 refine zT (H2.o _ B1.o) fun w2 hb2 => ?_; obtain ⟨hcc2, hcf2⟩ := aX hb2; have hz2 : w.heap.size + 1 < w2.heap.size := by have := hb2.size; omega
 have B2 := qh (B1.o.trans (hb2.mono B1.o.size)); clear hb1 hb2
 cases e1; rotate_left
 cases e2; rotate_left
 cases d1; rotate_left
 cases d2; rotate_left
 cases d3; rotate_left
 cases d4
 all_goals
  go_wp2
  go_ret
  exact ⟨by first | rfl | simp, B2.o⟩
end Go.Proofs.YtdbgeobolongmaaGreatDoor
