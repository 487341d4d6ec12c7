/- Part of the proof: ScriptLines, ScriptParses, ScriptShows. -/
import Derived.Test.YtdbgeobolongmaaGreatDoorSA27
import Derived.Test.YtdbgeobolongmaaGreatDoorSA29
import Derived.Test.YtdbgeobolongmaaGreatDoorSA30
import Derived.Test.YtdbgeobolongmaaGreatDoorSA31
set_option linter.unusedVariables false
set_option linter.unusedSimpArgs false
set_option maxRecDepth 100000
set_option maxHeartbeats 4000000
namespace Go.Proofs.YtdbgeobolongmaaGreatDoor
open Go.RowKit Go.Shelf Go.Proofs Go.OctetPlain Go.PrefixPlain Go.Proofs.Tryz
theorem scr_same0 (a b : StV) (W : World) (A : wM W a) (B : wM W b) : zCB 35 #[.agg (zY a), .agg (zY b)] W (.bool ((((((((((((((a.t.is == b.t.is) && (a.t.kind == b.t.kind)) && (a.t.a == b.t.a)) && (a.t.n == b.t.n)) && (a.t.owner == b.t.owner)) && (decide ((a.t.s1, a.t.s2) = (b.t.s1, b.t.s2)))) && (decide (a.t.pf = b.t.pf))) && (a.t.text == b.t.text)) && (decide (a.t.hop = b.t.hop))) && (decide (a.t.ways = b.t.ways))) && (a.t.port == b.t.port)) && (a.t.mpls == b.t.mpls)) && (decide (a.t.bytes = b.t.bytes))))) := by
 have HT0 : Hid (∀ w1 w2, w1 = W.alloc (.cells (zY a) 37) -> w2 = w1.alloc (.cells (zY b) 37) -> TwoS W a b W.heap.size w1.heap.size w2) := qh fun w1 w2 h1 h2 => by
  subst h2; subst h1; exact ⟨⟨(Blk.new W _ _).alloc _, A.p16⟩, ⟨Blk.new _ _ _, B.p16⟩, (yD W _).alloc zi _, A, B⟩
 clear A B
 go_enter func35, ntmps35
 go_upto_region 1 with (first
  | (refine yS rfl _ (.tmp 0) rf (zY a) rf ?_; intro w1 E1; have HE1 := qh E1; clear E1)
  | (refine yS rfl _ (.tmp 1) rf (zY b) rf ?_; intro w2 E2; have HT := qh (HT0.o w1 w2 HE1.o E2); clear E2))
 refine zBi _ rf (fun OPS hO => ?_); have G5 : Hid (vY OPS 5 10) := qh (vY.of hO rf rf); have G14 : Hid (vY OPS 14 19) := qh (vY.of hO rf rf); have G23 : Hid (vY OPS 23 28) := qh (vY.of hO rf rf); have G32 : Hid (vY OPS 32 37) := qh (vY.of hO rf rf); have G41 : Hid (vY OPS 41 46) := qh (vY.of hO rf rf); have G50 : Hid (vY OPS 50 55) := qh (vY.of hO rf rf); have G59 : Hid (vY OPS 59 64) := qh (vY.of hO rf rf); have G68 : Hid (vY OPS 68 73) := qh (vY.of hO rf rf); have G77 : Hid (vY OPS 77 82) := qh (vY.of hO rf rf); have G86 : Hid (vY OPS 86 91) := qh (vY.of hO rf rf); have G95 : Hid (vY OPS 95 100) := qh (vY.of hO rf rf); have G104 : Hid (vY OPS 104 109) := qh (vY.of hO rf rf); clear hO; refine seg_is a b W _ _ _ HT.o ?_; intro n5 n6 n7 n8 n9; refine seg_kind a b W _ _ _ HT.o _ G5.o ?_; intro n11 n12 n13 n14 n15 n16 n17 n18; refine seg_a a b W _ _ _ HT.o _ G14.o ?_; intro n20 n21 n22 n23 n24 n25 n26 n27; refine seg_n a b W _ _ _ HT.o _ G23.o ?_; intro n29 n30 n31 n32 n33 n34 n35 n36; refine seg_owner a b W _ _ _ HT.o _ G32.o ?_; intro n38 n39 n40 n41 n42 n43 n44 n45; refine seg_sp a b W _ _ _ HT.o _ G41.o ?_; intro n47 n48 n49 n50 n51 n52 n53 n54; refine seg_pf a b W _ _ _ HT.o _ G50.o ?_; intro n56 n57 n58 n59 n60 n61 n62 n63; refine seg_text a b W _ _ _ HT.o _ G59.o ?_; intro n65 n66 n67 n68 n69 n70 n71 n72; refine seg_hop a b W _ _ _ HT.o _ G68.o ?_; clear HT; intro w_hop HT1 n74 n75 n76 n77 n78 n79 n80 n81; have HT := qh HT1; clear HT1; refine seg_ways a b W _ _ _ HT.o _ G77.o ?_; clear HT; intro w_ways HT1 n83 n84 n85 n86 n87 n88 n89 n90; have HT := qh HT1; clear HT1; refine seg_port a b W _ _ _ HT.o _ G86.o ?_; intro n92 n93 n94 n95 n96 n97 n98 n99; refine seg_mpls a b W _ _ _ HT.o _ G95.o ?_; intro n101 n102 n103 n104 n105 n106 n107 n108; refine seg_bytes a b W _ _ _ HT.o _ G104.o ?_; clear HT; intro w_bytes HT1 n110 n111 n112 n113 n114 n115 n116 n117; have HT := qh HT1; clear HT1
 go_wp2
 go_ret
 exact ⟨rfl, HT.o.bel⟩
theorem scr_same (a b : StV) (W : World) (A : wM W a) (B : wM W b) : zCB 35 #[.agg (zY a), .agg (zY b)] W (.bool (decide (a.t = b.t))) := by
 have h := scr_same0 a b W A B
 have he : ((((((((((((((a.t.is == b.t.is) && (a.t.kind == b.t.kind)) && (a.t.a == b.t.a)) && (a.t.n == b.t.n)) && (a.t.owner == b.t.owner)) && (decide ((a.t.s1, a.t.s2) = (b.t.s1, b.t.s2)))) && (decide (a.t.pf = b.t.pf))) && (a.t.text == b.t.text)) && (decide (a.t.hop = b.t.hop))) && (decide (a.t.ways = b.t.ways))) && (a.t.port == b.t.port)) && (a.t.mpls == b.t.mpls)) && (decide (a.t.bytes = b.t.bytes)))) = decide (a.t = b.t) := by
  rw [rV]; simp only [xO, uP, xP, rZ]; obtain ⟨ta, x1, x2, x3, x4⟩ := a; obtain ⟨tb, y1, y2, y3, y4⟩ := b
  cases ta; cases tb
  simp only [Sc.Stp.mk.injEq]
  constructor
  ·rintro ⟨⟨⟨⟨⟨⟨⟨⟨⟨⟨⟨⟨h1, h2⟩, h3⟩, h4⟩, h5⟩, h6, h7⟩, h8⟩, h9⟩, h10⟩, h11⟩, h12⟩, h13⟩, h14⟩
   exact ⟨h1, h2, h3, h4, h5, h6, h7, h8, h10, h11, h9, h12, h13, h14⟩
  ·rintro ⟨h1, h2, h3, h4, h5, h6, h7, h8, h10, h11, h9, h12, h13, h14⟩
   exact ⟨⟨⟨⟨⟨⟨⟨⟨⟨⟨⟨⟨h1, h2⟩, h3⟩, h4⟩, h5⟩, h6, h7⟩, h8⟩, h9⟩, h10⟩, h11⟩, h12⟩, h13⟩, h14⟩
 rw [he] at h; exact h
end Go.Proofs.YtdbgeobolongmaaGreatDoor
namespace Go.Proofs.YtdbgeobolongmaaGreatDoor
open Go.RowKit Go.Shelf Go.Proofs Go.OctetPlain Go.PrefixPlain
theorem read_sz {p : Sc.Part} {x y : Sc.Stp} {l r : List Hp.Wd} {A : Nat} (h : Sc.read p x l = some (y, r)) (hl : l.length <= A) (hw : ∀ w ∈ l, w.length <= A) (hb : x.bytes.length <= A) :
  y.ways.length <= x.ways.length + A /\ y.bytes.length <= A /\ r.length <= A /\ ∀ w ∈ r, w.length <= A := by
 have hr : r.length <= A /\ ∀ w ∈ r, w.length <= A := by
  rcases read_tail h with rfl | rfl
  ·exact ⟨yQ _, fun w hw => by cases hw⟩
  ·exact ⟨by rw [List.length_tail]; omega, fun w h => hw w (List.mem_of_mem_tail h)⟩
 refine ⟨?_, ?_, hr⟩
 ·by_cases hp : p = .W
  ·subst hp
   cases l with
   | nil => cases h
   |cons a t =>
    simp only [Sc.read] at h
    split at h
    ·rename_i q hq
     cases h; have := zEn hq; simp only [zG]; simp only [zI] at this hl; omega
    ·cases h
  ·rw [read_ways hp h]; omega
 ·by_cases hp : p = .B
  ·subst hp
   cases l with
   | nil => cases h
   |cons a t =>
    simp only [Sc.read] at h
    split at h
    ·cases h
    ·split at h
     ·cases h; exact hb
     ·split at h
      ·rename_i b hq
       split at h
       ·cases h
        have h1 := pV a; rw [hq] at h1; have h2 := hw a yH; exact yK h1 h2
       ·cases h
      ·cases h
  ·have : y.bytes = x.bytes := by
    cases p <;> cases l <;> simp only [Sc.read] at h
    all_goals first
     | (exact absurd rfl hp)
     | (cases h; done)
     | (repeat' split at h) <;> first | (cases h; done) | (cases h; rfl)
   rw [this]; exact hb
theorem reads_sz {A : Nat} : ∀ {ps : List Sc.Part} {x y : Sc.Stp} {l r : List Hp.Wd}, Sc.reads ps x l = some (y, r) -> l.length <= A -> (∀ w ∈ l, w.length <= A) -> x.bytes.length <= A -> y.ways.length <= x.ways.length + ps.length * A /\ y.bytes.length <= A
 | [], x, y, l, r, h, _, _, hb => by cases h; exact ⟨zi, hb⟩
 |p :: ps, x, y, l, r, h, hl, hw, hb => by
  rw [Sc.reads] at h
  split at h
  ·rename_i z q hz
   obtain ⟨h1, h2, h3, h4⟩ := read_sz hz hl hw hb; obtain ⟨h5, h6⟩ := reads_sz h h3 h4 h2; refine ⟨?_, h6⟩; rw [zI, Nat.succ_mul]; omega
  ·cases h
theorem one_sz {s : List UInt8} {x : Sc.Stp} (h : Sc.oneR s = some x) (hs : s.length <= 65536) : x.ways.length <= 1073741824 /\ x.bytes.length <= 1073741824 := by
 obtain ⟨w, l, h1, h2, h3⟩ := Sc.oneR_some h; have hf := aU.spl hs; rw [h1] at hf; have hl : l.length <= 1048576 := by have := hf.1; simp at this; omega
 have hp := lZ w; obtain ⟨a, b⟩ := reads_sz (A := 1048576) h3 hl (fun v hv => by have := hf.2.1 v (yP _ hv); omega) (by simp [Sc.x0, Sc.z]); refine ⟨?_, om⟩; have h0 : (Sc.x0 w).ways.length = 0 := rfl; have : (Sc.partsOf w).length * 1048576 <= 3 * 1048576 := Nat.mul_le_mul_right _ hp; omega
end Go.Proofs.YtdbgeobolongmaaGreatDoor
