/- Part of the proof: ScriptLines, ScriptParses, ScriptShows. -/
import Derived.Test.YtdbgeobolongmaaGreatDoorSA18
import Derived.Test.YtdbgeobolongmaaGreatDoorSA20
set_option linter.unusedVariables false
set_option linter.unusedSimpArgs false
set_option maxRecDepth 100000
set_option maxHeartbeats 8000000
namespace Go.Proofs.YtdbgeobolongmaaGreatDoor
open Go.RowKit Go.Shelf Go.Proofs Go.OctetPlain Go.Proofs.Tryz
def h00 : Hp.Hop := ⟨-1, [], 0, -1, [], false⟩
def stp (L : List Hp.Wd) (k : Nat) : Hp.St := match L with
 | [] => ⟨h00, 0⟩
 | w :: ws => if k = 0 then ⟨h00, 0⟩ else (ws.take (k - 1)).foldl Hp.wd (Hp.st0 w)
theorem lU (L : List Hp.Wd) : stp L 0 = ⟨h00, 0⟩ := by cases L <;> simp [stp]
theorem stp_one {L : List Hp.Wd} {x : Hp.Wd} (h : L[0]? = some x) : stp L 1 = Hp.st0 x := by
 cases L with
 | nil => simp at h
 | cons w ws => simp at h; subst h; simp [stp]
theorem stp_succ {L : List Hp.Wd} {x : Hp.Wd} {k : Nat} (hk : 0 < k) (h : L[k]? = some x) : stp L (k + 1) = Hp.wd (stp L k) x := by
 cases L with
 | nil => simp at h
 |cons w ws =>
  obtain ⟨j, rfl⟩ : ∃ j, k = j + 1 := ⟨k - 1, om⟩; have hx : ws[j]? = some x := by simpa using h
  simp only [stp, Nat.add_sub_cancel, Nat.add_eq_zero_iff, Nat.one_ne_zero, and_false, zDk]; obtain ⟨h1, h2⟩ := zL.1 hx; rw [yA h1, zGh, h2]
  rfl
theorem stp_end {L : List Hp.Wd} (hL : L ≠ []) {k : Nat} (hk : k = 60 ∨ k = L.length) (h60 : k <= 60) : (stp L k).h = Hp.interp L := by
 cases L with
 | nil => exact absurd rfl hL
 |cons w ws =>
  have hk0 : k ≠ 0 := by rcases hk with rfl | rfl <;> simp
  simp only [stp, zH hk0, Hp.interp]
  congr 2
  rcases hk with rfl | rfl
  ·rfl
  ·simp only [zI] at h60 ⊢
   rw [xY om, xY om]
theorem uG {w : World} {base : Nat} {e : TypeId} {size : Nat} {v : Value} {n : Nat} {xs : List Value} (h : w.ownsRow base e size v n xs) : ∃ p c, v = .slice p n c := by
 rcases h.2 with ⟨rfl, rfl⟩ | ⟨g, cap, cur, rfl, _⟩
 ·exact ⟨_, _, rfl⟩
 ·exact ⟨_, _, rfl⟩
structure RP (w w2 : World) (B H : Nat) (W : World) (h : Hp.Hop) (part : Int) (l r : Value) : Prop where
 hb : Blk W H 29 (hopA h l r)
 ol : W.ownsRow B 3 1 l h.labels.length (flat encI h.labels)
 or : W.ownsRow B 3 1 r h.repair.length (flat encI h.repair)
 ne : l.ownBlock = none ∨ l.ownBlock ≠ r.ownBlock
 p0 : part = 0 -> r = .slice none 0 0 /\ h.repair = []
 fr : TwoB H H w2 W
 bel : zW w W
 hB : H < B
 hB2 : B = w2.heap.size
 hH : w.heap.size <= H
section
variable {w w2 W W' : World} {B H : Nat} {h : Hp.Hop} {part : Int} {l r : Value}
theorem RP.Bl (R : RP w w2 B H W h part l r) : B <= W.heap.size := by rw [R.hB2]; exact R.fr.size
theorem RP.below (R : RP w w2 B H W h part l r) (hb : zW W W') : RP w w2 B H W' h part l r :=
 ⟨R.hb.below hb R.hb.lt, vL R.ol hb zn, vL R.or hb zn, R.ne, R.p0, R.fr.trans (.below hb), R.bel.trans (hb.mono R.bel.size), R.hB, R.hB2, R.hH⟩
theorem RP.alloc (R : RP w w2 B H W h part l r) (o : Obj) : RP w w2 B H (W.alloc o) h part l r := R.below (yD W o)
theorem RP.drew (R : RP w w2 B H W h part l r) : RP w w2 B H W.drew h part l r := R.below (xE W.heap.size W).drew
theorem RP.turn (R : RP w w2 B H W h part l r) (p : Int) (hp : p ≠ 0) : RP w w2 B H W h p l r := ⟨R.hb, R.ol, R.or, R.ne, fun e => absurd e hp, R.fr, R.bel, R.hB, R.hB2, R.hH⟩
theorem RP.write (R : RP w w2 B H W h part l r) {h' : Hp.Hop} {p : Int} (i : Nat) (v : Value) (hw : (hopA h l r).setIfInBounds i v = hopA h' l r) (e1 : h'.labels = h.labels) (e2 : h'.repair = h.repair) (hp : p = 0 -> part = 0) : RP w w2 B H (W.setCell ⟨H, i, none⟩ v) h' p l r := by
 have hg := vH W H i v; have hk : ∀ {u : Value} {n : Nat} {xs : List Value}, W.ownsRow B 3 1 u n xs -> (W.setCell ⟨H, i, none⟩ v).ownsRow B 3 1 u n xs := fun ho => nZ ho R.hB i v; exact ⟨by rw [← hw]; exact R.hb.set i v, by rw [e1]; exact hk R.ol, by rw [e2]; exact hk R.or, R.ne, fun e => by rw [e2]; exact R.p0 (hp e), R.fr.trans (.h hg), R.bel.trans (jB hg R.bel.size R.hH), R.hB, R.hB2, R.hH⟩
theorem RP.addL (R : RP w w2 B H W h part l r) (h0 : part = 0) {n : Int} {v' : Value} (ho : W'.ownsRow B 3 1 v' (h.labels.length + 1) (flat encI h.labels ++ [.int .i64 n])) (hg : W.grownBy W' l.ownBlock) (hb : Below B W W') :
  RP w w2 B H (W'.setCell ⟨H, 1, none⟩ v') { h with labels := h.labels ++ [n] } part v' r := by
 obtain ⟨hr, hr2⟩ := R.p0 h0; subst hr; have hgs := vH W' H 1 v'; have hb2 : Below w.heap.size W W' := hb.mono (by have := R.hH; have := R.hB; omega); have hfr : TwoB H H w2 W' := ⟨yK R.fr.size hb.size, fun k hk h1 h2 => (hb.block k (by rw [R.hB2]; exact hk)).trans (R.fr.block k hk h1 h2)⟩; refine ⟨(R.hb.below hb R.hB).set 1 v', ?_, ?_, ?_, fun _ => ⟨rfl, hr2⟩, hfr.trans (.h hgs), (R.bel.trans hb2).trans (jB hgs (yK R.bel.size hb.size) R.hH), R.hB, R.hB2, R.hH⟩
 ·have := nZ ho R.hB 1 v'
  rw [zG, vK]; exact this
 ·simp only [hr2]; exact xL _ _ _ _
 ·cases hv : v'.ownBlock with
  | none => exact .inl rfl
  | some b => exact .inr (by simp [Value.ownBlock])
theorem RP.addR (R : RP w w2 B H W h part l r) (h0 : part ≠ 0) {n : Int} {v' : Value} (ho : W'.ownsRow B 3 1 v' (h.repair.length + 1) (flat encI h.repair ++ [.int .i64 n])) (hg : W.grownBy W' r.ownBlock) (hob : v'.ownBlock = r.ownBlock ∨ v'.ownBlock = some (W.heap.size + 1)) (hb : Below B W W') :
  RP w w2 B H (W'.setCell ⟨H, 4, none⟩ v') { h with repair := h.repair ++ [n] } part l v' := by
 have hgs := vH W' H 4 v'; have hb2 : Below w.heap.size W W' := hb.mono (by have := R.hH; have := R.hB; omega); have hfr : TwoB H H w2 W' := ⟨yK R.fr.size hb.size, fun k hk h1 h2 => (hb.block k (by rw [R.hB2]; exact hk)).trans (R.fr.block k hk h1 h2)⟩; refine ⟨(R.hb.below hb R.hB).set 4 v', nZ (R.ol.kept hg R.ne) R.hB 4 v', ?_, ?_, fun e => absurd e h0, hfr.trans (.h hgs), (R.bel.trans hb2).trans (jB hgs (yK R.bel.size hb.size) R.hH), R.hB, R.hB2, R.hH⟩
 ·have := nZ ho R.hB 4 v'
  rw [zG, vK]; exact this
 ·cases hv : l.ownBlock with
  | none => exact .inl rfl
  |some b =>
   refine .inr (fun e => ?_); have hlt := (R.ol.lt b hv).2
   rcases hob with h1 | h1
   ·rcases R.ne with h2 | h2
    ·rw [hv] at h2; cases h2
    ·exact h2 (by rw [hv, e, h1])
   ·rw [h1] at e; cases e; omega
end
theorem wd_len (s : Hp.St) (x : Hp.Wd) : (Hp.wd s x).h.labels.length <= s.h.labels.length + 1 /\ (Hp.wd s x).h.repair.length <= s.h.repair.length + 1 := by
 unfold Hp.wd
 split
 ·exact ⟨zi, zi⟩
 split
 ·exact ⟨zi, zi⟩
 split
 ·exact ⟨zi, zi⟩
 split
 ·exact ⟨zi, zi⟩
 ·split
  ·exact ⟨zi, zi⟩
  split
  ·exact ⟨zi, zi⟩
  split
  ·exact ⟨zi, zi⟩
  ·exact ⟨zi, zi⟩
theorem stp_len {L : List Hp.Wd} : ∀ {k : Nat}, k <= L.length -> (stp L k).h.labels.length <= k /\ (stp L k).h.repair.length <= k
 | 0, _ => by rw [lU]; exact ⟨yZ _, yZ _⟩
 |1, h => by
  rw [stp_one (zA (show 0 < L.length from om))]; exact ⟨by simp [Hp.st0], by simp [Hp.st0]⟩
 |k + 2, h => by
  have ih := stp_len (L := L) (k := k + 1) om; rw [stp_succ om (zA (show k + 1 < L.length from om))]; have := wd_len (stp L (k + 1)) (L[k + 1]'om); omega
def opAt (x : Hp.Wd) : Nat -> Int
 | 0 => -1
 | j + 1 => if x = Hp.opW j then j else opAt x j
theorem opAt_four (x : Hp.Wd) : opAt x 4 = Hp.opV x := by
 unfold Hp.opV Hp.opOf; simp only [opAt]; rw [show Hp.opW ((3 : Nat) : Int) = Hp.wHere from rfl, show Hp.opW ((2 : Nat) : Int) = Hp.wPop from rfl, show Hp.opW ((1 : Nat) : Int) = Hp.wSwap from rfl, show Hp.opW ((0 : Nat) : Int) = Hp.wPush from rfl]
 by_cases c0 : x = Hp.wPush
 ·subst c0; decide
 by_cases c1 : x = Hp.wSwap
 ·subst c1; decide
 by_cases c2 : x = Hp.wPop
 ·subst c2; decide
 by_cases c3 : x = Hp.wHere
 ·subst c3; decide
 simp [c0, c1, c2, c3]
theorem rd_two {w2 W : World} {H : Nat} {p : Option Addr} {L : List Hp.Wd} (h : RdP w2 1 encS p L) (hne : ∀ a, p = some a -> L.length ≠ 0 -> a.block ≠ H) (hf : TwoB H H w2 W) : RdP W 1 encS p L := by
 refine ⟨h.1, fun a ha hn => ?_⟩; obtain ⟨g1, g2, g3⟩ := h.2 a ha hn; exact ⟨g1, xC g2 hf.size, fun i x hx j u hu => (World.cell?_of_block (a := ⟨a.block, _, none⟩) (hf.block a.block g2 (hne a ha hn) (hne a ha hn))).trans (g3 i x hx j u hu)⟩
section
variable {w w2 W : World} {B H : Nat} {op P B' : Int} {L R : List Int} {C : Bool} {part : Int} {l r : Value}
theorem RP.cs (h : RP w w2 B H W ⟨op, L, P, B', R, C⟩ part l r) : W.cell? ⟨H, 0, none⟩ = some (.int .i64 op) /\ W.cell? ⟨H, 1, none⟩ = some l /\ W.cell? ⟨H, 2, none⟩ = some (.int .i64 P) /\ W.cell? ⟨H, 3, none⟩ = some (.int .i64 B') /\ W.cell? ⟨H, 4, none⟩ = some r /\ W.cell? ⟨H, 5, none⟩ = some (.bool C) :=
 ⟨h.hb.cell 0, h.hb.cell 1, h.hb.cell 2, h.hb.cell 3, h.hb.cell 4, h.hb.cell 5⟩
theorem RP.fz (h : RP w w2 B H W ⟨op, L, P, B', R, C⟩ part l r) : W.frozen? ⟨H, 0, none⟩ = false /\ W.frozen? ⟨H, 1, none⟩ = false /\ W.frozen? ⟨H, 2, none⟩ = false /\ W.frozen? ⟨H, 3, none⟩ = false /\ W.frozen? ⟨H, 4, none⟩ = false /\ W.frozen? ⟨H, 5, none⟩ = false :=
 ⟨h.hb.frozen' 0, h.hb.frozen' 1, h.hb.frozen' 2, h.hb.frozen' 3, h.hb.frozen' 4, h.hb.frozen' 5⟩
end
theorem ref_Parse15 (s : List UInt8) (hs : s.length <= 1000000) (w : World) :
  Calls prog 63 #[.string (str s)] w (RetHop (Hp.refParse s) w) := by
 have HW := qh fun W => ref_words s hs W; have htl := vX; have hL := Hp.spl_ne s; have HSL := qh (spl_le s)
 have hLl : (Hp.spl s).length <= 1000001 := by
  have h1 := zCl s; have := aK (a := (32 : UInt8)) (l := s); omega
 have HRP : Hid (Hp.refParse s = if Hp.checkR (Hp.interp (Hp.spl s)) = 0 /\ Hp.showR (Hp.interp (Hp.spl s)) = s then some (Hp.interp (Hp.spl s)) else none) := qh rfl; generalize Hp.spl s = L at *; have HLN := qh hL; have HN0 := qh (Blk.new w 29 #[.int .i64 0, .slice none 0 0, .int .i64 0, .int .i64 0, .slice none 0 0, .bool false]); clear hL
 go_enter func63, ntmps63
 go_wp2_with fail
 refine (HW.o _).mono ?_; rintro e w2 ⟨v, rfl, ho, hb⟩; obtain ⟨p, cap, rfl, h1, h2, hR, hpA⟩ := SlP.of_owns vU ho; have hne : ∀ a, p = some a -> L.length ≠ 0 -> a.block ≠ w.heap.size + 1 := fun a ha hn => by have := hpA a ha hn; simp at this; omega
 have HRD : Hid (∀ W, TwoB (w.heap.size + 1) (w.heap.size + 1) w2 W -> RdP W 1 encS p L) := qh fun W hf => rd_two hR hne hf; have hHb := Blk.new (w.alloc (.cells #[.int .i64 0, .slice none 0 0, .int .i64 0, .int .i64 0, .slice none 0 0, .bool false] 29)) 29 (hopA h00 (.slice none 0 0) (.slice none 0 0)); rw [xG] at hHb; have hsz2 : w.heap.size + 1 + 1 <= w2.heap.size := by have := hb.size; simpa using this
 have HR0 : Hid (RP w w2 w2.heap.size (w.heap.size + 1) w2 (stp L 0).h (stp L 0).part (.slice none 0 0) (.slice none 0 0)) := by
  rw [lU]; refine qh ⟨hHb.below hb zi, xL _ _ _ _, xL _ _ _ _, .inl rfl, fun _ => ⟨rfl, rfl⟩, TwoB.refl _ _ _, ?_, om, rfl, om⟩; exact ((yD w _).alloc zi _).trans (hb.mono zo)
 have HN2 : Hid (Blk w2 w.heap.size 29 #[.int .i64 0, .slice none 0 0, .int .i64 0, .int .i64 0, .slice none 0 0, .bool false]) := qh ((HN0.o.alloc _).below hb zo); clear ho hb hR hpA hne hHb HN0 HW; go_wp2_with fail
 go_loopw [6, 7] (fun vp vi wr => ∃ (k : Nat) (l r : Value), vi = .int .i64 k /\ k <= L.length /\ k <= 60 /\ vp = .int .i64 (stp L k).part /\ Hid (RP w w2 w2.heap.size (w.heap.size + 1) wr (stp L k).h (stp L k).part l r)) (fun _ vi _ => 60 - (intOf vi).toNat)
 case atStart => exact ⟨0, _, _, rfl, yQ _, om, by rw [lU], HR0⟩
 case round =>
  obtain ⟨k, l, r, rfl, hk, hk60, rfl, HR⟩ := hrel
  by_cases hlt : k < L.length /\ k < 60
  ·obtain ⟨hlt1, hlt2⟩ := hlt
   obtain ⟨x, hLx⟩ : ∃ x, L[k]? = some x := ⟨L[k], zA hlt1⟩; have hxl : x.length <= 1000000 := yK (HSL.o x (uA hLx)) hs; have HN := qh fun W => pX x om 1048575 W; obtain ⟨b, off, rfl, hbl, hc⟩ := (HRD.o wr HR.o.fr).at hlt1
   have hx : wr.cell? ⟨b, off + k, none⟩ = some (.string (str x)) := by
    have hLk : L[k] = x := by have := zA hlt1; rw [hLx] at this; cases this; rfl
    have := hc 0 (.string (str x)) (by rw [hLk]; rfl)
    simpa using this
   have HLX := qh hLx; have hlk := stp_len (L := L) hk; clear hc hLx
   by_cases hk0 : k = 0
   ·subst hk0
    rw [lU] at HR; simp only at HR; have HR' : Hid (RP w w2 w2.heap.size (w.heap.size + 1) wr ⟨opAt x 0, [], 0, -1, [], false⟩ 0 l r) := HR; obtain ⟨d0, d1, d2, d3, d4, d5⟩ := RP.cs (op := -1) HR'.o; rw [lU]; have HST := qh (stp_one HLX.o)
    have HX0 : Hid (∀ W h l r, RP w w2 w2.heap.size (w.heap.size + 1) W h 0 l r -> W.cell? ⟨b, off, none⟩ = some (.string (str x))) := qh fun W h l r hW => by
     obtain ⟨b', off', hbo, _, hc⟩ := (HRD.o W hW.fr).at hlt1
     cases hbo; have hLk : L[0] = x := by have := zA hlt1; rw [HLX.o] at this; cases this; rfl
     have := hc 0 (.string (str x)) (by rw [hLk]; rfl)
     simpa using this
    clear HR; have hx00 := HX0.o _ _ _ _ HR'.o; go_wp2_with fail
    refine zU (HN.o _) ?_; go_wp2_with fail
    go_loopw [10] (fun vj W => ∃ j : Nat, j <= 4 /\ vj = .int .i64 j /\ Hid (RP w w2 w2.heap.size (w.heap.size + 1) W ⟨opAt x j, [], 0, -1, [], false⟩ 0 l r)) (fun vj _ => 4 - (intOf vj).toNat)
    case atStart => exact ⟨0, om, rfl, HR'⟩
    case round =>
     obtain ⟨j, hj, rfl, HJ⟩ := hrel
     by_cases hj4 : j = 4
     ·subst hj4
      have HE : Hid (stp L 1 = ⟨⟨opAt x 4, [], 0, -1, [], false⟩, 0⟩) := by rw [HST.o, opAt_four]; exact qh rfl
      go_wp2
      refine ⟨⟨1, l, r, by go_num, om, om, by rw [HE.o], ?_⟩, by simp [intOf]⟩; rw [HE.o]; exact HJ
     have HO0 : Hid (opAt x (j + 1) = if x = Hp.opW (j : Int) then (j : Int) else opAt x j) := qh rfl; generalize opAt x j = oj at *
     obtain ⟨bq, q, HO⟩ : ∃ bq : Bool, (x == Hp.opW (j : Int)) = bq /\ Hid (opAt x (j + 1) = if bq = true then (j : Int) else oj) := by
      by_cases cx : x = Hp.opW (j : Int)
      ·exact ⟨true, uP.2 cx, qh (by rw [HO0.o, zN cx]; rfl)⟩
      ·exact ⟨false, yF.2 cx, qh (by rw [HO0.o, zH cx]; rfl)⟩
     clear HO0; have hcs : j = 0 ∨ j = 1 ∨ j = 2 ∨ j = 3 := om
     rcases hcs with rfl | rfl | rfl | rfl
     all_goals
      first
      | change (x == ([112, 117, 115, 104] : List UInt8)) = bq at q
      | change (x == ([115, 119, 97, 112] : List UInt8)) = bq at q
      | change (x == ([112, 111, 112] : List UInt8)) = bq at q
      | change (x == ([104, 101, 114, 101] : List UInt8)) = bq at q
      go_wp2_with fail
      refine yB (S := fun W => RP w w2 w2.heap.size (w.heap.size + 1) W ⟨oj, [], 0, -1, [], false⟩ 0 l r) kf HJ.o.drew (fun hHeld => ?_); refine kq 0 ?_; refine kq 1 ?_; refine kh 2 (fun w h => HX0.o _ _ _ _ h) ?_; refine kq 4 ?_; refine zS 3 fun K hK => ?_; go_simp; refine zK hK (RP.alloc za _) fun hHeld => ?_; clear hK K; refine kq 5 ?_; refine zS 6 fun K hK => ?_; go_simp; refine zK hK za fun hHeld => ?_; clear hK K; refine kq 7 ?_; refine zD ?_; have HK := qh hHeld; obtain ⟨k0, k1, k2, k3, k4, k5⟩ := RP.cs HK.o; obtain ⟨f0, f1, f2, f3, f4, f5⟩ := RP.fz HK.o
      cases bq
      all_goals
       go_wp2_with fail
       first
       | refine ⟨⟨1, om, by go_num, ?_⟩, by simp [intOf]⟩
       | refine ⟨⟨2, om, by go_num, ?_⟩, by simp [intOf]⟩
       | refine ⟨⟨3, om, by go_num, ?_⟩, by simp [intOf]⟩
       | refine ⟨⟨4, om, by go_num, ?_⟩, by simp [intOf]⟩
       rw [HO.o]
       first | exact HK | exact qh (HK.o.write 0 _ rfl rfl rfl id)
   ·have e0 : (k == 0) = false := by simpa using hk0
    have e0' : ((k : Int) == 0) = false := by simpa using hk0
    have HST := qh (stp_succ (by omega : 0 < k) HLX.o); generalize stp L k = st at *; obtain ⟨hh, part⟩ := st; obtain ⟨op, l1, P, B, R, C⟩ := hh; simp only at HR hlk ⊢; obtain ⟨d0, d1, d2, d3, d4, d5⟩ := HR.o.cs; obtain ⟨f0, f1, f2, f3, f4, f5⟩ := HR.o.fz
    by_cases c1 : x = Hp.wPort
    ·have q1 : (x == [112, 111, 114, 116]) = true := by rw [c1]; rfl
     have HE : Hid (stp L (k + 1) = ⟨⟨op, l1, P, B, R, C⟩, 1⟩) := by rw [HST.o, Hp.wd, zN c1]; exact qh rfl
     clear c1; go_wp2_with fail
     refine zU (HN.o _) ?_
     go_wp2
     refine ⟨⟨k + 1, l, r, by go_num, om, om, by rw [HE.o], ?_⟩, by simp [intOf]; omega⟩; rw [HE.o]; exact qh (HR.o.turn 1 zd)
    have q1 : (x == [112, 111, 114, 116]) = false := by rw [yF]; exact c1
    by_cases c2 : x = Hp.wBackup
    ·have q2 : (x == [98, 97, 99, 107, 117, 112]) = true := by rw [c2]; rfl
     have HE : Hid (stp L (k + 1) = ⟨⟨op, l1, P, B, R, C⟩, 2⟩) := by rw [HST.o, Hp.wd, zH c1, zN c2]; exact qh rfl
     clear c1 c2; go_wp2_with fail
     refine zU (HN.o _) ?_
     go_wp2
     refine ⟨⟨k + 1, l, r, by go_num, om, om, by rw [HE.o], ?_⟩, by simp [intOf]; omega⟩; rw [HE.o]; exact qh (HR.o.turn 2 zd)
    have q2 : (x == [98, 97, 99, 107, 117, 112]) = false := by rw [yF]; exact c2
    by_cases c3 : x = Hp.wPipe
    ·have q3 : (x == [112, 105, 112, 101]) = true := by rw [c3]; rfl
     have HE : Hid (stp L (k + 1) = ⟨⟨op, l1, P, B, R, true⟩, part⟩) := by rw [HST.o, Hp.wd, zH c1, zH c2, zN c3]; exact qh rfl
     clear c1 c2 c3; go_wp2_with fail
     refine zU (HN.o _) ?_
     go_wp2
     refine ⟨⟨k + 1, l, r, by go_num, om, om, by rw [HE.o], ?_⟩, by simp [intOf]; omega⟩; rw [HE.o]; exact qh (HR.o.write 5 (.bool true) rfl rfl rfl id)
    have q3 : (x == [112, 105, 112, 101]) = false := by rw [yF]; exact c3
    cases hn : number x 1048575 with
    |none =>
     rw [hn] at HN; have HE : Hid (stp L (k + 1) = ⟨⟨op, l1, P, B, R, C⟩, part⟩) := by rw [HST.o, Hp.wd, zH c1, zH c2, zH c3, hn]; exact qh rfl
     clear hn c1 c2 c3; go_wp2_with fail
     refine zU (HN.o _) ?_
     go_wp2
     refine ⟨⟨k + 1, l, r, by go_num, om, om, by rw [HE.o], ?_⟩, by simp [intOf]; omega⟩; rw [HE.o]; exact qh (HR.o)
    |some n =>
     rw [hn] at HN; have HW2 : Hid (stp L (k + 1) = if part = 0 then ⟨⟨op, l1 ++ [n], P, B, R, C⟩, part⟩ else if part = 1 then ⟨⟨op, l1, n, B, R, C⟩, part⟩ else if part = 2 then ⟨⟨op, l1, P, n, R, C⟩, 3⟩ else ⟨⟨op, l1, P, B, R ++ [n], C⟩, part⟩) := by rw [HST.o, Hp.wd, zH c1, zH c2, zH c3, hn]; exact qh rfl
     clear hn c1 c2 c3; have hBl := HR.o.Bl
     by_cases p0 : part = 0
     ·have HE : Hid (stp L (k + 1) = ⟨⟨op, l1 ++ [n], P, B, R, C⟩, part⟩) := by rw [HW2.o, zN p0]; exact qh rfl
      subst p0; have HOW : Hid (wr.ownsRow w2.heap.size 3 1 l l1.length (flat encI l1)) := qh HR.o.ol; have hHB := HR.o.hB; go_wp2_with fail
      refine zU (HN.o _) ?_
      go_wp2_with (at_builtin; go_loud (refine uR elemI rfl (.tmp 75) (.tmp 77) rfl w2.heap.size l _ _ rfl HOW.o 1 1 [.int .i64 _] rfl rfl (by simp [Value.oneCell']) om om ?_; intro v4 w4 hown4 hgr4 hob4 hb4; have HX := qh (HR.o.addL rfl hown4 hgr4 hb4); have e1 := (hb4.cell (p := ⟨w.heap.size + 1, 1, none⟩) hHB).trans d1; have g1 := (hb4.frozen (p := ⟨w.heap.size + 1, 1, none⟩) hHB).trans f1; obtain ⟨p4, c4, hv4⟩ := uG hown4; clear hown4 hgr4 hob4 hb4; subst hv4))
      refine ⟨⟨k + 1, .slice p4 (l1.length + 1) c4, r, by go_num, om, om, by rw [HE.o], ?_⟩, by simp [intOf]; omega⟩; rw [HE.o]; exact qh (HX.o)
     have r0 : (part == 0) = false := by simpa using p0
     by_cases p1 : part = 1
     ·have HE : Hid (stp L (k + 1) = ⟨⟨op, l1, n, B, R, C⟩, part⟩) := by rw [HW2.o, zH p0, zN p1]; exact qh rfl
      subst p1; clear p0; go_wp2_with fail
      refine zU (HN.o _) ?_
      go_wp2
      refine ⟨⟨k + 1, l, r, by go_num, om, om, by rw [HE.o], ?_⟩, by simp [intOf]; omega⟩; rw [HE.o]; exact qh (HR.o.write 2 (.int .i64 n) rfl rfl rfl id)
     have r1 : (part == 1) = false := by simpa using p1
     by_cases p2 : part = 2
     ·have HE : Hid (stp L (k + 1) = ⟨⟨op, l1, P, n, R, C⟩, 3⟩) := by rw [HW2.o, zH p0, zH p1, zN p2]; exact qh rfl
      subst p2; clear p0 p1; go_wp2_with fail
      refine zU (HN.o _) ?_
      go_wp2
      refine ⟨⟨k + 1, l, r, by go_num, om, om, by rw [HE.o], ?_⟩, by simp [intOf]; omega⟩; rw [HE.o]; exact qh (HR.o.write (p := 3) 3 (.int .i64 n) rfl rfl rfl (fun e => absurd e zd))
     have r2 : (part == 2) = false := by simpa using p2
     have HE : Hid (stp L (k + 1) = ⟨⟨op, l1, P, B, R ++ [n], C⟩, part⟩) := by rw [HW2.o, zH p0, zH p1, zH p2]; exact qh rfl
     have HP0 := qh p0; have HOW : Hid (wr.ownsRow w2.heap.size 3 1 r R.length (flat encI R)) := qh HR.o.or; have hHB := HR.o.hB; clear p0 p1 p2; go_wp2_with fail
     refine zU (HN.o _) ?_
     go_wp2_with (at_builtin; go_loud (refine uR elemI rfl (.tmp 99) (.tmp 101) rfl w2.heap.size r _ _ rfl HOW.o 1 1 [.int .i64 _] rfl rfl (by simp [Value.oneCell']) om om ?_; intro v4 w4 hown4 hgr4 hob4 hb4; have HX := qh (HR.o.addR HP0.o hown4 hgr4 hob4 hb4); have e4 := (hb4.cell (p := ⟨w.heap.size + 1, 4, none⟩) hHB).trans d4; have g4 := (hb4.frozen (p := ⟨w.heap.size + 1, 4, none⟩) hHB).trans f4; obtain ⟨p4, c4, hv4⟩ := uG hown4; clear hown4 hgr4 hob4 hb4; subst hv4))
     refine ⟨⟨k + 1, l, .slice p4 (R.length + 1) c4, by go_num, om, om, by rw [HE.o], ?_⟩, by simp [intOf]; omega⟩; rw [HE.o]; exact qh (HX.o)
  ·have hk2 : k = 60 ∨ k = L.length := om
   have HEnd := qh (stp_end HLN.o hk2 hk60); have hlk := stp_len (L := L) hk; generalize (stp L k).part = part at *; generalize hhh : (stp L k).h = hh at *; obtain ⟨op, l1, P, B, R, C⟩ := hh; simp only at hlk; clear hhh; have HIS : Hid (wP wr ⟨op, l1, P, B, R, C⟩ l r) := qh ⟨by simp only; omega, by simp only; omega, SlR.of_owns mI HR.o.ol, SlR.of_owns mI HR.o.or⟩; have HB9 : Hid (Blk wr (w.heap.size + 1) 29 (hopA ⟨op, l1, P, B, R, C⟩ l r)) := qh HR.o.hb; have HBN : Hid (Blk wr w.heap.size 29 #[.int .i64 0, .slice none 0 0, .int .i64 0, .int .i64 0, .slice none 0 0, .bool false] /\ zW w wr) := qh ⟨HR.o.fr.blk HN2.o om om, HR.o.bel⟩; have HBL := qh HR.o.Bl; have HOL : Hid (SlP (w2.heap.size <= ·) wr 1 encI l l1 /\ SlP (w2.heap.size <= ·) wr 1 encI r R) := qh ⟨SlP.of_owns mI HR.o.ol, SlP.of_owns mI HR.o.or⟩; have hol : ∃ p1 cl1, l = .slice p1 l1.length cl1 := uG HR.o.ol; have hor : ∃ p2 cl2, r = .slice p2 R.length cl2 := uG HR.o.or; obtain ⟨p1, cl1, rfl⟩ := hol; obtain ⟨p2, cl2, rfl⟩ := hor; have HCK := qh (ref_Check ⟨op, l1, P, B, R, C⟩ HIS.o.n1 HIS.o.n2 _ _ wr HIS.o.sl HIS.o.sr); have HVA := qh (Hp.check_iff ⟨op, l1, P, B, R, C⟩); have HRQ : Hid (Hp.refParse s = if Hp.checkR ⟨op, l1, P, B, R, C⟩ = 0 /\ Hp.showR ⟨op, l1, P, B, R, C⟩ = s then some ⟨op, l1, P, B, R, C⟩ else none) := by rw [HRP.o, ← HEnd.o]; exact qh rfl
   have HSH : Hid (∀ W, zW wr W -> Hp.checkR ⟨op, l1, P, B, R, C⟩ = 0 -> zCB 78 #[.agg (hopA ⟨op, l1, P, B, R, C⟩ (.slice p1 l1.length cl1) (.slice p2 R.length cl2))] W (.string (str (Hp.showR ⟨op, l1, P, B, R, C⟩)))) := qh fun W hW hv => ref_Show15 _ (HVA.o.1 hv) _ _ W (HIS.o.below hW zn); have hH0 := HR.o.hH; clear HR HRP HEnd HVA HIS; generalize hck : Hp.checkR ⟨op, l1, P, B, R, C⟩ = ck at *; generalize hsw : Hp.showR ⟨op, l1, P, B, R, C⟩ = sw at *; clear hck hsw
   by_cases hkl : k < L.length
   all_goals
    (try have hk60' : ¬ k < 60 := by omega)
    go_wp2_with (refine wpList_load_row rfl _ _ rfl (w.heap.size + 1) rfl _ #[.int .i64 op, .slice p1 l1.length cl1, .int .i64 P, .int .i64 B, .slice p2 R.length cl2, .bool C] (0, 0) _ HB9.o underlying29 rfl qH ?_)
    refine zT HCK.o fun w5 hb5 => ?_; have HB5 : Hid (zW wr w5) := qh hb5; have HN5 : Hid (Blk w5 w.heap.size 29 #[.int .i64 0, .slice none 0 0, .int .i64 0, .int .i64 0, .slice none 0 0, .bool false] /\ zW w w5) := qh ⟨HBN.o.1.below hb5 HBN.o.1.lt, HBN.o.2.trans (hb5.mono HBN.o.2.size)⟩; have HB95 := qh (HB9.o.below hb5 HB9.o.lt); clear hb5
    by_cases hck : ck = 0
    ·subst hck
     go_wp2_with (refine nI rfl _ _ rfl (w.heap.size + 1) rfl _ #[.int .i64 op, .slice p1 l1.length cl1, .int .i64 P, .int .i64 B, .slice p2 R.length cl2, .bool C] (0, 0) _ HB95.o underlying29 rfl qH ?_)
     refine zT (HSH.o _ HB5.o (by trivial)) fun w6 hb6 => ?_; have HB6 : Hid (zW wr w6) := qh (HB5.o.trans (hb6.mono HB5.o.size)); have HN6 : Hid (Blk w6 w.heap.size 29 #[.int .i64 0, .slice none 0 0, .int .i64 0, .int .i64 0, .slice none 0 0, .bool false] /\ zW w w6) := qh ⟨HN5.o.1.below hb6 HN5.o.1.lt, HN5.o.2.trans (hb6.mono HN5.o.2.size)⟩; have HB96 := qh (HB95.o.below hb6 HB95.o.lt); clear hb6
     by_cases hsw : sw = s
     ·subst hsw
      have HY : Hid (Hp.refParse sw = some ⟨op, l1, P, B, R, C⟩) := by rw [HRQ.o, zN ⟨by trivial, by trivial⟩]; exact qh rfl
      go_wp2_with (first
       | (refine wpList_load_row rfl _ _ rfl (w.heap.size + 1) rfl _ #[.int .i64 op, .slice p1 l1.length cl1, .int .i64 P, .int .i64 B, .slice p2 R.length cl2, .bool C] (0, 0) _ HB96.o underlying29 rfl qH ?_)
       | (refine uZ rfl _ _ _ rfl w.heap.size #[.int .i64 op, .slice p1 l1.length cl1, .int .i64 P, .int .i64 B, .slice p2 R.length cl2, .bool C] rfl rfl _ #[.int .i64 0, .slice none 0 0, .int .i64 0, .int .i64 0, .slice none 0 0, .bool false] HN6.o.1 qH rfl (lF _ _ _ _ _ _ _ _ _ _) ?_))
      refine zC (bL rfl _ _ w.heap.size _ #[.int .i64 op, .slice p1 l1.length cl1, .int .i64 P, .int .i64 B, .slice p2 R.length cl2, .bool C] _ _ rfl (Blk.setRow HN6.o.1 _) underlying29 rfl qH) rfl ?_; rw [HY.o]; have hgr := uV w6 w.heap.size #[.int .i64 op, .slice p1 l1.length cl1, .int .i64 P, .int .i64 B, .slice p2 R.length cl2, .bool C]; refine ⟨.slice p1 l1.length cl1, .slice p2 R.length cl2, rfl, ⟨by simp only [Option.getD]; omega, by simp only [Option.getD]; omega, ?_, ?_⟩, qX HN6.o.2 zn _⟩
      ·exact ((HOL.o.1.below HB6.o zn).grown hgr (fun b hb => zo)).imp (fun b hb => om)
      ·exact ((HOL.o.2.below HB6.o zn).grown hgr (fun b hb => zo)).imp (fun b hb => om)
     ·have HNo : Hid (Hp.refParse s = none) := by rw [HRQ.o, zH (fun h => hsw h.2)]; exact qh rfl
      have hne : (sw != s) = true := by simpa using hsw
      have hne2 : (sw == s) = false := by simpa using hsw
      have hne3 : ¬ s = sw := fun e => hsw e.symm
      go_wp2_with (refine uZ rfl _ _ _ rfl w.heap.size #[.int .i64 0, .slice none 0 0, .int .i64 0, .int .i64 0, .slice none 0 0, .bool false] rfl rfl _ #[.int .i64 0, .slice none 0 0, .int .i64 0, .int .i64 0, .slice none 0 0, .bool false] HN6.o.1 qH rfl (lF _ _ _ _ _ _ _ _ _ _) ?_)
      refine zC (bL rfl _ _ w.heap.size _ #[.int .i64 0, .slice none 0 0, .int .i64 0, .int .i64 0, .slice none 0 0, .bool false] _ _ rfl (Blk.setRow HN6.o.1 _) underlying29 rfl qH) rfl ?_; rw [HNo.o]; exact ⟨.slice none 0 0, .slice none 0 0, rfl, ⟨zi, zi, SlP.nil _ _ _, SlP.nil _ _ _⟩, qX HN6.o.2 zn _⟩
    ·have HNo : Hid (Hp.refParse s = none) := by rw [HRQ.o, zH (fun h => hck h.1)]; exact qh rfl
     have hne : (ck != 0) = true := by simpa using hck
     clear hck
     go_wp2_with (refine uZ rfl _ _ _ rfl w.heap.size #[.int .i64 0, .slice none 0 0, .int .i64 0, .int .i64 0, .slice none 0 0, .bool false] rfl rfl _ #[.int .i64 0, .slice none 0 0, .int .i64 0, .int .i64 0, .slice none 0 0, .bool false] HN5.o.1 qH rfl (lF _ _ _ _ _ _ _ _ _ _) ?_)
     refine zC (bL rfl _ _ w.heap.size _ #[.int .i64 0, .slice none 0 0, .int .i64 0, .int .i64 0, .slice none 0 0, .bool false] _ _ rfl (Blk.setRow HN5.o.1 _) underlying29 rfl qH) rfl ?_; rw [HNo.o]; exact ⟨.slice none 0 0, .slice none 0 0, rfl, ⟨zi, zi, SlP.nil _ _ _, SlP.nil _ _ _⟩, qX HN5.o.2 zn _⟩
open Go.PrefixPlain Go.ColonPlain
theorem zBy : ∀ l : List UInt8, yY 32 l = Hp.spl l
 | [] => rfl
 |c :: r => by
  rw [yY, Hp.spl, zBy r]
  split
  ·rfl
  ·cases h : Hp.spl r with
   | nil => exact absurd h (Hp.spl_ne r)
   | cons w ws => rfl
theorem wR (d : UInt8) : ∀ l : List UInt8, (yY d l).length <= l.length + 1
 | [] => by simp [yY]
 |c :: r => by
  have ih := wR d r; rw [yY]
  split
  ·simp; omega
  ·simp; omega
theorem aT (d : UInt8) : ∀ (l : List UInt8), ∀ w ∈ yY d l, w.length <= l.length
 | [], w, h => by simp [yY] at h; simp [h]
 |c :: r, w, h => by
  have ih := aT d r; rw [yY] at h
  split at h
  ·rcases yR.1 h with rfl | h
   ·simp
   ·have := ih w h; simp; omega
  ·cases hs : yY d r with
   | nil => exact absurd hs (bH d r)
   |cons v vs =>
    rw [hs] at h ih; simp only [mY, bZ] at h
    rcases yR.1 h with rfl | h
    ·have := ih v yH; simp; omega
    ·have := ih w (yP _ h); simp; omega
structure WdR (w wr : World) (d : UInt8) (s : List UInt8) (k : Nat) (out : List Hp.Wd) (now : Hp.Wd) (vo : Value) : Prop where
 own : wr.ownsRow w.heap.size 9 1 vo out.length (flat encS out)
 bel : zW w wr
 eq : yY d s = out ++ glue now (yY d (s.drop k))
 len : out.length <= k
 ln2 : now.length <= k
theorem zAz (d : UInt8) (s : List UInt8) (hs : s.length <= 1000000) (w : World) :
  Calls prog 26 #[.string (str s), .int .u8 (d.toNat : Int)] w fun e w' => ∃ v, e = .returned v /\ w'.ownsRow w.heap.size 9 1 v (yY d s).length (flat encS (yY d s)) /\ zW w w' := by
 have hsz : (str s).size = s.length := zZ s
 go_enter func26, ntmps26
 go_wp2_with fail
 go_loopw [5, 6, 7] (fun vo vn vi wr => ∃ (k : Nat) (out : List Hp.Wd) (now : Hp.Wd), vi = .int .i64 k /\ k <= s.length /\ vn = .string (str now) /\ Hid (WdR w wr d s k out now vo)) (fun _ _ vi _ => s.length - (intOf vi).toNat)
 case atStart => exact ⟨0, [], [], rfl, yQ _, rfl, qh ⟨xL _ _ _ _, xE _ _, by rw [xU, zCn _ (bH d s)]; rfl, yZ _, yZ _⟩⟩
 case round =>
  obtain ⟨k, out, now, rfl, hk, rfl, HW⟩ := hrel; have hol := HW.o.len; have hnl := HW.o.ln2; have hz := HW.o.bel.size
  by_cases hlt : k < s.length
  ·obtain ⟨c, hcg⟩ : ∃ c, s[k] = c := ⟨_, rfl⟩
   have HDR : Hid (s.drop k = c :: s.drop (k + 1)) := qh (by rw [← hcg]; exact yE hlt); have hg : ∀ h, (str s)[k]'h = c := fun h => by rw [jS, hcg]
   have HX : Hid ((str s).extract k (k + 1) = str [c]) := by
    rw [aP, HDR.o, show k + 1 - k = 1 from om]; exact qh rfl
   clear hcg; have hns : (str now).size = now.length := zZ _
   by_cases hc : c = d
   ·subst hc
    go_wp2_with (at_builtin; go_loud (refine uR rT rfl (.tmp 19) (.tmp 21) rfl w.heap.size u5 _ _ rfl HW.o.own 1 1 [.string _] rfl rfl (by simp [Value.oneCell']) om om ?_; intro v4 w4 hown4 _ _ hb4))
    refine ⟨⟨k + 1, out ++ [now], [], by go_num, om, rfl, qh ⟨?_, HW.o.bel.trans hb4, ?_, zo, zi⟩⟩, by simp [intOf]; omega⟩
    ·rw [vK, zG]; exact hown4
    ·rw [HW.o.eq, HDR.o, yY, zN rfl, zCn _ (bH _ _)]
     simp [glue]
   ·have hne : ((c.toNat : Int) == (d.toNat : Int)) = false := by
     simp only [yF, qR]; exact fun h => hc (uH.1 om)
    have HC := qh hc; clear hc
    go_wp2
    refine ⟨⟨k + 1, out, now ++ [c], by go_num, om, by rw [HX.o, xJ], qh ⟨HW.o.own, HW.o.bel, ?_, om, zo⟩⟩, by simp [intOf]; omega⟩; rw [HW.o.eq, HDR.o, yY, zH HC.o]
    congr 1
    cases hq : yY d (s.drop (k + 1)) with
    | nil => exact absurd hq (bH _ _)
    | cons v vs => simp [glue]
  ·obtain rfl : k = s.length := om
   have HE : Hid (yY d s = out ++ [now]) := by
    have h := HW.o.eq; rw [qO] at h; have h2 : glue now (yY d []) = [now] := by simp [yY, glue]
    rw [h2] at h; exact qh h
   go_wp2_with (at_builtin; go_loud (refine uR rT rfl (.tmp 30) (.tmp 32) rfl w.heap.size u5 _ _ rfl HW.o.own 1 1 [.string _] rfl rfl (by simp [Value.oneCell']) om om ?_; intro v4 w4 hown4 _ _ hb4))
   go_ret
   refine ⟨_, rfl, ?_, HW.o.bel.trans hb4⟩; rw [HE.o, vK, zG]; exact hown4
theorem sO (x : Hp.Wd) (hx : x.length <= 1000000) (w : World) :
  zCQ 30 #[.string (str x)] w (.int .i64 (Sc.numD x)) := by
 have HN := qh (pX x om 1073741824 w); unfold Sc.numD Sc.num30; generalize number x 1073741824 = on at *
 cases on
 all_goals
  go_enter func30, ntmps30
  go_wp2_with fail
  refine zU HN.o ?_
  go_wp2
  go_ret
  exact ⟨rfl, rfl⟩
def RetTwo (o : Option (Int × Int)) (W : World) (e : Ending) (W' : World) : Prop := ∃ a b : Int, e = .returned (.tuple #[.int .i64 a, .int .i64 b, .bool o.isSome]) /\ (∀ p, o = some p -> p = (a, b)) /\ zW W W'
theorem oM (x : Hp.Wd) : -1 <= Sc.numD x /\ Sc.numD x <= 1073741824 := by
 unfold Sc.numD
 cases h : Sc.num30 x with
 | none => simp
 | some n => have := (Sc.num30_some h).2; simp; omega
theorem r32_two (d : UInt8) (s : Hp.Wd) (hs : s.length <= 1000000) (w : World) :
  Calls prog 62 #[.string (str s), .int .u8 (d.toNat : Int)] w (RetTwo (Sc.twoD d s) w) := by
 have HW := qh (zAz d s hs w); have hle := aT d s; have HD : Hid (Sc.twoD d s = match yY d s with | [a, b] => if 0 <= Sc.numD a /\ 0 <= Sc.numD b then some (Sc.numD a, Sc.numD b) else none | _ => none) := qh rfl; have hcn := wR d s; generalize yY d s = L at *; generalize Sc.twoD d s = o at *
 by_cases h2 : L.length = 2
 ·obtain ⟨a, b, rfl⟩ : ∃ a b, L = [a, b] := by
   match L, h2 with
   | [a, b], _ => exact ⟨a, b, rfl⟩
  have hA := qh fun W => sO a (by have := hle a zi; omega) W; have hB := qh fun W => sO b (by have := hle b zi; omega) W; have h1 := oM a; have h3 := oM b; simp only at HD; clear hle h2 hcn; generalize Sc.numD a = A at *; generalize Sc.numD b = B at *
  go_enter func62, ntmps62
  go_wp2_with fail
  refine HW.o.mono ?_; rintro e w1 ⟨v1, rfl, ho1, hb1⟩; have HB1 := qh hb1; have hc0 := (SlP.of_owns vU ho1); obtain ⟨p1, k1, rfl⟩ := uG ho1; obtain ⟨pp, cap, hvv, q1, q2, hR, hq⟩ := hc0
  cases hvv; obtain ⟨b0, off, rfl, hbl2, hc⟩ := hR.at (i := 0) zi; have hx0 := hc 0 (.string (str a)) rfl; obtain ⟨b9, off9, e9, -, hc9⟩ := hR.at (i := 1) zi
  cases e9; have hx1 := hc9 0 (.string (str b)) rfl; simp only [jP, xN, jN] at hx0 hx1; clear hb1 ho1 hR hq hc hc9; simp only [zI, xI]; go_wp2_with fail
  refine zU (hA.o _) ?_; go_wp2_with fail
  refine zU (hB.o _) ?_; have HP : Hid (∀ p, o = some p -> p = (A, B)) := qh fun p hp => by rw [HD.o] at hp; split at hp <;> cases hp; rfl
  have HS : Hid (o.isSome = (decide (0 <= A) && decide (0 <= B))) := qh (by rw [HD.o]; by_cases hA0 : 0 <= A <;> by_cases hB0 : 0 <= B <;> simp [hA0, hB0])
  by_cases hA0 : 0 <= A <;> by_cases hB0 : 0 <= B
  all_goals
   go_wp2_with fail
   exact zC (v := .tuple #[.int .i64 A, .int .i64 B, .bool o.isSome]) (by rw [HS.o]; simp [results, results62, go_sem, hA0, hB0]) rfl ⟨A, B, rfl, HP.o, HB1.o⟩
 ·have HN : Hid (o = none) := qh (by
   rw [HD.o]
   match L, h2 with
   | [], _ => rfl
   | [a], _ => rfl
   | [a, b], h => exact absurd rfl h
   | a :: b :: c :: r, _ => rfl)
  have hn2 : ((L.length : Int) == 2) = false := by simp only [yF, qR]; omega
  have hn3 : ((L.length : Int) != 2) = true := by simp only [jZ, qR]; omega
  clear HD hle h2
  go_enter func62, ntmps62
  go_wp2_with fail
  refine HW.o.mono ?_; rintro e w1 ⟨v1, rfl, ho1, hb1⟩; have HB1 := qh hb1; obtain ⟨p1, k1, rfl⟩ := uG ho1; clear hb1 ho1; go_wp2_with fail
  exact zC (v := .tuple #[.int .i64 0, .int .i64 0, .bool o.isSome]) (by simp [results, results62, go_sem, HN.o]) rfl ⟨0, 0, rfl, (fun p hp => by rw [HN.o] at hp; cases hp), HB1.o⟩
end Go.Proofs.YtdbgeobolongmaaGreatDoor
