/- Part of the proof: ScriptLines, ScriptParses, ScriptShows. -/
import Derived.Test.YtdbgeobolongmaaGreatDoorSA09
import Derived.Test.YtdbgeobolongmaaGreatDoorSA15
set_option linter.unusedVariables false
set_option linter.unusedSimpArgs false
set_option maxRecDepth 100000
set_option maxHeartbeats 2000000
namespace Go.Proofs.YtdbgeobolongmaaGreatDoor
open Go.RowKit Go.Shelf Go.Proofs Go.OctetPlain Go.ColonPlain Go.Proofs.Tryz
theorem ref_zeros (G : List Nat) (hG : G.length = 8) (a : Nat) (ha : a <= 8) (w : World) :
  zCB 90 #[.agg (arrI (ints G)), .int .i64 a] w (.int .i64 (sN ((zs G).drop a) : Nat)) := by
 go_enter func90, ntmps90
 go_wp2_with fail
 go_loopw [5] (fun vn wr => ∃ j : Nat, vn = .int .i64 j /\ a + j <= 8 /\ Hid (sN ((zs G).drop a) = j + sN ((zs G).drop (a + j))) /\ Hid (Blk wr w.heap.size 155 (arrI (ints G))) /\ Hid (zW w wr)) (fun vn _ => 8 - (intOf vn).toNat)
 case atStart => exact ⟨0, rfl, om, qh zi, qh (Blk.new _ _ _), qh (yD w _)⟩
 case round =>
  obtain ⟨j, rfl, hj, HE, HA, HB⟩ := hrel; have e1 : IntKind.i64.wrap ((a : Int) + j) = (a : Int) + j := yT _ om
  by_cases hlt : a + j < 8
  ·obtain ⟨n, hn⟩ : ∃ n, G[a + j]? = some n := ⟨G[a + j], zA om⟩
   have hz : (zs G).drop (a + j) = decide (n = 0) :: (zs G).drop (a + j + 1) := by
    have h1 : (zs G)[a + j]? = some (decide (n = 0)) := by simp [zs, hn]
    obtain ⟨h2, h3⟩ := zL.1 h1; rw [yE h2, h3]
   rw [hz] at HE; have hc := (HA.o.cell (a + j)).trans (sF (lL hn)); have hl1 : (a : Int) + j < 8 := om; have hl0 : 0 <= (a : Int) + j := om; have ht : ((a : Int) + j).toNat = a + j := om; clear hz hn
   by_cases hn0 : n = 0
   ·subst hn0
    rw [zV rfl, sN] at HE
    go_wp2
    exact ⟨⟨j + 1, by go_num, om, qh (by rw [HE.o, mX a j 1]; omega), HA, HB⟩, by simp [intOf]; omega⟩
   ·have hne : ¬ (n : Int) = 0 := om
    rw [zM hn0] at HE; simp only [sN, xN] at HE; clear hn0
    go_wp2
    go_ret
    exact ⟨by rw [HE.o]; rfl, HB.o⟩
  ·have hd : (zs G).drop (a + j) = [] := yO (by rw [mF]; omega)
   rw [hd] at HE; simp only [sN, xN] at HE; have hl1 : ¬ (a : Int) + j < 8 := om; clear hd
   go_wp2
   go_ret
   exact ⟨by rw [HE.o]; rfl, HB.o⟩
theorem ref_digits (n : Nat) (hn : n < 65536) (w : World) :
  zCB 133 #[.int .i64 n] w (.string (str (hexN n))) := by
 have HB := qh fun W => ref_Bytes n om 2 om W; have hbl : (OctetPlain.bytes n 2).length <= 1073741824 := by rw [wW]; omega
 have HH := qh fun W => ref_Hex (OctetPlain.bytes n 2) hbl W; have HS := qh (strike_hex n hn); have hhl : (hex (OctetPlain.bytes n 2)).length = 4 := by rw [tL, wW]
 go_enter func133, ntmps133
 go_wp2_with fail
 refine zT (HB.o _) fun w1 hb1 => ?_; go_wp2_with fail
 refine zT (HH.o _) fun w2 hb2 => ?_; have HB2 := qh (hb1.trans (hb2.mono hb1.size)); clear hb1 hb2; go_wp2_with fail
 go_loopw [3] (fun vs wr => ∃ s : List UInt8, vs = .string (str s) /\ s.length <= 4 /\ Hid (strike (hex (OctetPlain.bytes n 2)) = strike s) /\ Hid (zW w wr)) (fun vs _ => match vs with | .string s => s.size | _ => 0)
 case atStart => exact ⟨_, rfl, om, qh rfl, HB2⟩
 case round =>
  obtain ⟨s, rfl, hs, HE, HBB⟩ := hrel; have hsz : (str s).size = s.length := zZ s
  match s, hs, HE, hsz with
  |[], hs, HE, hsz =>
   go_wp2
   go_ret
   exact ⟨by rw [← HS.o, HE.o]; rfl, HBB.o⟩
  |[c], hs, HE, hsz =>
   have hsz' : (str [c]).size = 1 := hsz
   go_wp2
   go_ret
   exact ⟨by rw [← HS.o, HE.o]; rfl, HBB.o⟩
  |c :: d :: r, hs, HE, hsz =>
   have hg : ∀ h, (str (c :: d :: r))[0]'h = c := fun h => jS _ _ h; have hl : (1 : Int) < ((c :: d :: r).length : Int) := by simp only [zI]; omega
   have hcut : (str (c :: d :: r)).extract 1 (c :: d :: r).length = str (d :: r) := by rw [aP]; simp
   by_cases hc : c = 48
   ·subst hc
    rw [strike, zN rfl] at HE; generalize hq : (48 : UInt8) :: d :: r = q at hsz hg hl hcut hs ⊢
    go_wp2
    refine ⟨⟨d :: r, rfl, by rw [← hq] at hs; simp only [zI] at hs ⊢; omega, HE, HBB⟩, ?_⟩
    show (str (d :: r)).size < (str q).size
    rw [zZ, hsz, ← hq]; simp
   ·have hc2 : ((c.toNat : Int) == 48) = false := by
     rw [yF]; intro h; exact hc (uH.1 (zAm h))
    rw [strike, zH hc] at HE; generalize hq : c :: d :: r = q at hsz hg hl hcut hs HE ⊢
    go_wp2
    go_ret
    exact ⟨by rw [← HS.o, HE.o]; rfl, HBB.o⟩
theorem joinF_app1 (f : Nat -> List UInt8) (x : Nat) : ∀ (l : List Nat), l ≠ [] -> uU f (l ++ [x]) = uU f l ++ 58 :: f x
 | [], h => absurd rfl h
 | [n], _ => rfl
 |n :: m :: r, _ => by
  have := joinF_app1 f x (m :: r) zi; simp only [yC, uU] at this ⊢; rw [this]; simp
theorem win_succ {G : List Nat} {a k n : Nat} (ha : a <= k) (hn : G[k]? = some n) : (G.take (k + 1)).drop a = (G.take k).drop a ++ [n] := by
 obtain ⟨h1, h2⟩ := zL.1 hn; rw [yA h1, h2, List.drop_append_of_le_length (by rw [yV]; omega)]
theorem ref_joined (G : List Nat) (hG : G.length = 8) (hlt : ∀ n ∈ G, n < 65536) (a b : Nat) (hab : a <= b) (hb : b <= 8) (w : World) :
  zCB 91 #[.agg (arrI (ints G)), .int .i64 a, .int .i64 b] w (.string (str (uU hexN ((G.take b).drop a)))) := by
 go_enter func91, ntmps91
 go_wp2_with fail
 go_loopw [7, 8] (fun vs vi wr => ∃ k : Nat, vi = .int .i64 k /\ a <= k /\ k <= b /\ vs = .string (str (uU hexN ((G.take k).drop a))) /\ Hid (Blk wr w.heap.size 155 (arrI (ints G))) /\ Hid (zW w wr)) (fun _ vi _ => b - (intOf vi).toNat)
 case atStart =>
  refine ⟨a, rfl, yZ _, hab, ?_, qh (Blk.new _ _ _), qh (yD w _)⟩; rw [yO (by rw [yV]; omega)]; rfl
 case round =>
  obtain ⟨k, rfl, hak, hkb, rfl, HA, HB⟩ := hrel
  by_cases hlt2 : k < b
  ·obtain ⟨n, hn⟩ : ∃ n, G[k]? = some n := ⟨G[k], zA om⟩
   have hc := (HA.o.cell k).trans (sF (lL hn)); have hnb := hlt n (uA hn); have DG := qh fun W => ref_digits n hnb W; have hw := win_succ hak hn; have hln := kT n; have hh : (str (hexN n)).size = (hexN n).length := zZ _; have hk8 : k < 8 := om; have hpl := sH (f := hexN) kT ((G.take k).drop a); have hps : (str (uU hexN ((G.take k).drop a))).size = (uU hexN ((G.take k).drop a)).length := zZ _; have hlen : ((G.take k).drop a).length = k - a := by rw [vZ, yV]; omega
   by_cases hka : a < k
   ·have hj : uU hexN ((G.take (k + 1)).drop a) = uU hexN ((G.take k).drop a) ++ 58 :: hexN n := by
     rw [hw]; exact joinF_app1 _ _ _ (fun h => by rw [h] at hlen; simp at hlen; omega)
    have HJ := qh hj; clear hw hj hn; generalize uU hexN ((G.take k).drop a) = Pj at HJ hpl hps ⊢; have h3 : (str (Pj ++ [58])).size = Pj.length + 1 := by rw [zZ]; simp
    have hsep : str Pj ++ ⟨#[58]⟩ = str (Pj ++ [58]) := xJ Pj [58]; go_wp2_with fail
    refine zT (DG.o _) fun w1 hb1 => ?_; have HA1 := qh (HA.o.below hb1 HA.o.lt); have HB1 := qh (HB.o.trans (hb1.mono HB.o.size)); clear hb1
    go_wp2
    refine ⟨⟨k + 1, by go_num, om, om, by rw [HJ.o, xJ]; simp, HA1, HB1⟩, by simp [intOf]; omega⟩
   ·obtain rfl : a = k := om
    have hj : uU hexN ((G.take (a + 1)).drop a) = hexN n := by
     rw [hw, show (G.take a).drop a = [] from zX om]; rfl
    have hj0 : uU hexN ((G.take a).drop a) = [] := by
     rw [show (G.take a).drop a = [] from zX om]; rfl
    have HJ := qh hj; rw [hj0] at hps ⊢; have hps : (str []).size = 0 := rfl; clear hw hj hn hj0 hpl hlen; go_wp2_with fail
    refine zT (DG.o _) fun w1 hb1 => ?_; have HA1 := qh (HA.o.below hb1 HA.o.lt); have HB1 := qh (HB.o.trans (hb1.mono HB.o.size)); clear hb1
    go_wp2
    refine ⟨⟨a + 1, by go_num, om, om, by rw [HJ.o, xJ]; simp, HA1, HB1⟩, by simp [intOf]; omega⟩
  ·obtain rfl : k = b := om
   go_wp2
   go_ret
   exact ⟨rfl, HB.o⟩
structure TR (w : World) (B : Nat) (X : Array Value) (W : World) : Prop where
 blk : Blk W B 155 X
 below : zW w W
theorem TR.next {w : World} {B : Nat} {X : Array Value} {W W' : World} (h : TR w B X W) (hb : zW W W') : TR w B X W' :=
 ⟨h.blk.below hb h.blk.lt, h.below.trans (hb.mono h.below.size)⟩
theorem TR.drew {w : World} {B : Nat} {X : Array Value} {W : World} (h : TR w B X W) : TR w B X W.drew := h.next zb.drew
theorem ref_Show (l : List UInt8) (hl : l.length = 16) (w : World) :
  zCB 46 #[.agg (arrB l)] w (.string (str (show_ l))) := by
 have hu8 := underlying155; have hgl : (yL l).length = 8 := qW 8 l om; have hlt := nY l; have GA := qh fun W => ref_Groups l hl W; have ZE := fun a ha W => ref_zeros (yL l) hgl a ha W; have JO := fun a b hab hb W => ref_joined (yL l) hgl hlt a b hab hb W; have hsh : show_ l = shown (yL l) := rfl; unfold shown at hsh; rw [run_ref hgl] at hsh; have hsp := lH (zs (yL l)) 0 0 0 om; rw [mF, hgl] at hsp; have kL := A16.of hl; have HSH := qh hsh; clear hsh; generalize arrB l = XA at GA kL ⊢; generalize show_ l = T at HSH ⊢; generalize yL l = G at *; obtain ⟨g0, g1, g2, g3, g4, g5, g6, g7, hg⟩ := list8 hgl; have hGI : arrI (ints G) = #[.int .i64 (g0 : Int), .int .i64 (g1 : Int), .int .i64 (g2 : Int), .int .i64 (g3 : Int), .int .i64 (g4 : Int), .int .i64 (g5 : Int), .int .i64 (g6 : Int), .int .i64 (g7 : Int)] := by rw [hg]; rfl
 rw [hGI] at GA ZE JO; have HZ := qh ZE; have HJ := qh JO; have KL := qh kL; have hzl : (zs G).length = 8 := by rw [mF, hgl]
 clear ZE JO hg hGI kL
 go_enter func46, ntmps46
 go_wp2_with (refine yI rfl _ _ rfl w.heap.size rfl _ XA (0, 0) _ (Blk.new w _ _) underlying24 rfl KL.o.info ?_)
 refine zT (GA.o _) fun w1 hb1 => ?_; go_wp2_with fail
 have T1 : TR w w1.heap.size #[.int .i64 (g0 : Int), .int .i64 (g1 : Int), .int .i64 (g2 : Int), .int .i64 (g3 : Int), .int .i64 (g4 : Int), .int .i64 (g5 : Int), .int .i64 (g6 : Int), .int .i64 (g7 : Int)] (w1.alloc (.cells #[.int .i64 (g0 : Int), .int .i64 (g1 : Int), .int .i64 (g2 : Int), .int .i64 (g3 : Int), .int .i64 (g4 : Int), .int .i64 (g5 : Int), .int .i64 (g6 : Int), .int .i64 (g7 : Int)] 155)) :=
  ⟨Blk.new _ _ _, (kD hb1).trans ((yD w1 _).mono (by have := (kD hb1).size; exact this))⟩
 have HT1 := qh T1; clear hb1 T1; generalize w1.alloc (.cells #[.int .i64 (g0 : Int), .int .i64 (g1 : Int), .int .i64 (g2 : Int), .int .i64 (g3 : Int), .int .i64 (g4 : Int), .int .i64 (g5 : Int), .int .i64 (g6 : Int), .int .i64 (g7 : Int)] 155) = W1 at HT1 ⊢
 go_loopw [4, 5, 6, 7] (fun va vl vi _ wr => ∃ k at_ long : Nat, k <= 8 /\ at_ + long <= 8 /\ vi = .int .i64 k /\ va = .int .i64 at_ /\ vl = .int .i64 long /\ Hid (aZ 0 0 0 (zs G) = aZ k at_ long ((zs G).drop k)) /\ Hid (TR w w1.heap.size #[.int .i64 (g0 : Int), .int .i64 (g1 : Int), .int .i64 (g2 : Int), .int .i64 (g3 : Int), .int .i64 (g4 : Int), .int .i64 (g5 : Int), .int .i64 (g6 : Int), .int .i64 (g7 : Int)] wr)) (fun _ _ vi _ _ => 8 - (intOf vi).toNat)
 case atStart => exact ⟨0, 0, 0, om, om, rfl, rfl, rfl, qh rfl, HT1⟩
 case round =>
  obtain ⟨k, at_, long, hk, hal, rfl, rfl, rfl, HR, HT⟩ := hrel
  by_cases hlt2 : k < 8
  ·have ZK := qh fun W => HZ.o k om W
   have hdr : (zs G).drop k = (zs G)[k] :: (zs G).drop (k + 1) := yE om; have hR := HR.o; have hzle := zEj ((zs G).drop k); rw [vZ, hzl] at hzle; rw [hdr, aZ, ← hdr] at hR; have HR2 := qh hR; clear hR hdr HR; obtain ⟨n, hn⟩ : ∃ n, sN ((zs G).drop k) = n := ⟨_, rfl⟩; rw [hn] at HR2 hzle ZK; clear hn
   go_wp2_with (refine yI rfl _ _ rfl w1.heap.size rfl _ _ (0, 0) _ HT.o.blk hu8 rfl zFg ?_)
   refine zT (ZK.o _) fun w2 hb2 => ?_; have HT2 := qh (HT.o.next hb2); clear hb2
   by_cases hc : long < n
   ·have hc' : (long : Int) < (n : Int) := om
    by_cases hc2 : 1 < n
    ·have hc2' : (1 : Int) < (n : Int) := om
     go_wp2
     refine ⟨⟨k + 1, k, n, om, om, by go_num, rfl, rfl, qh (by rw [HR2.o, zN ⟨hc, hc2⟩]), HT2⟩, by simp [intOf]; omega⟩
    ·have hc2' : ¬ (1 : Int) < (n : Int) := om
     go_wp2
     refine ⟨⟨k + 1, at_, long, om, om, by go_num, rfl, rfl, qh (by rw [HR2.o, zH (fun h => hc2 h.2)]), HT2⟩, by simp [intOf]; omega⟩
   ·have hc' : ¬ (long : Int) < (n : Int) := om
    go_wp2
    refine ⟨⟨k + 1, at_, long, om, om, by go_num, rfl, rfl, qh (by rw [HR2.o, zH (fun h => hc h.1)]), HT2⟩, by simp [intOf]; omega⟩
  ·obtain rfl : k = 8 := om
   have hR := HR.o; rw [yO om, aZ] at hR; have HS2 := HSH.o; rw [hR] at HS2; simp only at HS2
   by_cases h0 : long = 0
   ·subst h0
    rw [zN om] at HS2; have HS3 := qh HS2; clear HS2 hR; have JA := qh fun W => HJ.o 0 8 om om W; rw [xY om, xU] at JA
    go_wp2_with (refine yI rfl _ _ rfl w1.heap.size rfl _ _ (0, 0) _ HT.o.blk hu8 rfl zFg ?_)
    refine zT (JA.o _) fun w2 hb2 => ?_; have HT2 := qh (HT.o.next hb2); clear hb2
    go_wp2
    go_ret
    exact ⟨by rw [HS3.o]; rfl, HT2.o.below⟩
   ·rw [zH om] at HS2
    have HS3 := qh HS2; clear HS2; have JA := qh fun W => HJ.o 0 at_ om om W; rw [xU] at JA; have JB := qh fun W => HJ.o (at_ + long) 8 om om W; rw [xY (l := G) om] at JB; have e1 : ((at_ : Int) + (long : Int)) = ((at_ + long : Nat) : Int) := om; have w1' : IntKind.i64.wrap ((at_ : Int) + (long : Int)) = ((at_ + long : Nat) : Int) := by rw [yT _ om, e1]
    have hne : ((long : Int) == 0) = false := by rw [yF]; omega
    have hp1 := sH (f := hexN) kT (G.take at_); have hp2 := sH (f := hexN) kT (G.drop (at_ + long)); rw [yV] at hp1; rw [vZ] at hp2
    have hcat : ∀ A Z : List UInt8, str A ++ ⟨#[58, 58]⟩ ++ str Z = str (A ++ 58 :: 58 :: Z) := fun A Z => by
     have h1 : str A ++ ⟨#[58, 58]⟩ = str (A ++ [58, 58]) := xJ A [58, 58]; rw [h1, xJ]; simp
    have HCAT := qh hcat; clear hcat; generalize hA : uU hexN (G.take at_) = A at JA hp1; generalize hZ : uU hexN (G.drop (at_ + long)) = Z at JB hp2; have hs1 : (str A).size = A.length := zZ A; have hs2 : (str Z).size = Z.length := zZ Z
    have hs3 : (str A ++ ⟨#[58, 58]⟩).size = A.length + 2 := by
     have h1 : str A ++ ⟨#[58, 58]⟩ = str (A ++ [58, 58]) := xJ A [58, 58]; rw [h1, zZ]; simp
    have hb1 : ¬ 9223372036854775807 < A.length + 2 := om; have hb2 : ¬ 9223372036854775807 < A.length + 2 + Z.length := om; clear e1 hR h0; go_wp2_with fail
    refine yB (S := fun W => TR w w1.heap.size #[.int .i64 (g0 : Int), .int .i64 (g1 : Int), .int .i64 (g2 : Int), .int .i64 (g3 : Int), .int .i64 (g4 : Int), .int .i64 (g5 : Int), .int .i64 (g6 : Int), .int .i64 (g7 : Int)] W) kf HT.o.drew (fun hHeld => ?_); refine kY 0 rfl (zR rfl (w1.heap.size) rfl _ (#[.int .i64 (g0 : Int), .int .i64 (g1 : Int), .int .i64 (g2 : Int), .int .i64 (g3 : Int), .int .i64 (g4 : Int), .int .i64 (g5 : Int), .int .i64 (g6 : Int), .int .i64 (g7 : Int)]) _ (fun w h => h.blk) hu8 rfl zFg) ?_; refine kq 1 ?_; refine kY 4 rfl (zR rfl (w1.heap.size) rfl _ (#[.int .i64 (g0 : Int), .int .i64 (g1 : Int), .int .i64 (g2 : Int), .int .i64 (g3 : Int), .int .i64 (g4 : Int), .int .i64 (g5 : Int), .int .i64 (g6 : Int), .int .i64 (g7 : Int)]) _ (fun w h => h.blk) hu8 rfl zFg) ?_; refine kq 5 ?_; refine kq 6 ?_; refine kq 7 ?_; refine zS 2 fun K hK => ?_; go_simp; refine zT (JA.o _) fun wa hba => ?_; go_wp2_with fail
    refine zK hK (TR.next za hba) fun hHeld => ?_; clear hK K; refine kq 3 ?_; refine zS 8 fun K hK => ?_; go_simp; refine zT (JB.o _) fun wb hbb => ?_; go_wp2_with fail
    refine zK hK (TR.next za hbb) fun hHeld => ?_; clear hK K; refine kq 9 ?_; refine kq 10 ?_; refine zD ?_
    go_wp2
    go_ret
    exact ⟨by rw [HS3.o, hA, hZ, ← HCAT.o]; rfl, TR.below za⟩
end Go.Proofs.YtdbgeobolongmaaGreatDoor
