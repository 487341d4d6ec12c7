/- Part of the proof: ScriptLines, ScriptParses, ScriptShows. -/
import Derived.Deep.RegionWith
import Derived.Test.YtdbgeobolongmaaGreatDoorSA08
set_option linter.unusedVariables false
set_option linter.unusedSimpArgs false
set_option maxRecDepth 100000
set_option maxHeartbeats 800000
namespace Go.Proofs.YtdbgeobolongmaaGreatDoor
open Go.RowKit Go.Shelf Go.Proofs Go.OctetPlain Go.ColonPlain Go.Proofs.Tryz
theorem zGk {W : World} {g : Nat} {t : TypeId} {G : List Nat} (h : Blk W g t (arrI (ints G))) (k n cap : Nat) (hn : k + n <= G.length) (hc : n <= cap) (hc2 : cap <= 9223372036854775807) : SlR W 1 encN (.slice (some ⟨g, k, none⟩) n cap) ((G.drop k).take n) := by
 have hl : ((G.drop k).take n).length = n := by rw [yV, vZ]; omega
 refine ⟨_, cap, by rw [hl], om, hc2, (fun e => by cases e), fun a ha _ => ?_⟩
 cases ha; refine ⟨rfl, h.lt, fun i x hx j u hu => ?_⟩; have hj : j = 0 := by have := (zL.1 hu).1; simpa [encN] using this
 subst hj; simp only [encN, xA, uX] at hu; subst hu; simp only [jN, xN]; rw [h.cell (k + i)]; apply sF; apply lL; rw [nK] at hx
 split at hx
 ·rw [fD] at hx; exact hx
 ·cases hx
structure TJ (w : World) (B : Nat) (G : List Nat) (W : World) : Prop where
 ct : CT W
 blk : Blk W B 155 (arrI (ints G))
 below : zW w W
theorem TJ.next {w : World} {B : Nat} {G : List Nat} {W W' : World} (h : TJ w B G W) (hb : zW W W') : TJ w B G W' :=
 ⟨h.ct.below hb, h.blk.below hb h.blk.lt, h.below.trans (hb.mono h.below.size)⟩
theorem TJ.drew {w : World} {B : Nat} {G : List Nat} {W : World} (h : TJ w B G W) : TJ w B G W.drew := h.next zb.drew
theorem zBp (l : List UInt8) (hl : l.length = 16) (w : World) (ht : CT w) :
  zCB 43 #[.agg (arrB l)] w (.string (str (show_ l))) := by
 obtain ⟨y0, y1, y2, y3, y4, y5, y6, y7, y8, y9, y10, y11, y12, y13, y14, y15, hy⟩ := aJ hl; have hgl : (yL l).length = 8 := qW 8 l om; obtain ⟨g0, g1, g2, g3, g4, g5, g6, g7, hg⟩ := list8 hgl; have hX : arrB l = #[.int .u8 (y0.toNat : Int), .int .u8 (y1.toNat : Int), .int .u8 (y2.toNat : Int), .int .u8 (y3.toNat : Int), .int .u8 (y4.toNat : Int), .int .u8 (y5.toNat : Int), .int .u8 (y6.toNat : Int), .int .u8 (y7.toNat : Int), .int .u8 (y8.toNat : Int), .int .u8 (y9.toNat : Int), .int .u8 (y10.toNat : Int), .int .u8 (y11.toNat : Int), .int .u8 (y12.toNat : Int), .int .u8 (y13.toNat : Int), .int .u8 (y14.toNat : Int), .int .u8 (y15.toNat : Int)] := by rw [hy]; rfl
 have hGr := fun W => colon_Groups l hl W; have hGI : arrI (ints (yL l)) = #[.int .i64 (g0 : Int), .int .i64 (g1 : Int), .int .i64 (g2 : Int), .int .i64 (g3 : Int), .int .i64 (g4 : Int), .int .i64 (g5 : Int), .int .i64 (g6 : Int), .int .i64 (g7 : Int)] := by rw [hg]; rfl
 have hRn := fun W => colon_run (yL l) hgl W; rw [hX] at hGr ⊢; rw [hGI] at hGr hRn; have HGr := qh hGr; have HRn := qh hRn; have HX := qh hX; have HT := qh ht; have HG := qh hg; clear hX hy hg hGI hGr hRn ht
 go_enter func43, ntmps43
 go_wp2_with fail
 refine zT (HGr.o _) fun w1 hb1 => ?_; go_wp2_with fail
 have T1 : Hid (TJ w w1.heap.size (yL l) (w1.alloc (.cells #[.int .i64 (g0 : Int), .int .i64 (g1 : Int), .int .i64 (g2 : Int), .int .i64 (g3 : Int), .int .i64 (g4 : Int), .int .i64 (g5 : Int), .int .i64 (g6 : Int), .int .i64 (g7 : Int)] 155))) := by
  have hB := Blk.new w1 155 #[.int .i64 (g0 : Int), .int .i64 (g1 : Int), .int .i64 (g2 : Int), .int .i64 (g3 : Int), .int .i64 (g4 : Int), .int .i64 (g5 : Int), .int .i64 (g6 : Int), .int .i64 (g7 : Int)]; refine qh ⟨(HT.o.below (kD hb1)).below (yD w1 _), by rw [HG.o]; exact hB, (kD hb1).trans ((yD w1 _).mono (by have := (kD hb1).size; exact this))⟩
 refine zT (HRn.o _) fun w2 hb2 => ?_; have T2 := T1.o.next hb2; have hlt := nY l; have HLT := qh hlt; have hzl : (zs (yL l)).length = 8 := by rw [mF, hgl]
 obtain ⟨r1, r2, r3, r4⟩ := rM (zs (yL l)) (zs (yL l)) 0 0 0 0 rfl om zn (fun j _ hj => om) zn zn (Or.inl rfl) (fun j _ hj => om); have er : qJ 0 0 0 0 (zs (yL l)) = run (yL l) := rfl; rw [er] at r1 r2; have HS : Hid (show_ l = if (run (yL l)).1 = (run (yL l)).2 then uU hexN (yL l) else uU hexN ((yL l).take (run (yL l)).1) ++ 58 :: 58 :: uU hexN ((yL l).drop (run (yL l)).2)) := rfl; clear hb1 hb2 r3 r4 er hlt; generalize run (yL l) = rr at r1 r2 HS ⊢; obtain ⟨f, t⟩ := rr; simp only at r1 r2 HS ⊢; rw [hzl] at r2; clear hzl T1; have hal : prog.arrayLen 155 = 8 := kf
 by_cases hft : f = t
 ·subst hft
  have HS1 : Hid (show_ l = uU hexN (yL l)) := by rw [HS.o, zN rfl]; exact qh rfl
  have hw := zGk T2.blk 0 8 8 om om om; rw [xU, xY om] at hw; have HC := qh (wU (yL l) om HLT.o _ w2 T2.ct hw); have HB2 := qh T2.below; clear hw T2 HS; go_wp2_with fail
  refine zT HC.o fun w3 hb3 => ?_
  go_wp2
  go_ret
  exact ⟨by rw [HS1.o]; rfl, HB2.o.trans (hb3.mono HB2.o.size)⟩
 ·have HS1 : Hid (show_ l = uU hexN ((yL l).take f) ++ 58 :: 58 :: uU hexN ((yL l).drop t)) := by rw [HS.o, zH hft]; exact qh rfl
  have hf8 : (f : Int) <= 8 := om; have ht8 : (t : Int) <= 8 := om; have hfi : ¬ (f : Int) = t := om; have hl1 := sH kT ((yL l).take f); have hl2 := sH kT ((yL l).drop t); rw [yV] at hl1; rw [vZ] at hl2; have s1 : (str (uU hexN ((yL l).take f))).size = (uU hexN ((yL l).take f)).length := zZ _; have s2 : (str (uU hexN ((yL l).drop t))).size = (uU hexN ((yL l).drop t)).length := zZ _; have n1 : (uU hexN ((yL l).take f)).length <= 1000 := om; have n2 : (uU hexN ((yL l).drop t)).length <= 1000 := om
  have JA : Hid (∀ W, TJ w w1.heap.size (yL l) W -> zCB 87 #[.slice (some ⟨w1.heap.size, 0, none⟩) f 8] W (.string (str (uU hexN ((yL l).take f))))) := by
   refine qh fun W h => wU _ (by rw [yV]; omega) (fun n hn => HLT.o n (List.mem_of_mem_take hn)) _ W h.ct ?_; have := zGk h.blk 0 f 8 om om om; rw [xU] at this; exact this
  have T2d := T2.drew
  by_cases ht : t = 8
  ·have hd8 : (yL l).drop t = [] := yO om
   have JB : Hid (∀ W, TJ w w1.heap.size (yL l) W -> zCB 87 #[.slice (some ⟨w1.heap.size, 0, none⟩) 0 0] W (.string (str (uU hexN ((yL l).drop t))))) := by
    refine qh fun W h => wU _ (by rw [vZ]; omega) (fun n hn => HLT.o n (List.mem_of_mem_drop hn)) _ W h.ct ?_; have := zGk h.blk 0 0 0 om om om; rw [hd8]; exact this
   clear hl1 hl2 hd8; generalize uU hexN ((yL l).take f) = A at *; generalize uU hexN ((yL l).drop t) = Z at *; have hz : ByteArray.size ⟨#[58, 58]⟩ = 2 := rfl
   have hcat : str A ++ ⟨#[58, 58]⟩ ++ str Z = str (A ++ 58 :: 58 :: Z) := by
    show str A ++ str [58, 58] ++ str Z = _
    rw [xJ, xJ]; simp
   have hcs : (str A ++ ⟨#[58, 58]⟩ : ByteArray).size = A.length + 2 := by rw [yN, s1]; rfl
   have HCAT := qh hcat; clear T2 hcat; go_wp2_with fail
   go_region_with (first
    | (go_at_call_of 87 f; refine zT (JA.o _ za) fun wa hba => ?_; have hTa := TJ.next (w := w) (B := w1.heap.size) (G := yL l) za hba; clear hba)
    | (go_at_call 87; go_loud (refine zT (JB.o _ za) fun wb hbb => ?_; have hTb := TJ.next (w := w) (B := w1.heap.size) (G := yL l) za hbb; clear hbb)))
   all_goals go_wp2_with fail
   all_goals
    refine zC (v := .string (str A ++ ⟨#[58, 58]⟩ ++ str Z)) ?_ rfl ⟨by rw [HCAT.o, ← HS1.o], ?_⟩
    ·simp [results, results43, go_sem]
    ·first | exact hTb.below | exact hTa.below
  ·have hne8 : ¬ 8 = t := om
   have JB : Hid (∀ W, TJ w w1.heap.size (yL l) W -> zCB 87 #[.slice (some ⟨w1.heap.size, t, none⟩) (8 - t) (8 - t)] W (.string (str (uU hexN ((yL l).drop t))))) := by
    refine qh fun W h => wU _ (by rw [vZ]; omega) (fun n hn => HLT.o n (List.mem_of_mem_drop hn)) _ W h.ct ?_; have := zGk h.blk t (8 - t) (8 - t) om om om; rw [xY (by rw [vZ]; omega)] at this; exact this
   clear hl1 hl2; generalize uU hexN ((yL l).take f) = A at *; generalize uU hexN ((yL l).drop t) = Z at *; have hz : ByteArray.size ⟨#[58, 58]⟩ = 2 := rfl
   have hcat : str A ++ ⟨#[58, 58]⟩ ++ str Z = str (A ++ 58 :: 58 :: Z) := by
    show str A ++ str [58, 58] ++ str Z = _
    rw [xJ, xJ]; simp
   have hcs : (str A ++ ⟨#[58, 58]⟩ : ByteArray).size = A.length + 2 := by rw [yN, s1]; rfl
   have HCAT := qh hcat; clear T2 hcat; go_wp2_with fail
   go_region_with (first
    | (go_at_call_of 87 f; refine zT (JA.o _ za) fun wa hba => ?_; have hTa := TJ.next (w := w) (B := w1.heap.size) (G := yL l) za hba; clear hba)
    | (go_at_call 87; go_loud (refine zT (JB.o _ za) fun wb hbb => ?_; have hTb := TJ.next (w := w) (B := w1.heap.size) (G := yL l) za hbb; clear hbb)))
   all_goals go_wp2_with fail
   all_goals
    refine zC (v := .string (str A ++ ⟨#[58, 58]⟩ ++ str Z)) ?_ rfl ⟨by rw [HCAT.o, ← HS1.o], ?_⟩
    ·simp [results, results43, go_sem]
    ·first | exact hTb.below | exact hTa.below
end Go.Proofs.YtdbgeobolongmaaGreatDoor
