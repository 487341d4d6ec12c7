/- Part of the proof: ScriptLines, ScriptParses, ScriptShows. -/
import Derived.Test.YtdbgeobolongmaaGreatDoorSA13
import Derived.Test.YtdbgeobolongmaaGreatDoorSA17
set_option linter.unusedVariables false
set_option linter.unusedSimpArgs false
set_option maxRecDepth 100000
set_option maxHeartbeats 16000000
namespace Go.Proofs.YtdbgeobolongmaaGreatDoor
open Go.RowKit Go.Shelf Go.Proofs Go.OctetPlain Go.Proofs.Tryz
def rowS (L : List Int) : List UInt8 := L.flatMap fun n => 32 :: Hp.dec n
theorem join_flat (w : Hp.Wd) : ∀ ws : List Hp.Wd, Hp.join (w :: ws) = w ++ ws.flatMap fun v => 32 :: v
 | [] => by simp [Hp.join]
 |v :: ws => by
  rw [Hp.join, join_flat v ws]; simp
theorem rowS_map (L : List Int) : (L.map Hp.dec).flatMap (fun v => (32 : UInt8) :: v) = rowS L := by
 induction L with
 | nil => rfl
 | cons n L ih => simp only [yM, vT, rowS] at ih ⊢; rw [ih]
theorem showR_parts (h : Hp.Hop) : Hp.showR h = Hp.opW h.op ++ rowS h.labels ++ (if h.op ≠ 3 then [32, 112, 111, 114, 116, 32] ++ Hp.dec h.port else []) ++ (if h.backup ≠ -1 then [32, 98, 97, 99, 107, 117, 112, 32] ++ Hp.dec h.backup ++ rowS h.repair else []) ++ (if h.pipe = true then [32, 112, 105, 112, 101] else []) := by
 unfold Hp.showR Hp.showW; rw [xQ, xQ, xQ, tJ, join_flat]; simp only [uI, rowS_map, xQ]
 congr 2
 congr 1
 ·split <;> simp [Hp.wPort]
 congr 1
 ·split
  ·simp only [vT, rowS_map, Hp.wBackup]; simp
  ·simp
 ·split <;> simp [Hp.wPipe]
theorem rowS_len {L : List Int} (hL : L.length <= 16) (hb : ∀ n ∈ L, 0 <= n /\ n <= 1048575) : (rowS L).length <= 320 := by
 have : ∀ L : List Int, (∀ n ∈ L, 0 <= n /\ n <= 1048575) -> (rowS L).length <= 20 * L.length := by
  intro L
  induction L with
  | nil => intro _; simp [rowS]
  |cons n L ih =>
   intro hb; have h1 := zGr (hb n yH).2; have h2 := ih fun k hk => hb k (yP _ hk); simp only [rowS, vT, zG, zI] at h2 ⊢; omega
 have := this L hb; omega
theorem ref_rowH (L : List Int) (hL : L.length <= 16) (hb : ∀ n ∈ L, 0 <= n /\ n <= 1048575) (v : Value) (w : World) (hv : SlR w 1 encI v L) :
  zCQ 123 #[v] w (.string (str (rowS L))) := by
 obtain ⟨p, cap, rfl, h1, h2, hR⟩ := hv
 go_enter func123, ntmps123
 go_wp2_with fail
 go_loop [3, 4] (fun vs vi => ∃ k : Nat, vi = .int .i64 k /\ k <= L.length /\ vs = .string (str (rowS (L.take k)))) (fun _ vi => L.length - (intOf vi).toNat)
 case atStart => exact ⟨0, rfl, yQ _, rfl⟩
 case round =>
  obtain ⟨k, rfl, hk, rfl⟩ := hrel
  by_cases hlt : k < L.length
  ·obtain ⟨b, off, rfl, hc⟩ := rd_int hR hlt
   have hc0 : w.cell? ⟨b, off + k, none⟩ = some (.int .i64 L[k]) := hc 0; have hb0 := hb L[k] (yU hlt); have HTK : Hid (rowS (L.take (k + 1)) = rowS (L.take k) ++ (32 :: Hp.dec L[k])) := qh (by unfold rowS; rw [yA hlt, uI]; simp only [vT, List.flatMap_nil, vC]); have hrl := rowS_len (L := L.take k) zo (fun n hn => hb n (List.mem_of_mem_take hn)); have HD := qh fun W => sP L[k] om W; have HI := qh (pK hb0.1); have hdl := zGr hb0.2; have hs1 : (str (rowS (L.take k))).size = (rowS (L.take k)).length := zZ _; have hs2 : (str (Hp.dec L[k])).size = (Hp.dec L[k]).length := zZ _; have hs3 : (ByteArray.mk #[32]).size = 1 := rfl; generalize L[k] = n at *; generalize rowS (L.take k) = rs at *; clear hc; go_wp2_with fail
   refine zU (HD.o _) ?_; rw [HI.o]
   go_wp2
   refine ⟨⟨k + 1, by go_num, om, ?_⟩, by simp [intOf]; omega⟩; rw [HTK.o]
   first | (congr 1; done) | (congr 1; rw [← xJ, show ((32 : UInt8) :: Hp.dec n) = [32] ++ Hp.dec n from rfl, ← xJ])
  ·obtain rfl : k = L.length := om
   have HE : Hid (L.take L.length = L) := qh xK; rw [HE.o]
   go_wp2
   go_ret
   exact ⟨rfl, rfl⟩
theorem ref_Show15 (h : Hp.Hop) (V : Hp.Valid h) (l r : Value) (w : World) (H : wP w h l r) :
  zCB 78 #[.agg (hopA h l r)] w (.string (str (Hp.showR h))) := by
 rw [showR_parts]; have HRL : Hid (∀ W, zW w W -> zCQ 123 #[l] W (.string (str (rowS h.labels)))) := qh fun W hW => ref_rowH _ V.n1 (fun n hn => Hp.pushed_bd (V.p1 n hn)) l W (H.sl.below hW zn); have HRR : Hid (∀ W, zW w W -> zCQ 123 #[r] W (.string (str (rowS h.repair)))) := qh fun W hW => ref_rowH _ V.n2 (fun n hn => Hp.pushed_bd (V.p2 n hn)) r W (H.sr.below hW zn)
 have HDP : Hid (∀ W, zCQ 88 #[.int .i64 h.port] W (.string (str (Hp.dec h.port)))) := qh fun W => by
  have := sP h.port (by have := V.q0; have := V.q1; omega) W; rw [pK V.q0] at this; exact this
 have HDB : Hid (h.backup ≠ -1 -> ∀ W, zCQ 88 #[.int .i64 h.backup] W (.string (str (Hp.dec h.backup)))) := qh fun hb W => by
  have := sP h.backup (by have := V.b0; have := V.b1; omega) W; rw [pK (by have := V.b0; omega)] at this; exact this
 have hrl1 := rowS_len V.n1 (fun n hn => Hp.pushed_bd (V.p1 n hn)); have hrl2 := rowS_len V.n2 (fun n hn => Hp.pushed_bd (V.p2 n hn)); have hdl1 := zGr (show h.port <= 1048575 by have := V.q1; omega); have hdl2 := zGr (show h.backup <= 1048575 by have := V.b1; omega); have ho0 := V.o0; have ho3 := V.o3; obtain ⟨-, -, ⟨p1, c1, rfl, -, -, -⟩, ⟨p2, c2, rfl, -, -, -⟩⟩ := H; obtain ⟨op, L, P, B, R, C⟩ := h; unfold hopA; simp only at *; clear V; generalize rowS L = r1 at *; generalize rowS R = r2 at *; have hs1 : (str r1).size = r1.length := zZ _; have hs2 : (str r2).size = r2.length := zZ _; have hs3 : (str (Hp.dec P)).size = (Hp.dec P).length := zZ _; have hs4 : (str (Hp.dec B)).size = (Hp.dec B).length := zZ _; generalize Hp.dec P = dP at *; generalize Hp.dec B = dB at *; generalize hT : Hp.opW op ++ r1 ++ (if op ≠ 3 then [32, 112, 111, 114, 116, 32] ++ dP else []) ++ (if B ≠ -1 then [32, 98, 97, 99, 107, 117, 112, 32] ++ dB ++ r2 else []) ++ (if C = true then [32, 112, 105, 112, 101] else []) = T; have HT := qh hT; clear hT
 go_enter func78, ntmps78
 go_upto_region 1 with fail
 go_cut [3] from 4 to 39 (fun s3 wx => s3 = .string (str (Hp.opW op ++ r1)) /\ Hid (ShB w wx (.int .i64 op) (.slice p1 L.length c1) (.int .i64 P) (.int .i64 B) (.slice p2 R.length c2) (.bool C)))
 case first =>
  have H0 : ShB w (w.alloc (.cells #[.int .i64 op, .slice p1 L.length c1, .int .i64 P, .int .i64 B, .slice p2 R.length c2, .bool C] 29)) (.int .i64 op) (.slice p1 L.length c1) (.int .i64 P) (.int .i64 B) (.slice p2 R.length c2) (.bool C) := ⟨Blk.new _ _ _, yD w _⟩; have hcs : op = 0 ∨ op = 1 ∨ op = 2 ∨ op = 3 := om
  rcases hcs with rfl | rfl | rfl | rfl
  all_goals
   have hov : ¬ 9223372036854775807 < 4 + r1.length := om; have hov3 : ¬ 9223372036854775807 < 3 + r1.length := om
   first
   | refine yB (S := fun W => ShB w W (.int .i64 0) (.slice p1 L.length c1) (.int .i64 P) (.int .i64 B) (.slice p2 R.length c2) (.bool C)) kf H0.drew (fun hHeld => ?_)
   | refine yB (S := fun W => ShB w W (.int .i64 1) (.slice p1 L.length c1) (.int .i64 P) (.int .i64 B) (.slice p2 R.length c2) (.bool C)) kf H0.drew (fun hHeld => ?_)
   | refine yB (S := fun W => ShB w W (.int .i64 2) (.slice p1 L.length c1) (.int .i64 P) (.int .i64 B) (.slice p2 R.length c2) (.bool C)) kf H0.drew (fun hHeld => ?_)
   | refine yB (S := fun W => ShB w W (.int .i64 3) (.slice p1 L.length c1) (.int .i64 P) (.int .i64 B) (.slice p2 R.length c2) (.bool C)) kf H0.drew (fun hHeld => ?_)
   refine kq 1 ?_; refine kh 2 (fun w h => h.cs.1) ?_; refine kq 5 ?_; refine kh 6 (fun w h => h.cs.2.1) ?_; refine mQ (i := 0) (j := 7) rfl rfl kf rf rf (fun K hK => ?_) (fun K hK => ?_)
   ·go_simp
    refine zK hK (ShB.step za (yD _ _)) fun hHeld => ?_; clear hK K; refine kq 3 ?_; refine mQ (i := 4) (j := 7) rfl rfl kf rf rf (fun K hK => ?_) (fun K hK => ?_)
    ·go_simp
     refine zK hK za fun hHeld => ?_; clear hK K; refine zS 7 fun K hK => ?_; go_simp; refine (HRL.o _ (ShB.bel za)).mono ?_; rintro e w7 ⟨rfl, hw7⟩; subst hw7; go_wp2_with fail
     refine zK hK za fun hHeld => ?_; clear hK K; refine kq 8 ?_; refine kq 9 ?_; refine zD ?_; go_wp2_with fail
     go_meet
     exact ⟨by rw [← xJ]; rfl, qh za⟩
    ·go_simp
     refine (HRL.o _ (ShB.bel za)).mono ?_; rintro e w7 ⟨rfl, hw7⟩; subst hw7; go_wp2_with fail
     refine zK hK za fun hHeld => ?_; clear hK K; refine zS 4 fun K hK => ?_; go_simp; refine zK hK za fun hHeld => ?_; clear hK K; refine kq 8 ?_; refine kq 9 ?_; refine zD ?_; go_wp2_with fail
     go_meet
     exact ⟨by rw [← xJ]; rfl, qh za⟩
   ·go_simp
    refine (HRL.o _ (ShB.bel za)).mono ?_; rintro e w7 ⟨rfl, hw7⟩; subst hw7; go_wp2_with fail
    refine zK hK za fun hHeld => ?_; clear hK K; refine zS 0 fun K hK => ?_; go_simp; refine zK hK (ShB.step za (yD _ _)) fun hHeld => ?_; clear hK K; refine kq 3 ?_; refine zS 4 fun K hK => ?_; go_simp; refine zK hK za fun hHeld => ?_; clear hK K; refine kq 8 ?_; refine kq 9 ?_; refine zD ?_; go_wp2_with fail
    go_meet
    exact ⟨by rw [← xJ]; rfl, qh za⟩
 case rest =>
  obtain ⟨rfl, H1⟩ := hcut; have how : (Hp.opW op).length <= 4 := by unfold Hp.opW; (repeat' split) <;> simp [Hp.wPush, Hp.wSwap, Hp.wPop, Hp.wHere]
  have ht1 : (Hp.opW op ++ r1).length <= 324 := by rw [zG]; omega
  generalize Hp.opW op ++ r1 = t1 at *; obtain ⟨d0, d1, d2, d3, d4, d5⟩ := H1.o.cs; have hz1 : (str t1).size = t1.length := zZ _
  go_upto_if 15 with fail
  go_cut [3] from 15 to 39 (fun s3 wx => s3 = .string (str (t1 ++ (if op ≠ 3 then [32, 112, 111, 114, 116, 32] ++ dP else []))) /\ Hid (ShB w wx (.int .i64 op) (.slice p1 L.length c1) (.int .i64 P) (.int .i64 B) (.slice p2 R.length c2) (.bool C)))
  case first =>
   by_cases ho : op = 3
   ·subst ho
    go_wp2_with fail
    go_meet
    rw [zH zi, vC]; exact ⟨rfl, H1⟩
   ·have hne : (op != 3) = true := by simpa using ho
    have hov1 : ¬ 9223372036854775807 < 6 + dP.length := om; have hov2 : ¬ 9223372036854775807 < t1.length + (6 + dP.length) := om; have HO := qh ho; clear ho; go_wp2_with fail
    refine zU (HDP.o _) ?_; go_wp2_with fail
    go_meet
    rw [zN HO.o]; exact ⟨by rw [← xJ, ← xJ]; rfl, H1⟩
  case rest =>
   obtain ⟨rfl, H2⟩ := hcut
   have ht2 : (t1 ++ (if op ≠ 3 then [32, 112, 111, 114, 116, 32] ++ dP else [])).length <= 400 := by
    rw [zG]; split <;> simp <;> omega
   generalize t1 ++ (if op ≠ 3 then [32, 112, 111, 114, 116, 32] ++ dP else []) = t2 at *; clear d0 d1 d2 d3 d4 d5 H1 hz1 ht1; obtain ⟨d0, d1, d2, d3, d4, d5⟩ := H2.o.cs; have hz2 : (str t2).size = t2.length := zZ _
   go_upto_if 24 with fail
   go_cut [3] from 24 to 39 (fun s3 wx => s3 = .string (str (t2 ++ (if B ≠ -1 then [32, 98, 97, 99, 107, 117, 112, 32] ++ dB ++ r2 else []))) /\ Hid (ShB w wx (.int .i64 op) (.slice p1 L.length c1) (.int .i64 P) (.int .i64 B) (.slice p2 R.length c2) (.bool C)))
   case first =>
    by_cases ho : B = -1
    ·subst ho
     go_wp2_with fail
     go_meet
     rw [zH zi, vC]; exact ⟨rfl, H2⟩
    ·have hne : (B != -1) = true := by simpa using ho
     have hov1 : ¬ 9223372036854775807 < 8 + dB.length := om; have hov2 : ¬ 9223372036854775807 < 8 + dB.length + r2.length := om; have hov3 : ¬ 9223372036854775807 < t2.length + (8 + dB.length + r2.length) := om; have HO := qh ho; have HDB2 := qh (HDB.o ho); have HRR2 : Hid (∀ n, zW w (wc.drewN n)) := qh fun n => below_drewN H2.o.bel n; clear ho; go_wp2_with fail
     go_quiet ((first | (go_at_call 88; exact Calls.quiet_of_same (HDB2.o _)) | (go_at_call 123; exact Calls.quiet_of_same (HRR.o _ (HRR2.o _)))))
     go_wp2_with fail
     go_meet
     rw [zN HO.o]; exact ⟨by rw [← xJ, ← xJ, ← xJ]; rfl, qh (H2.o.step (below_drewN zb nq))⟩
   case rest =>
    obtain ⟨rfl, H3⟩ := hcut
    have ht3 : (t2 ++ (if B ≠ -1 then [32, 98, 97, 99, 107, 117, 112, 32] ++ dB ++ r2 else [])).length <= 1000 := by
     rw [zG]; split <;> simp <;> omega
    generalize t2 ++ (if B ≠ -1 then [32, 98, 97, 99, 107, 117, 112, 32] ++ dB ++ r2 else []) = t3 at *; clear d0 d1 d2 d3 d4 d5 H2 hz2 ht2; obtain ⟨d0, d1, d2, d3, d4, d5⟩ := H3.o.cs; have hz3 : (str t3).size = t3.length := zZ _
    cases C
    ·go_wp2
     go_ret
     exact ⟨by rw [← HT.o]; simp, H3.o.bel⟩
    ·have hov1 : ¬ 9223372036854775807 < t3.length + 5 := om
     go_wp2
     go_ret
     exact ⟨by rw [← HT.o, zN trivial, ← xJ]; rfl, H3.o.bel⟩
end Go.Proofs.YtdbgeobolongmaaGreatDoor
