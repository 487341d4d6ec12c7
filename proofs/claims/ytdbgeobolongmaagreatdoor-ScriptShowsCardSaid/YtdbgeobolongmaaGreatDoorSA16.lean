/- Part of the proof: ScriptLines, ScriptParses, ScriptShows. -/
import Derived.Test.YtdbgeobolongmaaGreatDoorSA13
set_option linter.unusedVariables false
set_option linter.unusedSimpArgs false
set_option maxRecDepth 100000
set_option maxHeartbeats 4000000
namespace Go.Proofs.YtdbgeobolongmaaGreatDoor
open Go.RowKit Go.Shelf Go.Proofs Go.OctetPlain Go.Proofs.Tryz
def I64 (n : Int) : Prop := -9223372036854775808 <= n /\ n <= 9223372036854775807
structure HB (h : Hp.Hop) : Prop where
 n1 : h.labels.length <= 1000
 n2 : h.repair.length <= 1000
 p1 : ∀ n ∈ h.labels, -9223372036854775808 <= n /\ n <= 9223372036854775807
 p2 : ∀ n ∈ h.repair, -9223372036854775808 <= n /\ n <= 9223372036854775807
 q : -9223372036854775808 <= h.port /\ h.port <= 9223372036854775807
 b : -9223372036854775808 <= h.backup /\ h.backup <= 9223372036854775807
def fG (h : Hp.Hop) : List Hp.Wd :=
 [Hp.opW h.op] ++ h.labels.map Lib.itoa ++ (if h.op ≠ 3 then [Hp.wPort, Lib.itoa h.port] else []) ++ (if h.backup ≠ -1 then Hp.wBackup :: Lib.itoa h.backup :: h.repair.map Lib.itoa else []) ++ (if h.pipe then [Hp.wPipe] else [])
theorem showWA_valid {h : Hp.Hop} (v : Hp.Valid h) : fG h = Hp.showW h := by
 have k : ∀ l : List Int, (∀ n ∈ l, Hp.pushed n = true) -> l.map Lib.itoa = l.map Hp.dec := fun l hl => List.map_congr_left fun n hn => pK (Hp.pushed_bd (hl n hn)).1; unfold fG Hp.showW; rw [k _ v.p1, k _ v.p2, pK v.q0]
 by_cases hb : h.backup = -1
 ·simp only [hb, qR, not_true_eq_false, zDk]
 ·rw [pK (by have := v.b0; omega)]
theorem HB.of_valid {h : Hp.Hop} (v : Hp.Valid h) : HB h := by
 have n1 := v.n1; have n2 := v.n2; have q0 := v.q0; have q1 := v.q1; have b0 := v.b0; have b1 := v.b1; exact ⟨om, om, fun n hn => by have := Hp.pushed_bd (v.p1 n hn); omega, fun n hn => by have := Hp.pushed_bd (v.p2 n hn); omega, om, om⟩
theorem zBt {h : Hp.Hop} (v : HB h) : (fG h).length <= 2010 /\ ∀ w ∈ fG h, w.length <= 21 := by
 have e1 := v.n1; have e2 := v.n2; refine ⟨?_, fun w hw => ?_⟩
 ·unfold fG
  simp only [zG, yX, zI, xI]
  split <;> split <;> split <;> simp <;> omega
 ·unfold fG at hw
  simp only [xR, vB, xS, yR, jV, mW] at hw
  rcases hw with (((rfl | ⟨n, hn, rfl⟩) | hw) | hw) | hw
  ·unfold Hp.opW; (repeat' split) <;> simp [Hp.wPush, Hp.wSwap, Hp.wPop, Hp.wHere]
  ·exact Lib.itoa_length_le _ (v.p1 n hn).1 (v.p1 n hn).2
  ·split at hw
   ·simp only [yR, jV, mW] at hw
    rcases hw with rfl | rfl
    ·simp [Hp.wPort]
    ·exact Lib.itoa_length_le _ v.q.1 v.q.2
   ·simp at hw
  ·split at hw
   ·simp only [yR, vB] at hw
    rcases hw with rfl | rfl | ⟨n, hn, rfl⟩
    ·simp [Hp.wBackup]
    ·exact Lib.itoa_length_le _ v.b.1 v.b.2
    ·exact Lib.itoa_length_le _ (v.p2 n hn).1 (v.p2 n hn).2
   ·simp at hw
  ·split at hw
   ·simp only [xS] at hw
    subst hw; simp [Hp.wPipe]
   ·simp at hw
theorem zFk (L : List Int) (hL : L.length <= 1000) (hb : ∀ n ∈ L, -9223372036854775808 <= n /\ n <= 9223372036854775807) (v : Value) (w : World) (ht : Tabs w) (hv : SlR w 1 encI v L) :
  Calls prog 137 #[v] w fun e w' => ∃ v', e = .returned v' /\ w'.ownsRow w.heap.size 9 1 v' L.length (flat encS (L.map Lib.itoa)) /\ zW w w' := by
 have HT := qh ht; obtain ⟨p, cap, rfl, hc1, hc2, hR⟩ := hv; clear ht
 go_enter func137, ntmps137
 go_wp2_with fail
 go_loopw [3, 5, 8] (fun vo _ vi wr => ∃ k : Nat, vi = .int .i64 k /\ k <= L.length /\ Hid (wr.ownsRow w.heap.size 9 1 vo k (flat encS ((L.take k).map Lib.itoa))) /\ Hid (zW w wr)) (fun _ _ vi _ => L.length - (intOf vi).toNat)
 case atStart => exact ⟨0, rfl, yQ _, qh (xL _ _ _ _), qh zb⟩
 case round =>
  obtain ⟨k, rfl, hk, HO, HB⟩ := hrel
  by_cases hlt : k < L.length
  ·obtain ⟨n, hn⟩ : ∃ n, L[k]? = some n := ⟨L[k], zA hlt⟩
   have hnb := hb n (uA hn); obtain ⟨b, off, rfl, hbs, hcell⟩ := hR.at hlt; have hLk : L[k] = n := by have := zA hlt; rw [hn] at this; cases this; rfl
   have hc0 := hcell 0 (.int .i64 n) (by rw [hLk]; rfl); simp only [jN, xN] at hc0; have hc : wr.cell? ⟨b, off + k, none⟩ = some (.int .i64 n) := (HB.o.cell (p := ⟨b, off + k, none⟩) hbs).trans hc0
   have HTK : Hid ((L.take (k + 1)).map Lib.itoa = (L.take k).map Lib.itoa ++ [Lib.itoa n]) := by
    rw [yA hlt, jT, hLk]; exact qh rfl
   have HF := qh (jJ n hnb wr (HT.o.next HB.o zn)); clear hcell hc0 hLk hn; go_wp2_with fail
   refine zT HF.o fun w1 hb1 => ?_; have HB1 := qh hb1; have HO1 := qh (vL HO.o hb1 zn); have hz1 := hb1.size; have hz := HB.o.size; clear hb1
   go_wp2_with (at_builtin; go_loud (refine uR rT rfl (.tmp 12) (.tmp 15) rfl w.heap.size u3 _ _ rfl HO1.o 1 1 [.string _] rfl rfl (by simp [Value.oneCell']) om om ?_; intro v4 w4 hown4 _ _ hb4))
   exact ⟨⟨k + 1, by go_num, om, qh (by rw [HTK.o, vK]; exact hown4), qh ((HB.o.trans (HB1.o.mono hz)).trans hb4)⟩, by simp [intOf]; omega⟩
  ·have hkl : k = L.length := om
   have hO := HO.o; rw [hkl, xK] at hO; have HO2 := qh hO; clear hO
   go_wp2
   go_ret
   exact ⟨_, rfl, HO2.o, HB.o⟩
theorem hop_ShowA (h : Hp.Hop) (V : HB h) (l r : Value) (w : World) (ht : Tabs w) (H : wP w h l r) :
  zCB 99 #[.agg (hopA h l r)] w (.string (str (Hp.join (fG h)))) := by
 have hsl := zBt V; have hjl : (Hp.join (fG h)).length <= 140737488355328 := by have := zDe _ hsl.2; omega
 have HJ : Hid (∀ v W, SlR W 1 encS v (fG h) -> zCB 34 #[v, .string ⟨#[32]⟩] W (.string (str (Hp.join (fG h))))) := qh fun v W hv => zAs _ om hjl v W hv
 have HDL : Hid (∀ W, zW w W -> Calls prog 137 #[l] W fun e w' => ∃ v', e = .returned v' /\ w'.ownsRow W.heap.size 9 1 v' h.labels.length (flat encS (h.labels.map Lib.itoa)) /\ zW W w') :=
  qh fun W hW => zFk _ V.n1 V.p1 l W (ht.next hW zn) (H.sl.below hW zn)
 have HDR : Hid (∀ W, zW w W -> Calls prog 137 #[r] W fun e w' => ∃ v', e = .returned v' /\ w'.ownsRow W.heap.size 9 1 v' h.repair.length (flat encS (h.repair.map Lib.itoa)) /\ zW W w') :=
  qh fun W hW => zFk _ V.n2 V.p2 r W (ht.next hW zn) (H.sr.below hW zn)
 have HOP := qh fun W => nO h.op W; have HDP : Hid (∀ W, zW w W -> zCB 41 #[.int .i64 h.port] W (.string (str (Lib.itoa h.port)))) := qh fun W hW => jJ h.port V.q W (ht.next hW zn); have HDB : Hid (h.backup ≠ -1 -> ∀ W, zW w W -> zCB 41 #[.int .i64 h.backup] W (.string (str (Lib.itoa h.backup)))) := qh fun hb W hW => jJ h.backup V.b W (ht.next hW zn); have HL := qh hsl.1; have HW : Hid (fG h = [Hp.opW h.op] ++ h.labels.map Lib.itoa ++ (if h.op ≠ 3 then [Hp.wPort, Lib.itoa h.port] else []) ++ (if h.backup ≠ -1 then Hp.wBackup :: Lib.itoa h.backup :: h.repair.map Lib.itoa else []) ++ (if h.pipe then [Hp.wPipe] else [])) := qh rfl; have n1 := V.n1; have n2 := V.n2; obtain ⟨-, -, ⟨p1, c1, rfl, -, -, -⟩, ⟨p2, c2, rfl, -, -, -⟩⟩ := H; obtain ⟨op, L, P, B, R, C⟩ := h; unfold hopA; simp only at *; clear V ht hsl hjl; generalize Hp.opW op = ow at *
 go_enter func99, ntmps99
 go_upto_region 1 with fail
 go_cut [3] from 4 to 41 (fun s3 wx => Hid (ShS w wx (.int .i64 op) (.slice p1 L.length c1) (.int .i64 P) (.int .i64 B) (.slice p2 R.length c2) (.bool C) ([ow] ++ L.map Lib.itoa) s3))
 case first =>
  have H0 : ShB w (w.alloc (.cells #[.int .i64 op, .slice p1 L.length c1, .int .i64 P, .int .i64 B, .slice p2 R.length c2, .bool C] 29)) (.int .i64 op) (.slice p1 L.length c1) (.int .i64 P) (.int .i64 B) (.slice p2 R.length c2) (.bool C) := ⟨Blk.new _ _ _, yD w _⟩; refine yB (S := fun W => ShB w W (.int .i64 op) (.slice p1 L.length c1) (.int .i64 P) (.int .i64 B) (.slice p2 R.length c2) (.bool C)) kf H0.drew (fun hHeld => ?_); refine kq 0 ?_; refine kh 1 (fun w h => h.cs.1) ?_; refine kq 4 ?_; refine kh 5 (fun w h => h.cs.2.1) ?_; refine zS 2 fun K hK => ?_; go_simp; refine zT (HOP.o _) fun w1 hb1 => ?_; go_wp2_with fail
  refine zK hK (ShB.step za hb1) fun hHeld => ?_; clear hK K; refine mQ (i := 3) (j := 6) rfl rfl kf rf rf (fun K hK => ?_) (fun K hK => ?_)
  ·go_simp
   have hz1 := (ShB.b za).lt; refine zK hK (ShB.step za (yD _ _)) fun hHeld => ?_; clear hK K; refine zS 6 fun K hK => ?_; go_simp; refine (HDL.o _ (ShB.bel za)).mono ?_; rintro e w2 ⟨v2, rfl, ho2, hb2⟩; obtain ⟨p3, c3, rfl, -, -, hR3⟩ := SlR.of_owns vU (by simpa using ho2 : w2.ownsRow _ _ 1 v2 (L.map Lib.itoa).length (flat encS (L.map Lib.itoa))); go_wp2_with fail
   refine zK hK (ShB.step za hb2) fun hHeld => ?_; clear hK K; refine zS 7 fun K hK => ?_; refine wp_app_sl rT (.tmp 7) (.tmp 10) rfl (w.heap.size + 1) _ 1 [.string (str ow)] rfl (zAq (vL (zAe w1 _ #[.string (str ow)] 1 rfl om) hb2 zn) hz1) encS vU p3 c3 (L.map Lib.itoa) (by rw [yX]; rfl) (hR3) pE zo (by have := (ShB.b za).lt; omega) ?_; intro v4 w4 hown4 hb4; refine zK hK (ShB.next za hb4 om) fun hHeld => ?_; clear hK K; refine wpAnyH_take (i := 8) (v := ?_) rfl kf kf kf (fun _ _ _ h => h) (Or.inl ⟨rf, ?_⟩) za ?_; rotate_left
   ·intro w hSw; go_simp; try with_reducible rfl
   try simp only [qA, qB, qC, qD, qE, qF, qG]
   refine zD ?_; go_wp2_with fail
   go_meet
   exact qh ⟨za, by rw [zG, yX, vK]; rw [yX] at hown4; exact hown4⟩
  ·go_simp
   refine (HDL.o _ (ShB.bel za)).mono ?_; rintro e w2 ⟨v2, rfl, ho2, hb2⟩; obtain ⟨p3, c3, rfl, -, -, hR3⟩ := SlR.of_owns vU (by simpa using ho2 : w2.ownsRow _ _ 1 v2 (L.map Lib.itoa).length (flat encS (L.map Lib.itoa))); go_wp2_with fail
   refine zK hK (ShB.step za hb2) fun hHeld => ?_; clear hK K; have hz1 := (ShB.b za).lt; refine zS 3 fun K hK => ?_; go_simp; refine zK hK (ShB.step za (yD _ _)) fun hHeld => ?_; clear hK K; refine zS 7 fun K hK => ?_; refine wp_app_sl rT (.tmp 7) (.tmp 10) rfl (w.heap.size + 1) _ 1 [.string (str ow)] rfl (zAq (zAe w2 _ #[.string (str ow)] 1 rfl om) hz1) encS vU p3 c3 (L.map Lib.itoa) (by rw [yX]; rfl) (hR3.below (yD _ _) zn) pE zo (by have := (ShB.b za).lt; omega) ?_; intro v4 w4 hown4 hb4; refine zK hK (ShB.next za hb4 om) fun hHeld => ?_; clear hK K; refine wpAnyH_take (i := 8) (v := ?_) rfl kf kf kf (fun _ _ _ h => h) (Or.inl ⟨rf, ?_⟩) za ?_; rotate_left
   ·intro w hSw; go_simp; try with_reducible rfl
   try simp only [qA, qB, qC, qD, qE, qF, qG]
   refine zD ?_; go_wp2_with fail
   go_meet
   exact qh ⟨za, by rw [zG, yX, vK]; rw [yX] at hown4; exact hown4⟩
 case rest =>
  have H1 := hcut; clear hcut; obtain ⟨d0, d1, d2, d3, d4, d5⟩ := H1.o.S.cs
  go_upto_if 14 with fail
  go_cut [3] from 14 to 41 (fun s3 wx => Hid (ShS w wx (.int .i64 op) (.slice p1 L.length c1) (.int .i64 P) (.int .i64 B) (.slice p2 R.length c2) (.bool C) ([ow] ++ L.map Lib.itoa ++ (if op ≠ 3 then [Hp.wPort, Lib.itoa P] else [])) s3))
  case first =>
   by_cases ho : op = 3
   ·subst ho
    go_wp2_with fail
    go_meet
    rw [zH zi, vC]; exact H1
   ·have hne : (op != 3) = true := by simpa using ho
    go_wp2_with fail
    refine zT (HDP.o _ H1.o.S.bel) fun w2 hb2 => ?_; have H2 := qh (H1.o.next hb2); have hlt := H2.o.S.b.lt; clear hb2
    go_wp2_with (at_builtin; go_loud (refine uR rT rfl (.tmp 15) (.tmp 19) rfl (w.heap.size + 1) u3 _ _ rfl H2.o.own 2 2 [.string _, .string _] rfl rfl (by simp [Value.oneCell']) zo om ?_; intro v4 w4 hown4 _ _ hb4))
    go_meet
    rw [zN ho]; exact qh (H2.o.app [Hp.wPort, Lib.itoa P] hown4 hb4)
  case rest =>
   have H2 := hcut; clear hcut H1 d0 d1 d2 d3 d4 d5; obtain ⟨d0, d1, d2, d3, d4, d5⟩ := H2.o.S.cs
   have hWl : ([ow] ++ L.map Lib.itoa ++ (if op ≠ 3 then [Hp.wPort, Lib.itoa P] else [])).length <= 1010 := by
    simp only [zG, yX, zI, xI]
    split <;> simp <;> omega
   generalize hW1 : ([ow] ++ L.map Lib.itoa ++ (if op ≠ 3 then [Hp.wPort, Lib.itoa P] else [])) = W1 at *; have HW1 := qh hW1; clear hW1
   go_upto_if 23 with fail
   go_cut [3] from 23 to 41 (fun s3 wx => Hid (ShS w wx (.int .i64 op) (.slice p1 L.length c1) (.int .i64 P) (.int .i64 B) (.slice p2 R.length c2) (.bool C) (W1 ++ (if B ≠ -1 then Hp.wBackup :: Lib.itoa B :: R.map Lib.itoa else [])) s3))
   case first =>
    by_cases ho : B = -1
    ·subst ho
     go_wp2_with fail
     go_meet
     rw [zH zi, vC]; exact H2
    ·have hne : (B != -1) = true := by simpa using ho
     have HDB2 := qh (HDB.o ho); have HO := qh ho; clear ho; go_wp2_with fail
     refine zT (HDB2.o _ H2.o.S.bel) fun w2 hb2 => ?_; have H3 := qh (H2.o.next hb2); have hlt := H3.o.S.b.lt; clear hb2
     go_wp2_with (at_builtin; go_loud (refine uR rT rfl (.tmp 24) (.tmp 28) rfl (w.heap.size + 1) u3 _ _ rfl H3.o.own 2 2 [.string _, .string _] rfl rfl (by simp [Value.oneCell']) om om ?_; intro v4 w4 hown4 _ _ hb4; have H4 := qh (H3.o.app [Hp.wBackup, Lib.itoa B] hown4 hb4); obtain ⟨k0, k1, k2, k3, k4, k5⟩ := H4.o.S.cs; clear hown4 hb4))
     refine (HDR.o _ H4.o.S.bel).mono ?_; rintro e w5 ⟨v5, rfl, ho5, hb5⟩; have H5 := qh (H4.o.next hb5); obtain ⟨p3, c3, rfl, -, -, hR3⟩ := SlR.of_owns vU (by simpa using ho5 : w5.ownsRow _ _ 1 v5 (R.map Lib.itoa).length (flat encS (R.map Lib.itoa))); have HR3 := qh hR3; have hlt5 := H5.o.S.b.lt; clear hb5 ho5 hR3
     go_wp2_with (at_builtin; go_loud (refine nP rT rfl (.tmp 30) (.tmp 33) rfl (w.heap.size + 1) v4 _ _ rfl H5.o.own encS vU p3 c3 (R.map Lib.itoa) (by rw [yX]; rfl) HR3.o pE zo om ?_; intro v6 w6 hown6 _ _ hb6; have H6 := qh (H5.o.app (R.map Lib.itoa) hown6 hb6); clear hown6 hb6))
     go_meet
     rw [zN HO.o]; have := H6.o; rw [xQ] at this; exact qh this
   case rest =>
    have H3 := hcut; clear hcut H2 d0 d1 d2 d3 d4 d5; obtain ⟨d0, d1, d2, d3, d4, d5⟩ := H3.o.S.cs
    have hXl : (W1 ++ (if B ≠ -1 then Hp.wBackup :: Lib.itoa B :: R.map Lib.itoa else [])).length <= 2020 := by
     simp only [zG]
     split <;> simp <;> omega
    have HE : Hid (fG ⟨op, L, P, B, R, C⟩ = (W1 ++ (if B ≠ -1 then Hp.wBackup :: Lib.itoa B :: R.map Lib.itoa else [])) ++ (if C = true then [Hp.wPipe] else [])) := by rw [HW.o]; exact qh rfl
    clear HW1 HW hWl; generalize (W1 ++ (if B ≠ -1 then Hp.wBackup :: Lib.itoa B :: R.map Lib.itoa else [])) = W2 at *
    cases C
    ·have HE2 : Hid (fG ⟨op, L, P, B, R, false⟩ = W2) := by rw [HE.o]; exact qh zi
     go_wp2_with fail
     refine zT (HJ.o _ _ (by rw [HE2.o]; exact SlR.of_owns vU H3.o.own)) fun w5 hb5 => ?_; have H5 := qh (H3.o.next hb5); clear hb5
     go_wp2
     go_ret
     exact ⟨rfl, H5.o.S.bel⟩
    ·have HE2 : Hid (fG ⟨op, L, P, B, R, true⟩ = W2 ++ [Hp.wPipe]) := by rw [HE.o]; exact qh zi
     have hlt := H3.o.S.b.lt
     go_wp2_with (at_builtin; go_loud (refine uR rT rfl (.tmp 37) (.tmp 38) rfl (w.heap.size + 1) u3 _ _ rfl H3.o.own 1 1 [.string _] rfl rfl (by simp [Value.oneCell']) om om ?_; intro v4 w4 hown4 _ _ hb4; have H4 := qh (H3.o.app [Hp.wPipe] hown4 hb4); clear hown4 hb4))
     refine zT (HJ.o _ _ (by rw [HE2.o]; exact SlR.of_owns vU H4.o.own)) fun w5 hb5 => ?_; have H5 := qh (H4.o.next hb5); clear hb5
     go_wp2
     go_ret
     exact ⟨rfl, H5.o.S.bel⟩
end Go.Proofs.YtdbgeobolongmaaGreatDoor
