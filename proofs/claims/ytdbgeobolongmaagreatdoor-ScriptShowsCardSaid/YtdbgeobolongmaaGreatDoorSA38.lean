/- Part of the proof: ScriptLines, ScriptParses, ScriptShows. -/
import Derived.Test.YtdbgeobolongmaaGreatDoorSA35
set_option linter.unusedVariables false
set_option linter.unusedSimpArgs false
set_option maxRecDepth 100000
set_option maxHeartbeats 4000000
namespace Go.Proofs.YtdbgeobolongmaaGreatDoor
open Go.RowKit Go.Shelf Go.Proofs Go.OctetPlain Go.PrefixPlain Go.ColonPlain Go.Proofs.Tryz
theorem text_packet (s : StV) (w : World) (hi : s.t.is = true) (p16 : s.t.pf.addr.length = 16) (hvb : s.vb = .string (str s.t.bytes)) (hq : I64 s.t.port) (hbl : s.t.bytes.length <= 65536) :
  zCB 36 #[.agg (zY s)] w (.string (str (Sc.textD s.t))) := by
 have HT0 : Hid (∀ w1, w1 = w.alloc (.cells (zY s) 46) -> TAt w1 w.heap.size s /\ zW w w1) := qh fun w1 h => by subst h; exact ⟨⟨Blk.new _ _ _, p16⟩, yD _ _⟩
 have HIS := qh hi; have HVB := qh hvb; have HHX := qh fun W => ref_Hex s.t.bytes om W; have HD := qh fun W => lN s.t.port hq W; have HDL := qh (uW hq); have HXL : Hid ((hex s.t.bytes).length <= 131072) := qh (by rw [tL]; omega); have HTX : Hid (Sc.textD s.t = (if s.t.mpls = true then Sc.wMpls else Sc.wIp) ++ 32 :: (Lib.itoa s.t.port ++ 32 :: (if s.t.bytes = [] then [45] else hex s.t.bytes))) := qh (by unfold Sc.textD; rw [zN hi])
 have HXE : Hid (s.t.bytes = [] ↔ hex s.t.bytes = []) := qh (by
  cases s.t.bytes with
  | nil => simp [hex]
  | cons c r => simp [hex])
 generalize hmp : s.t.mpls = mp at *; have HMP := qh hmp; generalize hpq : s.t.port = q at *; have HPQ := qh hpq; clear hmp hpq hi p16 hvb hq hbl; generalize Sc.textD s.t = tx at *; generalize s.t.bytes = bs at *; have htl := vX; have z1 : (str (Lib.itoa q)).size <= 30 := by rw [zZ]; exact HDL.o
 have z2 : (str (hex bs)).size <= 131072 := by rw [zZ]; exact HXL.o
 generalize Lib.itoa q = dq at *
 by_cases hb0 : bs = []
 ·have hx0 := HXE.o.1 hb0
  have hem : (hex bs).isEmpty = true := by rw [hx0]; rfl
  cases mp
  ·have HTY : Hid (tx = [105, 112, 32] ++ (dq ++ 32 :: [45])) := qh (by rw [HTX.o, zN hb0]; rfl)
   clear hb0 hx0; have hA : ⟨#[105, 112, 32]⟩ ++ str dq ++ ⟨#[32]⟩ ++ str ([45]) = str ([105, 112, 32] ++ (dq ++ 32 :: ([45]))) := by rw [show (⟨#[105, 112, 32]⟩ : ByteArray) = str [105, 112, 32] from rfl, show (⟨#[32]⟩ : ByteArray) = str [32] from rfl, xJ, xJ, xJ]; simp
   go_enter func36, ntmps36
   go_wp2_with (refine yS (w := w) rfl _ (.tmp 0) rf (zY s) rf ?_; intro w1 E1; have HT := qh (HT0.o w1 E1).1; have HB := qh (HT0.o w1 E1).2; clear E1; have c0 := HT.o.c0; rw [HIS.o] at c0; have c34 := HT.o.c34; rw [HMP.o] at c34; have c35 := HT.o.c35; rw [HVB.o] at c35)
   refine zT (HHX.o _) fun w2 hb2 => ?_; replace HT := qh (HT.o.next hb2); replace HB := qh (HB.o.trans (hb2.mono HB.o.size)); clear hb2 c0 c34 c35; have c33 := HT.o.c33; rw [HPQ.o] at c33; go_wp2_with fail
   refine zU (HD.o _) ?_
   go_wp2
   go_ret
   exact ⟨by rw [HTY.o]; first | rfl | (rw [← hA]; rfl), HB.o⟩
  ·have HTY : Hid (tx = [109, 112, 108, 115, 32] ++ (dq ++ 32 :: [45])) := qh (by rw [HTX.o, zN hb0]; rfl)
   clear hb0 hx0; have hA : ⟨#[109, 112, 108, 115, 32]⟩ ++ str dq ++ ⟨#[32]⟩ ++ str ([45]) = str ([109, 112, 108, 115, 32] ++ (dq ++ 32 :: ([45]))) := by rw [show (⟨#[109, 112, 108, 115, 32]⟩ : ByteArray) = str [109, 112, 108, 115, 32] from rfl, show (⟨#[32]⟩ : ByteArray) = str [32] from rfl, xJ, xJ, xJ]; simp
   go_enter func36, ntmps36
   go_wp2_with (refine yS (w := w) rfl _ (.tmp 0) rf (zY s) rf ?_; intro w1 E1; have HT := qh (HT0.o w1 E1).1; have HB := qh (HT0.o w1 E1).2; clear E1; have c0 := HT.o.c0; rw [HIS.o] at c0; have c34 := HT.o.c34; rw [HMP.o] at c34; have c35 := HT.o.c35; rw [HVB.o] at c35)
   refine zT (HHX.o _) fun w2 hb2 => ?_; replace HT := qh (HT.o.next hb2); replace HB := qh (HB.o.trans (hb2.mono HB.o.size)); clear hb2 c0 c34 c35; have c33 := HT.o.c33; rw [HPQ.o] at c33; go_wp2_with fail
   refine zU (HD.o _) ?_
   go_wp2
   go_ret
   exact ⟨by rw [HTY.o]; first | rfl | (rw [← hA]; rfl), HB.o⟩
 ·have hem : (hex bs).isEmpty = false := by
   cases hh : hex bs with
   | nil => exact absurd (HXE.o.2 hh) hb0
   | cons c r => rfl
  cases mp
  ·have HTY : Hid (tx = [105, 112, 32] ++ (dq ++ 32 :: hex bs)) := qh (by rw [HTX.o, zH hb0]; rfl)
   clear hb0; have hA : ⟨#[105, 112, 32]⟩ ++ str dq ++ ⟨#[32]⟩ ++ str (hex bs) = str ([105, 112, 32] ++ (dq ++ 32 :: (hex bs))) := by rw [show (⟨#[105, 112, 32]⟩ : ByteArray) = str [105, 112, 32] from rfl, show (⟨#[32]⟩ : ByteArray) = str [32] from rfl, xJ, xJ, xJ]; simp
   go_enter func36, ntmps36
   go_wp2_with (refine yS (w := w) rfl _ (.tmp 0) rf (zY s) rf ?_; intro w1 E1; have HT := qh (HT0.o w1 E1).1; have HB := qh (HT0.o w1 E1).2; clear E1; have c0 := HT.o.c0; rw [HIS.o] at c0; have c34 := HT.o.c34; rw [HMP.o] at c34; have c35 := HT.o.c35; rw [HVB.o] at c35)
   refine zT (HHX.o _) fun w2 hb2 => ?_; replace HT := qh (HT.o.next hb2); replace HB := qh (HB.o.trans (hb2.mono HB.o.size)); clear hb2 c0 c34 c35; have c33 := HT.o.c33; rw [HPQ.o] at c33; go_wp2_with fail
   refine zU (HD.o _) ?_
   go_wp2
   go_ret
   exact ⟨by rw [HTY.o]; first | rfl | (rw [← hA]; rfl), HB.o⟩
  ·have HTY : Hid (tx = [109, 112, 108, 115, 32] ++ (dq ++ 32 :: hex bs)) := qh (by rw [HTX.o, zH hb0]; rfl)
   clear hb0; have hA : ⟨#[109, 112, 108, 115, 32]⟩ ++ str dq ++ ⟨#[32]⟩ ++ str (hex bs) = str ([109, 112, 108, 115, 32] ++ (dq ++ 32 :: (hex bs))) := by rw [show (⟨#[109, 112, 108, 115, 32]⟩ : ByteArray) = str [109, 112, 108, 115, 32] from rfl, show (⟨#[32]⟩ : ByteArray) = str [32] from rfl, xJ, xJ, xJ]; simp
   go_enter func36, ntmps36
   go_wp2_with (refine yS (w := w) rfl _ (.tmp 0) rf (zY s) rf ?_; intro w1 E1; have HT := qh (HT0.o w1 E1).1; have HB := qh (HT0.o w1 E1).2; clear E1; have c0 := HT.o.c0; rw [HIS.o] at c0; have c34 := HT.o.c34; rw [HMP.o] at c34; have c35 := HT.o.c35; rw [HVB.o] at c35)
   refine zT (HHX.o _) fun w2 hb2 => ?_; replace HT := qh (HT.o.next hb2); replace HB := qh (HB.o.trans (hb2.mono HB.o.size)); clear hb2 c0 c34 c35; have c33 := HT.o.c33; rw [HPQ.o] at c33; go_wp2_with fail
   refine zU (HD.o _) ?_
   go_wp2
   go_ret
   exact ⟨by rw [HTY.o]; first | rfl | (rw [← hA]; rfl), HB.o⟩
end Go.Proofs.YtdbgeobolongmaaGreatDoor
