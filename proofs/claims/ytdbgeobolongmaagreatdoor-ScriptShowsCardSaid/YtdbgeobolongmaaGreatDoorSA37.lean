/- Part of the proof: ScriptLines, ScriptParses, ScriptShows. -/
import Derived.Test.YtdbgeobolongmaaGreatDoorSA35
set_option linter.unusedVariables false
set_option linter.unusedSimpArgs false
set_option maxRecDepth 100000
set_option maxHeartbeats 4000000
namespace Go.Proofs.YtdbgeobolongmaaGreatDoor
open Go.RowKit Go.Shelf Go.Proofs Go.OctetPlain Go.PrefixPlain Go.ColonPlain Go.Proofs.Tryz
def RetOneD (o : Option Sc.Stp) (W : World) (e : Ending) (W' : World) : Prop := ∃ s', e = .returned (.tuple #[.agg (zY s'), .bool o.isSome]) /\ (∀ y, o = some y -> s'.t = y) /\ s'.t.pf.addr.length = 16 /\ vG (fun b => W.heap.size <= b) W' s' /\ zW W W'
def pkT (n : Int) (m : Bool) (q : List UInt8) : Sc.Stp := { Sc.z with is := true, port := n, mpls := m, bytes := q }
theorem packet_none {l : List Hp.Wd} (h : l.length ≠ 3) : Sc.packetD l = none := by
 match l, h with
 | [], _ => rfl
 | [_], _ => rfl
 | [_, _], _ => rfl
 | [_, _, _], h => exact absurd rfl h
 | _ :: _ :: _ :: _ :: _, _ => rfl
theorem bytesD_ne {b : Hp.Wd} (h : b ≠ [45]) : Sc.bytesD b = match vE [] b with | some q => if b ≠ [] /\ hex q = b then some q else none | none => none := by
 unfold Sc.bytesD; rw [zH h]
 rfl
section
variable {ops : Array Oper} {rest : List Oper} {o : Oper} {a : Act} {w w0 : World} {Q : Exit -> Act -> World -> Prop} {t t0 : Sc.Stp}
theorem pk_new (hg : o.guard = none) (ho : o.op = .alloc 46) (h : ∀ w', Hid (Blk w' w.heap.size 46 (zY (svD Sc.z))) -> Hid (zW w w') -> wpList prog ops Q rest (a.put o.dst (.pointer (some ⟨w.heap.size, 0, none⟩))) w') : wpList prog ops Q (o :: rest) a w :=
 zQ hg _ ho _ zAi fun w' hw => h w' (by rw [hw]; exact qh (Blk.new _ _ _)) (by rw [hw]; exact qh (yD w _))
theorem qU (hgd : o.guard = none) (x y : Operand) (ho : o.op = .store 46 x y) (hx : a.eval x = .pointer (some ⟨w0.heap.size, 0, none⟩)) (hy : a.eval y = .agg (zY (svD t))) (HR : Blk w w0.heap.size 46 (zY (svD t0))) (HB : zW w0 w)
  (h : ∀ w8, Hid (Blk w8 w0.heap.size 46 (zY (svD t))) -> Hid (zW w0 w8) -> wpList prog ops Q rest (a.put o.dst undef) w8) (h1 : t.hop = Sc.hop0 := by rfl) (h2 : t.ways = [] := by rfl) : wpList prog ops Q (o :: rest) a w :=
 zJ hgd _ x y ho w0.heap.size _ hx hy _ _ HR (by rw [zO]; exact kZ) (by rw [zO, zO]) (bG (q := fun _ => True) (w := w) h1 h2).one fun w8 hw8 => h w8 (by rw [hw8]; exact qh (HR.setRow _)) (by rw [hw8]; exact qh (below_setRow HB zn _))
theorem oI {s : StV} {fn : Func} {p q : Tmp} (h : fn.results = #[.cell p 46, .tmp q]) {tmps : Array Value} {g : Nat} (hp : tmps.getD p undef = .pointer (some ⟨g, 0, none⟩)) (hb : Blk w g 46 (zY s)) : (results fn tmps).run prog w = .ok (.tuple #[.agg (zY s), tmps.getD q undef]) w :=
 results_cell_tmp h _ _ _ _ _ _ _ hp hb underlying46 rfl (by rw [zO]; exact kZ)
theorem wY {r : Option Sc.Stp} {b : Bool} (HB : zW w0 w) (h : r = none /\ b = false ∨ r = some t /\ b = true) (h1 : t.hop = Sc.hop0 := by rfl) (h2 : t.ways = [] := by rfl) (h3 : t.pf.addr.length = 16 := by rfl) : RetOneD r w0 (.returned (.tuple #[.agg (zY (svD t)), .bool b])) w := by
 rcases h with ⟨rfl, rfl⟩ | ⟨rfl, rfl⟩
 ·exact ⟨svD t, rfl, (fun y hy => by cases hy), h3, bG h1 h2, HB⟩
 ·exact ⟨svD t, rfl, (fun y hy => by cases hy; rfl), h3, bG h1 h2, HB⟩
end
theorem r32_packet (l : List Hp.Wd) (hl : l.length <= 1048576) (hx : ∀ x ∈ l, x.length <= 65536) (v : Value) (w : World) (hv : SlR w 1 encS v l) :
  Calls prog 27 #[v] w (RetOneD (Sc.packetD l) w) := by
 obtain ⟨p, cap, rfl, h1, h2, hR⟩ := hv
 by_cases h3 : l.length = 3
 ·obtain ⟨x0, x1, x2, rfl⟩ : ∃ a b c, l = [a, b, c] := by
   match l, h3 with
   | [a, b, c], _ => exact ⟨a, b, c, rfl⟩
  have HR := qh fun W (hb : zW w W) => hR.below hb zn; obtain ⟨b, off, rfl, hbl, -⟩ := hR.at (i := 0) zi
  have HC : Hid (∀ W, zW w W -> W.cell? ⟨b, off, none⟩ = some (.string (str x0)) /\ W.cell? ⟨b, off + 1, none⟩ = some (.string (str x1)) /\ W.cell? ⟨b, off + 2, none⟩ = some (.string (str x2))) := qh fun W hb => by
   have h := HR.o W hb; have c0 := h.in (i := 0) zi 0 _ rfl; have c1 := h.in (i := 1) zi 0 _ rfl; have c2 := h.in (i := 2) zi 0 _ rfl; exact ⟨by simpa using c0, by simpa using c1, by simpa using c2⟩
  have htl := vX; have hx1 := hx x1 zi; have hx2 := hx x2 zi; have HX2L := qh hx2; have HNM := qh fun W => sO x1 om W; have HUH := qh fun W => ref_Unhex x2 om W; have HHX := qh fun (W : World) (q : List UInt8) (h : q.length <= 65536) => ref_Hex q om W; have HO0 : Hid (Sc.packetD [x0, x1, x2] = if x0 = Sc.wIp ∨ x0 = Sc.wMpls then (match Sc.bytesD x2 with | some q => if 0 <= Sc.numD x1 then some { Sc.z with is := true, mpls := decide (x0 = Sc.wMpls), port := Sc.numD x1, bytes := q } else none | none => none) else none) := qh rfl; have hnb := oM x1; generalize Sc.packetD [x0, x1, x2] = o at *; generalize Sc.numD x1 = n at *; clear hR h3 hx hx1 hx2 hl h1
  by_cases h0 : x0 = Sc.wIp ∨ x0 = Sc.wMpls
  ·obtain ⟨mv, HM0, HM1, HO⟩ : ∃ mv : Bool, Hid ((x0 == ([105, 112] : List UInt8)) = !mv) /\ Hid ((x0 == ([109, 112, 108, 115] : List UInt8)) = mv) /\ Hid (o = match Sc.bytesD x2 with | some q => if 0 <= n then some (pkT n mv q) else none | none => none) := by
    rcases h0 with rfl | rfl
    ·exact ⟨false, qh rfl, qh rfl, qh (by rw [HO0.o, zN (Or.inl rfl)]; rfl)⟩
    ·exact ⟨true, qh rfl, qh rfl, qh (by rw [HO0.o, zN (Or.inr rfl)]; rfl)⟩
   clear h0 HO0
   cases mv
   all_goals
    have he0 := HM0.o; have he1 := HM1.o; simp only [Bool.not_false, Bool.not_true] at he0; clear HM0 HM1
    go_enter func27, ntmps27
    go_wp2_with (refine pk_new rfl rf ?_; intro wz HRZ HBZ; obtain ⟨d0, d1, d2⟩ := HC.o wz HBZ.o)
    refine zU (HNM.o _) ?_; go_wp2_with fail
    refine zT (HUH.o _) fun w5 hb5 => ?_; have HR5 := qh (HRZ.o.below hb5 HRZ.o.lt); have HB5 := qh (HBZ.o.trans (hb5.mono HBZ.o.size)); clear hb5 d0 d1 d2; obtain ⟨d0, d1, d2⟩ := HC.o w5 HB5.o
    by_cases hx2 : x2 = [45]
    ·have he2 : (x2 == ([45] : List UInt8)) = true := uP.2 hx2
     have hem : x2.isEmpty = false := by rw [hx2]; rfl
     have HBY : Hid (Sc.bytesD x2 = some []) := qh (by unfold Sc.bytesD; rw [zN hx2]); clear hx2
     by_cases h0n : 0 <= n
     ·have hdn : decide (0 <= n) = true := zV h0n
      go_wp2_with (first
       | (refine qU (t := pkT n false ([] : List UInt8)) rfl (.tmp 2) (.tmp 57) rf rf rf HR5.o HB5.o ?_; intro w8 HR8 HB8)
       | (refine qU (t := pkT n true ([] : List UInt8)) rfl (.tmp 2) (.tmp 57) rf rf rf HR5.o HB5.o ?_; intro w8 HR8 HB8))
      exact zC (oI rfl rfl HR8.o) rfl (wY HB8.o (Or.inr ⟨by rw [HO.o, HBY.o]; exact zN h0n, rfl⟩))
     ·have HON : Hid (o = none) := qh (by rw [HO.o, HBY.o]; exact zH h0n)
      have hdn : decide (0 <= n) = false := zM h0n
      go_wp2_with (first
       | (refine qU (t := pkT n false ([] : List UInt8)) rfl (.tmp 2) (.tmp 57) rf rf rf HR5.o HB5.o ?_; intro w8 HR8 HB8)
       | (refine qU (t := pkT n true ([] : List UInt8)) rfl (.tmp 2) (.tmp 57) rf rf rf HR5.o HB5.o ?_; intro w8 HR8 HB8))
      exact zC (oI rfl rfl HR8.o) rfl (wY HB8.o (Or.inl ⟨HON.o, rfl⟩))
    ·have he2 : (x2 == ([45] : List UInt8)) = false := yF.2 hx2
     have HBY0 := qh (bytesD_ne hx2); clear hx2; have HBD : Hid (zW w w5.drew) := qh HB5.o.drew; have HRD := qh (HR5.o.below (xE w5.heap.size w5).drew HR5.o.lt)
     by_cases hx0 : x2 = []
     ·have hem : x2.isEmpty = true := by rw [hx0]; rfl
      have HBY : Hid (Sc.bytesD x2 = none) := qh (by rw [hx0]; decide); clear hx0 HBY0
      go_upto_region 8 with fail
      clear d0 d1 d2; refine yB (S := fun W => zW w W) kf HBD.o (fun hHeld => ?_); refine kq 0 ?_; refine kq 1 ?_; refine kh 2 (fun w h => (HC.o w h).2.2) ?_; refine kh 3 (fun w h => hem) ?_; refine kq 4 ?_; refine tn 5 ?_; refine tn 6 ?_; refine tn 7 ?_; refine tn 8 ?_; refine tn 9 ?_; refine tn 10 ?_; refine kq 11 ?_; refine zD ?_; replace HR5 := HRD; replace HB5 := HBD; obtain ⟨d0, d1, d2⟩ := HC.o _ HB5.o; have HON : Hid (o = none) := qh (by rw [HO.o, HBY.o])
      go_wp2_with (first
       | (refine qU (t := pkT n false ((vE [] x2).getD [])) rfl (.tmp 2) (.tmp 57) rf rf rf HR5.o HB5.o ?_; intro w8 HR8 HB8)
       | (refine qU (t := pkT n true ((vE [] x2).getD [])) rfl (.tmp 2) (.tmp 57) rf rf rf HR5.o HB5.o ?_; intro w8 HR8 HB8))
      exact zC (oI rfl rfl HR8.o) rfl (wY HB8.o (Or.inl ⟨HON.o, rfl⟩))
     ·have hem : x2.isEmpty = false := by
       cases x2 with
       | nil => exact absurd rfl hx0
       | cons c r => rfl
      have HQL := qh (pV x2)
      have HBY1 : Hid (Sc.bytesD x2 = if (vE [] x2).isSome = true /\ hex ((vE [] x2).getD []) = x2 then some ((vE [] x2).getD []) else none) := qh (by
       rw [HBY0.o]
       cases vE [] x2 with
       | none => rfl
       |some q =>
        by_cases hq : hex q = x2
        ·simp [hq, hx0]
        ·simp [hq])
      clear hx0 HBY0; generalize (vE [] x2).getD [] = q at *; generalize (vE [] x2).isSome = iu at *; have HHQ := qh fun W => HHX.o W q (yK HQL.o HX2L.o)
      by_cases hhx : hex q = x2
      ·have hhe : (hex q == x2) = true := uP.2 hhx
       have HBY2 : Hid (Sc.bytesD x2 = if iu = true then some q else none) := qh (by rw [HBY1.o]; simp [hhx]); clear hhx HBY1
       go_upto_region 8 with fail
       clear d0 d1 d2; refine yB (S := fun W => zW w W) kf HBD.o (fun hHeld => ?_); refine kq 0 ?_; refine kq 1 ?_; refine kh 2 (fun w h => (HC.o w h).2.2) ?_; refine kh 3 (fun w h => hem) ?_; refine kq 4 ?_; refine kq 5 ?_; refine kq 7 ?_; refine kq 8 ?_; refine kh 9 (fun w h => (HC.o w h).2.2) ?_; refine zS 6 fun K hK => ?_; go_simp; refine zT (HHQ.o _) fun w9 hb9 => ?_; have HV9 := hHeld.trans (hb9.mono hHeld.size); go_wp2_with fail
       refine zK hK (HV9) fun hHeld => ?_; clear hK K; refine kq 10 ?_ (hy := by intro w h; have z := hhe; have z2 := vX; go_simp; try with_reducible rfl); refine kq 11 ?_; refine zD ?_; replace HR5 := qh (HRD.o.below hb9 HRD.o.lt); replace HB5 := qh hHeld; clear HBD; obtain ⟨d0, d1, d2⟩ := HC.o _ HB5.o
       cases iu with
       |true =>
        have HBY : Hid (Sc.bytesD x2 = some q) := HBY2
        by_cases h0n : 0 <= n
        ·have hdn : decide (0 <= n) = true := zV h0n
         go_wp2_with (first
          | (refine qU (t := pkT n false q) rfl (.tmp 2) (.tmp 57) rf rf rf HR5.o HB5.o ?_; intro w8 HR8 HB8)
          | (refine qU (t := pkT n true q) rfl (.tmp 2) (.tmp 57) rf rf rf HR5.o HB5.o ?_; intro w8 HR8 HB8))
         exact zC (oI rfl rfl HR8.o) rfl (wY HB8.o (Or.inr ⟨by rw [HO.o, HBY.o]; exact zN h0n, rfl⟩))
        ·have HON : Hid (o = none) := qh (by rw [HO.o, HBY.o]; exact zH h0n)
         have hdn : decide (0 <= n) = false := zM h0n
         go_wp2_with (first
          | (refine qU (t := pkT n false q) rfl (.tmp 2) (.tmp 57) rf rf rf HR5.o HB5.o ?_; intro w8 HR8 HB8)
          | (refine qU (t := pkT n true q) rfl (.tmp 2) (.tmp 57) rf rf rf HR5.o HB5.o ?_; intro w8 HR8 HB8))
         exact zC (oI rfl rfl HR8.o) rfl (wY HB8.o (Or.inl ⟨HON.o, rfl⟩))
       |false =>
        have HBY : Hid (Sc.bytesD x2 = none) := HBY2; have HON : Hid (o = none) := qh (by rw [HO.o, HBY.o])
        go_wp2_with (first
         | (refine qU (t := pkT n false q) rfl (.tmp 2) (.tmp 57) rf rf rf HR5.o HB5.o ?_; intro w8 HR8 HB8)
         | (refine qU (t := pkT n true q) rfl (.tmp 2) (.tmp 57) rf rf rf HR5.o HB5.o ?_; intro w8 HR8 HB8))
        exact zC (oI rfl rfl HR8.o) rfl (wY HB8.o (Or.inl ⟨HON.o, rfl⟩))
      ·have hhe : (hex q == x2) = false := yF.2 hhx
       have HBY : Hid (Sc.bytesD x2 = none) := qh (by rw [HBY1.o]; simp [hhx]); clear hhx HBY1
       go_upto_region 8 with fail
       clear d0 d1 d2; refine yB (S := fun W => zW w W) kf HBD.o (fun hHeld => ?_); refine kq 0 ?_; refine kq 1 ?_; refine kh 2 (fun w h => (HC.o w h).2.2) ?_; refine kh 3 (fun w h => hem) ?_; refine kq 4 ?_; refine kq 5 ?_; refine kq 7 ?_; refine kq 8 ?_; refine kh 9 (fun w h => (HC.o w h).2.2) ?_; refine zS 6 fun K hK => ?_; go_simp; refine zT (HHQ.o _) fun w9 hb9 => ?_; have HV9 := hHeld.trans (hb9.mono hHeld.size); go_wp2_with fail
       refine zK hK (HV9) fun hHeld => ?_; clear hK K; refine kq 10 ?_ (hy := by intro w h; have z := hhe; have z2 := vX; go_simp; try with_reducible rfl); refine kq 11 ?_; refine zD ?_; replace HR5 := qh (HRD.o.below hb9 HRD.o.lt); replace HB5 := qh hHeld; clear HBD; obtain ⟨d0, d1, d2⟩ := HC.o _ HB5.o; have HON : Hid (o = none) := qh (by rw [HO.o, HBY.o])
       go_wp2_with (first
        | (refine qU (t := pkT n false q) rfl (.tmp 2) (.tmp 57) rf rf rf HR5.o HB5.o ?_; intro w8 HR8 HB8)
        | (refine qU (t := pkT n true q) rfl (.tmp 2) (.tmp 57) rf rf rf HR5.o HB5.o ?_; intro w8 HR8 HB8))
       exact zC (oI rfl rfl HR8.o) rfl (wY HB8.o (Or.inl ⟨HON.o, rfl⟩))
  ·have he0 : (x0 == ([105, 112] : List UInt8)) = false := yF.2 fun h => h0 (Or.inl h)
   have he1 : (x0 == ([109, 112, 108, 115] : List UInt8)) = false := yF.2 fun h => h0 (Or.inr h); have HON : Hid (o = none) := qh (by rw [HO0.o, zH h0]); clear h0 HO0
   go_enter func27, ntmps27
   go_wp2_with (first
    | (refine pk_new rfl rf ?_; intro wz HRZ HBZ; obtain ⟨d0, d1, d2⟩ := HC.o wz HBZ.o)
    | (refine qU (t := Sc.z) rfl (.tmp 2) (.tmp 22) rf rf rf HRZ.o HBZ.o ?_; intro w8 HR8 HB8))
   exact zC (oI rfl rfl HR8.o) rfl (wY HB8.o (Or.inl ⟨HON.o, rfl⟩))
 ·have hn : ((l.length : Int) != 3) = true := by simp only [jZ, qR]; omega
  have HON := qh (packet_none h3); clear h3
  go_enter func27, ntmps27
  go_upto_region 1 with (refine pk_new rfl rf ?_; intro wz HRZ HBZ)
  refine jD ?_
  iterate 11 go_step
  generalize hA : (Act.mk _ _ : Act) = A; rename_i K hK; refine hK A wz ?_; clear hK K
  iterate 10 (refine aH (by rw [← hA]; kernel_rfl) (by rw [← hA]; kernel_rfl) ?_)
  subst hA
  go_wp2_with (refine qU (t := Sc.z) rfl (.tmp 2) (.tmp 22) rf rf rf HRZ.o HBZ.o ?_; intro w8 HR8 HB8)
  exact zC (oI rfl rfl HR8.o) rfl (wY HB8.o (Or.inl ⟨HON.o, rfl⟩))
end Go.Proofs.YtdbgeobolongmaaGreatDoor
