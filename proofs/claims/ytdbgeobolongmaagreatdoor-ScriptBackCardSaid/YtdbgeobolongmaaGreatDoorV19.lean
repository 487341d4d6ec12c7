/- Part of the proof: contracts of the functions that the statements of layer 32 reach. -/
import Derived.StillTailTactics
import Derived.Test.YtdbgeobolongmaaGreatDoorV12
set_option linter.unusedVariables false
set_option linter.unusedSimpArgs false
set_option maxRecDepth 100000
set_option maxHeartbeats 1000000
namespace Go.Proofs.YtdbgeobolongmaaGreatDoor
open Go.RowKit Go.Shelf Go.Proofs Go.OctetPlain
structure TwoB (g H : Nat) (w w' : World) : Prop where
 size : w.heap.size ≤ w'.heap.size
 block : ∀ k, k < w.heap.size → k ≠ g → k ≠ H → w'.heap[k]? = w.heap[k]?
theorem TwoB.refl (g H : Nat) (w : World) : TwoB g H w w := ⟨Nat.le_refl _, fun _ _ _ _ => rfl⟩
theorem TwoB.trans {g H : Nat} {a b c : World} (h : TwoB g H a b) (h2 : TwoB g H b c) : TwoB g H a c := ⟨Nat.le_trans h.size h2.size, fun k hk h3 h4 => (h2.block k (Nat.lt_of_lt_of_le hk h.size) h3 h4).trans (h.block k hk h3 h4)⟩
theorem TwoB.g {g H : Nat} {a b : World} (h : a.grownBy b (some g)) : TwoB g H a b := ⟨h.size, fun k hk h1 _ => h.block k hk (by simpa using h1)⟩
theorem TwoB.h {g H : Nat} {a b : World} (h : a.grownBy b (some H)) : TwoB g H a b := ⟨h.size, fun k hk _ h1 => h.block k hk (by simpa using h1)⟩
theorem TwoB.below {g H : Nat} {a b : World} (h : Below a.heap.size a b) : TwoB g H a b := ⟨h.size, fun k hk _ _ => h.block k hk⟩
theorem TwoB.blk {g H k : Nat} {a b : World} (h : TwoB g H a b) {t : TypeId} {cs : Array Value} (hb : Blk a k t cs) (h1 : k ≠ g) (h2 : k ≠ H) : Blk b k t cs := (h.block k hb.lt h1 h2).trans hb
structure PSH (w0 wS : World) (g A H V : Nat) (w : World) (h : Hp.Hop) (ws : List Hp.Wd) (bad : Bool) : Prop where
 hb : ∃ l r, Blk w H 29 (hopA h l r) ∧ SlP (fun b => w0.heap.size ≤ b ∧ b ≠ g ∧ b ≠ H) w 1 encI l h.labels ∧ SlP (fun b => w0.heap.size ≤ b ∧ b ≠ g ∧ b ≠ H) w 1 encI r h.repair
 vb : Blk w V 183 #[.pointer (some ⟨g, 0, none⟩)]
 rd : Rdr g A w ws bad
 bel : Below w0.heap.size w0 w
 fr : TwoB g H wS w
 sh : Short ws
 ln : ws.length ≤ 1048576
 nH : g ≠ H
 nV : g ≠ V
 nW : H ≠ V
 nA : A ≠ H
 gg : w0.heap.size ≤ g
 gH : w0.heap.size ≤ H
section
variable {w0 wS w w' : World} {g A H V : Nat} {h : Hp.Hop} {ws ws' : List Hp.Wd} {bad bad' : Bool}
theorem PSH.gl (P : PSH w0 wS g A H V w h ws bad) : g < w.heap.size := by obtain ⟨_, _, _, _, _, _, _, _, _, _, hx⟩ := P.rd.parts; exact hx
theorem PSH.Hl (P : PSH w0 wS g A H V w h ws bad) : H < w.heap.size := by obtain ⟨_, _, hb, _⟩ := P.hb; exact hb.lt
theorem PSH.read (P : PSH w0 wS g A H V w h ws bad) (hr : Rdr g A w' ws' bad') (hg : w.grownBy w' (some g)) (hs : Short ws') (hl : ws'.length ≤ 1048576) : PSH w0 wS g A H V w' h ws' bad' := by
 obtain ⟨l, r, h1, h2, h3⟩ := P.hb
 exact ⟨⟨l, r, h1.grown hg P.nH.symm, h2.grown hg (fun b hb => by have := hb.2.1; simpa using Ne.symm this), h3.grown hg (fun b hb => by have := hb.2.1; simpa using Ne.symm this)⟩,
  P.vb.grown hg P.nV.symm, hr, P.bel.trans (grown_Below hg P.bel.size P.gg), P.fr.trans (.g hg), hs, hl, P.nH, P.nV, P.nW, P.nA, P.gg, P.gH⟩
theorem PSH.write (P : PSH w0 wS g A H V w h ws bad) {h' : Hp.Hop} (i : Nat) (v : Value)
  (hw : ∀ l r, Blk w H 29 (hopA h l r) → SlP (fun b => w0.heap.size ≤ b ∧ b ≠ g ∧ b ≠ H) w 1 encI l h.labels → SlP (fun b => w0.heap.size ≤ b ∧ b ≠ g ∧ b ≠ H) w 1 encI r h.repair →
   ∃ l' r', (hopA h l r).setIfInBounds i v = hopA h' l' r' ∧ SlP (fun b => w0.heap.size ≤ b ∧ b ≠ g ∧ b ≠ H) w 1 encI l' h'.labels ∧ SlP (fun b => w0.heap.size ≤ b ∧ b ≠ g ∧ b ≠ H) w 1 encI r' h'.repair) : PSH w0 wS g A H V (w.setCell ⟨H, i, none⟩ v) h' ws bad := by
 obtain ⟨l, r, h1, h2, h3⟩ := P.hb
 obtain ⟨l', r', e, g2, g3⟩ := hw l r h1 h2 h3
 have hg := grown_set w H i v
 exact ⟨⟨l', r', by rw [← e]; exact h1.set i v, g2.grown hg (fun b hb => by have := hb.2.2; simpa using Ne.symm this), g3.grown hg (fun b hb => by have := hb.2.2; simpa using Ne.symm this)⟩,
  P.vb.grown hg P.nW.symm, P.rd.grown hg P.nH.symm P.nA.symm, P.bel.trans (grown_Below hg P.bel.size P.gH), P.fr.trans (.h hg), P.sh, P.ln, P.nH, P.nV, P.nW, P.nA, P.gg, P.gH⟩
theorem PSH.tabs (P : PSH w0 wS g A H V w h ws bad) (ht : Tabs w0) : Tabs w := ht.next P.bel (Nat.le_refl _)
theorem PSH.tabsG (P : PSH w0 wS g A H V w h ws bad) (ht : Tabs w0) {W : World} (hg : w.grownBy W (some g)) : Tabs W := ht.next (P.bel.trans (grown_Below hg P.bel.size P.gg)) (Nat.le_refl _)
theorem PSH.vc (P : PSH w0 wS g A H V w h ws bad) : w.cell? ⟨V, 0, none⟩ = some (.pointer (some ⟨g, 0, none⟩)) := P.vb.cell 0
theorem PSH.alloc (P : PSH w0 wS g A H V w h ws bad) (o : Obj) : PSH w0 wS g A H V (w.alloc o) h ws bad := by
 have hb := belowA w o
 obtain ⟨l, r, h1, h2, h3⟩ := P.hb
 exact ⟨⟨l, r, h1.alloc o, h2.below hb (Nat.le_refl _), h3.below hb (Nat.le_refl _)⟩, P.vb.alloc o, P.rd.alloc o, P.bel.trans (hb.mono P.bel.size), P.fr.trans (.below hb), P.sh, P.ln, P.nH, P.nV, P.nW, P.nA, P.gg, P.gH⟩
theorem PSH.drew (P : PSH w0 wS g A H V w h ws bad) : PSH w0 wS g A H V w.drew h ws bad := by
 have hb := (Below.refl w.heap.size w).drew
 obtain ⟨l, r, h1, h2, h3⟩ := P.hb
 exact ⟨⟨l, r, h1.drew, h2.below hb (Nat.le_refl _), h3.below hb (Nat.le_refl _)⟩, P.vb.drew, P.rd.drew, P.bel.trans (hb.mono P.bel.size), P.fr.trans (.below hb), P.sh, P.ln, P.nH, P.nV, P.nW, P.nA, P.gg, P.gH⟩
theorem PSH.rebase (P : PSH w0 wS g A H V w h ws bad) : PSH w0 w g A H V w h ws bad := ⟨P.hb, P.vb, P.rd, P.bel, TwoB.refl _ _ _, P.sh, P.ln, P.nH, P.nV, P.nW, P.nA, P.gg, P.gH⟩
theorem PSH.frozenH (P : PSH w0 wS g A H V w h ws bad) (i : Nat) : w.frozen? ⟨H, i, none⟩ = false := by obtain ⟨l, r, h1, _⟩ := P.hb; exact h1.frozen' i
theorem PSH.op (P : PSH w0 wS g A H V w h ws bad) : w.cell? ⟨H, 0, none⟩ = some (.int .i64 h.op) := by obtain ⟨l, r, h1, _⟩ := P.hb; exact h1.cell 0
theorem PSH.cellH (P : PSH w0 wS g A H V w h ws bad) (i : Nat) (hi : i < 6) : ∃ v, w.cell? ⟨H, i, none⟩ = some v := by
 obtain ⟨l, r, h1, _⟩ := P.hb
 have : (hopA h l r).size = 6 := rfl
 exact ⟨_, (h1.cell i).trans (Array.getElem?_eq_getElem (by omega))⟩
theorem PSH.setPipe (P : PSH w0 wS g A H V w h ws bad) (b : Bool) : PSH w0 wS g A H V (w.setCell ⟨H, 5, none⟩ (.bool b)) { h with pipe := b } ws bad := P.write 5 _ fun l r _ h2 h3 => ⟨l, r, rfl, h2, h3⟩
theorem PSH.setPort (P : PSH w0 wS g A H V w h ws bad) (n : Int) : PSH w0 wS g A H V (w.setCell ⟨H, 2, none⟩ (.int .i64 n)) { h with port := n } ws bad := P.write 2 _ fun l r _ h2 h3 => ⟨l, r, rfl, h2, h3⟩
theorem PSH.setBackup (P : PSH w0 wS g A H V w h ws bad) (n : Int) : PSH w0 wS g A H V (w.setCell ⟨H, 3, none⟩ (.int .i64 n)) { h with backup := n } ws bad := P.write 3 _ fun l r _ h2 h3 => ⟨l, r, rfl, h2, h3⟩
theorem PSH.setOp (P : PSH w0 wS g A H V w h ws bad) (n : Int) : PSH w0 wS g A H V (w.setCell ⟨H, 0, none⟩ (.int .i64 n)) { h with op := n } ws bad := P.write 0 _ fun l r _ h2 h3 => ⟨l, r, rfl, h2, h3⟩
theorem PSH.setRepair (P : PSH w0 wS g A H V w h ws bad) {v : Value} {l' : List Int} (hv : SlP (fun b => w0.heap.size ≤ b ∧ b ≠ g ∧ b ≠ H) w 1 encI v l') : PSH w0 wS g A H V (w.setCell ⟨H, 4, none⟩ v) { h with repair := l' } ws bad := P.write 4 _ fun l r _ h2 h3 => ⟨l, v, rfl, h2, hv⟩
theorem PSH.setLabels (P : PSH w0 wS g A H V w h ws bad) {v : Value} {l' : List Int} (hv : SlP (fun b => w0.heap.size ≤ b ∧ b ≠ g ∧ b ≠ H) w 1 encI v l') : PSH w0 wS g A H V (w.setCell ⟨H, 1, none⟩ v) { h with labels := l' } ws bad := P.write 1 _ fun l r _ h2 h3 => ⟨v, r, rfl, hv, h3⟩
theorem PSH.own (P : PSH w0 wS g A H V w h ws bad) {v : Value} {W : World} {l : List Int} (hv : SlP (w.heap.size ≤ ·) W 1 encI v l) : SlP (fun b => w0.heap.size ≤ b ∧ b ≠ g ∧ b ≠ H) W 1 encI v l :=
 hv.imp fun b hb => by have := P.gl; have := P.Hl; have := P.bel.size; omega
end
theorem short_tail {ws : List Hp.Wd} (h : Short ws) : Short ws.tail := fun x hx => h x (List.mem_of_mem_tail hx)
theorem short_nums {ws : List Hp.Wd} (h : Short ws) : Short (Hp.nums ws).2 := fun x hx => h x (by rw [Hp.nums_eq ws]; exact List.mem_append_right _ hx)
theorem len_nums (ws : List Hp.Wd) : (Hp.nums ws).2.length ≤ ws.length := by
 have := congrArg List.length (Hp.nums_eq ws)
 rw [List.length_append] at this
 omega
theorem short_if {ws : List Hp.Wd} {c : Prop} [Decidable c] (h : Short ws) : Short (if c then ws.tail else ws) := by
 split
 ·exact short_tail h
 ·exact h
theorem len_if {ws : List Hp.Wd} {c : Prop} [Decidable c] : (if c then ws.tail else ws).length ≤ ws.length := by split <;> simp
theorem parse_pipe (w0 wS : World) (g A H V : Nat) (h : Hp.Hop) (ws : List Hp.Wd) (bad : Bool) (w : World) (ht : Tabs w0) (P : PSH w0 wS g A H V w h ws bad) :
  Calls Tryz.prog 143 #[.pointer (some ⟨V, 0, none⟩), .pointer (some ⟨H, 0, none⟩)] w fun e w' => e = .returned (.tuple #[]) ∧ PSH w0 wS g A H V w' { h with pipe := (Hp.partC ws).1 } (Hp.partC ws).2 bad := by
 have HC := qh (hop_takes g A Hp.wPipe ws (by have := P.ln; omega) bad w P.rd)
 have HP : Hid (Hp.partC ws = (decide (ws.head? = some Hp.wPipe), if ws.head? = some Hp.wPipe then ws.tail else ws)) := by
  unfold Hp.partC
  by_cases c : ws.head? = some Hp.wPipe
  ·rw [if_pos c, if_pos c, decide_eq_true c]; exact qh rfl
  ·rw [if_neg c, if_neg c, decide_eq_false c]; exact qh rfl
 have HS : Hid (Short (if ws.head? = some Hp.wPipe then ws.tail else ws) ∧ (if ws.head? = some Hp.wPipe then ws.tail else ws).length ≤ 1048576) := qh ⟨short_if P.sh, Nat.le_trans len_if P.ln⟩
 have hvc := P.vc
 have HPS := qh P
 clear P ht
 rw [HP.out]
 generalize (if ws.head? = some Hp.wPipe then ws.tail else ws) = ws' at *
 generalize decide (ws.head? = some Hp.wPipe) = b at *
 go_enter Tryz.func143, Tryz.ntmps143
 go_wp2_with fail
 refine HC.out.mono ?_
 rintro e w1 ⟨rfl, hr, hg⟩
 have HP1 := qh (HPS.out.read hr hg HS.out.1 HS.out.2)
 clear hr hg
 obtain ⟨v5, c5⟩ := HP1.out.cellH 5 (by omega)
 have f5 := HP1.out.frozenH 5
 go_wp2_with fail
 go_end0
 exact ⟨rfl, HP1.out.setPipe b⟩
theorem parse_backup (w0 wS : World) (g A H V : Nat) (h : Hp.Hop) (hh : h.backup = -1 ∧ h.repair = []) (ws : List Hp.Wd) (bad : Bool) (w : World) (ht : Tabs w0) (P : PSH w0 wS g A H V w h ws bad) :
  Calls Tryz.prog 142 #[.pointer (some ⟨V, 0, none⟩), .pointer (some ⟨H, 0, none⟩)] w fun e w' => e = .returned (.tuple #[]) ∧ PSH w0 wS g A H V w' { h with backup := (Hp.partB ws).1, repair := (Hp.partB ws).2.1 } (Hp.partB ws).2.2.2 (bad || (Hp.partB ws).2.2.1) := by
 have HC := qh (hop_takes g A Hp.wBackup ws (by have := P.ln; omega) bad w P.rd)
 have hvc := P.vc
 have HPS := qh P
 have HT := qh ht
 clear P ht
 by_cases c : ws.head? = some Hp.wBackup
 ·have HP : Hid (Hp.partB ws = ((numP (Hp.nums ws.tail).1).1, (numP (Hp.nums ws.tail).1).2.1, (numP (Hp.nums ws.tail).1).2.2, (Hp.nums ws.tail).2)) := by
   unfold Hp.partB
   rw [if_pos c]
   cases (Hp.nums ws.tail).1 <;> exact qh rfl
  rw [if_pos c, decide_eq_true c] at HC
  rw [HP.out]
  have HS : Hid (Short ws.tail ∧ ws.tail.length ≤ 1048576) := qh ⟨short_tail HPS.out.sh, by have := HPS.out.ln; simp; omega⟩
  clear c
  have HS2 : Hid (Short (Hp.nums ws.tail).2 ∧ (Hp.nums ws.tail).2.length ≤ 1048576) := qh ⟨short_nums HS.out.1, Nat.le_trans (len_nums _) HS.out.2⟩
  have HN : Hid (∀ w1, PSH w0 wS g A H V w1 h ws.tail bad → Calls Tryz.prog 141 #[.pointer (some ⟨g, 0, none⟩)] w1 fun e w' => ∃ v, e = .returned (.tuple #[.int .i64 (numP (Hp.nums ws.tail).1).1, v]) ∧ SlP (w1.heap.size ≤ ·) w' 1 encI v (numP (Hp.nums ws.tail).1).2.1 ∧ Rdr g A w' (Hp.nums ws.tail).2 (bad || (numP (Hp.nums ws.tail).1).2.2) ∧ w1.grownBy w' (some g)) :=
   qh fun w1 P1 => hop_number g A ws.tail HS.out.2 HS.out.1 bad w1 (P1.tabs HT.out) P1.rd.la (fun W hW => P1.tabsG HT.out hW) P1.rd
  generalize Hp.nums ws.tail = q at *
  obtain ⟨ql, rest⟩ := q
  generalize ws.tail = ws' at *
  simp only at *
  generalize hnp : numP ql = np at *
  obtain ⟨n, more, b⟩ := np
  clear hnp
  simp only at *
  go_enter Tryz.func142, Tryz.ntmps142
  go_wp2_with fail
  refine HC.out.mono ?_
  rintro e w1 ⟨rfl, hr, hg⟩
  have HP1 := qh (HPS.out.read hr hg HS.out.1 HS.out.2)
  have hvc1 := HP1.out.vc
  clear hr hg
  go_wp2_with fail
  refine (HN.out _ HP1.out).mono ?_
  rintro e w2 ⟨v, rfl, hv, hr, hg⟩
  have HP2 := qh (HP1.out.read hr hg HS2.out.1 HS2.out.2)
  have HV := qh (HP1.out.own hv)
  obtain ⟨p, cp, rfl, -, -, -, -⟩ := hv
  clear hr hg
  obtain ⟨v3, c3⟩ := HP2.out.cellH 3 (by omega)
  have f3 := HP2.out.frozenH 3
  obtain ⟨v4, c4⟩ := HP2.out.cellH 4 (by omega)
  have f4 := HP2.out.frozenH 4
  have HP3 := qh (HP2.out.setBackup n)
  have HV3 := qh (HV.out.grown (grown_set w2 H 3 (.int .i64 n)) (fun b hb => by have := hb.2.2; simpa using Ne.symm this))
  go_wp2_with fail
  go_end0
  exact ⟨rfl, HP3.out.setRepair HV3.out⟩
 ·have HP : Hid (Hp.partB ws = (-1, [], false, ws)) := by unfold Hp.partB; rw [if_neg c]; exact qh rfl
  rw [if_neg c, decide_eq_false c] at HC
  rw [HP.out]
  clear c
  go_enter Tryz.func142, Tryz.ntmps142
  go_wp2_with fail
  refine HC.out.mono ?_
  rintro e w1 ⟨rfl, hr, hg⟩
  have HP1 := qh (HPS.out.read hr hg HPS.out.sh HPS.out.ln)
  clear hr hg
  go_wp2_with fail
  go_end0
  refine ⟨rfl, ?_⟩
  obtain ⟨op, L, P, B, R, C⟩ := h
  obtain ⟨rfl, rfl⟩ := hh
  simpa using HP1.out
theorem PSH.setBad {w0 wS w : World} {g A H V : Nat} {h : Hp.Hop} {ws : List Hp.Wd} {bad : Bool} (P : PSH w0 wS g A H V w h ws bad) (b : Bool) : PSH w0 wS g A H V (w.setCell ⟨g, 1, none⟩ (.bool b)) h ws b := P.read (P.rd.setB b) (grown_set _ _ _ _) P.sh P.ln
theorem parse_port (w0 wS : World) (g A H V : Nat) (h : Hp.Hop) (hh : h.port = 0) (ws : List Hp.Wd) (w : World) (ht : Tabs w0) (P : PSH w0 wS g A H V w h ws false) :
  Calls Tryz.prog 139 #[.pointer (some ⟨H, 0, none⟩), .pointer (some ⟨V, 0, none⟩)] w fun e w' => e = .returned (.tuple #[]) ∧ PSH w0 wS g A H V w' { h with port := (Hp.partP h.op ws).1 } (Hp.partP h.op ws).2.2 (Hp.partP h.op ws).2.1 := by
 have HC := qh (hop_takes g A Hp.wPort ws (by have := P.ln; omega) false w P.rd)
 have hvc := P.vc
 have hop := P.op
 have HPS := qh P
 have HT := qh ht
 clear P ht
 have hself : Hid ({ h with port := 0 } = h) := by obtain ⟨op, L, q, B, R, C⟩ := h; subst hh; exact qh rfl
 by_cases h3 : h.op = 3
 ·have HP : Hid (Hp.partP h.op ws = (0, false, ws)) := by unfold Hp.partP; rw [if_neg (fun c => c.1 h3), decide_eq_false (by simpa using h3)]; exact qh rfl
  rw [HP.out]
  simp only
  rw [hself.out]
  rw [h3] at hop
  obtain ⟨_, _, -, c1, -, f1, -, -, -, -, -⟩ := HPS.out.rd.parts
  have hop' : ∀ k, (w.drewN k).cell? ⟨H, 0, none⟩ = some (.int .i64 3) := fun _ => hop
  clear h3 HP hself HC
  go_enter Tryz.func139, Tryz.ntmps139
  go_wp2_with fail
  go_still_tail 12, (by kernel_rfl)
  change wpList _ _ _ _ _ w.drew
  go_wp2_with fail
  go_end0
  exact ⟨rfl, HPS.out.drew.setBad false⟩
 ·have hne : (h.op != 3) = true := by simpa using h3
  by_cases c : ws.head? = some Hp.wPort
  ·have HP : Hid (Hp.partP h.op ws = ((numP (Hp.nums ws.tail).1).1, (decide ((numP (Hp.nums ws.tail).1).2.1 ≠ []) || (numP (Hp.nums ws.tail).1).2.2), (Hp.nums ws.tail).2)) := by
    unfold Hp.partP
    rw [if_pos ⟨h3, c⟩]
    cases (Hp.nums ws.tail).1 with
    | nil => exact qh rfl
    | cons n more => exact qh (by simp only [numP, Bool.or_false]; exact Prod.ext rfl (Prod.ext (decide_eq_decide.2 Iff.rfl) rfl))
   rw [if_pos c, decide_eq_true c] at HC
   rw [HP.out]
   have HS : Hid (Short ws.tail ∧ ws.tail.length ≤ 1048576) := qh ⟨short_tail HPS.out.sh, by have := HPS.out.ln; simp; omega⟩
   clear c
   have HS2 : Hid (Short (Hp.nums ws.tail).2 ∧ (Hp.nums ws.tail).2.length ≤ 1048576) := qh ⟨short_nums HS.out.1, Nat.le_trans (len_nums _) HS.out.2⟩
   have HN : Hid (∀ w1, PSH w0 wS g A H V w1 h ws.tail false → Calls Tryz.prog 141 #[.pointer (some ⟨g, 0, none⟩)] w1 fun e w' => ∃ v, e = .returned (.tuple #[.int .i64 (numP (Hp.nums ws.tail).1).1, v]) ∧ SlP (w1.heap.size ≤ ·) w' 1 encI v (numP (Hp.nums ws.tail).1).2.1 ∧ Rdr g A w' (Hp.nums ws.tail).2 (false || (numP (Hp.nums ws.tail).1).2.2) ∧ w1.grownBy w' (some g)) :=
    qh fun w1 P1 => hop_number g A ws.tail HS.out.2 HS.out.1 false w1 (P1.tabs HT.out) P1.rd.la (fun W hW => P1.tabsG HT.out hW) P1.rd
   generalize Hp.nums ws.tail = q at *
   obtain ⟨ql, rest⟩ := q
   generalize ws.tail = ws' at *
   simp only at *
   generalize hnp : numP ql = np at *
   obtain ⟨n, more, b⟩ := np
   clear hnp h3
   simp only [Bool.false_or] at *
   go_enter Tryz.func139, Tryz.ntmps139
   go_wp2_with fail
   refine HC.out.mono ?_
   rintro e w1 ⟨rfl, hr, hg⟩
   have HP1 := qh (HPS.out.read hr hg HS.out.1 HS.out.2)
   have hvc1 := HP1.out.vc
   clear hr hg
   go_wp2_with fail
   refine (HN.out _ HP1.out).mono ?_
   rintro e w2 ⟨v, rfl, hv, hr, hg⟩
   have HP2 := qh (HP1.out.read hr hg HS2.out.1 HS2.out.2)
   obtain ⟨p, cp, rfl, -, -, -, -⟩ := hv
   clear hr hg
   obtain ⟨v2, c2⟩ := HP2.out.cellH 2 (by omega)
   have f2 := HP2.out.frozenH 2
   have HP3 := qh (HP2.out.setPort n)
   have hvc3 := HP3.out.vc
   obtain ⟨_, _, -, c1, -, f1, -, -, -, -, -⟩ := HP3.out.rd.parts
   cases b
   ·by_cases hm : more = []
    ·subst hm
     have HB := qh (HP3.out.drew.setBad false)
     simp only [List.length_nil]
     go_wp2_with fail
     generalize w2.setCell ⟨H, 2, none⟩ (.int .i64 n) = w3 at *
     go_still_tail 12, (by kernel_rfl)
     change wpList _ _ _ _ _ (World.drew _)
     go_wp2_with fail
     go_end0
     exact ⟨rfl, HB.out⟩
    ·have hml : 0 < more.length := List.length_pos_iff.2 hm
     have HB : Hid (PSH w0 wS g A H V ((w2.setCell ⟨H, 2, none⟩ (.int .i64 n)).drew.setCell ⟨g, 1, none⟩ (.bool true)) { h with port := n } rest (decide (more ≠ []) || false)) := by rw [decide_eq_true hm]; exact qh (HP3.out.drew.setBad true)
     clear hm
     go_wp2_with fail
     generalize w2.setCell ⟨H, 2, none⟩ (.int .i64 n) = w3 at *
     go_still_tail 12, (by kernel_rfl)
     change wpList _ _ _ _ _ (World.drew _)
     go_wp2_with fail
     go_end0
     exact ⟨rfl, HB.out⟩
   ·have HB : Hid (PSH w0 wS g A H V ((w2.setCell ⟨H, 2, none⟩ (.int .i64 n)).drew.setCell ⟨g, 1, none⟩ (.bool true)) { h with port := n } rest (decide (more ≠ []) || true)) := by rw [Bool.or_true]; exact qh (HP3.out.drew.setBad true)
    go_wp2_with fail
    generalize w2.setCell ⟨H, 2, none⟩ (.int .i64 n) = w3 at *
    go_still_tail 12, (by kernel_rfl)
    change wpList _ _ _ _ _ (World.drew _)
    go_wp2_with fail
    go_end0
    exact ⟨rfl, HB.out⟩
  ·have HP : Hid (Hp.partP h.op ws = (0, true, ws)) := by unfold Hp.partP; rw [if_neg (fun x => c x.2), decide_eq_true (by simpa using h3)]; exact qh rfl
   rw [if_neg c, decide_eq_false c] at HC
   rw [HP.out]
   simp only
   rw [hself.out]
   clear c h3 HP hself
   go_enter Tryz.func139, Tryz.ntmps139
   go_wp2_with fail
   refine HC.out.mono ?_
   rintro e w1 ⟨rfl, hr, hg⟩
   have HP1 := qh (HPS.out.read hr hg HPS.out.sh HPS.out.ln)
   have hvc1 := HP1.out.vc
   have hop1 := HP1.out.op
   obtain ⟨_, _, -, c1, -, f1, -, -, -, -, -⟩ := HP1.out.rd.parts
   clear hr hg
   go_wp2_with fail
   go_still_tail 12, (by kernel_rfl)
   change wpList _ _ _ _ _ w1.drew
   go_wp2_with fail
   go_end0
   exact ⟨rfl, HP1.out.drew.setBad true⟩
end Go.Proofs.YtdbgeobolongmaaGreatDoor
