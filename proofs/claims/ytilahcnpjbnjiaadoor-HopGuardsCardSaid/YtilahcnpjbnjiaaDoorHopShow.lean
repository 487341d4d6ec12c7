/- hop.Show. -/
import Derived.Test.YtilahcnpjbnjiaaDoorHopNum
import Derived.Test.YtilahcnpjbnjiaaDoorHeld2
import Derived.Deep.DeepCutAuto
namespace Go.Proofs.YtilahcnpjbnjiaaDoor
set_option linter.unusedVariables false
set_option linter.unusedSimpArgs false
open Go.RowKit Go.Shelf Go.Proofs Go.OctetPlain

/-! ## joined words -/
theorem hjoin_eq : ∀ ws : List Hp.Wd, Lib.join ws [32] = Hp.join ws
  | [] => rfl
  | [w] => by simp [Lib.join_one, Hp.join]
  | w :: v :: ws => by
    have ih := hjoin_eq (v :: ws)
    rw [Hp.join, ← ih]
    simp [Lib.join]
theorem hjoin_le {k : Nat} : ∀ ws : List Hp.Wd, (∀ w ∈ ws, w.length ≤ k) → (Hp.join ws).length ≤ (k + 1) * ws.length
  | [], _ => by simp [Hp.join]
  | [w], h => by have := h w List.mem_cons_self; simp only [Hp.join, List.length_cons, List.length_nil]; omega
  | w :: v :: ws, h => by
    have h1 := h w List.mem_cons_self
    have h2 := hjoin_le (v :: ws) fun u hu => h u (List.mem_cons_of_mem _ hu)
    rw [Hp.join, List.length_append, List.length_cons]
    simp only [List.length_cons] at h2 ⊢
    rw [Nat.mul_add (k + 1) (ws.length + 1) 1]
    omega
set_option maxRecDepth 100000 in
theorem joinExtraH : Builder.Extra Tryd.prog Tryd.join_ren := {
  sizeBuilder := by kernel_rfl
  liesBuilder := by kernel_rfl
  t5 := Tryd.underlying5
  a5 := fun w => run_isAgg_plain Tryd.underlying5 rfl w
  z5 := Tryd.sizeOf5
  v5 := Tryd.zeroValue5
  infoByte := by kernel_rfl
  cellsByte := by kernel_rfl
  sizeByte := by kernel_rfl
  neB5 := by decide }
/-- 'strings.Join(words, " ")' -/
theorem joinS_any (ws : List Hp.Wd) (hw : ws.length ≤ 1048576) (hll : (Hp.join ws).length ≤ 140737488355328) (v : Value) (w : World) (hv : SlR w 1 encS v ws) :
    Calls Tryd.prog 24 #[v, .string ⟨#[32]⟩] w fun e w' => e = .returned (.string (str (Hp.join ws))) ∧ Below w.heap.size w w' := by
  obtain ⟨p, cap, rfl, hd1, hd2, hR⟩ := hv
  have hjs : Lib.join ((ws.map str).map (·.data.toList)) (⟨#[32]⟩ : ByteArray).data.toList = Hp.join ws := by
    rw [List.map_map]
    have : (fun s : ByteArray => s.data.toList) ∘ str = id := by funext l; exact list_str l
    rw [this, List.map_id]
    exact hjoin_eq ws
  cases p with
  | none =>
    have h0 := hR.1 rfl
    have hL0 : ws = [] := List.eq_nil_of_length_eq_zero (by omega)
    subst hL0
    exact (Any.strings_Join_none Tryd.join joinExtraH none cap ⟨#[32]⟩ w).mono fun e w' h => ⟨h.1, by rw [h.2]; exact Below.refl _ _⟩
  | some a =>
    obtain ⟨hsp, hbk, hcl⟩ := hR.2 a rfl
    have ha : a = ⟨a.block, a.off, none⟩ := by cases a; simp only at hsp; subst hsp; rfl
    have hcon := Any.strings_Join Tryd.join joinExtraH a.block a.off cap (ws.map str) ⟨#[32]⟩ w (fun j x hx => by
      rw [List.getElem?_map] at hx
      cases hy : ws[j]? with
      | none => rw [hy] at hx; cases hx
      | some y =>
        rw [hy] at hx
        cases hx
        have := hcl j y hy 0 (.string (str y)) rfl
        simpa using this) hbk (by simp; omega) (by simpa using hd1) (by rw [hjs]; exact hll)
    rw [hjs, List.length_map] at hcon
    rw [ha]
    exact hcon

/-! ## rows of the call's own -/
theorem owns_lit (W : World) (e : TypeId) (cs : Array Value) (n : Nat) (hn : cs.size = n) (hm : n ≤ 1048576) : (W.alloc (.cells cs e)).ownsRow W.heap.size e 1 (.slice (some ⟨W.heap.size, 0, none⟩) n n) n cs.toList := by
  subst hn
  exact ⟨by simp, .inr ⟨W.heap.size, cs.size, cs, rfl, Nat.le_refl _, heap_alloc_new W _, Nat.le_refl _, by unfold maxLen; omega, by simp, List.take_of_length_le (by simp)⟩⟩
/-- append of what a slice holds, as a step -/
theorem wp_app_sl {α : Type} {P : Program} {w : World} {o : Oper} {a : Act} {K : Act → World → Prop} {Q : Exit → Act → World → Prop} {t e : TypeId} {size bytes : Nat} (hE : ElemOk P t e size bytes) (s x : Operand)
    (ho : o.op = .call { callee := .builtin .append, args := #[s, x], argTypes := #[t, t] })
    (base : Nat) (v : Value) (n : Nat) (xs : List Value) (hs : a.eval s = v) (hown : w.ownsRow base e size v n xs)
    (enc : α → List Value) (hk : ∀ x, (enc x).length = size) (p : Option Addr) (c : Nat) (ys : List α) (hx : a.eval x = .slice p ys.length c) (hr : RdP w size enc p ys) (h1 : ∀ y, ∀ u ∈ enc y, u.oneCell' = true)
    (hsm : n + ys.length ≤ 1099511627776) (hbase : base ≤ w.heap.size)
    (h : ∀ v' w', w'.ownsRow base e size v' (n + ys.length) (xs ++ flat enc ys) → Below base w w' → K (a.put o.dst v') w') : o.wp P a w K Q := by
  have hE' := hE
  obtain ⟨ht, hb, hsz, i, z, hi, hz, hsize, hby, hzs⟩ := hE
  cases p with
  | none =>
    have h0 := hr.1 rfl
    have hys : ys = [] := List.eq_nil_of_length_eq_zero h0
    subst hys
    have hrun := run_append_none (ty := o.type) w hE' hown c
    unfold Oper.wp execOp
    simp only [List.length_nil] at hx
    simp only [ho, resolve, invoke, builtin, Sem.run_bind, Sem.run_pure, Result.andThen_ok, List.map_toArray, List.map_cons, List.map_nil, hs, hx, hrun]
    exact h v w (by simpa [flat] using hown) (Below.refl _ _)
  | some ad =>
    obtain ⟨hsp, _, hcell⟩ := hr.2 ad rfl
    have hnews : ∀ j u, (flat enc ys)[j]? = some u → w.cell? (ad.add j) = some u := by
      intro j u hu
      have hjl : j < (flat enc ys).length := (List.getElem?_eq_some_iff.1 hu).1
      rw [flat_length hk] at hjl
      have hi' : j / size < ys.length := Nat.div_lt_of_lt_mul (by rw [Nat.mul_comm]; exact hjl)
      have hm : j % size < (enc ys[j / size]).length := by rw [hk]; exact Nat.mod_lt _ hsz
      have hfl := flat_at hk (List.getElem?_eq_getElem hi') (List.getElem?_eq_getElem hm)
      have hj : j / size * size + j % size = j := by rw [Nat.mul_comm]; exact Nat.div_add_mod j size
      rw [hj, hu] at hfl
      have := hcell _ _ (List.getElem?_eq_getElem hi') _ _ ((List.getElem?_eq_getElem hm).trans hfl.symm)
      rw [← this]
      congr 1
      unfold Addr.add
      split
      · rename_i h0; subst h0; cases ad; simp_all
      · cases ad; simp only [Addr.mk.injEq, true_and, and_true]; omega
    obtain ⟨v', w', hr', h2, h3, h4, h5⟩ := run_append_own_at (P := P) w base t o.type e i z size bytes ht hi hz hsize hby hzs hsz v n xs hown ad ys.length c (flat enc ys) (flat_length hk ys) hnews (by intro u hu; simp only [flat, List.mem_flatMap] at hu; obtain ⟨y, _, hy⟩ := hu; exact h1 y u hy) (by unfold maxLen; omega) (size_bytes hsm hb) hbase
    unfold Oper.wp execOp
    simp only [ho, resolve, invoke, builtin, Sem.run_bind, Sem.run_pure, Result.andThen_ok, List.map_toArray, List.map_cons, List.map_nil, hs, hx, hr']
    exact h v' w' h2 (below_grown (Below.refl _ _) h3 hown (Nat.le_refl _) hbase)
theorem encS_one (s : List UInt8) : ∀ u ∈ encS s, u.oneCell' = true := by
  intro u hu; simp only [encS, List.mem_singleton] at hu; subst hu; rfl

/-! ## Show -/
/-- the hop's box is whole -/
structure ShB (w W : World) (c0 c1 c2 c3 c4 c5 : Value) : Prop where
  b : Blk W w.heap.size 24 #[c0, c1, c2, c3, c4, c5]
  bel : Below w.heap.size w W
section
variable {w W : World} {c0 c1 c2 c3 c4 c5 : Value}
theorem ShB.next (h : ShB w W c0 c1 c2 c3 c4 c5) {W' : World} {B : Nat} (hb : Below B W W') (hB : w.heap.size < B) : ShB w W' c0 c1 c2 c3 c4 c5 := ⟨h.b.below hb hB, h.bel.trans (hb.mono (by omega))⟩
theorem ShB.drew (h : ShB w W c0 c1 c2 c3 c4 c5) : ShB w W.drew c0 c1 c2 c3 c4 c5 := ⟨h.b.drew, h.bel.drew⟩
theorem ShB.step (h : ShB w W c0 c1 c2 c3 c4 c5) {W' : World} (hb : Below W.heap.size W W') : ShB w W' c0 c1 c2 c3 c4 c5 := h.next hb h.b.lt
theorem ShB.cs (h : ShB w W c0 c1 c2 c3 c4 c5) : W.cell? ⟨w.heap.size, 0, none⟩ = some c0 ∧ W.cell? ⟨w.heap.size, 1, none⟩ = some c1 ∧ W.cell? ⟨w.heap.size, 2, none⟩ = some c2 ∧ W.cell? ⟨w.heap.size, 3, none⟩ = some c3 ∧ W.cell? ⟨w.heap.size, 4, none⟩ = some c4 ∧ W.cell? ⟨w.heap.size, 5, none⟩ = some c5 :=
  ⟨h.b.cell 0, h.b.cell 1, h.b.cell 2, h.b.cell 3, h.b.cell 4, h.b.cell 5⟩
end
/-- words so far -/
structure ShS (w W : World) (c0 c1 c2 c3 c4 c5 : Value) (ws : List Hp.Wd) (v : Value) : Prop where
  S : ShB w W c0 c1 c2 c3 c4 c5
  own : W.ownsRow (w.heap.size + 1) 9 1 v ws.length (flat encS ws)
theorem ShS.next {w W : World} {c0 c1 c2 c3 c4 c5 : Value} {ws : List Hp.Wd} {v : Value} (h : ShS w W c0 c1 c2 c3 c4 c5 ws v) {W' : World} (hb : Below W.heap.size W W') : ShS w W' c0 c1 c2 c3 c4 c5 ws v := ⟨h.S.step hb, owns_below h.own hb (Nat.le_refl _)⟩
theorem ShS.app {w W : World} {c0 c1 c2 c3 c4 c5 : Value} {ws : List Hp.Wd} {v : Value} (h : ShS w W c0 c1 c2 c3 c4 c5 ws v) {W' : World} {v' : Value} (us : List Hp.Wd) (ho : W'.ownsRow (w.heap.size + 1) 9 1 v' (ws.length + us.length) (flat encS ws ++ flat encS us)) (hb : Below (w.heap.size + 1) W W') : ShS w W' c0 c1 c2 c3 c4 c5 (ws ++ us) v' :=
  ⟨h.S.next hb (Nat.lt_succ_self _), by rw [List.length_append, flat_append]; exact ho⟩

theorem dec_len {n : Int} (h : n ≤ 1048575) : (Hp.dec n).length ≤ 19 := by
  unfold Hp.dec; rw [Lib.decDigits_length]; exact nDigits_le19 _ (by omega)
theorem showW_len {h : Hp.Hop} (v : Hp.Valid h) : (Hp.showW h).length ≤ 40 ∧ ∀ w ∈ Hp.showW h, w.length ≤ 19 := by
  have e1 := v.n1
  have e2 := v.n2
  have hp1 := v.p1
  have hp2 := v.p2
  have hq := v.q1
  have hb := v.b1
  refine ⟨?_, fun w hw => ?_⟩
  · unfold Hp.showW
    simp only [List.length_append, List.length_map, List.length_cons, List.length_nil]
    split <;> split <;> split <;> simp <;> omega
  · unfold Hp.showW at hw
    simp only [List.mem_append, List.mem_map, List.mem_singleton, List.mem_cons, List.not_mem_nil, or_false] at hw
    rcases hw with (((rfl | ⟨n, hn, rfl⟩) | hw) | hw) | hw
    · unfold Hp.opW; (repeat' split) <;> simp [Hp.wPush, Hp.wSwap, Hp.wPop, Hp.wHere]
    · exact dec_len (Hp.pushed_bd (hp1 n hn)).2
    · split at hw
      · simp only [List.mem_cons, List.not_mem_nil, or_false] at hw
        rcases hw with rfl | rfl
        · simp [Hp.wPort]
        · exact dec_len (by omega)
      · simp at hw
    · split at hw
      · simp only [List.mem_cons, List.mem_map] at hw
        rcases hw with rfl | rfl | ⟨n, hn, rfl⟩
        · simp [Hp.wBackup]
        · exact dec_len (by omega)
        · exact dec_len (Hp.pushed_bd (hp2 n hn)).2
      · simp at hw
    · split at hw
      · simp only [List.mem_singleton] at hw
        subst hw; simp [Hp.wPipe]
      · simp at hw
set_option maxRecDepth 100000 in
set_option maxHeartbeats 4000000 in
theorem hop_Show (h : Hp.Hop) (V : Hp.Valid h) (l r : Value) (w : World) (ht : Tabs w) (H : HopIs w h l r) :
    Calls Tryd.prog 12 #[.agg (hopA h l r)] w fun e w' => e = .returned (.string (str (Hp.showR h))) ∧ Below w.heap.size w w' := by
  have hsl := showW_len V
  have hjl : (Hp.join (Hp.showW h)).length ≤ 140737488355328 := by have := hjoin_le _ hsl.2; omega
  have HJ : Hid (∀ v W, SlR W 1 encS v (Hp.showW h) → Calls Tryd.prog 24 #[v, .string ⟨#[32]⟩] W fun e w' => e = .returned (.string (str (Hp.showR h))) ∧ Below W.heap.size W w') := Lib.hid fun v W hv => joinS_any _ (by omega) hjl v W hv
  have HDL : Hid (∀ W, Below w.heap.size w W → Calls Tryd.prog 22 #[l] W fun e w' => ∃ v', e = .returned v' ∧ w'.ownsRow W.heap.size 9 1 v' h.labels.length (flat encS (h.labels.map Hp.dec)) ∧ Below W.heap.size W w') :=
    Lib.hid fun W hW => hop_digits _ (by have := V.n1; omega) (fun n hn => Hp.pushed_bd (V.p1 n hn)) l W (ht.next hW (Nat.le_refl _)) (H.sl.below hW (Nat.le_refl _))
  have HDR : Hid (∀ W, Below w.heap.size w W → Calls Tryd.prog 22 #[r] W fun e w' => ∃ v', e = .returned v' ∧ w'.ownsRow W.heap.size 9 1 v' h.repair.length (flat encS (h.repair.map Hp.dec)) ∧ Below W.heap.size W w') :=
    Lib.hid fun W hW => hop_digits _ (by have := V.n2; omega) (fun n hn => Hp.pushed_bd (V.p2 n hn)) r W (ht.next hW (Nat.le_refl _)) (H.sr.below hW (Nat.le_refl _))
  have HOP := Lib.hid fun W => hop_op h.op W
  have HDP : Hid (∀ W, Below w.heap.size w W → Calls Tryd.prog 23 #[.int .i64 h.port] W fun e w' => e = .returned (.string (str (Hp.dec h.port))) ∧ Below W.heap.size W w') := Lib.hid fun W hW => by
    have := octet_Digits h.port (by have := V.q0; have := V.q1; omega) W (ht.next hW (Nat.le_refl _))
    rw [itoa_pos V.q0] at this; exact this
  have HDB : Hid (h.backup ≠ -1 → ∀ W, Below w.heap.size w W → Calls Tryd.prog 23 #[.int .i64 h.backup] W fun e w' => e = .returned (.string (str (Hp.dec h.backup))) ∧ Below W.heap.size W w') := Lib.hid fun hb W hW => by
    have := octet_Digits h.backup (by have := V.b0; have := V.b1; omega) W (ht.next hW (Nat.le_refl _))
    rw [itoa_pos (by have := V.b0; omega)] at this; exact this
  have HL := Lib.hid hsl.1
  have HW : Hid (Hp.showW h = [Hp.opW h.op] ++ h.labels.map Hp.dec ++ (if h.op ≠ 3 then [Hp.wPort, Hp.dec h.port] else []) ++ (if h.backup ≠ -1 then Hp.wBackup :: Hp.dec h.backup :: h.repair.map Hp.dec else []) ++ (if h.pipe then [Hp.wPipe] else [])) := Lib.hid rfl
  have n1 := V.n1
  have n2 := V.n2
  obtain ⟨-, -, ⟨p1, c1, rfl, -, -, -⟩, ⟨p2, c2, rfl, -, -, -⟩⟩ := H
  obtain ⟨op, L, P, B, R, C⟩ := h
  unfold hopA
  simp only at *
  clear V ht hsl hjl
  generalize Hp.opW op = ow at *
  go_enter Tryd.func12, Tryd.ntmps12
  go_upto_region 1 with fail
  go_cut [3] from 4 to 41 (fun s3 wx => Hid (ShS w wx (.int .i64 op) (.slice p1 L.length c1) (.int .i64 P) (.int .i64 B) (.slice p2 R.length c2) (.bool C) ([ow] ++ L.map Hp.dec) s3))
  case first =>
    have H0 : ShB w (w.alloc (.cells #[.int .i64 op, .slice p1 L.length c1, .int .i64 P, .int .i64 B, .slice p2 R.length c2, .bool C] 24)) (.int .i64 op) (.slice p1 L.length c1) (.int .i64 P) (.int .i64 B) (.slice p2 R.length c2) (.bool C) := ⟨Blk.new _ _ _, belowA w _⟩
    refine wp_region_held_drew (S := fun W => ShB w W (.int .i64 op) (.slice p1 L.length c1) (.int .i64 P) (.int .i64 B) (.slice p2 R.length c2) (.bool C)) (by kernel_rfl) H0.drew (fun hHeld => ?_)
    refine wpAnyH_take (i := 0) (v := ?_) rfl (by kernel_rfl) (by kernel_rfl) (by kernel_rfl) (fun _ _ _ h => h) (Or.inl ⟨by rfl, ?_⟩) (by assumption) ?_
    rotate_left
    · intro w hSw; go_simp; try with_reducible rfl
    simp only [Act.put, List.setIfInBounds_toArray, List.set_cons_zero, List.set_cons_succ, List.getElem_toArray, List.getElem_cons_zero, List.getElem_cons_succ]
    refine wpAnyH_take (i := 1) (v := ?_) rfl (by kernel_rfl) (by kernel_rfl) (by kernel_rfl) (fun _ _ _ h => h) (Or.inl ⟨by rfl, ?_⟩) (by assumption) ?_
    rotate_left
    · intro w h; have hf := h.cs.1; go_simp; try with_reducible rfl
    simp only [Act.put, List.setIfInBounds_toArray, List.set_cons_zero, List.set_cons_succ, List.getElem_toArray, List.getElem_cons_zero, List.getElem_cons_succ]
    refine wpAnyH_take (i := 4) (v := ?_) rfl (by kernel_rfl) (by kernel_rfl) (by kernel_rfl) (fun _ _ _ h => h) (Or.inl ⟨by rfl, ?_⟩) (by assumption) ?_
    rotate_left
    · intro w hSw; go_simp; try with_reducible rfl
    simp only [Act.put, List.setIfInBounds_toArray, List.set_cons_zero, List.set_cons_succ, List.getElem_toArray, List.getElem_cons_zero, List.getElem_cons_succ]
    refine wpAnyH_take (i := 5) (v := ?_) rfl (by kernel_rfl) (by kernel_rfl) (by kernel_rfl) (fun _ _ _ h => h) (Or.inl ⟨by rfl, ?_⟩) (by assumption) ?_
    rotate_left
    · intro w h; have hf := h.cs.2.1; go_simp; try with_reducible rfl
    simp only [Act.put, List.setIfInBounds_toArray, List.set_cons_zero, List.set_cons_succ, List.getElem_toArray, List.getElem_cons_zero, List.getElem_cons_succ]
    refine held_step (i := 2) rfl (by kernel_rfl) (by rfl) (fun K hK => ?_)
    go_simp
    refine (HOP.out _).mono ?_; rintro e w1 ⟨rfl, hb1⟩
    go_wp2_with fail
    refine hK.out _ _ (ShB.step (by assumption) hb1) (fun hHeld => ?_)
    clear hK K
    try simp only [Act.put, List.setIfInBounds_toArray, List.set_cons_zero, List.set_cons_succ, List.getElem_toArray, List.getElem_cons_zero, List.getElem_cons_succ]
    refine held_two (i := 3) (j := 6) rfl rfl (by kernel_rfl) (by rfl) (by rfl) (fun K hK => ?_) (fun K hK => ?_)
    · go_simp
      have hz1 := (ShB.b (by assumption)).lt
      refine hK.out _ _ (ShB.step (by assumption) (belowA _ _)) (fun hHeld => ?_)
      clear hK K
      try simp only [Act.put, List.setIfInBounds_toArray, List.set_cons_zero, List.set_cons_succ, List.getElem_toArray, List.getElem_cons_zero, List.getElem_cons_succ]
      refine held_step (i := 6) rfl (by kernel_rfl) (by rfl) (fun K hK => ?_)
      go_simp
      refine (HDL.out _ (ShB.bel (by assumption))).mono ?_; rintro e w2 ⟨v2, rfl, ho2, hb2⟩; obtain ⟨p3, c3, rfl, -, -, hR3⟩ := SlR.of_owns encS_len (by simpa using ho2 : w2.ownsRow _ _ 1 v2 (L.map Hp.dec).length (flat encS (L.map Hp.dec)))
      go_wp2_with fail
      refine hK.out _ _ (ShB.step (by assumption) hb2) (fun hHeld => ?_)
      clear hK K
      try simp only [Act.put, List.setIfInBounds_toArray, List.set_cons_zero, List.set_cons_succ, List.getElem_toArray, List.getElem_cons_zero, List.getElem_cons_succ]
      refine held_step (i := 7) rfl (by kernel_rfl) (by rfl) (fun K hK => ?_)
      refine wp_app_sl elemS (.tmp 7) (.tmp 10) rfl (w.heap.size + 1) _ 1 [.string (str ow)] rfl (owns_base (owns_below (owns_lit w1 _ #[.string (str ow)] 1 rfl (by omega)) hb2 (Nat.le_refl _)) hz1) encS encS_len p3 c3 (L.map Hp.dec) (by rw [List.length_map]; rfl) (hR3) encS_one (by simp; omega) (by have := (ShB.b (by assumption)).lt; omega) ?_
      intro v4 w4 hown4 hb4
      refine hK.out _ _ (ShB.next (by assumption) hb4 (by omega)) (fun hHeld => ?_)
      clear hK K
      try simp only [Act.put, List.setIfInBounds_toArray, List.set_cons_zero, List.set_cons_succ, List.getElem_toArray, List.getElem_cons_zero, List.getElem_cons_succ]
      refine wpAnyH_take (i := 8) (v := ?_) rfl (by kernel_rfl) (by kernel_rfl) (by kernel_rfl) (fun _ _ _ h => h) (Or.inl ⟨by rfl, ?_⟩) (by assumption) ?_
      rotate_left
      · intro w hSw; go_simp; try with_reducible rfl
      try simp only [Act.put, List.setIfInBounds_toArray, List.set_cons_zero, List.set_cons_succ, List.getElem_toArray, List.getElem_cons_zero, List.getElem_cons_succ]
      refine wpAnyH_done (by kernel_rfl) ?_ _
      go_wp2_with fail
      go_meet
      exact Lib.hid ⟨by assumption, by rw [List.length_append, List.length_map, flat_append]; rw [List.length_map] at hown4; exact hown4⟩
    · go_simp
      refine (HDL.out _ (ShB.bel (by assumption))).mono ?_; rintro e w2 ⟨v2, rfl, ho2, hb2⟩; obtain ⟨p3, c3, rfl, -, -, hR3⟩ := SlR.of_owns encS_len (by simpa using ho2 : w2.ownsRow _ _ 1 v2 (L.map Hp.dec).length (flat encS (L.map Hp.dec)))
      go_wp2_with fail
      refine hK.out _ _ (ShB.step (by assumption) hb2) (fun hHeld => ?_)
      clear hK K
      try simp only [Act.put, List.setIfInBounds_toArray, List.set_cons_zero, List.set_cons_succ, List.getElem_toArray, List.getElem_cons_zero, List.getElem_cons_succ]
      have hz1 := (ShB.b (by assumption)).lt
      refine held_step (i := 3) rfl (by kernel_rfl) (by rfl) (fun K hK => ?_)
      go_simp
      refine hK.out _ _ (ShB.step (by assumption) (belowA _ _)) (fun hHeld => ?_)
      clear hK K
      try simp only [Act.put, List.setIfInBounds_toArray, List.set_cons_zero, List.set_cons_succ, List.getElem_toArray, List.getElem_cons_zero, List.getElem_cons_succ]
      refine held_step (i := 7) rfl (by kernel_rfl) (by rfl) (fun K hK => ?_)
      refine wp_app_sl elemS (.tmp 7) (.tmp 10) rfl (w.heap.size + 1) _ 1 [.string (str ow)] rfl (owns_base (owns_lit w2 _ #[.string (str ow)] 1 rfl (by omega)) hz1) encS encS_len p3 c3 (L.map Hp.dec) (by rw [List.length_map]; rfl) (hR3.below (belowA _ _) (Nat.le_refl _)) encS_one (by simp; omega) (by have := (ShB.b (by assumption)).lt; omega) ?_
      intro v4 w4 hown4 hb4
      refine hK.out _ _ (ShB.next (by assumption) hb4 (by omega)) (fun hHeld => ?_)
      clear hK K
      try simp only [Act.put, List.setIfInBounds_toArray, List.set_cons_zero, List.set_cons_succ, List.getElem_toArray, List.getElem_cons_zero, List.getElem_cons_succ]
      refine wpAnyH_take (i := 8) (v := ?_) rfl (by kernel_rfl) (by kernel_rfl) (by kernel_rfl) (fun _ _ _ h => h) (Or.inl ⟨by rfl, ?_⟩) (by assumption) ?_
      rotate_left
      · intro w hSw; go_simp; try with_reducible rfl
      try simp only [Act.put, List.setIfInBounds_toArray, List.set_cons_zero, List.set_cons_succ, List.getElem_toArray, List.getElem_cons_zero, List.getElem_cons_succ]
      refine wpAnyH_done (by kernel_rfl) ?_ _
      go_wp2_with fail
      go_meet
      exact Lib.hid ⟨by assumption, by rw [List.length_append, List.length_map, flat_append]; rw [List.length_map] at hown4; exact hown4⟩
  case rest =>
    have H1 := hcut
    clear hcut
    obtain ⟨d0, d1, d2, d3, d4, d5⟩ := H1.out.S.cs
    go_upto_if 14 with fail
    go_cut [3] from 14 to 41 (fun s3 wx => Hid (ShS w wx (.int .i64 op) (.slice p1 L.length c1) (.int .i64 P) (.int .i64 B) (.slice p2 R.length c2) (.bool C) ([ow] ++ L.map Hp.dec ++ (if op ≠ 3 then [Hp.wPort, Hp.dec P] else [])) s3))
    case first =>
      by_cases ho : op = 3
      · subst ho
        go_wp2_with fail
        go_meet
        rw [if_neg (by simp), List.append_nil]
        exact H1
      · have hne : (op != 3) = true := by simpa using ho
        go_wp2_with fail
        refine (HDP.out _ H1.out.S.bel).mono ?_
        rintro e w2 ⟨rfl, hb2⟩
        have H2 := Lib.hid (H1.out.next hb2)
        have hlt := H2.out.S.b.lt
        clear hb2
        go_wp2_with (at_builtin; go_loud (refine wpList_app elemS rfl (.tmp 15) (.tmp 19) rfl (w.heap.size + 1) u3 _ _ rfl H2.out.own 2 2 [.string _, .string _] rfl rfl (by simp [Value.oneCell']) (by simp; omega) (by omega) ?_; intro v4 w4 hown4 _ _ hb4))
        go_meet
        rw [if_pos ho]
        exact Lib.hid (H2.out.app [Hp.wPort, Hp.dec P] hown4 hb4)
    case rest =>
      have H2 := hcut
      clear hcut H1 d0 d1 d2 d3 d4 d5
      obtain ⟨d0, d1, d2, d3, d4, d5⟩ := H2.out.S.cs
      have hWl : ([ow] ++ L.map Hp.dec ++ (if op ≠ 3 then [Hp.wPort, Hp.dec P] else [])).length ≤ 40 := by
        simp only [List.length_append, List.length_map, List.length_cons, List.length_nil]
        split <;> simp <;> omega
      generalize hW1 : ([ow] ++ L.map Hp.dec ++ (if op ≠ 3 then [Hp.wPort, Hp.dec P] else [])) = W1 at *
      have HW1 := Lib.hid hW1
      clear hW1
      go_upto_if 23 with fail
      go_cut [3] from 23 to 41 (fun s3 wx => Hid (ShS w wx (.int .i64 op) (.slice p1 L.length c1) (.int .i64 P) (.int .i64 B) (.slice p2 R.length c2) (.bool C) (W1 ++ (if B ≠ -1 then Hp.wBackup :: Hp.dec B :: R.map Hp.dec else [])) s3))
      case first =>
        by_cases ho : B = -1
        · subst ho
          go_wp2_with fail
          go_meet
          rw [if_neg (by simp), List.append_nil]
          exact H2
        · have hne : (B != -1) = true := by simpa using ho
          have HDB2 := Lib.hid (HDB.out ho)
          have HO := Lib.hid ho
          clear ho
          go_wp2_with fail
          refine (HDB2.out _ H2.out.S.bel).mono ?_
          rintro e w2 ⟨rfl, hb2⟩
          have H3 := Lib.hid (H2.out.next hb2)
          have hlt := H3.out.S.b.lt
          clear hb2
          go_wp2_with (at_builtin; go_loud (refine wpList_app elemS rfl (.tmp 24) (.tmp 28) rfl (w.heap.size + 1) u3 _ _ rfl H3.out.own 2 2 [.string _, .string _] rfl rfl (by simp [Value.oneCell']) (by omega) (by omega) ?_; intro v4 w4 hown4 _ _ hb4; have H4 := Lib.hid (H3.out.app [Hp.wBackup, Hp.dec B] hown4 hb4); obtain ⟨k0, k1, k2, k3, k4, k5⟩ := H4.out.S.cs; clear hown4 hb4))
          refine (HDR.out _ H4.out.S.bel).mono ?_
          rintro e w5 ⟨v5, rfl, ho5, hb5⟩
          have H5 := Lib.hid (H4.out.next hb5)
          obtain ⟨p3, c3, rfl, -, -, hR3⟩ := SlR.of_owns encS_len (by simpa using ho5 : w5.ownsRow _ _ 1 v5 (R.map Hp.dec).length (flat encS (R.map Hp.dec)))
          have HR3 := Lib.hid hR3
          have hlt5 := H5.out.S.b.lt
          clear hb5 ho5 hR3
          go_wp2_with (at_builtin; go_loud (refine wpList_app_sl elemS rfl (.tmp 30) (.tmp 33) rfl (w.heap.size + 1) v4 _ _ rfl H5.out.own encS encS_len p3 c3 (R.map Hp.dec) (by rw [List.length_map]; rfl) HR3.out encS_one (by simp; omega) (by omega) ?_; intro v6 w6 hown6 _ _ hb6; have H6 := Lib.hid (H5.out.app (R.map Hp.dec) hown6 hb6); clear hown6 hb6))
          go_meet
          rw [if_pos HO.out]
          have := H6.out
          rw [List.append_assoc] at this
          exact Lib.hid this
      case rest =>
        have H3 := hcut
        clear hcut H2 d0 d1 d2 d3 d4 d5
        obtain ⟨d0, d1, d2, d3, d4, d5⟩ := H3.out.S.cs
        have hXl : (W1 ++ (if B ≠ -1 then Hp.wBackup :: Hp.dec B :: R.map Hp.dec else [])).length ≤ 80 := by
          simp only [List.length_append]
          split <;> simp <;> omega
        have HE : Hid (Hp.showW ⟨op, L, P, B, R, C⟩ = (W1 ++ (if B ≠ -1 then Hp.wBackup :: Hp.dec B :: R.map Hp.dec else [])) ++ (if C = true then [Hp.wPipe] else [])) := by rw [HW.out]; exact Lib.hid rfl
        clear HW1 HW hWl
        generalize (W1 ++ (if B ≠ -1 then Hp.wBackup :: Hp.dec B :: R.map Hp.dec else [])) = W2 at *
        cases C
        · have HE2 : Hid (Hp.showW ⟨op, L, P, B, R, false⟩ = W2) := by rw [HE.out]; exact Lib.hid (by simp)
          go_wp2_with fail
          refine (HJ.out _ _ (by rw [HE2.out]; exact SlR.of_owns encS_len H3.out.own)).mono ?_
          rintro e w5 ⟨rfl, hb5⟩
          have H5 := Lib.hid (H3.out.next hb5)
          clear hb5
          go_wp2_with fail
          go_ret
          exact ⟨rfl, H5.out.S.bel⟩
        · have HE2 : Hid (Hp.showW ⟨op, L, P, B, R, true⟩ = W2 ++ [Hp.wPipe]) := by rw [HE.out]; exact Lib.hid (by simp)
          have hlt := H3.out.S.b.lt
          go_wp2_with (at_builtin; go_loud (refine wpList_app elemS rfl (.tmp 37) (.tmp 38) rfl (w.heap.size + 1) u3 _ _ rfl H3.out.own 1 1 [.string _] rfl rfl (by simp [Value.oneCell']) (by omega) (by omega) ?_; intro v4 w4 hown4 _ _ hb4; have H4 := Lib.hid (H3.out.app [Hp.wPipe] hown4 hb4); clear hown4 hb4))
          refine (HJ.out _ _ (by rw [HE2.out]; exact SlR.of_owns encS_len H4.out.own)).mono ?_
          rintro e w5 ⟨rfl, hb5⟩
          have H5 := Lib.hid (H4.out.next hb5)
          clear hb5
          go_wp2_with fail
          go_ret
          exact ⟨rfl, H5.out.S.bel⟩
end Go.Proofs.YtilahcnpjbnjiaaDoor
