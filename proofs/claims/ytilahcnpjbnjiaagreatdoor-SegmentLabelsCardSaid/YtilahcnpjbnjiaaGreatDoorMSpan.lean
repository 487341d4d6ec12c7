import Derived.Test.YtilahcnpjbnjiaaGreatDoorSpansJoin
import Derived.Test.YtilahcnpjbnjiaaGreatDoorSpansRef3
import Derived.Deep.DeepCutAuto
/- The spans package over joined. -/
namespace Go.Proofs.YtilahcnpjbnjiaaGreatDoor
set_option linter.unusedVariables false
set_option linter.unusedSimpArgs false
open Go.RowKit Go.Shelf Go.Proofs

theorem joined_any (l : List Sp.S) (hl : l.length ≤ 1073741824) (v : Value) (w : World) (hv : SlR w 2 encSp v l) :
    Calls Tryz.prog 93 #[v] w (RetRow w.heap.size 35 2 (Sp.norm l).length (flat encSp (Sp.norm l)) w) := callsIn_wide.1 (joined_in 12 (Nat.le_refl _) l hl v w hv)

theorem spans_Norm (l : List Sp.S) (hl : l.length ≤ 1073741824) (v : Value) (w : World) (hv : SlR w 2 encSp v l) :
    Calls Tryz.prog 75 #[v] w (RetRow w.heap.size 35 2 (Sp.norm l).length (flat encSp (Sp.norm l)) w) := by
  have hcon := joined_any l hl v w hv
  go_enter Tryz.func75, Tryz.ntmps75
  go_wp2_with (go_at_call 93; refine hcon.mono ?_; rintro e w1 ⟨v1, rfl, hrow, hb1⟩)
  go_ret
  exact ⟨v1, rfl, hrow, hb1⟩

theorem RdP.cells {α : Type} {w : World} {k : Nat} {enc : α → List Value} (hk : ∀ x, (enc x).length = k) (h0 : 0 < k) {a : Addr} {xs : List α} (h : RdP w k enc (some a) xs) : ∀ j u, (flat enc xs)[j]? = some u → w.cell? ⟨a.block, a.off + j, none⟩ = some u := by
  intro j u hu
  obtain ⟨_, _, hcell⟩ := h.2 _ rfl
  have hjl : j < (flat enc xs).length := (List.getElem?_eq_some_iff.1 hu).1
  rw [flat_length hk] at hjl
  have hi' : j / k < xs.length := Nat.div_lt_of_lt_mul (by rw [Nat.mul_comm]; exact hjl)
  have hm : j % k < (enc xs[j / k]).length := by rw [hk]; exact Nat.mod_lt _ h0
  have hfl := flat_at hk (List.getElem?_eq_getElem hi') (List.getElem?_eq_getElem hm)
  have hj : j / k * k + j % k = j := by rw [Nat.mul_comm]; exact Nat.div_add_mod j k
  rw [hj, hu] at hfl
  have := hcell _ _ (List.getElem?_eq_getElem hi') _ _ ((List.getElem?_eq_getElem hm).trans hfl.symm)
  rw [← this]
  congr 1
  simp only [Addr.mk.injEq, true_and, and_true]
  omega

theorem cloneSp_any (l : List Sp.S) (hl : l.length ≤ 1073741824) (v : Value) (w : World) (hv : SlR w 2 encSp v l) :
    Calls Tryz.prog 94 #[v] w (RetRow w.heap.size 35 2 l.length (flat encSp l) w) := by
  obtain ⟨p, cap, rfl, hc1, hc2, hR⟩ := hv
  cases p with
  | none =>
    have h0 := hR.1 rfl
    have hl0 : l = [] := List.eq_nil_of_length_eq_zero h0
    subst hl0
    have hcon := AnyE.slices_Clone_nil Tryz.cloneSp 0 cap w
    change Calls Tryz.prog 94 _ _ _ at hcon
    refine hcon.mono ?_
    rintro e w' ⟨rfl, rfl⟩
    exact ⟨_, rfl, World.ownsRow_nil _ _ _ _, Below.refl _ _⟩
  | some a =>
    obtain ⟨hsp, _, _⟩ := hR.2 a rfl
    obtain ⟨_, _, _, i0, z, hi, hz, hsz, hby, hzs⟩ := elemSp
    have hcon := AnyE.slices_Clone Tryz.cloneSp i0 z 2 16 hi hz hsz hby hzs (by omega) Tryz.sizeOf35 a.block a.off l.length cap (flat encSp l) w (flat_length encSp_len l) (by unfold maxLen; omega) (by omega) (hR.cells encSp_len (by omega)) (by intro u hu; simp only [flat, List.mem_flatMap] at hu; obtain ⟨y, _, hy⟩ := hu; exact encSp_one y u hy)
    change Calls Tryz.prog 94 _ _ _ at hcon
    have ha : a = ⟨a.block, a.off, none⟩ := by cases a; simp_all
    rw [ha]
    refine hcon.mono ?_
    rintro e w' ⟨v', rfl, ho, _, hb⟩
    exact ⟨v', rfl, ho, hb⟩

end Go.Proofs.YtilahcnpjbnjiaaGreatDoor

/- The spans package over joined, the rest. -/
namespace Go.Proofs.YtilahcnpjbnjiaaGreatDoor
set_option linter.unusedVariables false
set_option linter.unusedSimpArgs false
open Go.RowKit Go.Shelf Go.Proofs

/-- the closure of Has -/
theorem has_closure (a b : Int) (Bx : Nat) (x : Sp.S) (W : World) (h0 : W.cell? ⟨Bx, 0, none⟩ = some (.int .i64 a)) (h1 : W.cell? ⟨Bx, 1, none⟩ = some (.int .i64 b)) :
    Calls Tryz.prog 76 #[.agg #[.int .i64 x.1, .int .i64 x.2], .pointer (some ⟨Bx, 0, none⟩)] W fun e w' => e = .returned (.bool (decide (x.1 ≤ a) && decide (b ≤ x.2))) ∧ Below W.heap.size W w' := by
  obtain ⟨x1, x2⟩ := x
  simp only
  have hbx : Bx < W.heap.size := World.block_lt_of_cell? W _ h0
  have hb : ∀ o n, Below W.heap.size W ((W.alloc o).drewN n) := fun o n => below_drewN ((Below.refl _ _).alloc (Nat.le_refl _) _) n
  by_cases c1 : x1 ≤ a <;> by_cases c2 : b ≤ x2
  all_goals
    have d1 : decide (x1 ≤ a) = decide (x1 ≤ a) := rfl
    simp only [c1, c2, decide_true, decide_false, Bool.and_true, Bool.and_false, Bool.false_and, Bool.true_and]
    first | (have e1 : decide (x1 ≤ a) = true := by simpa using c1) | (have e1 : decide (x1 ≤ a) = false := by simpa using c1)
    first | (have e2 : decide (b ≤ x2) = true := by simpa using c2) | (have e2 : decide (b ≤ x2) = false := by simpa using c2)
    clear d1
    go_enter Tryz.func76, Tryz.ntmps76
    go_wp2
    go_ret
    exact ⟨rfl, hb _ 0⟩

theorem index_none (p : Option Addr) (cap : Nat) (fv : Value) (w : World) :
    Calls Tryz.prog 95 #[.slice p 0 cap, fv] w fun e w' => e = .returned (.int .i64 (-1)) ∧ Below w.heap.size w w' := by
  go_enter Tryz.func95, Tryz.ntmps95
  go_wp2
  refine wp_loop_rounds 1 ?_
  rw [rounds_succ]
  go_wp2
  go_ret
  exact ⟨rfl, Below.refl _ _⟩
theorem contains_none (p : Option Addr) (cap : Nat) (fv : Value) (w : World) :
    Calls Tryz.prog 74 #[.slice p 0 cap, fv] w fun e w' => e = .returned (.bool false) ∧ Below w.heap.size w w' := by
  go_enter Tryz.func74, Tryz.ntmps74
  go_wp2_with (go_at_call 95; refine (index_none p cap fv _).mono ?_; rintro e w' ⟨rfl, hb⟩)
  go_ret
  exact ⟨rfl, hb⟩
theorem contains_any (g : Nat) (lb : Array Value) (q : Sp.S → Bool) (l : List Sp.S) (hl : l.length ≤ 1073741824) (v : Value) (w : World) (hv : SlR w 2 encSp v l) (eg : ∀ args w, (callFunc g args).run Tryz.prog w = .ok (.enter g args) w)
    (hq : ∀ (W : World) (x : Sp.S), Below w.heap.size w W → Calls Tryz.prog g (#[.agg #[.int .i64 x.1, .int .i64 x.2]] ++ lb) W fun e w' => e = .returned (.bool (q x)) ∧ Below W.heap.size W w') :
    Calls Tryz.prog 74 #[v, .func (.func g) #[] lb] w fun e w' => e = .returned (.bool (l.any q)) ∧ Below w.heap.size w w' := by
  obtain ⟨p, cap, rfl, hc1, hc2, hR⟩ := hv
  cases p with
  | none =>
    have h0 := hR.1 rfl
    have hl0 : l = [] := List.eq_nil_of_length_eq_zero h0
    subst hl0
    exact contains_none none cap _ w
  | some a =>
    obtain ⟨hsp, hbk, hcell⟩ := hR.2 a rfl
    have ha : a = ⟨a.block, a.off, none⟩ := by cases a; simp_all
    have hcon := AnyQ.slices_ContainsFunc Tryz.containsSp 2 Tryz.isAgg35 Tryz.sizeOf35 encSp (fun _ => rfl) q g lb eg a.block a.off l.length cap l w
      (fun W x hW => (hq W x hW).mono fun e w' ⟨he, hb⟩ => ⟨he, hW.trans (hb.mono hW.size)⟩) (Nat.le_refl _) (by omega) hbk
      (fun j hj i v hv => hcell j l[j]! (by simp [hj]) i v hv)
    change Calls Tryz.prog 74 _ _ _ at hcon
    rw [ha]
    rw [List.take_length] at hcon
    exact hcon

set_option maxHeartbeats 1000000 in
theorem spans_Has (l : List Sp.S) (hl : l.length ≤ 1073741824) (s : Sp.S) (v : Value) (w : World) (hv : SlR w 2 encSp v l) :
    Calls Tryz.prog 55 #[v, .agg #[.int .i64 s.1, .int .i64 s.2]] w fun e w' => e = .returned (.bool (Sp.has l s)) ∧ Below w.heap.size w w' := by
  obtain ⟨a, b⟩ := s
  have hB0 : Below w.heap.size w (w.alloc (.cells #[.int .i64 a, .int .i64 b] 35)) := (Below.refl _ _).alloc (Nat.le_refl _) _
  cases hm : Sp.mayB (a, b)
  · rw [show Sp.has l (a, b) = false by simp [Sp.has, hm]]
    go_enter Tryz.func55, Tryz.ntmps55
    go_wp2_with (go_at_call 73; refine (spans_may_no _ _ hm).mono ?_; rintro e w1 ⟨rfl, hb1⟩; obtain ⟨hp0, hp1, hz1, hbw⟩ := box2 hb1)
    go_ret
    exact ⟨rfl, hbw⟩
  · rw [show Sp.has l (a, b) = (Sp.norm l).any (fun x => decide (x.1 ≤ a) && decide (b ≤ x.2)) by simp [Sp.has, hm]]
    have hml := Sp.norm_length l
    have hcon : ∀ W, Below w.heap.size w W → Calls Tryz.prog 75 #[v] W (RetRow W.heap.size 35 2 (Sp.norm l).length (flat encSp (Sp.norm l)) W) := fun W hW => spans_Norm l hl v W (hv.below hW (Nat.le_refl _))
    have hcl : ∀ (W : World) (v1 : Value) (m : List Sp.S), m.length ≤ 1073741824 → SlR W 2 encSp v1 m → W.cell? ⟨w.heap.size, 0, none⟩ = some (.int .i64 a) → W.cell? ⟨w.heap.size, 1, none⟩ = some (.int .i64 b) → w.heap.size < W.heap.size →
        Calls Tryz.prog 74 #[v1, .func (.func 76) #[] #[.pointer (some ⟨w.heap.size, 0, none⟩)]] W fun e w' => e = .returned (.bool (m.any (fun x => decide (x.1 ≤ a) && decide (b ≤ x.2)))) ∧ Below W.heap.size W w' := by
      intro W v1 m hm1 hv1 h0 h1 hz
      refine contains_any 76 _ _ m hm1 v1 W hv1 (enters_of Tryz.func76 (by kernel_rfl) rfl) ?_
      intro W2 x hW2
      exact has_closure a b w.heap.size x W2 ((hW2.cell (p := ⟨w.heap.size, 0, none⟩) hz).trans h0) ((hW2.cell (p := ⟨w.heap.size, 1, none⟩) hz).trans h1)
    have HC := Lib.hid hcl
    have HN := Lib.hid hcon
    clear hcl hcon
    generalize Sp.norm l = m at HN hml ⊢
    generalize hr : m.any (fun x => decide (x.1 ≤ a) && decide (b ≤ x.2)) = r
    have HR := Lib.hid hr
    clear hr
    go_enter Tryz.func55, Tryz.ntmps55
    go_wp2_with (first
      | (go_at_call 73; refine (spans_may_yes _ _ hm).mono ?_; rintro e w1 ⟨rfl, hb1⟩; obtain ⟨hp0, hp1, hz1, hbw⟩ := box2 hb1)
      | (go_at_call 75; refine (HN.out _ hbw).mono ?_; rintro e w2 ⟨v2, rfl, hown2, hb2⟩)
      | (go_at_call 74; refine (HC.out _ v2 m (by omega) (SlR.of_owns encSp_len hown2) ((hb2.cell (p := ⟨w.heap.size, 0, none⟩) hz1).trans hp0) ((hb2.cell (p := ⟨w.heap.size, 1, none⟩) hz1).trans hp1) (Nat.lt_of_lt_of_le hz1 hb2.size)).mono ?_; rintro e w3 ⟨rfl, hb3⟩))
    go_ret
    have hb4 := hbw.trans (hb2.mono hbw.size)
    exact ⟨ret_bool HR.out, hb4.trans (hb3.mono hb4.size)⟩

end Go.Proofs.YtilahcnpjbnjiaaGreatDoor

/- spans.Add and spans.Cut. -/
namespace Go.Proofs.YtilahcnpjbnjiaaGreatDoor
set_option linter.unusedVariables false
set_option linter.unusedSimpArgs false
open Go.RowKit Go.Shelf Go.Proofs

theorem add_block (a : Addr) (n : Nat) : (a.add n).block = a.block := by unfold Addr.add; split <;> rfl

set_option maxRecDepth 100000 in
set_option maxHeartbeats 4000000 in
theorem spans_Add (l : List Sp.S) (hl : l.length ≤ 536870912) (s : Sp.S) (v : Value) (w : World) (hv : SlR w 2 encSp v l) :
    Calls Tryz.prog 72 #[v, .agg #[.int .i64 s.1, .int .i64 s.2]] w (RetRow w.heap.size 35 2 (Sp.add l s).length (flat encSp (Sp.add l s)) w) := by
  obtain ⟨a, b⟩ := s
  have hB0 : Below w.heap.size w (w.alloc (.cells #[.int .i64 a, .int .i64 b] 35)) := (Below.refl _ _).alloc (Nat.le_refl _) _
  obtain ⟨W0, hW0⟩ : ∃ W0, W0 = w.alloc (.cells #[.int .i64 a, .int .i64 b] 35) := ⟨_, rfl⟩
  have hz0 : W0.heap.size = w.heap.size + 1 := by rw [hW0]; simp
  have hcl : ∀ W, Below (w.heap.size + 1) W0 W → Calls Tryz.prog 94 #[v] W fun e w' => ∃ v1, e = .returned v1 ∧ w'.ownsRow (w.heap.size + 1) 35 2 v1 l.length (flat encSp l) ∧ Below W.heap.size W w' := fun W hW => by
    refine (cloneSp_any l (by omega) v W ((hv.below (hW0 ▸ hB0) (Nat.le_refl _)).below hW (by omega))).mono ?_
    rintro e w' ⟨v1, rfl, ho, hb⟩
    exact ⟨v1, rfl, owns_base ho (by have := hW.size; omega), hb⟩
  have hcon : ∀ v W, SlR W 2 encSp v (l ++ [(a, b)]) → Calls Tryz.prog 93 #[v] W (RetRow W.heap.size 35 2 (Sp.add l (a, b)).length (flat encSp (Sp.add l (a, b))) W) := fun v W h => joined_any _ (by simp; omega) v W h
  generalize Sp.add l (a, b) = m at hcon ⊢
  have HC := Lib.hid hcon
  have HL := Lib.hid hcl
  clear hcon hcl
  subst hW0
  have hBr : Below (w.heap.size + 1) (w.alloc (.cells #[.int .i64 a, .int .i64 b] 35)) (w.alloc (.cells #[.int .i64 a, .int .i64 b] 35)) := Below.refl _ _
  go_enter Tryz.func72, Tryz.ntmps72
  go_wp2_with fail
  go_region_held3 (fun w' => w'.cell? ⟨w.heap.size, 0, none⟩ = some (.int .i64 a) ∧ w'.cell? ⟨w.heap.size, 1, none⟩ = some (.int .i64 b))
    (first
      | go_keep
      | (go_split_ands
         refine ⟨?_, ?_⟩
         all_goals (rw [hbl1.cell (by first | (simp; done) | (simp; omega))]; assumption))
      | (go_split_ands
         refine ⟨?_, ?_⟩
         all_goals (rw [hbl2.cell (by simp)]; assumption))
      | (go_split_ands
         refine ⟨?_, ?_⟩
         all_goals (rw [hbl3.cell hz2]; assumption)))
    (first
      | (go_at_call 94; refine (HL.out _ (by first | exact hBr.drew | exact (hBr.drew).alloc (by simp) _)).mono ?_; rintro e w1 ⟨v1, rfl, hown1, hbl1⟩)
      | (refine step_app elemSp rfl _ _ rfl (w.heap.size + 1) v1 _ _ rfl (hown1.alloc _) ⟨w1.heap.size, 0, none⟩ 1 1 _ rfl rfl (cell_new_list w1 _ _) (by simp [Value.oneCell']) (by omega) (by have := hbl1.size; simp at this ⊢; omega) ?_; intro v2 w2 hown2 _ hbl2; have hz2 : w.heap.size < w2.heap.size := by (have h1 := hbl1.size; have h2 := hbl2.size; simp at h1 h2; omega))
      | (refine step_app elemSp rfl _ _ rfl (w.heap.size + 1) v1 _ _ rfl hown1 ⟨w.heap.size + 1, 0, none⟩ 1 1 [.int .i64 a, .int .i64 b] rfl rfl (fun j u hu => (hbl1.cell (p := (⟨w.heap.size + 1, 0, none⟩ : Addr).add j) (by rw [add_block]; simp)).trans (by have h := cell_new_list (w.alloc (.cells #[.int .i64 a, .int .i64 b] 35)) [.int .i64 a, .int .i64 b] 35 j u hu; simpa using h)) (by simp [Value.oneCell']) (by omega) (by have := hbl1.size; simp at this ⊢; omega) ?_; intro v2 w2 hown2 _ hbl2; have hz2 : w.heap.size < w2.heap.size := by (have h1 := hbl1.size; have h2 := hbl2.size; simp at h1 h2; omega))
      | (go_at_call 93; refine (HC.out v2 w2 (SlR.of_owns encSp_len (by simpa [flat_append, flat, encSp] using hown2))).mono ?_; rintro e w3 ⟨v3, rfl, hown3, hbl3⟩))
  · have hbA : Below w.heap.size w w1 := (hB0.drew).trans (hbl1.mono (by simp))
    have hbB := (hbA.alloc hbA.size (.cells #[.int .i64 a, .int .i64 b] 35)).trans (hbl2.mono (by omega))
    go_wp2
    go_ret
    exact ⟨v3, rfl, owns_base hown3 hbB.size, hbB.trans (hbl3.mono hbB.size)⟩
  · have hbA : Below w.heap.size w w1 := ((hB0.alloc (by simp) (.cells #[.int .i64 a, .int .i64 b] 35)).drew).trans (hbl1.mono (by simp; omega))
    have hbB := hbA.trans (hbl2.mono (by omega))
    go_wp2
    go_ret
    exact ⟨v3, rfl, owns_base hown3 hbB.size, hbB.trans (hbl3.mono hbB.size)⟩
end Go.Proofs.YtilahcnpjbnjiaaGreatDoor

/- spans.Cut. -/
namespace Go.Proofs.YtilahcnpjbnjiaaGreatDoor
set_option linter.unusedVariables false
set_option linter.unusedSimpArgs false
open Go.RowKit Go.Shelf Go.Proofs

theorem wpList_app' {P : Program} {w : World} {ops : Array Oper} {rest : List Oper} {o : Oper} {a : Act} {Q : Exit → Act → World → Prop} {t e : TypeId} {size bytes : Nat} (hE : ElemOk P t e size bytes) (hgd : o.guard = none) (s x : Operand)
    (ho : o.op = .call { callee := .builtin .append, args := #[s, x], argTypes := #[t, t] })
    (base : Nat) (v : Value) (n : Nat) (xs : List Value) (hs : a.eval s = v) (hown : w.ownsRow base e size v n xs)
    (m c B : Nat) (hBe : B = w.heap.size) (news : List Value) (hx : a.eval x = .slice (some ⟨B, 0, none⟩) m c) (hl : news.length = m * size) (h1 : ∀ u ∈ news, u.oneCell' = true)
    (hsm : n + m ≤ 1099511627776) (hbase : base ≤ w.heap.size)
    (h : ∀ v' w', w'.ownsRow base e size v' (n + m) (xs ++ news) → w.grownBy w' v.ownBlock → (v'.ownBlock = v.ownBlock ∨ v'.ownBlock = some (w.heap.size + 1)) → Below base w w' → wpList P ops Q rest (a.put o.dst v') w') :
    wpList P ops Q (o :: rest) a (w.alloc (.cells news.toArray e)) := by
  subst hBe
  exact wpList_app hE hgd s x ho base v n xs hs hown m c news hx hl h1 hsm hbase h

theorem blk_two (W : World) (t : TypeId) (cs cs' : Array Value) : Blk ((W.alloc (.cells cs t)).alloc (.cells cs' t)).drew W.heap.size t cs ∧ Blk ((W.alloc (.cells cs t)).alloc (.cells cs' t)).drew (W.heap.size + 1) t cs' ∧ Below W.heap.size W ((W.alloc (.cells cs t)).alloc (.cells cs' t)).drew := by
  refine ⟨((Blk.new W t cs).kept (row := none) (World.grownBy_alloc _ (.cells cs' t) none) (by simp) : Blk ((W.alloc (.cells cs t)).alloc (.cells cs' t)) W.heap.size t cs), ?_, (((Below.refl _ _).alloc (Nat.le_refl _) _).alloc (by simp) _).drew⟩
  have h := Blk.new (W.alloc (.cells cs t)) t cs'
  rw [World.size_alloc] at h
  exact h
theorem Blk.frozen {w : World} {g : Nat} {t : TypeId} {cs : Array Value} (h : Blk w g t cs) (i : Nat) : w.frozen? ⟨g, i, none⟩ = false := by
  unfold Blk at h; simp [World.frozen?, h]

set_option maxRecDepth 100000 in
set_option maxHeartbeats 4000000 in
theorem spans_Cut (l : List Sp.S) (s : Sp.S) (v : Value) (w : World) (hl : l.length ≤ 536870912) (hv : SlR w 2 encSp v l) :
    Calls Tryz.prog 77 #[v, .agg #[.int .i64 s.1, .int .i64 s.2]] w (RetRow w.heap.size 35 2 (Sp.cut l s).length (flat encSp (Sp.cut l s)) w) := by
  obtain ⟨a, b⟩ := s
  have hml := Sp.norm_length l
  have hB0 : Below w.heap.size w (w.alloc (.cells #[.int .i64 a, .int .i64 b] 35)) := (Below.refl _ _).alloc (Nat.le_refl _) _
  have hcon := spans_Norm l (by omega) v _ (hv.below hB0 (Nat.le_refl _))
  cases hm : Sp.mayB (a, b)
  · rw [show Sp.cut l (a, b) = Sp.norm l by simp [Sp.cut, hm]]
    generalize Sp.norm l = m at hcon hml ⊢
    have HC := Lib.hid hcon
    clear hcon
    go_enter Tryz.func77, Tryz.ntmps77
    go_wp2_with (first
      | (go_at_call 75; refine HC.out.mono ?_; rintro e w1 ⟨v1, rfl, hown1, hb1⟩; obtain ⟨hp0, hp1, hz1, hbw⟩ := box2 hb1)
      | (go_at_call 73; refine (spans_may_no _ _ hm).mono ?_; rintro e w2 ⟨rfl, hb2⟩))
    go_ret
    exact ⟨v1, rfl, owns_base (owns_below hown1 hb2 (Nat.le_refl _)) (by simp), hbw.trans (hb2.mono hbw.size)⟩
  · rw [show Sp.cut l (a, b) = Sp.norm (Sp.pieces (a, b) (Sp.norm l)) by simp [Sp.cut, hm]]
    have HM := Lib.hid (Sp.norm_ok l).1.may
    generalize Sp.norm l = m at hcon hml HM ⊢
    have hcon2 : ∀ v W, SlR W 2 encSp v (Sp.pieces (a, b) m) → Calls Tryz.prog 93 #[v] W (RetRow W.heap.size 35 2 (Sp.norm (Sp.pieces (a, b) m)).length (flat encSp (Sp.norm (Sp.pieces (a, b) m))) W) := fun v W h => joined_any _ (by rw [Sp.pieces_len]; omega) v W h
    generalize Sp.norm (Sp.pieces (a, b) m) = q at hcon2 ⊢
    have HC := Lib.hid hcon
    have HC2 := Lib.hid hcon2
    clear hcon hcon2
    obtain ⟨ha1, ha2, ha3⟩ := Sp.mayB_iff.1 hm
    simp only at ha1 ha2 ha3
    go_enter Tryz.func77, Tryz.ntmps77
    go_wp2_with (first
      | (go_at_call 75; refine HC.out.mono ?_; rintro e w1 ⟨v1, rfl, hown1, hb1⟩; obtain ⟨hp0, hp1, hz1, hbw⟩ := box2 hb1; obtain ⟨p1, c1, rfl, hd1, hd2, hR0⟩ := owns_sp hown1)
      | (go_at_call 73; refine (spans_may_yes _ _ hm).mono ?_; rintro e w2 ⟨rfl, hb2⟩))
    have hq0 := (hb2.cell (p := ⟨w.heap.size, 0, none⟩) hz1).trans hp0
    have hq1 := (hb2.cell (p := ⟨w.heap.size, 1, none⟩) hz1).trans hp1
    have hz := Nat.lt_of_lt_of_le hz1 hb2.size
    have hb3 := Lib.hid (hbw.trans (hb2.mono hbw.size))
    have hR1 := hR0.below hb2 (Nat.le_refl _)
    clear hown1 hb1 hb2 hp0 hp1 hbw hR0
    go_loopw [5, 18] (fun o i wr => ∃ k : Nat, k ≤ m.length ∧ i = .int .i64 k ∧ wr.ownsRow w2.heap.size 35 2 o (k * 2) (flat encSp (Sp.pieces (a, b) (m.take k))) ∧ Below w2.heap.size w2 wr) (fun _ i _ => m.length - (intOf i).toNat)
    case atStart => exact ⟨0, Nat.zero_le _, rfl, World.ownsRow_nil _ _ _ _, Below.refl _ _⟩
    case round =>
      obtain ⟨k, hk, rfl, hrow, hbl⟩ := hrel
      by_cases hlt : k < m.length
      · obtain ⟨g, off, rfl, hbs, hx0, hx1⟩ := (hR1.below hbl (Nat.le_refl _)).at2 hlt
        have q0 : wr.cell? ⟨w.heap.size, 0, none⟩ = some (.int .i64 a) := (hbl.cell (p := ⟨w.heap.size, 0, none⟩) hz).trans hq0
        have q1 : wr.cell? ⟨w.heap.size, 1, none⟩ = some (.int .i64 b) := (hbl.cell (p := ⟨w.heap.size, 1, none⟩) hz).trans hq1
        have hbz : w2.heap.size ≤ wr.heap.size := hbl.size
        obtain ⟨hm1, hm2, hm3⟩ := Sp.mayB_iff.1 (HM.out _ (List.getElem_mem hlt))
        have HT := Lib.hid (Sp.pieces_take (s := (a, b)) hlt)
        have HR := Lib.hid hrow
        clear hrow
        go_upto_region 8 with fail
        go_cut [8, 9] (fun s8 s9 wx => ∃ g8 g9 : Nat, s8 = .pointer (some ⟨g8, 0, none⟩) ∧ s9 = .pointer (some ⟨g9, 0, none⟩) ∧ wr.heap.size < g8 ∧ wr.heap.size < g9 ∧ g8 ≠ g9 ∧ Blk wx g8 35 #[.int .i64 m[k].1, .int .i64 m[k].2] ∧ Blk wx g9 35 #[.int .i64 m[k].1, .int .i64 m[k].2] ∧ Below (wr.heap.size + 1) (wr.alloc (.cells #[.int .i64 m[k].1, .int .i64 m[k].2] 35)) wx)
        case first =>
          go_region
          all_goals (go_wp2_with fail; go_meet)
          all_goals
            obtain ⟨t1, t2, t3⟩ := blk_two (wr.alloc (.cells #[.int .i64 m[k].1, .int .i64 m[k].2] 35)) 35 #[.int .i64 m[k].1, .int .i64 m[k].2] #[.int .i64 m[k].1, .int .i64 m[k].2]
            simp only [World.size_alloc] at t1 t2 t3
          · exact ⟨_, _, rfl, rfl, by omega, by omega, by omega, t1, t2, t3⟩
          · exact ⟨_, _, rfl, rfl, by omega, by omega, by omega, t2, t1, t3⟩
        case rest =>
          obtain ⟨g8, g9, rfl, rfl, hg8, hg9, hne, k8, k9, hbc⟩ := hcut
          have hcx := hbc.cell (p := ⟨wr.heap.size, 0, none⟩) (by simp)
          have hcy := hbc.cell (p := ⟨wr.heap.size, 1, none⟩) (by simp)
          obtain ⟨hx0', hx1', _, hbw⟩ := box2 (hbc.mono (by simp) : Below (wr.alloc (.cells #[.int .i64 m[k].1, .int .i64 m[k].2] 35)).heap.size _ wc)
          have y0 : wc.cell? ⟨w.heap.size, 0, none⟩ = some (.int .i64 a) := (hbw.cell (p := ⟨w.heap.size, 0, none⟩) (by simp only; omega)).trans q0
          have y1 : wc.cell? ⟨w.heap.size, 1, none⟩ = some (.int .i64 b) := (hbw.cell (p := ⟨w.heap.size, 1, none⟩) (by simp only; omega)).trans q1
          have c80 := k8.cell 0
          have c81 := k8.cell 1
          have c90 := k9.cell 0
          have c91 := k9.cell 1
          have f81 := k8.frozen 1
          have f90 := k9.frozen 0
          simp at c80 c81 c90 c91
          have n1 : g9 ≠ g8 := fun h => hne h.symm
          have n2 : wr.heap.size ≠ g8 := by omega
          have n3 : g8 ≠ wr.heap.size := by omega
          have n4 : w.heap.size ≠ g8 := by omega
          have n5 : g8 ≠ w.heap.size := by omega
          have hBW : ∀ x y, Below wr.heap.size wr ((wc.setCell ⟨g8, 1, none⟩ x).setCell ⟨g9, 0, none⟩ y) := fun x y => (hbw.setCell (p := ⟨g8, 1, none⟩) (by simp only; omega) x).setCell (p := ⟨g9, 0, none⟩) (by simp only; omega) y
          have hBW2 := Lib.hid hBW
          have hrowW : ∀ x y, ((wc.setCell ⟨g8, 1, none⟩ x).setCell ⟨g9, 0, none⟩ y).ownsRow w2.heap.size 35 2 _ (k * 2) (flat encSp (Sp.pieces (a, b) (m.take k))) := fun x y => owns_below HR.out (hBW x y) (Nat.le_refl _)
          have hbaseW : ∀ x y, w2.heap.size ≤ ((wc.setCell ⟨g8, 1, none⟩ x).setCell ⟨g9, 0, none⟩ y).heap.size := fun x y => Nat.le_trans hbz (hBW x y).size
          have HRW := Lib.hid hrowW
          have HBW := Lib.hid hbaseW
          clear hrowW hbaseW
          clear hBW hbc hcx hcy q0 q1 hx0 hx1 k8 k9
          have hfin : ∀ x y (v' : Value) (w' : World), x = min m[k].2 (a - 1) → y = max m[k].1 (b + 1) → w'.ownsRow w2.heap.size 35 2 v' (k * 2 + 2) (flat encSp (Sp.pieces (a, b) (m.take k)) ++ [.int .i64 m[k].1, .int .i64 x, .int .i64 y, .int .i64 m[k].2]) → w'.ownsRow w2.heap.size 35 2 v' ((k + 1) * 2) (flat encSp (Sp.pieces (a, b) (m.take (k + 1)))) := by
            rintro x y v' w' rfl rfl h
            rw [HT.out, flat_append, show (k + 1) * 2 = k * 2 + 2 by omega]
            exact h
          have HN := Lib.hid hfin
          clear hfin
          go_wp2_with (at_builtin; refine wpList_app' elemSp rfl (.tmp 38) (.tmp 41) rfl w2.heap.size _ _ _ rfl (HRW.out _ _) 2 2 _ (by simp) _ rfl rfl (by simp [Value.oneCell']) (by omega) (HBW.out _ _) ?_; intro v' w' hown' _ _ hb')
          exact ⟨⟨k + 1, by omega, by go_num, HN.out _ _ _ _ rfl rfl hown', hbl.trans (((hBW2.out _ _).mono hbz).trans hb')⟩, by simp [intOf]; omega⟩
      · go_wp2_with fail
        rw [List.take_of_length_le (by omega)] at hrow
        have hkk : k = m.length := by omega
        rw [show k * 2 = (Sp.pieces (a, b) m).length by rw [Sp.pieces_len, hkk]] at hrow
        have hbw := hb3.out
        refine (HC2.out _ wr (SlR.of_owns encSp_len hrow)).mono ?_
        rintro e w4 ⟨v4, rfl, hown4, hb4⟩
        go_wp2
        go_ret
        have hb5 := hbw.trans (hbl.mono hbw.size)
        exact ⟨v4, rfl, owns_base hown4 hb5.size, hb5.trans (hb4.mono hb5.size)⟩
end Go.Proofs.YtilahcnpjbnjiaaGreatDoor
