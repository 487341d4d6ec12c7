/- The document's spaces: put. -/
import Derived.Test.YtbeombmblifohaaSpcRef2
namespace Go.Proofs.Ytbeombmblifohaa
set_option linter.unusedVariables false
set_option linter.unusedSimpArgs false
open Go.RowKit Go.Shelf Go.Proofs

theorem elemB12 : ElemOk Try.prog 29 74 4 32 := .mk Try.underlying29 (z := .agg #[.int .i64 0, .int .i64 0, .int .i64 0, .int .i64 0]) (by kernel_rfl) (by omega) (by omega) rfl
theorem wpList_app_slK {α : Type} {P : Program} {w : World} {ops : Array Oper} {rest : List Oper} {o : Oper} {a : Act} {Q : Exit → Act → World → Prop} {t e : TypeId} {size bytes : Nat} (hE : ElemOk P t e size bytes) (hgd : o.guard = none) (s x : Operand)
    (ho : o.op = .call { callee := .builtin .append, args := #[s, x], argTypes := #[t, t] })
    (base : Nat) (v : Value) (n : Nat) (xs : List Value) (hs : a.eval s = v) (hown : w.ownsRow base e size v n xs)
    (enc : α → List Value) (hk : ∀ x, (enc x).length = size) (p : Option Addr) (c m : Nat) (ys : List α) (hm : m = ys.length) (hx : a.eval x = .slice p m c) (hr : RdP w size enc p ys) (h1 : ∀ y, ∀ u ∈ enc y, u.oneCell' = true)
    (hsm : n + ys.length ≤ 1099511627776) (hbase : base ≤ w.heap.size)
    (h : ∀ v' w', w'.ownsRow base e size v' (n + ys.length) (xs ++ flat enc ys) → w.grownBy w' v.ownBlock → (v'.ownBlock = v.ownBlock ∨ v'.ownBlock = some w.heap.size) → Below base w w' → wpList P ops Q rest (a.put o.dst v') w') :
    wpList P ops Q (o :: rest) a w := by
  subst hm
  exact wpList_app_sl hE hgd s x ho base v n xs hs hown enc hk p c ys hx hr h1 hsm hbase h
theorem RdP.takeK {α : Type} {w : World} {k : Nat} {enc : α → List Value} {p : Option Addr} {xs : List α} (h : RdP w k enc p xs) (j : Nat) : RdP w k enc p (xs.take j) := by
  refine ⟨fun e => by rw [List.length_take, h.1 e]; omega, fun a ha => ?_⟩
  obtain ⟨h6, h7, h8⟩ := h.2 a ha
  refine ⟨h6, h7, fun i x hx j' u hu => h8 i x ?_ j' u hu⟩
  rw [List.getElem?_take] at hx
  split at hx
  · exact hx
  · cases hx
theorem RdP.dropK {α : Type} {w : World} {k : Nat} {enc : α → List Value} {b off : Nat} {xs : List α} (h : RdP w k enc (some ⟨b, off, none⟩) xs) (j : Nat) : RdP w k enc (some ⟨b, off + j * k, none⟩) (xs.drop j) := by
  obtain ⟨h6, h7, h8⟩ := h.2 _ rfl
  refine ⟨fun e => (by cases e), fun a ha => ?_⟩
  cases ha
  refine ⟨rfl, h7, fun i x hx j' u hu => ?_⟩
  rw [List.getElem?_drop] at hx
  have := h8 _ x hx j' u hu
  rw [← this]
  congr 2
  simp only [Nat.add_mul]
  omega
/-- 's[k:]', whatever the address -/
theorem RdP.tail_eq {α : Type} {w : World} {n : Nat} {enc : α → List Value} {p : Option Addr} {xs : List α} (h : RdP w n enc p xs) {j : Nat} (hc : xs.length ≤ j) : RdP w n enc p (xs.drop j) := by
  rw [show xs.drop j = xs.take 0 by rw [List.drop_of_length_le (by omega)]; rfl]
  exact h.takeK 0
theorem RdP.tail {α : Type} {w : World} {n : Nat} {enc : α → List Value} {p : Option Addr} {xs : List α} (h : RdP w n enc p xs) (j : Nat) : RdP w n enc (p.map (fun x => x.add (j * n))) (xs.drop j) := by
  cases p with
  | none =>
    have : xs = [] := List.eq_nil_of_length_eq_zero (h.1 rfl)
    subst this
    simpa using h
  | some a =>
    obtain ⟨b, off, spot⟩ := a
    obtain rfl : spot = none := (h.2 _ rfl).1
    have := h.dropK j
    have e : (⟨b, off, none⟩ : Addr).add (j * n) = ⟨b, off + j * n, none⟩ := by unfold Addr.add; split <;> simp_all
    simp only [Option.map_some, e]
    exact this
/-- the document's space comes back -/
def RetS (v0 : Value) (q : Sp.Spc) (w : World) (e : Ending) (w' : World) : Prop := ∃ vL, e = .returned (.agg (sA q vL)) ∧ SlR w' 4 encBk vL q.L ∧ NewV w v0 vL ∧ Below w.heap.size w w'
theorem results_c {P : Program} {fn : Func} {p : Tmp} {ty : TypeId} (h : fn.results = #[.cell p ty]) (tmps : Array Value) (w : World) (g : Nat) (t : TypeId) (cs : Array Value) (fr : Nat × Nat) (d : TypeDesc)
    (hp : tmps.getD p undef = .pointer (some ⟨g, 0, none⟩)) (hg : w.heap[g]? = some (.cells cs t fr))
    (hu : P.underlying ty = some d) (hd : (match d with | .struct _ | .array _ _ => true | _ => false) = true) (hi : (P.info? ty).map (·.size) = some cs.size) :
    (results fn tmps).run P w = .ok (.agg cs) w := by
  have hp' : tmps[p]?.getD undef = .pointer (some ⟨g, 0, none⟩) := by simpa using hp
  simp [results, h, hp', asAddr, run_loadVar_row w g t ty cs fr d hg hu hd hi]
theorem aheadK_lt {b : Sp.Bk} : ∀ {L : List Sp.Bk} {j : Nat} {c : Sp.Bk}, j < ahead b L → L[j]? = some c → c.sp.1 < b.sp.1
  | [], j, c, h, hc => by simp at hc
  | d :: r, j, c, h, hc => by
    by_cases hd : d.sp.1 < b.sp.1
    · cases j with
      | zero => cases hc; exact hd
      | succ j => exact aheadK_lt (L := r) (j := j) (by simp [ahead, List.takeWhile_cons, hd] at h ⊢; exact h) (by simpa using hc)
    · simp [ahead, List.takeWhile_cons, hd] at h
theorem aheadK_at {b : Sp.Bk} : ∀ {L : List Sp.Bk} {c : Sp.Bk}, L[ahead b L]? = some c → ¬ c.sp.1 < b.sp.1
  | [], c, hc => by simp at hc
  | d :: r, c, hc => by
    by_cases hd : d.sp.1 < b.sp.1
    · refine aheadK_at (L := r) ?_
      simpa [ahead, List.takeWhile_cons, hd] using hc
    · have e : ahead b (d :: r) = 0 := by simp [ahead, List.takeWhile_cons, hd]
      rw [e] at hc
      cases hc
      exact hd
/-- put's boxes -/
structure QP (w W : World) (m : Sp.Spc) (vL : Value) (a b o k : Int) : Prop where
  U : QU w W w.heap.size m vL
  bb : Blk W (w.heap.size + 1) 74 #[.int .i64 a, .int .i64 b, .int .i64 o, .int .i64 k]
  bz : Blk W (w.heap.size + 2) 31 (sA Sp.spc0 (.slice none 0 0))
theorem QP.next {w W : World} {m : Sp.Spc} {vL : Value} {a b o k : Int} (h : QP w W m vL a b o k) {W' : World} (hb : Below W.heap.size W W') : QP w W' m vL a b o k :=
  ⟨h.U.next hb, h.bb.below hb h.bb.lt, h.bz.below hb h.bz.lt⟩
theorem QP.first {w : World} {m : Sp.Spc} {vL : Value} (h : SlR w 4 encBk vL m.L) (a b o k : Int) : QP w (((w.alloc (.cells (sA m vL) 31)).alloc (.cells #[.int .i64 a, .int .i64 b, .int .i64 o, .int .i64 k] 74)).alloc (.cells (sA Sp.spc0 (.slice none 0 0)) 31)) m vL a b o k := by
  have h1 := Blk.new (w.alloc (.cells (sA m vL) 31)) 74 #[.int .i64 a, .int .i64 b, .int .i64 o, .int .i64 k]
  have h2 := Blk.new ((w.alloc (.cells (sA m vL) 31)).alloc (.cells #[.int .i64 a, .int .i64 b, .int .i64 o, .int .i64 k] 74)) 31 (sA Sp.spc0 (.slice none 0 0))
  simp only [World.size_alloc] at h1 h2
  exact ⟨((QU.first w m vL h).next (belowA _ _)).next (belowA _ _), h1.alloc _, h2⟩
theorem QP.own {w W W' : World} {m : Sp.Spc} {vL v' : Value} {a b o k : Int} (h : QP w W m vL a b o k) {L' : List Sp.Bk} (hb : Below W.heap.size W W') (ho : W'.ownsRow W.heap.size 74 4 v' L'.length (flat encBk L')) (m' : Sp.Spc) (hm : m'.L = L') :
    (∀ cs, Below w.heap.size w ((W'.setCell ⟨w.heap.size, 6, none⟩ v').setRow (w.heap.size + 2) cs)) ∧ NewV w vL v' ∧ (∀ cs, SlR ((W'.setCell ⟨w.heap.size, 6, none⟩ v').setRow (w.heap.size + 2) cs) 4 encBk v' m'.L) ∧
      Blk ((W'.setCell ⟨w.heap.size, 6, none⟩ v').setRow (w.heap.size + 2) (sA m' v')) (w.heap.size + 2) 31 (sA m' v') ∧ Blk (W'.setCell ⟨w.heap.size, 6, none⟩ v') (w.heap.size + 2) 31 (sA Sp.spc0 (.slice none 0 0)) := by
  have hn := h.next hb
  have hlt := h.bz.lt
  have hz := hn.bz.other ⟨w.heap.size, 6, none⟩ v' (by simp)
  refine ⟨fun cs => below_setRow (hn.U.bel.setCell (Nat.le_refl _) _) (by omega) _, fun b hb' => Or.inr (by have := (ho.lt b hb').1; omega), fun cs => ?_, hz.setRow _, hz⟩
  subst hm
  have s1 := SlR.of_owns encBk_len ho
  have s2 := (Frm.setCell w.heap.size none W' 6 v').slr s1 (fun b hb' => ⟨by have := (ho.lt b hb').1; omega, by simp⟩)
  exact (Frm.setRow (w.heap.size + 2) none _ cs).slr s2 (fun b hb' => ⟨by have := (ho.lt b hb').1; omega, by simp⟩)
set_option maxRecDepth 100000 in
set_option maxHeartbeats 4000000 in
theorem r12_put (m : Sp.Spc) (a b o k : Int) (hl : m.L.length ≤ 1000000) (vL : Value) (w : World) (hv : SlR w 4 encBk vL m.L) :
    Calls Try.prog 55 #[.agg (sA m vL), .agg #[.int .i64 a, .int .i64 b, .int .i64 o, .int .i64 k]] w (RetS vL (Sp.putR m ⟨(a, b), o, k⟩) w) := by
  have hL := QP.first hv a b o k
  obtain ⟨p, cap, rfl, hc1, hc2, hR⟩ := hv
  obtain ⟨⟨x1, y1⟩, ⟨x2, y2⟩, L⟩ := m
  have HQ0 := Lib.hid hL
  simp only at hc1 hR hl
  have HRd := Lib.hid hR
  have hple := ahead_le ⟨(a, b), o, k⟩ L
  have HI := Lib.hid (insB_at ⟨(a, b), o, k⟩ L)
  have HA1 := Lib.hid fun (j : Nat) (c : Sp.Bk) (h : j < ahead ⟨(a, b), o, k⟩ L) (hc : L[j]? = some c) => aheadK_lt h hc
  have HA2 := Lib.hid fun (c : Sp.Bk) (hc : L[ahead ⟨(a, b), o, k⟩ L]? = some c) => aheadK_at hc
  have hpr : Sp.putR ⟨(x1, y1), (x2, y2), L⟩ ⟨(a, b), o, k⟩ = ⟨(x1, y1), (x2, y2), Sp.insB ⟨(a, b), o, k⟩ L⟩ := rfl
  rw [hpr]
  generalize Sp.insB ⟨(a, b), o, k⟩ L = L' at HI ⊢
  generalize ahead ⟨(a, b), o, k⟩ L = q at hple HI HA1 HA2
  simp only [sA, Sp.spc0] at HQ0 ⊢
  clear hL hR hpr
  go_enter Try.func55, Try.ntmps55
  go_wp2_with fail
  go_loopw [5] (fun vi wr => ∃ n : Nat, n ≤ q ∧ vi = .int .i64 n ∧ Hid (QP w wr ⟨(x1, y1), (x2, y2), L⟩ (.slice p L.length cap) a b o k)) (fun vi _ => q - (intOf vi).toNat)
  case atStart => exact ⟨0, Nat.zero_le _, rfl, HQ0⟩
  case round =>
    obtain ⟨n, hn, rfl, HQ⟩ := hrel
    obtain ⟨-, -, -, -, -, -, c6⟩ := HQ.out.U.cs
    have d0 : wr.cell? ⟨w.heap.size + 1, 0, none⟩ = some (.int .i64 a) := HQ.out.bb.cell 0
    by_cases hlt : n < q
    · have hltL : n < L.length := by omega
      obtain ⟨c, hc⟩ : ∃ c, L[n]? = some c := ⟨_, List.getElem?_eq_getElem hltL⟩
      have hcc : L[n] = c := (List.getElem?_eq_some_iff.1 hc).2
      obtain ⟨bb, off, rfl, hbs, hcl⟩ := (HRd.out.below HQ.out.U.bel (Nat.le_refl _)).at hltL
      rw [hcc] at hcl
      have c0 := hcl 0 _ rfl
      simp only [Nat.add_zero] at c0
      have hlt2 := HA1.out n c hlt hc
      have hd1 : decide ((n : Int) < (L.length : Int)) = true := by simpa using hltL
      have hd2 : decide (c.sp.1 < a) = true := by simpa using hlt2
      clear hcl hc hcc
      go_wp2_with fail
      go_quiet (fail)
      go_wp2_with fail
      exact ⟨⟨n + 1, by omega, by go_num, Lib.hid (HQ.out.next (below_drewN (Below.refl _ _) _))⟩, by simp [intOf]; omega⟩
    · obtain rfl : n = q := by omega
      have HTk := Lib.hid (show n = (L.take n).length by rw [List.length_take]; omega)
      have HDk := Lib.hid (show L.length - n = (L.drop n).length by rw [List.length_drop])
      have HE1 := Lib.hid (show L'.length = 0 + (L.take n).length + 1 + (L.drop n).length by rw [HI.out]; simp; omega)
      have HE2 := Lib.hid (show flat encBk L' = [] ++ flat encBk (L.take n) ++ [.int .i64 a, .int .i64 b, .int .i64 o, .int .i64 k] ++ flat encBk (L.drop n) by rw [HI.out]; simp [flat, encBk])
      have HT := Lib.hid ((HRd.out.below HQ.out.U.bel (Nat.le_refl _)).takeK n)
      have HTl := Lib.hid (HRd.out.below HQ.out.U.bel (Nat.le_refl _))
      clear hlt hn
      by_cases hn : n < L.length
      · obtain ⟨c, hc⟩ : ∃ c, L[n]? = some c := ⟨_, List.getElem?_eq_getElem hn⟩
        have hcc : L[n] = c := (List.getElem?_eq_some_iff.1 hc).2
        obtain ⟨bb, off, hpe, hbs, hcl⟩ := (HRd.out.below HQ.out.U.bel (Nat.le_refl _)).at hn
        rw [hcc] at hcl
        have c0 := hcl 0 _ rfl
        simp only [Nat.add_zero] at c0
        have hlt2 := HA2.out c hc
        have hd1 : decide ((n : Int) < (L.length : Int)) = true := by simpa using hn
        have hd2 : decide (c.sp.1 < a) = false := by simpa using hlt2
        subst hpe
        have hck : n < cap := by omega
        replace HTl := Lib.hid (HTl.out.dropK n)
        clear hcl hc hcc
        go_wp2_with fail
        go_quiet (fail)
        clear hd1 hd2 hlt2 c0
        clear hn
        go_wp2_with (first
          | (at_builtin; refine wpList_app_slK elemB12 rfl (.tmp 27) (.tmp 31) rfl wr.heap.size (.slice none 0 0) 0 [] rfl (World.ownsRow_nil _ _ _ _) encBk encBk_len (some ⟨bb, off, none⟩) _ _ (L.take n) HTk.out rfl (HT.out.below (below_drewN (Below.refl _ _) _) (Nat.le_refl _)) encBk_one (by rw [← HTk.out]; omega) (Nat.le_refl _) ?_; intro v3 w3 hown3 _ _ hb3; have Q3 := (HQ.out.next (below_drewN (Below.refl _ _) _)).next hb3; have e0 : w3.cell? ⟨w.heap.size + 1, 0, none⟩ = some (.int .i64 a) := Q3.bb.cell 0; have e1 : w3.cell? ⟨w.heap.size + 1, 1, none⟩ = some (.int .i64 b) := Q3.bb.cell 1; have e2 : w3.cell? ⟨w.heap.size + 1, 2, none⟩ = some (.int .i64 o) := Q3.bb.cell 2; have e3 : w3.cell? ⟨w.heap.size + 1, 3, none⟩ = some (.int .i64 k) := Q3.bb.cell 3)
          | (at_builtin; refine wpList_app elemB12 rfl (.tmp 33) (.tmp 35) rfl wr.heap.size v3 _ _ rfl hown3 1 1 [.int .i64 a, .int .i64 b, .int .i64 o, .int .i64 k] rfl rfl (by simp [Value.oneCell']) (by rw [← HTk.out]; omega) hb3.size ?_; intro v4 w4 hown4 _ _ hb4; have hb24 := hb3.trans hb4; have Q4 := (HQ.out.next (below_drewN (Below.refl _ _) _)).next hb24; obtain ⟨-, -, -, -, -, -, x6⟩ := Q4.U.cs)
          | (at_builtin; refine wpList_app_slK elemB12 rfl (.tmp 37) (.tmp 41) rfl wr.heap.size v4 _ _ rfl hown4 encBk encBk_len _ _ _ (L.drop n) HDk.out rfl (HTl.out.below ((below_drewN (Below.refl _ _) _).trans hb24) (Nat.le_refl _)) encBk_one (by rw [← HTk.out, ← HDk.out]; omega) hb24.size ?_; intro v5 w5 hown5 _ _ hb5; rw [← HE1.out, ← HE2.out] at hown5; obtain ⟨p5, c5, rfl, hd1, hd2, hR5⟩ := SlR.of_owns encBk_len hown5; have hb25 := hb24.trans hb5; have Q5 := HQ.out.own (L' := L') ((below_drewN (Below.refl _ _) _).trans hb25) hown5 ⟨(x1, y1), (x2, y2), L'⟩ rfl; have QN := Lib.hid Q5; have Q5n := HQ.out.next ((below_drewN (Below.refl _ _) _).trans hb25); obtain ⟨y0, y1', y2', y3, y4, y5, y6⟩ := Q5n.U.cs; have yf := Q5n.U.bx.frozen' 6)
          | (refine wpList_store_row rfl _ _ _ rfl (w.heap.size + 2) (sA ⟨(x1, y1), (x2, y2), L'⟩ (.slice p5 L'.length c5)) rfl rfl _ _ QN.out.2.2.2.2 infoS rfl (oneS _ _ _ _) ?_))
        exact bodyPost_ret (results_c rfl _ _ _ _ _ _ _ rfl QN.out.2.2.2.1 Try.underlying31 rfl infoS) rfl ⟨_, rfl, QN.out.2.2.1 _, QN.out.2.1, QN.out.1 _⟩
      · have hd1 : decide ((n : Int) < (L.length : Int)) = false := by simpa using hn
        by_cases hck : cap = n
        · replace HTl := Lib.hid (HTl.out.tail_eq (j := n) (by omega))
          replace HDk := Lib.hid (show 0 = (L.drop n).length by rw [List.length_drop]; omega)
          subst hck
          go_wp2_with fail
          go_quiet (fail)
          clear hd1 hn
          go_wp2_with (first
            | (at_builtin; refine wpList_app_slK elemB12 rfl (.tmp 27) (.tmp 31) rfl wr.heap.size (.slice none 0 0) 0 [] rfl (World.ownsRow_nil _ _ _ _) encBk encBk_len p _ _ (L.take cap) HTk.out rfl (HT.out.below (below_drewN (Below.refl _ _) _) (Nat.le_refl _)) encBk_one (by rw [← HTk.out]; omega) (Nat.le_refl _) ?_; intro v3 w3 hown3 _ _ hb3; have Q3 := (HQ.out.next (below_drewN (Below.refl _ _) _)).next hb3; have e0 : w3.cell? ⟨w.heap.size + 1, 0, none⟩ = some (.int .i64 a) := Q3.bb.cell 0; have e1 : w3.cell? ⟨w.heap.size + 1, 1, none⟩ = some (.int .i64 b) := Q3.bb.cell 1; have e2 : w3.cell? ⟨w.heap.size + 1, 2, none⟩ = some (.int .i64 o) := Q3.bb.cell 2; have e3 : w3.cell? ⟨w.heap.size + 1, 3, none⟩ = some (.int .i64 k) := Q3.bb.cell 3)
            | (at_builtin; refine wpList_app elemB12 rfl (.tmp 33) (.tmp 35) rfl wr.heap.size v3 _ _ rfl hown3 1 1 [.int .i64 a, .int .i64 b, .int .i64 o, .int .i64 k] rfl rfl (by simp [Value.oneCell']) (by rw [← HTk.out]; omega) hb3.size ?_; intro v4 w4 hown4 _ _ hb4; have hb24 := hb3.trans hb4; have Q4 := (HQ.out.next (below_drewN (Below.refl _ _) _)).next hb24; obtain ⟨-, -, -, -, -, -, x6⟩ := Q4.U.cs)
            | (at_builtin; refine wpList_app_slK elemB12 rfl (.tmp 37) (.tmp 41) rfl wr.heap.size v4 _ _ rfl hown4 encBk encBk_len _ _ _ (L.drop cap) HDk.out rfl (HTl.out.below ((below_drewN (Below.refl _ _) _).trans hb24) (Nat.le_refl _)) encBk_one (by rw [← HTk.out, ← HDk.out]; omega) hb24.size ?_; intro v5 w5 hown5 _ _ hb5; rw [← HE1.out, ← HE2.out] at hown5; obtain ⟨p5, c5, rfl, hd1, hd2, hR5⟩ := SlR.of_owns encBk_len hown5; have hb25 := hb24.trans hb5; have Q5 := HQ.out.own (L' := L') ((below_drewN (Below.refl _ _) _).trans hb25) hown5 ⟨(x1, y1), (x2, y2), L'⟩ rfl; have QN := Lib.hid Q5; have Q5n := HQ.out.next ((below_drewN (Below.refl _ _) _).trans hb25); obtain ⟨y0, y1', y2', y3, y4, y5, y6⟩ := Q5n.U.cs; have yf := Q5n.U.bx.frozen' 6)
            | (refine wpList_store_row rfl _ _ _ rfl (w.heap.size + 2) (sA ⟨(x1, y1), (x2, y2), L'⟩ (.slice p5 L'.length c5)) rfl rfl _ _ QN.out.2.2.2.2 infoS rfl (oneS _ _ _ _) ?_))
          exact bodyPost_ret (results_c rfl _ _ _ _ _ _ _ rfl QN.out.2.2.2.1 Try.underlying31 rfl infoS) rfl ⟨_, rfl, QN.out.2.2.1 _, QN.out.2.1, QN.out.1 _⟩
        · replace HTl := Lib.hid (HTl.out.tail n)
          have hck' : n < cap := by omega
          clear hck
          go_wp2_with fail
          go_quiet (fail)
          clear hd1 hn
          go_wp2_with (first
            | (at_builtin; refine wpList_app_slK elemB12 rfl (.tmp 27) (.tmp 31) rfl wr.heap.size (.slice none 0 0) 0 [] rfl (World.ownsRow_nil _ _ _ _) encBk encBk_len p _ _ (L.take n) HTk.out rfl (HT.out.below (below_drewN (Below.refl _ _) _) (Nat.le_refl _)) encBk_one (by rw [← HTk.out]; omega) (Nat.le_refl _) ?_; intro v3 w3 hown3 _ _ hb3; have Q3 := (HQ.out.next (below_drewN (Below.refl _ _) _)).next hb3; have e0 : w3.cell? ⟨w.heap.size + 1, 0, none⟩ = some (.int .i64 a) := Q3.bb.cell 0; have e1 : w3.cell? ⟨w.heap.size + 1, 1, none⟩ = some (.int .i64 b) := Q3.bb.cell 1; have e2 : w3.cell? ⟨w.heap.size + 1, 2, none⟩ = some (.int .i64 o) := Q3.bb.cell 2; have e3 : w3.cell? ⟨w.heap.size + 1, 3, none⟩ = some (.int .i64 k) := Q3.bb.cell 3)
            | (at_builtin; refine wpList_app elemB12 rfl (.tmp 33) (.tmp 35) rfl wr.heap.size v3 _ _ rfl hown3 1 1 [.int .i64 a, .int .i64 b, .int .i64 o, .int .i64 k] rfl rfl (by simp [Value.oneCell']) (by rw [← HTk.out]; omega) hb3.size ?_; intro v4 w4 hown4 _ _ hb4; have hb24 := hb3.trans hb4; have Q4 := (HQ.out.next (below_drewN (Below.refl _ _) _)).next hb24; obtain ⟨-, -, -, -, -, -, x6⟩ := Q4.U.cs)
            | (at_builtin; refine wpList_app_slK elemB12 rfl (.tmp 37) (.tmp 41) rfl wr.heap.size v4 _ _ rfl hown4 encBk encBk_len _ _ _ (L.drop n) HDk.out rfl (HTl.out.below ((below_drewN (Below.refl _ _) _).trans hb24) (Nat.le_refl _)) encBk_one (by rw [← HTk.out, ← HDk.out]; omega) hb24.size ?_; intro v5 w5 hown5 _ _ hb5; rw [← HE1.out, ← HE2.out] at hown5; obtain ⟨p5, c5, rfl, hd1, hd2, hR5⟩ := SlR.of_owns encBk_len hown5; have hb25 := hb24.trans hb5; have Q5 := HQ.out.own (L' := L') ((below_drewN (Below.refl _ _) _).trans hb25) hown5 ⟨(x1, y1), (x2, y2), L'⟩ rfl; have QN := Lib.hid Q5; have Q5n := HQ.out.next ((below_drewN (Below.refl _ _) _).trans hb25); obtain ⟨y0, y1', y2', y3, y4, y5, y6⟩ := Q5n.U.cs; have yf := Q5n.U.bx.frozen' 6)
            | (refine wpList_store_row rfl _ _ _ rfl (w.heap.size + 2) (sA ⟨(x1, y1), (x2, y2), L'⟩ (.slice p5 L'.length c5)) rfl rfl _ _ QN.out.2.2.2.2 infoS rfl (oneS _ _ _ _) ?_))
          exact bodyPost_ret (results_c rfl _ _ _ _ _ _ _ rfl QN.out.2.2.2.1 Try.underlying31 rfl infoS) rfl ⟨_, rfl, QN.out.2.2.1 _, QN.out.2.1, QN.out.1 _⟩
end Go.Proofs.Ytbeombmblifohaa
