import Derived.Test.YtilahcnpjbnjiaaGreatDoorSpcRefLeft
import Derived.Test.YtilahcnpjbnjiaaGreatDoorMBase
/- The document's spaces: Index, Owner, Close. -/
namespace Go.Proofs.YtilahcnpjbnjiaaGreatDoor
set_option linter.unusedVariables false
set_option linter.unusedSimpArgs false
open Go.RowKit Go.Shelf Go.Proofs

/-- a slice's block is that of another one, or a new one -/
def NewV (w : World) (v0 v : Value) : Prop := ∀ b, v.ownBlock = some b → v0.ownBlock = some b ∨ w.heap.size ≤ b
theorem NewV.refl (w : World) (v : Value) : NewV w v v := fun _ h => Or.inl h
/-- the document's space comes back, and an int -/
def RetSE (v0 : Value) (q : Sp.Spc × Int) (w : World) (e : Ending) (w' : World) : Prop := ∃ vL, e = .returned (.tuple #[.agg (sA q.1 vL), .int .i64 q.2]) ∧ SlR w' 4 encBk vL q.1.L ∧ NewV w v0 vL ∧ Below w.heap.size w w'
theorem infoS : (Tryz.prog.info? 44).map (·.size) = some 7 := by kernel_rfl
theorem oneS (m : Sp.Spc) (p : Option Addr) (n c : Nat) : (sA m (.slice p n c)).all (·.oneCell') = true := by simp [sA, Value.oneCell']
theorem results_ct {P : Program} {fn : Func} {p q : Tmp} {ty : TypeId} (h : fn.results = #[.cell p ty, .tmp q]) (tmps : Array Value) (w : World) (g : Nat) (t : TypeId) (cs : Array Value) (fr : Nat × Nat) (d : TypeDesc)
    (hp : tmps.getD p undef = .pointer (some ⟨g, 0, none⟩)) (hg : w.heap[g]? = some (.cells cs t fr))
    (hu : P.underlying ty = some d) (hd : (match d with | .struct _ | .array _ _ => true | _ => false) = true) (hi : (P.info? ty).map (·.size) = some cs.size) :
    (results fn tmps).run P w = .ok (.tuple #[.agg cs, tmps.getD q undef]) w := by
  have hp' : tmps[p]?.getD undef = .pointer (some ⟨g, 0, none⟩) := by simpa using hp
  simp [results, h, hp', asAddr, run_loadVar_row w g t ty cs fr d hg hu hd hi]
/-- the space's box is whole -/
structure QU (w W : World) (b : Nat) (m : Sp.Spc) (vL : Value) : Prop where
  rd : SlR W 4 encBk vL m.L
  bx : Blk W b 44 (sA m vL)
  bel : Below w.heap.size w W
theorem QU.next {w W : World} {b : Nat} {m : Sp.Spc} {vL : Value} (h : QU w W b m vL) {W' : World} (hb : Below W.heap.size W W') : QU w W' b m vL :=
  ⟨h.rd.below hb (Nat.le_refl _), h.bx.below hb h.bx.lt, h.bel.trans (hb.mono h.bel.size)⟩
theorem QU.first (w : World) (m : Sp.Spc) (vL : Value) (h : SlR w 4 encBk vL m.L) : QU w (w.alloc (.cells (sA m vL) 44)) w.heap.size m vL :=
  ⟨h.below (belowA w _) (Nat.le_refl _), Blk.new _ _ _, belowA w _⟩
theorem QU.cs {w W : World} {b : Nat} {x1 y1 x2 y2 : Int} {L : List Sp.Bk} {vL : Value} (h : QU w W b ⟨(x1, y1), (x2, y2), L⟩ vL) :
    W.cell? ⟨b, 0, none⟩ = some (.int .i64 0) ∧ W.cell? ⟨b, 1, none⟩ = some (.int .i64 0) ∧ W.cell? ⟨b, 2, none⟩ = some (.int .i64 x1) ∧ W.cell? ⟨b, 3, none⟩ = some (.int .i64 y1) ∧
    W.cell? ⟨b, 4, none⟩ = some (.int .i64 x2) ∧ W.cell? ⟨b, 5, none⟩ = some (.int .i64 y2) ∧ W.cell? ⟨b, 6, none⟩ = some vL :=
  ⟨h.bx.cell 0, h.bx.cell 1, h.bx.cell 2, h.bx.cell 3, h.bx.cell 4, h.bx.cell 5, h.bx.cell 6⟩
/-- and the result's is there -/
structure QZ (w W : World) (b z : Nat) (m : Sp.Spc) (vL : Value) : Prop where
  U : QU w W b m vL
  bz : Blk W z 44 (sA Sp.spc0 (.slice none 0 0))
  hz : w.heap.size ≤ z
theorem QZ.next {w W : World} {b z : Nat} {m : Sp.Spc} {vL : Value} (h : QZ w W b z m vL) {W' : World} (hb : Below W.heap.size W W') : QZ w W' b z m vL :=
  ⟨h.U.next hb, h.bz.below hb h.bz.lt, h.hz⟩

theorem early2 (w : World) (o : Obj) (m : Sp.Spc) (v : Value) : Below w.heap.size w ((w.alloc o).alloc (.cells (sA m v) 44)) ∧ Blk ((w.alloc o).alloc (.cells (sA m v) 44)) (w.heap.size + 1) 44 (sA m v) := by
  have h := Blk.new (w.alloc o) 44 (sA m v)
  rw [World.size_alloc] at h
  exact ⟨(belowA w _).alloc (by simp) _, h⟩
theorem early3 (w : World) (o o2 : Obj) (m : Sp.Spc) (v : Value) : Below w.heap.size w (((w.alloc o).alloc o2).alloc (.cells (sA m v) 44)) ∧ Blk (((w.alloc o).alloc o2).alloc (.cells (sA m v) 44)) (w.heap.size + 2) 44 (sA m v) := by
  have h := Blk.new ((w.alloc o).alloc o2) 44 (sA m v)
  simp only [World.size_alloc] at h
  exact ⟨((belowA w _).alloc (by simp) _).alloc (by simp; omega) _, h⟩
set_option maxHeartbeats 1000000 in
theorem r12_Index (m : Sp.Spc) (hm : Sp.WF m) (vL : Value) (hv : ∃ p n c, vL = .slice p n c) (n : Int) (w : World) :
    Calls Tryz.prog 63 #[.agg (sA m vL), .int .i64 n] w (RetIB (Sp.indexR m n) w) := by
  obtain ⟨p, l, c, rfl⟩ := hv
  have h1 : m.a1 = (0, 0) ∨ (16 ≤ m.a1.1 ∧ m.a1.1 ≤ m.a1.2 ∧ m.a1.2 ≤ 1048575) := hm.w1.imp id Sp.owns_iff.1
  obtain ⟨⟨x1, y1⟩, ⟨x2, y2⟩, L⟩ := m
  have hb : Below w.heap.size w (w.alloc (.cells (sA ⟨(x1, y1), (x2, y2), L⟩ (.slice p l c)) 44)) := belowA w _
  have HB := Lib.hid hb
  clear hb hm
  simp only [sA] at HB ⊢
  simp only [Prod.mk.injEq] at h1
  by_cases hx : x1 = 0
  · have hr : Sp.indexR ⟨(x1, y1), (x2, y2), L⟩ n = (0, false) := by unfold Sp.indexR; exact if_pos (Or.inl hx)
    rw [hr]
    subst hx
    clear hr h1
    go_enter Tryz.func63, Tryz.ntmps63
    go_wp2_with fail
    exact bodyPost_ret (v := .tuple #[.int .i64 0, .bool false]) (by simp [results, Tryz.results63, go_sem]) rfl ⟨rfl, HB.out⟩
  · have hxb : ((x1 : Int) == 0) = false := by rw [beq_eq_false_iff_ne]; exact hx
    obtain ⟨o1, o2, o3⟩ : 16 ≤ x1 ∧ x1 ≤ y1 ∧ y1 ≤ 1048575 := by rcases h1 with ⟨h, _⟩ | h; exact absurd h hx; exact h
    clear h1
    by_cases hn : n < 0 ∨ y1 - x1 < n
    · have hr : Sp.indexR ⟨(x1, y1), (x2, y2), L⟩ n = (0, false) := by unfold Sp.indexR; exact if_pos (Or.inr hn)
      rw [hr]
      clear hr hx
      rcases hn with hn | hn
      · go_enter Tryz.func63, Tryz.ntmps63
        go_wp2_with fail
        exact bodyPost_ret (v := .tuple #[.int .i64 0, .bool false]) (by simp [results, Tryz.results63, go_sem]) rfl ⟨rfl, HB.out⟩
      · have hn0 : ¬ n < 0 := by omega
        go_enter Tryz.func63, Tryz.ntmps63
        go_wp2_with fail
        exact bodyPost_ret (v := .tuple #[.int .i64 0, .bool false]) (by simp [results, Tryz.results63, go_sem]) rfl ⟨rfl, HB.out⟩
    · have hr : Sp.indexR ⟨(x1, y1), (x2, y2), L⟩ n = (x1 + n, true) := by unfold Sp.indexR; exact if_neg (fun h => by rcases h with h | h; exact hx h; exact hn h)
      rw [hr]
      have hn0 : ¬ n < 0 := by omega
      have hn1 : ¬ y1 - x1 < n := by omega
      clear hr hx hn
      go_enter Tryz.func63, Tryz.ntmps63
      go_wp2_with fail
      exact bodyPost_ret (v := .tuple #[.int .i64 (x1 + n), .bool true]) (by simp [results, Tryz.results63, go_sem]) rfl ⟨rfl, HB.out⟩

set_option maxRecDepth 100000 in
set_option maxHeartbeats 2000000 in
theorem r12_Owner (m : Sp.Spc) (hl : m.L.length ≤ 1000000) (vL : Value) (n : Int) (w : World) (hv : SlR w 4 encBk vL m.L) :
    Calls Tryz.prog 64 #[.agg (sA m vL), .int .i64 n] w (RetII (Sp.ownerR m n) w) := by
  have HU0 := Lib.hid (QU.first w m vL hv)
  obtain ⟨p, cap, rfl, hc1, hc2, hR⟩ := hv
  have hr : Sp.ownerR m n = match m.L.find? (Sp.hasL n) with | some b => (b.owner, b.area) | none => (0, 0) := rfl
  obtain ⟨z, hz⟩ : ∃ z, z = Sp.ownerR m n := ⟨_, rfl⟩
  have HZ : Hid (z = match m.L.find? (Sp.hasL n) with | some b => (b.owner, b.area) | none => (0, 0)) := Lib.hid (hz.trans hr)
  rw [← hz]
  clear hr hz hR
  obtain ⟨⟨x1, y1⟩, ⟨x2, y2⟩, L⟩ := m
  simp only [sA] at HU0 HZ hl hc1 ⊢
  go_enter Tryz.func64, Tryz.ntmps64
  go_wp2_with fail
  go_loopw [6] (fun vi wr => ∃ k : Nat, k ≤ L.length ∧ vi = .int .i64 k ∧ Hid (∀ (j : Nat) (d : Sp.Bk), L[j]? = some d → j < k → Sp.hasL n d = false) ∧ Hid (QU w wr w.heap.size ⟨(x1, y1), (x2, y2), L⟩ (.slice p L.length cap))) (fun vi _ => L.length - (intOf vi).toNat)
  case atStart => exact ⟨0, Nat.zero_le _, rfl, Lib.hid (fun j d _ h => by omega), HU0⟩
  case round =>
    obtain ⟨k, hk, rfl, HE, HU⟩ := hrel
    obtain ⟨-, -, -, -, -, -, c6⟩ := HU.out.cs
    by_cases hlt : k < L.length
    · obtain ⟨c, hc⟩ : ∃ c, L[k]? = some c := ⟨_, List.getElem?_eq_getElem hlt⟩
      have hcc : L[k] = c := (List.getElem?_eq_some_iff.1 hc).2
      obtain ⟨q1, cap1, hq1, _, _, hR⟩ := HU.out.rd
      cases hq1
      obtain ⟨bb, off, rfl, hbs, hcl⟩ := hR.at hlt
      rw [hcc] at hcl
      have c0 := hcl 0 _ rfl
      have c1 := hcl 1 _ rfl
      have c2 := hcl 2 _ rfl
      have c3 := hcl 3 _ rfl
      simp only [Nat.add_zero] at c0
      have HC := Lib.hid hc
      clear hcl hcc hc hR
      by_cases h1 : c.sp.1 ≤ n
      · by_cases h2 : n ≤ c.sp.2
        · have hf : L.find? (Sp.hasL n) = some c := find_hit HC.out HE.out (by simp [Sp.hasL, h1, h2])
          have hv : Hid (z = (c.owner, c.area)) := Lib.hid (by rw [HZ.out, hf])
          clear hf
          go_wp2_with fail
          go_quiet (fail)
          go_wp2_with fail
          exact bodyPost_ret (v := .tuple #[.int .i64 c.owner, .int .i64 c.area]) (by simp [results, Tryz.results64, go_sem]) rfl ⟨by rw [hv.out], below_drewN HU.out.bel _⟩
        · have HE2 : Hid (∀ (j : Nat) (d : Sp.Bk), L[j]? = some d → j < k + 1 → Sp.hasL n d = false) := Lib.hid fun j d hd hj => by
            rcases Nat.lt_or_ge j k with h | h
            · exact HE.out j d hd h
            · obtain rfl : j = k := by omega
              rw [HC.out] at hd; cases hd
              simp [Sp.hasL]; omega
          clear HE
          go_wp2_with fail
          exact ⟨⟨k + 1, by omega, by go_num, HE2, HU⟩, by simp [intOf]; omega⟩
      · have HE2 : Hid (∀ (j : Nat) (d : Sp.Bk), L[j]? = some d → j < k + 1 → Sp.hasL n d = false) := Lib.hid fun j d hd hj => by
          rcases Nat.lt_or_ge j k with h | h
          · exact HE.out j d hd h
          · obtain rfl : j = k := by omega
            rw [HC.out] at hd; cases hd
            simp [Sp.hasL, h1]
        clear HE
        go_wp2_with fail
        exact ⟨⟨k + 1, by omega, by go_num, HE2, HU⟩, by simp [intOf]; omega⟩
    · obtain rfl : k = L.length := by omega
      have hf : L.find? (Sp.hasL n) = none := find_miss HE.out
      have hv : Hid (z = (0, 0)) := Lib.hid (by rw [HZ.out, hf])
      clear hf
      go_wp2_with fail
      exact bodyPost_ret (v := .tuple #[.int .i64 0, .int .i64 0]) (by simp [results, Tryz.results64, go_sem]) rfl ⟨by rw [hv.out], HU.out.bel⟩

/-- the result's block, written; both results -/
theorem QZ.set {w W : World} {b z : Nat} {m : Sp.Spc} {vL : Value} (h : QZ w W b z m vL) (m' : Sp.Spc) (v' : Value) : Below w.heap.size w (W.setRow z (sA m' v')) ∧ Blk (W.setRow z (sA m' v')) z 44 (sA m' v') :=
  ⟨below_setRow h.U.bel h.hz _, h.bz.setRow _⟩
end Go.Proofs.YtilahcnpjbnjiaaGreatDoor

/- The document's spaces: put. -/
namespace Go.Proofs.YtilahcnpjbnjiaaGreatDoor
set_option linter.unusedVariables false
set_option linter.unusedSimpArgs false
open Go.RowKit Go.Shelf Go.Proofs

theorem elemB12 : ElemOk Tryz.prog 42 119 4 32 := .mk Tryz.underlying42 (z := .agg #[.int .i64 0, .int .i64 0, .int .i64 0, .int .i64 0]) (by kernel_rfl) (by omega) (by omega) rfl
theorem wpList_app_slK {α : Type} {P : Program} {w : World} {ops : Array Oper} {rest : List Oper} {o : Oper} {a : Act} {Q : Exit → Act → World → Prop} {t e : TypeId} {size bytes : Nat} (hE : ElemOk P t e size bytes) (hgd : o.guard = none) (s x : Operand)
    (ho : o.op = .call { callee := .builtin .append, args := #[s, x], argTypes := #[t, t] })
    (base : Nat) (v : Value) (n : Nat) (xs : List Value) (hs : a.eval s = v) (hown : w.ownsRow base e size v n xs)
    (enc : α → List Value) (hk : ∀ x, (enc x).length = size) (p : Option Addr) (c m : Nat) (ys : List α) (hm : m = ys.length) (hx : a.eval x = .slice p m c) (hr : RdP w size enc p ys) (h1 : ∀ y, ∀ u ∈ enc y, u.oneCell' = true)
    (hsm : n + ys.length ≤ 1099511627776) (hbase : base ≤ w.heap.size)
    (h : ∀ v' w', w'.ownsRow base e size v' (n + ys.length) (xs ++ flat enc ys) → w.grownBy w' v.ownBlock → (v'.ownBlock = v.ownBlock ∨ v'.ownBlock = some w.heap.size) → Below base w w' → wpList P ops Q rest (a.put o.dst v') w') :
    wpList P ops Q (o :: rest) a w := by
  subst hm
  exact wpList_app_sl hE hgd s x ho base v n xs hs hown enc hk p c ys hx hr h1 hsm hbase h
theorem RdP.takeK {α : Type} {w : World} {k : Nat} {enc : α → List Value} {p : Option Addr} {xs : List α} (h : RdP w k enc p xs) (j : Nat) : RdP w k enc p (xs.take j) := by
  refine ⟨fun e => by rw [List.length_take, h.1 e]; omega, fun a ha => ?_⟩
  obtain ⟨h6, h7, h8⟩ := h.2 a ha
  refine ⟨h6, h7, fun i x hx j' u hu => h8 i x ?_ j' u hu⟩
  rw [List.getElem?_take] at hx
  split at hx
  · exact hx
  · cases hx
theorem RdP.dropK {α : Type} {w : World} {k : Nat} {enc : α → List Value} {b off : Nat} {xs : List α} (h : RdP w k enc (some ⟨b, off, none⟩) xs) (j : Nat) : RdP w k enc (some ⟨b, off + j * k, none⟩) (xs.drop j) := by
  obtain ⟨h6, h7, h8⟩ := h.2 _ rfl
  refine ⟨fun e => (by cases e), fun a ha => ?_⟩
  cases ha
  refine ⟨rfl, h7, fun i x hx j' u hu => ?_⟩
  rw [List.getElem?_drop] at hx
  have := h8 _ x hx j' u hu
  rw [← this]
  congr 2
  simp only [Nat.add_mul]
  omega
/-- 's[k:]', whatever the address -/
theorem RdP.tail_eq {α : Type} {w : World} {n : Nat} {enc : α → List Value} {p : Option Addr} {xs : List α} (h : RdP w n enc p xs) {j : Nat} (hc : xs.length ≤ j) : RdP w n enc p (xs.drop j) := by
  rw [show xs.drop j = xs.take 0 by rw [List.drop_of_length_le (by omega)]; rfl]
  exact h.takeK 0
theorem RdP.tail {α : Type} {w : World} {n : Nat} {enc : α → List Value} {p : Option Addr} {xs : List α} (h : RdP w n enc p xs) (j : Nat) : RdP w n enc (p.map (fun x => x.add (j * n))) (xs.drop j) := by
  cases p with
  | none =>
    have : xs = [] := List.eq_nil_of_length_eq_zero (h.1 rfl)
    subst this
    simpa using h
  | some a =>
    obtain ⟨b, off, spot⟩ := a
    obtain rfl : spot = none := (h.2 _ rfl).1
    have := h.dropK j
    have e : (⟨b, off, none⟩ : Addr).add (j * n) = ⟨b, off + j * n, none⟩ := by unfold Addr.add; split <;> simp_all
    simp only [Option.map_some, e]
    exact this
/-- the document's space comes back -/
def RetS (v0 : Value) (q : Sp.Spc) (w : World) (e : Ending) (w' : World) : Prop := ∃ vL, e = .returned (.agg (sA q vL)) ∧ SlR w' 4 encBk vL q.L ∧ NewV w v0 vL ∧ Below w.heap.size w w'
theorem results_c {P : Program} {fn : Func} {p : Tmp} {ty : TypeId} (h : fn.results = #[.cell p ty]) (tmps : Array Value) (w : World) (g : Nat) (t : TypeId) (cs : Array Value) (fr : Nat × Nat) (d : TypeDesc)
    (hp : tmps.getD p undef = .pointer (some ⟨g, 0, none⟩)) (hg : w.heap[g]? = some (.cells cs t fr))
    (hu : P.underlying ty = some d) (hd : (match d with | .struct _ | .array _ _ => true | _ => false) = true) (hi : (P.info? ty).map (·.size) = some cs.size) :
    (results fn tmps).run P w = .ok (.agg cs) w := by
  have hp' : tmps[p]?.getD undef = .pointer (some ⟨g, 0, none⟩) := by simpa using hp
  simp [results, h, hp', asAddr, run_loadVar_row w g t ty cs fr d hg hu hd hi]
theorem aheadK_lt {b : Sp.Bk} : ∀ {L : List Sp.Bk} {j : Nat} {c : Sp.Bk}, j < ahead b L → L[j]? = some c → c.sp.1 < b.sp.1
  | [], j, c, h, hc => by simp at hc
  | d :: r, j, c, h, hc => by
    by_cases hd : d.sp.1 < b.sp.1
    · cases j with
      | zero => cases hc; exact hd
      | succ j => exact aheadK_lt (L := r) (j := j) (by simp [ahead, List.takeWhile_cons, hd] at h ⊢; exact h) (by simpa using hc)
    · simp [ahead, List.takeWhile_cons, hd] at h
theorem aheadK_at {b : Sp.Bk} : ∀ {L : List Sp.Bk} {c : Sp.Bk}, L[ahead b L]? = some c → ¬ c.sp.1 < b.sp.1
  | [], c, hc => by simp at hc
  | d :: r, c, hc => by
    by_cases hd : d.sp.1 < b.sp.1
    · refine aheadK_at (L := r) ?_
      simpa [ahead, List.takeWhile_cons, hd] using hc
    · have e : ahead b (d :: r) = 0 := by simp [ahead, List.takeWhile_cons, hd]
      rw [e] at hc
      cases hc
      exact hd
/-- put's boxes -/
structure QP (w W : World) (m : Sp.Spc) (vL : Value) (a b o k : Int) : Prop where
  U : QU w W w.heap.size m vL
  bb : Blk W (w.heap.size + 1) 119 #[.int .i64 a, .int .i64 b, .int .i64 o, .int .i64 k]
  bz : Blk W (w.heap.size + 2) 44 (sA Sp.spc0 (.slice none 0 0))
theorem QP.next {w W : World} {m : Sp.Spc} {vL : Value} {a b o k : Int} (h : QP w W m vL a b o k) {W' : World} (hb : Below W.heap.size W W') : QP w W' m vL a b o k :=
  ⟨h.U.next hb, h.bb.below hb h.bb.lt, h.bz.below hb h.bz.lt⟩
theorem QP.first {w : World} {m : Sp.Spc} {vL : Value} (h : SlR w 4 encBk vL m.L) (a b o k : Int) : QP w (((w.alloc (.cells (sA m vL) 44)).alloc (.cells #[.int .i64 a, .int .i64 b, .int .i64 o, .int .i64 k] 119)).alloc (.cells (sA Sp.spc0 (.slice none 0 0)) 44)) m vL a b o k := by
  have h1 := Blk.new (w.alloc (.cells (sA m vL) 44)) 119 #[.int .i64 a, .int .i64 b, .int .i64 o, .int .i64 k]
  have h2 := Blk.new ((w.alloc (.cells (sA m vL) 44)).alloc (.cells #[.int .i64 a, .int .i64 b, .int .i64 o, .int .i64 k] 119)) 44 (sA Sp.spc0 (.slice none 0 0))
  simp only [World.size_alloc] at h1 h2
  exact ⟨((QU.first w m vL h).next (belowA _ _)).next (belowA _ _), h1.alloc _, h2⟩
theorem QP.own {w W W' : World} {m : Sp.Spc} {vL v' : Value} {a b o k : Int} (h : QP w W m vL a b o k) {L' : List Sp.Bk} (hb : Below W.heap.size W W') (ho : W'.ownsRow W.heap.size 119 4 v' L'.length (flat encBk L')) (m' : Sp.Spc) (hm : m'.L = L') :
    (∀ cs, Below w.heap.size w ((W'.setCell ⟨w.heap.size, 6, none⟩ v').setRow (w.heap.size + 2) cs)) ∧ NewV w vL v' ∧ (∀ cs, SlR ((W'.setCell ⟨w.heap.size, 6, none⟩ v').setRow (w.heap.size + 2) cs) 4 encBk v' m'.L) ∧
      Blk ((W'.setCell ⟨w.heap.size, 6, none⟩ v').setRow (w.heap.size + 2) (sA m' v')) (w.heap.size + 2) 44 (sA m' v') ∧ Blk (W'.setCell ⟨w.heap.size, 6, none⟩ v') (w.heap.size + 2) 44 (sA Sp.spc0 (.slice none 0 0)) := by
  have hn := h.next hb
  have hlt := h.bz.lt
  have hz := hn.bz.other ⟨w.heap.size, 6, none⟩ v' (by simp)
  refine ⟨fun cs => below_setRow (hn.U.bel.setCell (Nat.le_refl _) _) (by omega) _, fun b hb' => Or.inr (by have := (ho.lt b hb').1; omega), fun cs => ?_, hz.setRow _, hz⟩
  subst hm
  have s1 := SlR.of_owns encBk_len ho
  have s2 := (Frm.setCell w.heap.size none W' 6 v').slr s1 (fun b hb' => ⟨by have := (ho.lt b hb').1; omega, by simp⟩)
  exact (Frm.setRow (w.heap.size + 2) none _ cs).slr s2 (fun b hb' => ⟨by have := (ho.lt b hb').1; omega, by simp⟩)
set_option maxRecDepth 100000 in
set_option maxHeartbeats 4000000 in
theorem r12_put (m : Sp.Spc) (a b o k : Int) (hl : m.L.length ≤ 1000000) (vL : Value) (w : World) (hv : SlR w 4 encBk vL m.L) :
    Calls Tryz.prog 62 #[.agg (sA m vL), .agg #[.int .i64 a, .int .i64 b, .int .i64 o, .int .i64 k]] w (RetS vL (Sp.putR m ⟨(a, b), o, k⟩) w) := by
  have hL := QP.first hv a b o k
  obtain ⟨p, cap, rfl, hc1, hc2, hR⟩ := hv
  obtain ⟨⟨x1, y1⟩, ⟨x2, y2⟩, L⟩ := m
  have HQ0 := Lib.hid hL
  simp only at hc1 hR hl
  have HRd := Lib.hid hR
  have hple := ahead_le ⟨(a, b), o, k⟩ L
  have HI := Lib.hid (insB_at ⟨(a, b), o, k⟩ L)
  have HA1 := Lib.hid fun (j : Nat) (c : Sp.Bk) (h : j < ahead ⟨(a, b), o, k⟩ L) (hc : L[j]? = some c) => aheadK_lt h hc
  have HA2 := Lib.hid fun (c : Sp.Bk) (hc : L[ahead ⟨(a, b), o, k⟩ L]? = some c) => aheadK_at hc
  have hpr : Sp.putR ⟨(x1, y1), (x2, y2), L⟩ ⟨(a, b), o, k⟩ = ⟨(x1, y1), (x2, y2), Sp.insB ⟨(a, b), o, k⟩ L⟩ := rfl
  rw [hpr]
  generalize Sp.insB ⟨(a, b), o, k⟩ L = L' at HI ⊢
  generalize ahead ⟨(a, b), o, k⟩ L = q at hple HI HA1 HA2
  simp only [sA, Sp.spc0] at HQ0 ⊢
  clear hL hR hpr
  go_enter Tryz.func62, Tryz.ntmps62
  go_wp2_with fail
  go_loopw [5] (fun vi wr => ∃ n : Nat, n ≤ q ∧ vi = .int .i64 n ∧ Hid (QP w wr ⟨(x1, y1), (x2, y2), L⟩ (.slice p L.length cap) a b o k)) (fun vi _ => q - (intOf vi).toNat)
  case atStart => exact ⟨0, Nat.zero_le _, rfl, HQ0⟩
  case round =>
    obtain ⟨n, hn, rfl, HQ⟩ := hrel
    obtain ⟨-, -, -, -, -, -, c6⟩ := HQ.out.U.cs
    have d0 : wr.cell? ⟨w.heap.size + 1, 0, none⟩ = some (.int .i64 a) := HQ.out.bb.cell 0
    by_cases hlt : n < q
    · have hltL : n < L.length := by omega
      obtain ⟨c, hc⟩ : ∃ c, L[n]? = some c := ⟨_, List.getElem?_eq_getElem hltL⟩
      have hcc : L[n] = c := (List.getElem?_eq_some_iff.1 hc).2
      obtain ⟨bb, off, rfl, hbs, hcl⟩ := (HRd.out.below HQ.out.U.bel (Nat.le_refl _)).at hltL
      rw [hcc] at hcl
      have c0 := hcl 0 _ rfl
      simp only [Nat.add_zero] at c0
      have hlt2 := HA1.out n c hlt hc
      have hd1 : decide ((n : Int) < (L.length : Int)) = true := by simpa using hltL
      have hd2 : decide (c.sp.1 < a) = true := by simpa using hlt2
      clear hcl hc hcc
      go_wp2_with fail
      go_quiet (fail)
      go_wp2_with fail
      exact ⟨⟨n + 1, by omega, by go_num, Lib.hid (HQ.out.next (below_drewN (Below.refl _ _) _))⟩, by simp [intOf]; omega⟩
    · obtain rfl : n = q := by omega
      have HTk := Lib.hid (show n = (L.take n).length by rw [List.length_take]; omega)
      have HDk := Lib.hid (show L.length - n = (L.drop n).length by rw [List.length_drop])
      have HE1 := Lib.hid (show L'.length = 0 + (L.take n).length + 1 + (L.drop n).length by rw [HI.out]; simp; omega)
      have HE2 := Lib.hid (show flat encBk L' = [] ++ flat encBk (L.take n) ++ [.int .i64 a, .int .i64 b, .int .i64 o, .int .i64 k] ++ flat encBk (L.drop n) by rw [HI.out]; simp [flat, encBk])
      have HT := Lib.hid ((HRd.out.below HQ.out.U.bel (Nat.le_refl _)).takeK n)
      have HTl := Lib.hid (HRd.out.below HQ.out.U.bel (Nat.le_refl _))
      clear hlt hn
      by_cases hn : n < L.length
      · obtain ⟨c, hc⟩ : ∃ c, L[n]? = some c := ⟨_, List.getElem?_eq_getElem hn⟩
        have hcc : L[n] = c := (List.getElem?_eq_some_iff.1 hc).2
        obtain ⟨bb, off, hpe, hbs, hcl⟩ := (HRd.out.below HQ.out.U.bel (Nat.le_refl _)).at hn
        rw [hcc] at hcl
        have c0 := hcl 0 _ rfl
        simp only [Nat.add_zero] at c0
        have hlt2 := HA2.out c hc
        have hd1 : decide ((n : Int) < (L.length : Int)) = true := by simpa using hn
        have hd2 : decide (c.sp.1 < a) = false := by simpa using hlt2
        subst hpe
        have hck : n < cap := by omega
        replace HTl := Lib.hid (HTl.out.dropK n)
        clear hcl hc hcc
        go_wp2_with fail
        go_quiet (fail)
        clear hd1 hd2 hlt2 c0
        clear hn
        go_wp2_with (first
          | (at_builtin; refine wpList_app_slK elemB12 rfl (.tmp 27) (.tmp 31) rfl wr.heap.size (.slice none 0 0) 0 [] rfl (World.ownsRow_nil _ _ _ _) encBk encBk_len (some ⟨bb, off, none⟩) _ _ (L.take n) HTk.out rfl (HT.out.below (below_drewN (Below.refl _ _) _) (Nat.le_refl _)) encBk_one (by rw [← HTk.out]; omega) (Nat.le_refl _) ?_; intro v3 w3 hown3 _ _ hb3; have Q3 := (HQ.out.next (below_drewN (Below.refl _ _) _)).next hb3; have e0 : w3.cell? ⟨w.heap.size + 1, 0, none⟩ = some (.int .i64 a) := Q3.bb.cell 0; have e1 : w3.cell? ⟨w.heap.size + 1, 1, none⟩ = some (.int .i64 b) := Q3.bb.cell 1; have e2 : w3.cell? ⟨w.heap.size + 1, 2, none⟩ = some (.int .i64 o) := Q3.bb.cell 2; have e3 : w3.cell? ⟨w.heap.size + 1, 3, none⟩ = some (.int .i64 k) := Q3.bb.cell 3)
          | (at_builtin; refine wpList_app elemB12 rfl (.tmp 33) (.tmp 35) rfl wr.heap.size v3 _ _ rfl hown3 1 1 [.int .i64 a, .int .i64 b, .int .i64 o, .int .i64 k] rfl rfl (by simp [Value.oneCell']) (by rw [← HTk.out]; omega) hb3.size ?_; intro v4 w4 hown4 _ _ hb4; have hb24 := hb3.trans hb4; have Q4 := (HQ.out.next (below_drewN (Below.refl _ _) _)).next hb24; obtain ⟨-, -, -, -, -, -, x6⟩ := Q4.U.cs)
          | (at_builtin; refine wpList_app_slK elemB12 rfl (.tmp 37) (.tmp 41) rfl wr.heap.size v4 _ _ rfl hown4 encBk encBk_len _ _ _ (L.drop n) HDk.out rfl (HTl.out.below ((below_drewN (Below.refl _ _) _).trans hb24) (Nat.le_refl _)) encBk_one (by rw [← HTk.out, ← HDk.out]; omega) hb24.size ?_; intro v5 w5 hown5 _ _ hb5; rw [← HE1.out, ← HE2.out] at hown5; obtain ⟨p5, c5, rfl, hd1, hd2, hR5⟩ := SlR.of_owns encBk_len hown5; have hb25 := hb24.trans hb5; have Q5 := HQ.out.own (L' := L') ((below_drewN (Below.refl _ _) _).trans hb25) hown5 ⟨(x1, y1), (x2, y2), L'⟩ rfl; have QN := Lib.hid Q5; have Q5n := HQ.out.next ((below_drewN (Below.refl _ _) _).trans hb25); obtain ⟨y0, y1', y2', y3, y4, y5, y6⟩ := Q5n.U.cs; have yf := Q5n.U.bx.frozen' 6)
          | (refine wpList_store_row rfl _ _ _ rfl (w.heap.size + 2) (sA ⟨(x1, y1), (x2, y2), L'⟩ (.slice p5 L'.length c5)) rfl rfl _ _ QN.out.2.2.2.2 infoS rfl (oneS _ _ _ _) ?_))
        exact bodyPost_ret (results_c rfl _ _ _ _ _ _ _ rfl QN.out.2.2.2.1 Tryz.underlying44 rfl infoS) rfl ⟨_, rfl, QN.out.2.2.1 _, QN.out.2.1, QN.out.1 _⟩
      · have hd1 : decide ((n : Int) < (L.length : Int)) = false := by simpa using hn
        by_cases hck : cap = n
        · replace HTl := Lib.hid (HTl.out.tail_eq (j := n) (by omega))
          replace HDk := Lib.hid (show 0 = (L.drop n).length by rw [List.length_drop]; omega)
          subst hck
          go_wp2_with fail
          go_quiet (fail)
          clear hd1 hn
          go_wp2_with (first
            | (at_builtin; refine wpList_app_slK elemB12 rfl (.tmp 27) (.tmp 31) rfl wr.heap.size (.slice none 0 0) 0 [] rfl (World.ownsRow_nil _ _ _ _) encBk encBk_len p _ _ (L.take cap) HTk.out rfl (HT.out.below (below_drewN (Below.refl _ _) _) (Nat.le_refl _)) encBk_one (by rw [← HTk.out]; omega) (Nat.le_refl _) ?_; intro v3 w3 hown3 _ _ hb3; have Q3 := (HQ.out.next (below_drewN (Below.refl _ _) _)).next hb3; have e0 : w3.cell? ⟨w.heap.size + 1, 0, none⟩ = some (.int .i64 a) := Q3.bb.cell 0; have e1 : w3.cell? ⟨w.heap.size + 1, 1, none⟩ = some (.int .i64 b) := Q3.bb.cell 1; have e2 : w3.cell? ⟨w.heap.size + 1, 2, none⟩ = some (.int .i64 o) := Q3.bb.cell 2; have e3 : w3.cell? ⟨w.heap.size + 1, 3, none⟩ = some (.int .i64 k) := Q3.bb.cell 3)
            | (at_builtin; refine wpList_app elemB12 rfl (.tmp 33) (.tmp 35) rfl wr.heap.size v3 _ _ rfl hown3 1 1 [.int .i64 a, .int .i64 b, .int .i64 o, .int .i64 k] rfl rfl (by simp [Value.oneCell']) (by rw [← HTk.out]; omega) hb3.size ?_; intro v4 w4 hown4 _ _ hb4; have hb24 := hb3.trans hb4; have Q4 := (HQ.out.next (below_drewN (Below.refl _ _) _)).next hb24; obtain ⟨-, -, -, -, -, -, x6⟩ := Q4.U.cs)
            | (at_builtin; refine wpList_app_slK elemB12 rfl (.tmp 37) (.tmp 41) rfl wr.heap.size v4 _ _ rfl hown4 encBk encBk_len _ _ _ (L.drop cap) HDk.out rfl (HTl.out.below ((below_drewN (Below.refl _ _) _).trans hb24) (Nat.le_refl _)) encBk_one (by rw [← HTk.out, ← HDk.out]; omega) hb24.size ?_; intro v5 w5 hown5 _ _ hb5; rw [← HE1.out, ← HE2.out] at hown5; obtain ⟨p5, c5, rfl, hd1, hd2, hR5⟩ := SlR.of_owns encBk_len hown5; have hb25 := hb24.trans hb5; have Q5 := HQ.out.own (L' := L') ((below_drewN (Below.refl _ _) _).trans hb25) hown5 ⟨(x1, y1), (x2, y2), L'⟩ rfl; have QN := Lib.hid Q5; have Q5n := HQ.out.next ((below_drewN (Below.refl _ _) _).trans hb25); obtain ⟨y0, y1', y2', y3, y4, y5, y6⟩ := Q5n.U.cs; have yf := Q5n.U.bx.frozen' 6)
            | (refine wpList_store_row rfl _ _ _ rfl (w.heap.size + 2) (sA ⟨(x1, y1), (x2, y2), L'⟩ (.slice p5 L'.length c5)) rfl rfl _ _ QN.out.2.2.2.2 infoS rfl (oneS _ _ _ _) ?_))
          exact bodyPost_ret (results_c rfl _ _ _ _ _ _ _ rfl QN.out.2.2.2.1 Tryz.underlying44 rfl infoS) rfl ⟨_, rfl, QN.out.2.2.1 _, QN.out.2.1, QN.out.1 _⟩
        · replace HTl := Lib.hid (HTl.out.tail n)
          have hck' : n < cap := by omega
          clear hck
          go_wp2_with fail
          go_quiet (fail)
          clear hd1 hn
          go_wp2_with (first
            | (at_builtin; refine wpList_app_slK elemB12 rfl (.tmp 27) (.tmp 31) rfl wr.heap.size (.slice none 0 0) 0 [] rfl (World.ownsRow_nil _ _ _ _) encBk encBk_len p _ _ (L.take n) HTk.out rfl (HT.out.below (below_drewN (Below.refl _ _) _) (Nat.le_refl _)) encBk_one (by rw [← HTk.out]; omega) (Nat.le_refl _) ?_; intro v3 w3 hown3 _ _ hb3; have Q3 := (HQ.out.next (below_drewN (Below.refl _ _) _)).next hb3; have e0 : w3.cell? ⟨w.heap.size + 1, 0, none⟩ = some (.int .i64 a) := Q3.bb.cell 0; have e1 : w3.cell? ⟨w.heap.size + 1, 1, none⟩ = some (.int .i64 b) := Q3.bb.cell 1; have e2 : w3.cell? ⟨w.heap.size + 1, 2, none⟩ = some (.int .i64 o) := Q3.bb.cell 2; have e3 : w3.cell? ⟨w.heap.size + 1, 3, none⟩ = some (.int .i64 k) := Q3.bb.cell 3)
            | (at_builtin; refine wpList_app elemB12 rfl (.tmp 33) (.tmp 35) rfl wr.heap.size v3 _ _ rfl hown3 1 1 [.int .i64 a, .int .i64 b, .int .i64 o, .int .i64 k] rfl rfl (by simp [Value.oneCell']) (by rw [← HTk.out]; omega) hb3.size ?_; intro v4 w4 hown4 _ _ hb4; have hb24 := hb3.trans hb4; have Q4 := (HQ.out.next (below_drewN (Below.refl _ _) _)).next hb24; obtain ⟨-, -, -, -, -, -, x6⟩ := Q4.U.cs)
            | (at_builtin; refine wpList_app_slK elemB12 rfl (.tmp 37) (.tmp 41) rfl wr.heap.size v4 _ _ rfl hown4 encBk encBk_len _ _ _ (L.drop n) HDk.out rfl (HTl.out.below ((below_drewN (Below.refl _ _) _).trans hb24) (Nat.le_refl _)) encBk_one (by rw [← HTk.out, ← HDk.out]; omega) hb24.size ?_; intro v5 w5 hown5 _ _ hb5; rw [← HE1.out, ← HE2.out] at hown5; obtain ⟨p5, c5, rfl, hd1, hd2, hR5⟩ := SlR.of_owns encBk_len hown5; have hb25 := hb24.trans hb5; have Q5 := HQ.out.own (L' := L') ((below_drewN (Below.refl _ _) _).trans hb25) hown5 ⟨(x1, y1), (x2, y2), L'⟩ rfl; have QN := Lib.hid Q5; have Q5n := HQ.out.next ((below_drewN (Below.refl _ _) _).trans hb25); obtain ⟨y0, y1', y2', y3, y4, y5, y6⟩ := Q5n.U.cs; have yf := Q5n.U.bx.frozen' 6)
            | (refine wpList_store_row rfl _ _ _ rfl (w.heap.size + 2) (sA ⟨(x1, y1), (x2, y2), L'⟩ (.slice p5 L'.length c5)) rfl rfl _ _ QN.out.2.2.2.2 infoS rfl (oneS _ _ _ _) ?_))
          exact bodyPost_ret (results_c rfl _ _ _ _ _ _ _ rfl QN.out.2.2.2.1 Tryz.underlying44 rfl infoS) rfl ⟨_, rfl, QN.out.2.2.1 _, QN.out.2.1, QN.out.1 _⟩
end Go.Proofs.YtilahcnpjbnjiaaGreatDoor

/- The document's spaces: Carve. -/
namespace Go.Proofs.YtilahcnpjbnjiaaGreatDoor
set_option linter.unusedVariables false
set_option linter.unusedSimpArgs false
open Go.RowKit Go.Shelf Go.Proofs

/-- the boxes of Carve, Take, Free -/
structure QC (w W : World) (m : Sp.Spc) (vL : Value) (a b : Int) : Prop where
  U : QU w W w.heap.size m vL
  bs : Blk W (w.heap.size + 1) 35 #[.int .i64 a, .int .i64 b]
  bz : Blk W (w.heap.size + 2) 44 (sA Sp.spc0 (.slice none 0 0))
section
variable {w W W' : World} {m : Sp.Spc} {vL : Value} {a b : Int}
theorem QC.next (h : QC w W m vL a b) (hb : Below W.heap.size W W') : QC w W' m vL a b := ⟨h.U.next hb, h.bs.below hb h.bs.lt, h.bz.below hb h.bz.lt⟩
theorem QC.drew (h : QC w W m vL a b) : QC w W.drew m vL a b := h.next (Below.refl _ _).drew
theorem QC.first (h : SlR w 4 encBk vL m.L) (a b : Int) : QC w (((w.alloc (.cells (sA m vL) 44)).alloc (.cells #[.int .i64 a, .int .i64 b] 35)).alloc (.cells (sA Sp.spc0 (.slice none 0 0)) 44)) m vL a b := by
  have h1 := Blk.new (w.alloc (.cells (sA m vL) 44)) 35 #[.int .i64 a, .int .i64 b]
  have h2 := Blk.new ((w.alloc (.cells (sA m vL) 44)).alloc (.cells #[.int .i64 a, .int .i64 b] 35)) 44 (sA Sp.spc0 (.slice none 0 0))
  simp only [World.size_alloc] at h1 h2
  exact ⟨((QU.first w m vL h).next (belowA _ _)).next (belowA _ _), h1.alloc _, h2⟩
/-- the end: the result's block is written -/
theorem QC.set (h : QC w W m vL a b) (m' : Sp.Spc) (v' : Value) : Below w.heap.size w (W.setRow (w.heap.size + 2) (sA m' v')) ∧ Blk (W.setRow (w.heap.size + 2) (sA m' v')) (w.heap.size + 2) 44 (sA m' v') :=
  ⟨below_setRow h.U.bel (by omega) _, h.bz.setRow _⟩
end
abbrev SQ (n : Nat) (x1 y1 x2 y2 : Int) (vL : Value) (a b : Int) (W : World) : Prop :=
  W.cell? ⟨n, 0, none⟩ = some (.int .i64 0) ∧ W.cell? ⟨n, 1, none⟩ = some (.int .i64 0) ∧ W.cell? ⟨n, 2, none⟩ = some (.int .i64 x1) ∧ W.cell? ⟨n, 3, none⟩ = some (.int .i64 y1) ∧
  W.cell? ⟨n, 4, none⟩ = some (.int .i64 x2) ∧ W.cell? ⟨n, 5, none⟩ = some (.int .i64 y2) ∧ W.cell? ⟨n, 6, none⟩ = some vL ∧ W.cell? ⟨n + 1, 0, none⟩ = some (.int .i64 a) ∧ W.cell? ⟨n + 1, 1, none⟩ = some (.int .i64 b)
theorem QC.sq {w W : World} {x1 y1 x2 y2 : Int} {L : List Sp.Bk} {vL : Value} {a b : Int} (h : QC w W ⟨(x1, y1), (x2, y2), L⟩ vL a b) : SQ w.heap.size x1 y1 x2 y2 vL a b W :=
  ⟨h.U.bx.cell 0, h.U.bx.cell 1, h.U.bx.cell 2, h.U.bx.cell 3, h.U.bx.cell 4, h.U.bx.cell 5, h.U.bx.cell 6, h.bs.cell 0, h.bs.cell 1⟩
abbrev SQ2 (w : World) (x1 y1 x2 y2 : Int) (L : List Sp.Bk) (vL : Value) (a b : Int) (W : World) : Prop :=
  W.cell? ⟨w.heap.size, 0, none⟩ = some (.int .i64 0) ∧ W.cell? ⟨w.heap.size, 1, none⟩ = some (.int .i64 0) ∧ W.cell? ⟨w.heap.size, 2, none⟩ = some (.int .i64 x1) ∧ W.cell? ⟨w.heap.size, 3, none⟩ = some (.int .i64 y1) ∧
  W.cell? ⟨w.heap.size, 4, none⟩ = some (.int .i64 x2) ∧ W.cell? ⟨w.heap.size, 5, none⟩ = some (.int .i64 y2) ∧ W.cell? ⟨w.heap.size, 6, none⟩ = some vL ∧ W.cell? ⟨w.heap.size + 1, 0, none⟩ = some (.int .i64 a) ∧ W.cell? ⟨w.heap.size + 1, 1, none⟩ = some (.int .i64 b) ∧ QC w W ⟨(x1, y1), (x2, y2), L⟩ vL a b
theorem QC.sq2 {w W : World} {x1 y1 x2 y2 : Int} {L : List Sp.Bk} {vL : Value} {a b : Int} (h : QC w W ⟨(x1, y1), (x2, y2), L⟩ vL a b) : SQ2 w x1 y1 x2 y2 L vL a b W :=
  ⟨h.U.bx.cell 0, h.U.bx.cell 1, h.U.bx.cell 2, h.U.bx.cell 3, h.U.bx.cell 4, h.U.bx.cell 5, h.U.bx.cell 6, h.bs.cell 0, h.bs.cell 1, h⟩

set_option maxRecDepth 100000 in
set_option maxHeartbeats 8000000 in
theorem r12_Carve (m : Sp.Spc) (hm : Sp.WF m) (hl : m.L.length ≤ 1000000) (vL : Value) (k a b : Int) (w : World) (hv : SlR w 4 encBk vL m.L) :
    Calls Tryz.prog 32 #[.agg (sA m vL), .int .i64 k, .agg #[.int .i64 a, .int .i64 b]] w (RetSE vL (Sp.carveR m k (a, b)) w) := by
  have HV := Lib.hid hv
  have H0 := Lib.hid (QC.first hv a b)
  have LF := Lib.hid fun (W : World) (h : QC w W m vL a b) => r12_Left m hm hl 0 vL W h.U.rd
  have MY := Lib.hid fun W => r12_may a b W
  have hll := Sp.left_len hm 0
  have HH := Lib.hid fun (v : Value) (W : World) (h : SlR W 2 encSp v (Sp.leftR m 0)) => ref_Has (Sp.leftR m 0) (a, b) v W (by omega) h
  have hat := hm.at_ k
  obtain ⟨p, cap, rfl, hc1, hc2, hR⟩ := hv
  clear hR
  obtain ⟨⟨x1, y1⟩, ⟨x2, y2⟩, L⟩ := m
  simp only at hl hc1 HV
  simp only [sA, Sp.spc0] at H0 LF ⊢
  obtain ⟨b0, b1, b2, b3, b4, b5, b6⟩ := H0.out.U.cs
  by_cases hk : k < 1 ∨ 2 < k
  · have hr : Sp.carveR ⟨(x1, y1), (x2, y2), L⟩ k (a, b) = (⟨(x1, y1), (x2, y2), L⟩, 1) := by unfold Sp.carveR; exact if_pos hk
    rw [hr]
    have HS := Lib.hid (H0.out.set ⟨(x1, y1), (x2, y2), L⟩ (.slice p L.length cap))
    clear hr LF MY HH hat hll
    have hk2 : (k < 1 ∧ k < 1) ∨ (¬ k < 1 ∧ 2 < k) := by omega
    rcases hk2 with ⟨hk, _⟩ | ⟨hk, hk2⟩
    all_goals
      go_enter Tryz.func32, Tryz.ntmps32
      go_wp2_with (refine wpList_store_row rfl _ _ _ rfl (w.heap.size + 2) (sA ⟨(x1, y1), (x2, y2), L⟩ (.slice p L.length cap)) rfl rfl _ _ H0.out.bz infoS rfl (oneS _ _ _ _) ?_)
      exact bodyPost_ret (results_ct rfl _ _ _ _ _ _ _ rfl HS.out.2 Tryz.underlying44 rfl infoS) rfl ⟨_, rfl, HV.out.below HS.out.1 (Nat.le_refl _), NewV.refl _ _, HS.out.1⟩
  · have hk12 : k = 1 ∨ k = 2 := by omega
    obtain ⟨x, y, hxy⟩ : ∃ x y, Sp.Spc.at ⟨(x1, y1), (x2, y2), L⟩ k = (x, y) := ⟨_, _, rfl⟩
    rw [hxy] at hat
    have hx0 : x = 0 ∨ 0 < x := by
      rcases hat with h | h
      · cases h; exact Or.inl rfl
      · rw [Sp.owns_iff] at h; simp only at h; exact Or.inr (by omega)
    clear hat
    cases how : Sp.owns (a, b)
    · have hr : Sp.carveR ⟨(x1, y1), (x2, y2), L⟩ k (a, b) = (⟨(x1, y1), (x2, y2), L⟩, 40) := by unfold Sp.carveR; rw [if_neg hk, if_pos how]
      rw [hr]
      rw [how] at MY
      clear hr LF HH hll hxy hx0 how
      rcases hk12 with rfl | rfl
      all_goals
        clear hk
        go_enter Tryz.func32, Tryz.ntmps32
        go_wp2_with fail
        refine (MY.out _).mono ?_
        rintro e w1 ⟨rfl, hb1⟩
        have H1 := Lib.hid (H0.out.next hb1)
        have HS := Lib.hid (H1.out.set ⟨(x1, y1), (x2, y2), L⟩ (.slice p L.length cap))
        clear b0 b1 b2 b3 b4 b5 b6 hb1 H0
        obtain ⟨b0, b1, b2, b3, b4, b5, b6, -, -⟩ := H1.out.sq
        go_wp2_with (refine wpList_store_row rfl _ _ _ rfl (w.heap.size + 2) (sA ⟨(x1, y1), (x2, y2), L⟩ (.slice p L.length cap)) rfl rfl _ _ H1.out.bz infoS rfl (oneS _ _ _ _) ?_)
        exact bodyPost_ret (results_ct rfl _ _ _ _ _ _ _ rfl HS.out.2 Tryz.underlying44 rfl infoS) rfl ⟨_, rfl, HV.out.below HS.out.1 (Nat.le_refl _), NewV.refl _ _, HS.out.1⟩
    · rw [how] at MY
      rcases hx0 with hx | hx
      · have hd : Sp.carveR ⟨(x1, y1), (x2, y2), L⟩ k (a, b) = if Sp.has (Sp.leftR ⟨(x1, y1), (x2, y2), L⟩ 0) (a, b) = false then (⟨(x1, y1), (x2, y2), L⟩, 42) else (Sp.Spc.lay ⟨(x1, y1), (x2, y2), L⟩ k (a, b), 0) := by
          unfold Sp.carveR; rw [if_neg hk, if_neg (by rw [how]; simp), if_neg (by rw [hxy, hx]; simp)]
        rw [hd]
        clear hd how
        have LF' := Lib.hid fun (W : World) (h : QC w W ⟨(x1, y1), (x2, y2), L⟩ (.slice p L.length cap) a b) => LF.out W h
        generalize Sp.leftR ⟨(x1, y1), (x2, y2), L⟩ 0 = lf at LF LF' HH hll ⊢
        rcases hk12 with rfl | rfl
        all_goals
          first
            | (have e : x1 = x := congrArg Prod.fst hxy; have hxd : decide (0 < x1) = false := by (rw [e]; simp; omega))
            | (have e : x2 = x := congrArg Prod.fst hxy; have hxd : decide (0 < x2) = false := by (rw [e]; simp; omega))
          clear hk hxy hx e
          cases hh : Sp.has lf (a, b)
          all_goals
            rw [hh] at HH
            clear hh LF
            go_enter Tryz.func32, Tryz.ntmps32
            go_wp2_with fail
            refine (MY.out _).mono ?_
            rintro e w1 ⟨rfl, hb1⟩
            have H1 := Lib.hid (H0.out.next hb1)
            clear b0 b1 b2 b3 b4 b5 b6 hb1 H0
            obtain ⟨b0, b1, b2, b3, b4, b5, b6, s0, s1⟩ := H1.out.sq
            go_wp2_with fail
            clear b0 b1 b2 b3 b4 b5 b6 s0 s1 hxd
            have hss := H1.out.sq2
            go_region_held3 (fun W => SQ2 w x1 y1 x2 y2 L (.slice p L.length cap) a b W)
              (first
                | exact QC.sq2 (by assumption)
                | (go_split_ands; exact QC.sq2 (by assumption))
                | (go_split_ands; exact QC.sq2 (QC.drew (by assumption))))
              (first
                | (go_at_call 58; go_split_ands; refine (HH.out _ _ (by first | exact hn2 | exact hn2.drew)).mono ?_; rintro e w3 ⟨rfl, hb3⟩; have hst3 := QC.next (w := w) (vL := .slice p L.length cap) (a := a) (b := b) (by assumption) hb3)
                | (go_at_call 59; go_split_ands; refine (LF'.out _ (by assumption)).mono ?_; rintro e w2 ⟨v2, rfl, hn2, hb2⟩; have hst2 := QC.next (w := w) (vL := .slice p L.length cap) (a := a) (b := b) (by assumption) hb2))
        · have HX := Lib.hid hst3
          have HS := Lib.hid (HX.out.set ⟨(x1, y1), (x2, y2), L⟩ (.slice p L.length cap))
          clear hst2 hst3 hn2 hb2 hb3
          obtain ⟨b0, b1, b2, b3, b4, b5, b6, s0, s1⟩ := HX.out.sq
          go_wp2_with (refine wpList_store_row rfl _ _ _ rfl (w.heap.size + 2) (sA ⟨(x1, y1), (x2, y2), L⟩ (.slice p L.length cap)) rfl rfl _ _ HX.out.bz infoS rfl (oneS _ _ _ _) ?_)
          exact bodyPost_ret (results_ct rfl _ _ _ _ _ _ _ rfl HS.out.2 Tryz.underlying44 rfl infoS) rfl ⟨_, rfl, HV.out.below HS.out.1 (Nat.le_refl _), NewV.refl _ _, HS.out.1⟩
        · have HX := Lib.hid hst3
          have hs := hst3
          have HY : Hid (QC w ((w3.setCell ⟨w.heap.size, 2, none⟩ (.int .i64 a)).setCell ⟨w.heap.size, 3, none⟩ (.int .i64 b)) ⟨(a, b), (x2, y2), L⟩ (.slice p L.length cap) a b) := Lib.hid
            ⟨⟨HV.out.below ((hs.U.bel.setCell (Nat.le_refl _) _).setCell (Nat.le_refl _) _) (Nat.le_refl _), (hs.U.bx.set 2 _).set 3 _, (hs.U.bel.setCell (Nat.le_refl _) _).setCell (Nat.le_refl _) _⟩, (hs.bs.other _ _ (by simp)).other _ _ (by simp), (hs.bz.other _ _ (by simp)).other _ _ (by simp)⟩
          have HS2 := Lib.hid (HY.out.set ⟨(a, b), (x2, y2), L⟩ (.slice p L.length cap))
          have g0 := HX.out.U.bx.frozen' 2
          have g1 := HX.out.U.bx.frozen' 3
          clear hst2 hst3 hn2 hb2 hb3 hs
          obtain ⟨b0, b1, b2, b3, b4, b5, b6, s0, s1⟩ := HX.out.sq
          go_wp2_with (refine wpList_store_row rfl _ _ _ rfl (w.heap.size + 2) (sA ⟨(a, b), (x2, y2), L⟩ (.slice p L.length cap)) rfl rfl _ _ HY.out.bz infoS rfl (oneS _ _ _ _) ?_)
          exact bodyPost_ret (results_ct rfl _ _ _ _ _ _ _ rfl HS2.out.2 Tryz.underlying44 rfl infoS) rfl ⟨_, rfl, HV.out.below HS2.out.1 (Nat.le_refl _), NewV.refl _ _, HS2.out.1⟩
        · have HX := Lib.hid hst3
          have HS := Lib.hid (HX.out.set ⟨(x1, y1), (x2, y2), L⟩ (.slice p L.length cap))
          clear hst2 hst3 hn2 hb2 hb3
          obtain ⟨b0, b1, b2, b3, b4, b5, b6, s0, s1⟩ := HX.out.sq
          go_wp2_with (refine wpList_store_row rfl _ _ _ rfl (w.heap.size + 2) (sA ⟨(x1, y1), (x2, y2), L⟩ (.slice p L.length cap)) rfl rfl _ _ HX.out.bz infoS rfl (oneS _ _ _ _) ?_)
          exact bodyPost_ret (results_ct rfl _ _ _ _ _ _ _ rfl HS.out.2 Tryz.underlying44 rfl infoS) rfl ⟨_, rfl, HV.out.below HS.out.1 (Nat.le_refl _), NewV.refl _ _, HS.out.1⟩
        · have HX := Lib.hid hst3
          have hs := hst3
          have HY : Hid (QC w ((w3.setCell ⟨w.heap.size, 4, none⟩ (.int .i64 a)).setCell ⟨w.heap.size, 5, none⟩ (.int .i64 b)) ⟨(x1, y1), (a, b), L⟩ (.slice p L.length cap) a b) := Lib.hid
            ⟨⟨HV.out.below ((hs.U.bel.setCell (Nat.le_refl _) _).setCell (Nat.le_refl _) _) (Nat.le_refl _), (hs.U.bx.set 4 _).set 5 _, (hs.U.bel.setCell (Nat.le_refl _) _).setCell (Nat.le_refl _) _⟩, (hs.bs.other _ _ (by simp)).other _ _ (by simp), (hs.bz.other _ _ (by simp)).other _ _ (by simp)⟩
          have HS2 := Lib.hid (HY.out.set ⟨(x1, y1), (a, b), L⟩ (.slice p L.length cap))
          have g0 := HX.out.U.bx.frozen' 4
          have g1 := HX.out.U.bx.frozen' 5
          clear hst2 hst3 hn2 hb2 hb3 hs
          obtain ⟨b0, b1, b2, b3, b4, b5, b6, s0, s1⟩ := HX.out.sq
          go_wp2_with (refine wpList_store_row rfl _ _ _ rfl (w.heap.size + 2) (sA ⟨(x1, y1), (a, b), L⟩ (.slice p L.length cap)) rfl rfl _ _ HY.out.bz infoS rfl (oneS _ _ _ _) ?_)
          exact bodyPost_ret (results_ct rfl _ _ _ _ _ _ _ rfl HS2.out.2 Tryz.underlying44 rfl infoS) rfl ⟨_, rfl, HV.out.below HS2.out.1 (Nat.le_refl _), NewV.refl _ _, HS2.out.1⟩
      · have hr : Sp.carveR ⟨(x1, y1), (x2, y2), L⟩ k (a, b) = (⟨(x1, y1), (x2, y2), L⟩, 32) := by
          unfold Sp.carveR; rw [if_neg hk, if_neg (by rw [how]; simp), if_pos (by rw [hxy]; simp only [ne_eq]; omega)]
        rw [hr]
        have hxd : decide (0 < x) = true := by simpa using hx
        clear hr LF HH hll how hx
        rcases hk12 with rfl | rfl
        all_goals
          cases hxy
          clear hk
          go_enter Tryz.func32, Tryz.ntmps32
          go_wp2_with fail
          refine (MY.out _).mono ?_
          rintro e w1 ⟨rfl, hb1⟩
          have H1 := Lib.hid (H0.out.next hb1)
          have HS := Lib.hid (H1.out.set ⟨(x1, y1), (x2, y2), L⟩ (.slice p L.length cap))
          clear b0 b1 b2 b3 b4 b5 b6 hb1 H0
          obtain ⟨b0, b1, b2, b3, b4, b5, b6, -, -⟩ := H1.out.sq
          go_wp2_with (refine wpList_store_row rfl _ _ _ rfl (w.heap.size + 2) (sA ⟨(x1, y1), (x2, y2), L⟩ (.slice p L.length cap)) rfl rfl _ _ H1.out.bz infoS rfl (oneS _ _ _ _) ?_)
          exact bodyPost_ret (results_ct rfl _ _ _ _ _ _ _ rfl HS.out.2 Tryz.underlying44 rfl infoS) rfl ⟨_, rfl, HV.out.below HS.out.1 (Nat.le_refl _), NewV.refl _ _, HS.out.1⟩
end Go.Proofs.YtilahcnpjbnjiaaGreatDoor

/- The document's spaces: Take. -/
namespace Go.Proofs.YtilahcnpjbnjiaaGreatDoor
set_option linter.unusedVariables false
set_option linter.unusedSimpArgs false
open Go.RowKit Go.Shelf Go.Proofs

theorem SlR.own_lt {α : Type} {w : World} {n : Nat} {enc : α → List Value} {v : Value} {xs : List α} (h : SlR w n enc v xs) : ∀ b, v.ownBlock = some b → b < w.heap.size := by
  obtain ⟨p, cap, rfl, _, _, hR⟩ := h
  intro b hb
  cases p with
  | none => cases hb
  | some a =>
    have : a.block = b := Option.some.inj hb
    have := hR.lt
    omega
theorem QC.ret {w W W' : World} {m q : Sp.Spc} {vL v4 : Value} {a b : Int} (h : QC w W m vL a b) (hb : Below W.heap.size W W') (hv : SlR w 4 encBk vL m.L) (h4 : SlR W' 4 encBk v4 q.L) (hn : NewV W vL v4) :
    SlR (W'.setRow (w.heap.size + 2) (sA q v4)) 4 encBk v4 q.L ∧ NewV w vL v4 ∧ Below w.heap.size w (W'.setRow (w.heap.size + 2) (sA q v4)) ∧ Blk (W'.setRow (w.heap.size + 2) (sA q v4)) (w.heap.size + 2) 44 (sA q v4) := by
  have hlt := h.bz.lt
  have hn' := h.next hb
  refine ⟨(Frm.setRow (w.heap.size + 2) none _ _).slr h4 (fun b hb' => ⟨?_, by simp⟩), fun b hb' => ?_, (hn'.set q v4).1, (hn'.set q v4).2⟩
  · rcases hn b hb' with e | e
    · have := hv.own_lt b e; omega
    · omega
  · rcases hn b hb' with e | e
    · exact Or.inl e
    · exact Or.inr (by omega)
theorem inR_at {m : Sp.Spc} {s : Sp.S} {k : Nat} (hk : k < 3) (h0 : ∀ j : Nat, j < k → Sp.has (Sp.leftR m (j : Int)) s = false) (h : Sp.has (Sp.leftR m (k : Int)) s = true) : Sp.inR m s = k := by
  unfold Sp.inR
  have hk3 : k = 0 ∨ k = 1 ∨ k = 2 := by omega
  rcases hk3 with rfl | rfl | rfl
  · have h' : Sp.has (Sp.leftR m 0) s = true := h
    simp [h']
  · have h' : Sp.has (Sp.leftR m 1) s = true := h
    have a0 : Sp.has (Sp.leftR m 0) s = false := h0 0 (by omega)
    simp [h', a0]
  · have h' : Sp.has (Sp.leftR m 2) s = true := h
    have a0 : Sp.has (Sp.leftR m 0) s = false := h0 0 (by omega)
    have a1 : Sp.has (Sp.leftR m 1) s = false := h0 1 (by omega)
    simp [h', a0, a1]
theorem inR_none {m : Sp.Spc} {s : Sp.S} (h0 : ∀ j : Nat, j < 3 → Sp.has (Sp.leftR m (j : Int)) s = false) : Sp.inR m s = -1 := by
  have a0 : Sp.has (Sp.leftR m 0) s = false := h0 0 (by omega)
  have a1 : Sp.has (Sp.leftR m 1) s = false := h0 1 (by omega)
  have a2 : Sp.has (Sp.leftR m 2) s = false := h0 2 (by omega)
  unfold Sp.inR
  simp [a0, a1, a2]
set_option maxRecDepth 100000 in
set_option maxHeartbeats 8000000 in
theorem r12_Take (m : Sp.Spc) (hm : Sp.WF m) (hl : m.L.length ≤ 1000000) (vL : Value) (o a b : Int) (w : World) (hv : SlR w 4 encBk vL m.L) :
    Calls Tryz.prog 34 #[.agg (sA m vL), .int .i64 o, .agg #[.int .i64 a, .int .i64 b]] w (RetSE vL (Sp.takeR m o (a, b)) w) := by
  have HV := Lib.hid hv
  have H0 := Lib.hid (QC.first hv a b)
  have LF := Lib.hid fun (k : Int) (W : World) (h : QC w W m vL a b) => r12_Left m hm hl k vL W h.U.rd
  have PT := Lib.hid fun (k : Int) (W : World) (h : QC w W m vL a b) => r12_put m a b o k hl vL W h.U.rd
  have MY := Lib.hid fun W => r12_may a b W
  have HH := Lib.hid fun (k : Int) (v : Value) (W : World) (h : SlR W 2 encSp v (Sp.leftR m k)) => ref_Has (Sp.leftR m k) (a, b) v W (by have := Sp.left_len hm k; omega) h
  have HIN := Lib.hid fun (k : Nat) (hk : k < 3) h0 h => inR_at (m := m) (s := (a, b)) hk h0 h
  have HNO := Lib.hid fun h0 => inR_none (m := m) (s := (a, b)) h0
  have HT : Hid (Sp.takeR m o (a, b) = if o < 1 then (m, 1) else if Sp.owns (a, b) = false then (m, 40) else if Sp.inR m (a, b) < 0 then (m, 42) else (Sp.putR m ⟨(a, b), o, Sp.inR m (a, b)⟩, 0)) := Lib.hid rfl
  obtain ⟨p, cap, rfl, hc1, hc2, hR⟩ := hv
  clear hR
  obtain ⟨⟨x1, y1⟩, ⟨x2, y2⟩, L⟩ := m
  simp only at hl hc1 HV
  simp only [sA, Sp.spc0] at H0 LF PT ⊢
  generalize hq : Sp.takeR ⟨(x1, y1), (x2, y2), L⟩ o (a, b) = q at HT ⊢
  clear hq
  obtain ⟨b0, b1, b2, b3, b4, b5, b6, s0, s1⟩ := H0.out.sq
  by_cases ho : o < 1
  · have hr : q = (⟨(x1, y1), (x2, y2), L⟩, 1) := by rw [HT.out]; exact if_pos ho
    rw [hr]
    have HS := Lib.hid (H0.out.set ⟨(x1, y1), (x2, y2), L⟩ (.slice p L.length cap))
    clear hr LF MY HH PT
    go_enter Tryz.func34, Tryz.ntmps34
    go_wp2_with (refine wpList_store_row rfl _ _ _ rfl (w.heap.size + 2) (sA ⟨(x1, y1), (x2, y2), L⟩ (.slice p L.length cap)) rfl rfl _ _ H0.out.bz infoS rfl (oneS _ _ _ _) ?_)
    exact bodyPost_ret (results_ct rfl _ _ _ _ _ _ _ rfl HS.out.2 Tryz.underlying44 rfl infoS) rfl ⟨_, rfl, HV.out.below HS.out.1 (Nat.le_refl _), NewV.refl _ _, HS.out.1⟩
  · cases how : Sp.owns (a, b)
    · have hr : q = (⟨(x1, y1), (x2, y2), L⟩, 40) := by rw [HT.out, if_neg ho, if_pos how]
      rw [hr]
      rw [how] at MY
      clear hr LF HH PT how
      go_enter Tryz.func34, Tryz.ntmps34
      go_wp2_with fail
      refine (MY.out _).mono ?_
      rintro e w1 ⟨rfl, hb1⟩
      have H1 := Lib.hid (H0.out.next hb1)
      have HS := Lib.hid (H1.out.set ⟨(x1, y1), (x2, y2), L⟩ (.slice p L.length cap))
      clear b0 b1 b2 b3 b4 b5 b6 s0 s1 hb1 H0
      obtain ⟨b0, b1, b2, b3, b4, b5, b6, -, -⟩ := H1.out.sq
      go_wp2_with (refine wpList_store_row rfl _ _ _ rfl (w.heap.size + 2) (sA ⟨(x1, y1), (x2, y2), L⟩ (.slice p L.length cap)) rfl rfl _ _ H1.out.bz infoS rfl (oneS _ _ _ _) ?_)
      exact bodyPost_ret (results_ct rfl _ _ _ _ _ _ _ rfl HS.out.2 Tryz.underlying44 rfl infoS) rfl ⟨_, rfl, HV.out.below HS.out.1 (Nat.le_refl _), NewV.refl _ _, HS.out.1⟩
    · rw [how] at MY
      have HQ : Hid (q = if Sp.inR ⟨(x1, y1), (x2, y2), L⟩ (a, b) < 0 then (⟨(x1, y1), (x2, y2), L⟩, 42) else (Sp.putR ⟨(x1, y1), (x2, y2), L⟩ ⟨(a, b), o, Sp.inR ⟨(x1, y1), (x2, y2), L⟩ (a, b)⟩, 0)) := Lib.hid (by rw [HT.out, if_neg ho, if_neg (by rw [how]; simp)])
      clear HT how
      go_enter Tryz.func34, Tryz.ntmps34
      go_wp2_with fail
      refine (MY.out _).mono ?_
      rintro e w1 ⟨rfl, hb1⟩
      have H1 := Lib.hid (H0.out.next hb1)
      clear b0 b1 b2 b3 b4 b5 b6 s0 s1 hb1 H0
      go_wp2_with fail
      go_loopw [9] (fun vi wr => ∃ n : Nat, n ≤ 3 ∧ vi = .int .i64 n ∧ Hid (∀ j : Nat, j < n → Sp.has (Sp.leftR ⟨(x1, y1), (x2, y2), L⟩ (j : Int)) (a, b) = false) ∧ Hid (QC w wr ⟨(x1, y1), (x2, y2), L⟩ (.slice p L.length cap) a b)) (fun vi _ => 3 - (intOf vi).toNat)
      case atStart => exact ⟨0, Nat.zero_le _, rfl, Lib.hid (fun j h => by omega), H1⟩
      case round =>
        obtain ⟨n, hn, rfl, HF, HC⟩ := hrel
        by_cases hlt : n < 3
        · have hss := HC.out.sq2
          have LF' := Lib.hid fun (W : World) (h : QC w W ⟨(x1, y1), (x2, y2), L⟩ (.slice p L.length cap) a b) => LF.out n W h
          have HH' := Lib.hid (HH.out n)
          have HIN' := Lib.hid (HIN.out n hlt HF.out)
          have HF2 : Hid (Sp.has (Sp.leftR ⟨(x1, y1), (x2, y2), L⟩ (n : Int)) (a, b) = false → ∀ j : Nat, j < n + 1 → Sp.has (Sp.leftR ⟨(x1, y1), (x2, y2), L⟩ (j : Int)) (a, b) = false) := Lib.hid fun h j hj => by
            rcases Nat.lt_or_ge j n with h2 | h2
            · exact HF.out j h2
            · obtain rfl : j = n := by omega
              exact h
          generalize Sp.leftR ⟨(x1, y1), (x2, y2), L⟩ (n : Int) = lf at LF' HH' HIN' HF2
          cases hh : Sp.has lf (a, b)
          all_goals
            have hnI : (n : Int) < 3 := by omega
            rw [hh] at HH'
            have HHH := Lib.hid hh
            clear hh
            go_wp2_with fail
            go_region_held3 (fun W => SQ2 w x1 y1 x2 y2 L (.slice p L.length cap) a b W)
              (first
                | exact QC.sq2 (by assumption)
                | (go_split_ands; exact QC.sq2 (by assumption))
                | (go_split_ands; exact QC.sq2 (QC.drew (by assumption))))
              (first
                | (go_at_call 58; go_split_ands; refine (HH'.out _ _ (by first | exact hn2 | exact hn2.drew)).mono ?_; rintro e w3 ⟨rfl, hb3⟩; have hst3 := QC.next (w := w) (vL := .slice p L.length cap) (a := a) (b := b) (by assumption) hb3)
                | (go_at_call 59; go_split_ands; refine (LF'.out _ (by assumption)).mono ?_; rintro e w2 ⟨v2, rfl, hn2, hb2⟩; have hst2 := QC.next (w := w) (vL := .slice p L.length cap) (a := a) (b := b) (by assumption) hb2))
          · have HX := Lib.hid hst3
            have HF3 := Lib.hid (HF2.out HHH.out)
            clear hst2 hst3 hn2 hb2 hb3
            go_wp2_with fail
            exact ⟨⟨n + 1, by omega, by go_num, HF3, HX⟩, by simp [intOf]; omega⟩
          · have HX := Lib.hid hst3
            have hin := HIN'.out HHH.out
            have hr : q = (Sp.putR ⟨(x1, y1), (x2, y2), L⟩ ⟨(a, b), o, (n : Int)⟩, 0) := by rw [HQ.out, hin, if_neg (by omega)]
            clear HQ
            subst hr
            clear hst2 hst3 hn2 hb2 hb3 hin
            obtain ⟨b0, b1, b2, b3, b4, b5, b6, s0, s1⟩ := HX.out.sq
            go_wp2_with fail
            refine (PT.out n _ HX.out).mono ?_
            rintro e w4 ⟨v4, rfl, h4, hn4, hb4⟩
            have HE := Lib.hid (HX.out.ret hb4 HV.out h4 hn4)
            have HX4 := Lib.hid (HX.out.next hb4)
            obtain ⟨p4, c4, rfl, -, -, hR4⟩ := h4
            clear hn4 hb4 hR4
            go_wp2_with (refine wpList_store_row rfl _ _ _ rfl (w.heap.size + 2) (sA (Sp.putR ⟨(x1, y1), (x2, y2), L⟩ ⟨(a, b), o, (n : Int)⟩) (.slice p4 (Sp.putR ⟨(x1, y1), (x2, y2), L⟩ ⟨(a, b), o, (n : Int)⟩).L.length c4)) rfl rfl _ _ HX4.out.bz infoS rfl (oneS _ _ _ _) ?_)
            exact bodyPost_ret (results_ct rfl _ _ _ _ _ _ _ rfl HE.out.2.2.2 Tryz.underlying44 rfl infoS) rfl ⟨_, rfl, HE.out.1, HE.out.2.1, HE.out.2.2.1⟩
        · obtain rfl : n = 3 := by omega
          have hno := HNO.out HF.out
          have hr : q = (⟨(x1, y1), (x2, y2), L⟩, 42) := by rw [HQ.out, hno, if_pos (by omega)]
          clear HQ
          subst hr
          have HS := Lib.hid (HC.out.set ⟨(x1, y1), (x2, y2), L⟩ (.slice p L.length cap))
          clear hno
          obtain ⟨b0, b1, b2, b3, b4, b5, b6, s0, s1⟩ := HC.out.sq
          go_wp2_with (refine wpList_store_row rfl _ _ _ rfl (w.heap.size + 2) (sA ⟨(x1, y1), (x2, y2), L⟩ (.slice p L.length cap)) rfl rfl _ _ HC.out.bz infoS rfl (oneS _ _ _ _) ?_)
          exact bodyPost_ret (results_ct rfl _ _ _ _ _ _ _ rfl HS.out.2 Tryz.underlying44 rfl infoS) rfl ⟨_, rfl, HV.out.below HS.out.1 (Nat.le_refl _), NewV.refl _ _, HS.out.1⟩
end Go.Proofs.YtilahcnpjbnjiaaGreatDoor

/- The document's spaces: Free. -/
namespace Go.Proofs.YtilahcnpjbnjiaaGreatDoor
set_option linter.unusedVariables false
set_option linter.unusedSimpArgs false
open Go.RowKit Go.Shelf Go.Proofs

theorem run_eql_sp (s t : Sp.S) (w : World) : (binOp .eql 35 (.agg #[.int .i64 s.1, .int .i64 s.2]) (.agg #[.int .i64 t.1, .int .i64 t.2])).run Tryz.prog w = .ok (.bool (decide (s = t))) w := by
  have u3 := Tryz.underlying3
  have a3 := Tryz.isAgg3
  have z3 := Tryz.sizeOf3
  have hS : Tryz.prog.underlying 35 = some (.struct (Tryz.prog.fieldsOf 35)) := by kernel_rfl
  have hp : Tryz.prog.stoodInHeld 35 = false := by kernel_rfl
  obtain ⟨a, b⟩ := s
  obtain ⟨c, d⟩ := t
  rw [run_eql_struct, show (10000 : Nat) = 9999 + 1 from rfl, run_equalIn_agg w 9999 35 _ _ hS hp]
  simp only [Program.fieldsOf, Tryz.underlying35]
  go_simp
  by_cases h1 : a = c <;> by_cases h2 : b = d <;> simp [h1, h2]
theorem QC.own {w W W' : World} {m : Sp.Spc} {vL v' : Value} {a b : Int} (h : QC w W m vL a b) {L' : List Sp.Bk} (hb : Below W.heap.size W W') (ho : W'.ownsRow W.heap.size 119 4 v' L'.length (flat encBk L')) (m' : Sp.Spc) (hm : m'.L = L') :
    (∀ cs, Below w.heap.size w ((W'.setCell ⟨w.heap.size, 6, none⟩ v').setRow (w.heap.size + 2) cs)) ∧ NewV w vL v' ∧ (∀ cs, SlR ((W'.setCell ⟨w.heap.size, 6, none⟩ v').setRow (w.heap.size + 2) cs) 4 encBk v' m'.L) ∧
      Blk ((W'.setCell ⟨w.heap.size, 6, none⟩ v').setRow (w.heap.size + 2) (sA m' v')) (w.heap.size + 2) 44 (sA m' v') ∧ Blk (W'.setCell ⟨w.heap.size, 6, none⟩ v') (w.heap.size + 2) 44 (sA Sp.spc0 (.slice none 0 0)) := by
  have hn := h.next hb
  have hlt := h.bz.lt
  have hz := hn.bz.other ⟨w.heap.size, 6, none⟩ v' (by simp)
  refine ⟨fun cs => below_setRow (hn.U.bel.setCell (Nat.le_refl _) _) (by omega) _, fun b hb' => Or.inr (by have := (ho.lt b hb').1; omega), fun cs => ?_, hz.setRow _, hz⟩
  subst hm
  have s1 := SlR.of_owns encBk_len ho
  have s2 := (Frm.setCell w.heap.size none W' 6 v').slr s1 (fun b hb' => ⟨by have := (ho.lt b hb').1; omega, by simp⟩)
  exact (Frm.setRow (w.heap.size + 2) none _ cs).slr s2 (fun b hb' => ⟨by have := (ho.lt b hb').1; omega, by simp⟩)
theorem idx_hit {α : Type} {q : α → Bool} : ∀ {l : List α} {k : Nat} {c : α}, l[k]? = some c → (∀ (j : Nat) (d : α), l[j]? = some d → j < k → q d = false) → q c = true → l.findIdx? q = some k
  | [], k, c, h, _, _ => by simp at h
  | d :: r, 0, c, h, _, hq => by cases h; simp [hq, List.findIdx?_cons]
  | d :: r, k + 1, c, h, h0, hq => by
    have hd := h0 0 d rfl (by omega)
    rw [List.findIdx?_cons, hd]
    have := idx_hit (l := r) (k := k) (by simpa using h) (fun j e he hj => h0 (j + 1) e (by simpa using he) (by omega)) hq
    simp [this]
theorem idx_miss {α : Type} {q : α → Bool} {l : List α} (h : ∀ (j : Nat) (d : α), l[j]? = some d → j < l.length → q d = false) : l.findIdx? q = none := by
  rw [List.findIdx?_eq_none_iff]
  intro x hx
  obtain ⟨j, hj⟩ := List.getElem?_of_mem hx
  exact h j x hj (List.getElem?_eq_some_iff.1 hj).1
end Go.Proofs.YtilahcnpjbnjiaaGreatDoor

/- The document's spaces: Draw. -/
namespace Go.Proofs.YtilahcnpjbnjiaaGreatDoor
set_option linter.unusedVariables false
set_option linter.unusedSimpArgs false
open Go.RowKit Go.Shelf Go.Proofs

/-- the document's space comes back, a span, and an int -/
def RetSSE (v0 : Value) (q : Sp.Spc × Sp.S × Int) (w : World) (e : Ending) (w' : World) : Prop := ∃ vL, e = .returned (.tuple #[.agg (sA q.1 vL), .agg #[.int .i64 q.2.1.1, .int .i64 q.2.1.2], .int .i64 q.2.2]) ∧ SlR w' 4 encBk vL q.1.L ∧ NewV w v0 vL ∧ Below w.heap.size w w'
theorem one2 (x y : Int) : (#[.int .i64 x, .int .i64 y] : Array Value).all (·.oneCell') = true := by simp [Value.oneCell']
theorem infoSpn : (Tryz.prog.info? 35).map (·.size) = some 2 := by kernel_rfl
theorem results_cct {P : Program} {fn : Func} {p p2 q : Tmp} {ty ty2 : TypeId} (h : fn.results = #[.cell p ty, .cell p2 ty2, .tmp q]) (tmps : Array Value) (w : World) (g g2 : Nat) (t t2 : TypeId) (cs cs2 : Array Value) (fr fr2 : Nat × Nat) (d d2 : TypeDesc)
    (hp : tmps.getD p undef = .pointer (some ⟨g, 0, none⟩)) (hg : w.heap[g]? = some (.cells cs t fr)) (hp2 : tmps.getD p2 undef = .pointer (some ⟨g2, 0, none⟩)) (hg2 : w.heap[g2]? = some (.cells cs2 t2 fr2))
    (hu : P.underlying ty = some d) (hd : (match d with | .struct _ | .array _ _ => true | _ => false) = true) (hi : (P.info? ty).map (·.size) = some cs.size)
    (hu2 : P.underlying ty2 = some d2) (hd2 : (match d2 with | .struct _ | .array _ _ => true | _ => false) = true) (hi2 : (P.info? ty2).map (·.size) = some cs2.size) :
    (results fn tmps).run P w = .ok (.tuple #[.agg cs, .agg cs2, tmps.getD q undef]) w := by
  have hp' : tmps[p]?.getD undef = .pointer (some ⟨g, 0, none⟩) := by simpa using hp
  have hp2' : tmps[p2]?.getD undef = .pointer (some ⟨g2, 0, none⟩) := by simpa using hp2
  simp [results, h, hp', hp2', asAddr, run_loadVar_row w g t ty cs fr d hg hu hd hi, run_loadVar_row w g2 t2 ty2 cs2 fr2 d2 hg2 hu2 hd2 hi2]
/-- Draw's boxes -/
structure QD (w W : World) (m : Sp.Spc) (vL : Value) : Prop where
  U : QU w W w.heap.size m vL
  bz : Blk W (w.heap.size + 1) 44 (sA Sp.spc0 (.slice none 0 0))
  bx : Blk W (w.heap.size + 2) 35 #[.int .i64 0, .int .i64 0]
section
variable {w W W' : World} {m q : Sp.Spc} {vL v4 : Value}
theorem QD.next (h : QD w W m vL) (hb : Below W.heap.size W W') : QD w W' m vL := ⟨h.U.next hb, h.bz.below hb h.bz.lt, h.bx.below hb h.bx.lt⟩
theorem QD.drew (h : QD w W m vL) : QD w W.drew m vL := h.next (Below.refl _ _).drew
theorem QD.first (h : SlR w 4 encBk vL m.L) : QD w (((w.alloc (.cells (sA m vL) 44)).alloc (.cells (sA Sp.spc0 (.slice none 0 0)) 44)).alloc (.cells #[.int .i64 0, .int .i64 0] 35)) m vL := by
  have h1 := Blk.new (w.alloc (.cells (sA m vL) 44)) 44 (sA Sp.spc0 (.slice none 0 0))
  have h2 := Blk.new ((w.alloc (.cells (sA m vL) 44)).alloc (.cells (sA Sp.spc0 (.slice none 0 0)) 44)) 35 #[.int .i64 0, .int .i64 0]
  simp only [World.size_alloc] at h1 h2
  exact ⟨((QU.first w m vL h).next (belowA _ _)).next (belowA _ _), h1.alloc _, h2⟩
/-- the end: both results' blocks are written -/
theorem QD.set (h : QD w W m vL) (m' : Sp.Spc) (v' : Value) (x y : Int) :
    Below w.heap.size w ((W.setRow (w.heap.size + 1) (sA m' v')).setRow (w.heap.size + 2) #[.int .i64 x, .int .i64 y]) ∧ Blk ((W.setRow (w.heap.size + 1) (sA m' v')).setRow (w.heap.size + 2) #[.int .i64 x, .int .i64 y]) (w.heap.size + 1) 44 (sA m' v') ∧
    Blk ((W.setRow (w.heap.size + 1) (sA m' v')).setRow (w.heap.size + 2) #[.int .i64 x, .int .i64 y]) (w.heap.size + 2) 35 #[.int .i64 x, .int .i64 y] ∧ Blk (W.setRow (w.heap.size + 1) (sA m' v')) (w.heap.size + 2) 35 #[.int .i64 0, .int .i64 0] :=
  have h1 := h.bx.otherRow (w.heap.size + 1) (sA m' v') (by omega)
  ⟨below_setRow (below_setRow h.U.bel (by omega) _) (by omega) _, (h.bz.setRow _).otherRow _ _ (by omega), h1.setRow _, h1⟩
end
/-- and the span that was found -/
structure QE (w W : World) (m : Sp.Spc) (vL : Value) (s : Nat) (a b : Int) : Prop where
  D : QD w W m vL
  bs : Blk W s 35 #[.int .i64 a, .int .i64 b]
theorem QE.next {w W W' : World} {m : Sp.Spc} {vL : Value} {s : Nat} {a b : Int} (h : QE w W m vL s a b) (hb : Below W.heap.size W W') : QE w W' m vL s a b := ⟨h.D.next hb, h.bs.below hb h.bs.lt⟩
theorem QE.drew {w W : World} {m : Sp.Spc} {vL : Value} {s : Nat} {a b : Int} (h : QE w W m vL s a b) : QE w W.drew m vL s a b := h.next (Below.refl _ _).drew
/-- the region that stores both results -/
structure QF (w W : World) (m : Sp.Spc) (vL : Value) (s : Nat) (a b : Int) : Prop where
  rd0 : SlR w 4 encBk vL m.L
  U : QU w W w.heap.size m vL
  bs : Blk W s 35 #[.int .i64 a, .int .i64 b]
  hs : w.heap.size + 2 < s
  ez : ∃ cs, Blk W (w.heap.size + 1) 44 cs ∧ cs.size = 7
  ex : ∃ cs, Blk W (w.heap.size + 2) 35 cs ∧ cs.size = 2
section
variable {w W W' : World} {m : Sp.Spc} {vL : Value} {s : Nat} {a b : Int}
theorem QF.next (h : QF w W m vL s a b) (hb : Below W.heap.size W W') : QF w W' m vL s a b := by
  obtain ⟨cs, h1, h2⟩ := h.ez
  obtain ⟨ds, h3, h4⟩ := h.ex
  exact ⟨h.rd0, h.U.next hb, h.bs.below hb h.bs.lt, h.hs, ⟨cs, h1.below hb h1.lt, h2⟩, ⟨ds, h3.below hb h3.lt, h4⟩⟩
theorem QF.drew (h : QF w W m vL s a b) : QF w W.drew m vL s a b := h.next (Below.refl _ _).drew
theorem QF.row (h : QF w W m vL s a b) {z : Nat} {ds : Array Value} (hz : w.heap.size < z) : QU w (W.setRow z ds) w.heap.size m vL := by
  have hd := below_setRow h.U.bel (Nat.le_of_lt hz) ds
  exact ⟨h.rd0.below hd (Nat.le_refl _), h.U.bx.otherRow _ _ (by omega), hd⟩
theorem QF.setZ (h : QF w W m vL s a b) (q : Sp.Spc) (v : Value) : QF w (W.setRow (w.heap.size + 1) (sA q v)) m vL s a b := by
  obtain ⟨cs, h1, h2⟩ := h.ez
  obtain ⟨ds, h3, h4⟩ := h.ex
  have := h.hs
  exact ⟨h.rd0, h.row (by omega), h.bs.otherRow _ _ (by omega), h.hs, ⟨_, h1.setRow _, rfl⟩, ⟨ds, h3.otherRow _ _ (by omega), h4⟩⟩
theorem QF.setX (h : QF w W m vL s a b) (x y : Int) : QF w (W.setRow (w.heap.size + 2) #[.int .i64 x, .int .i64 y]) m vL s a b := by
  obtain ⟨cs, h1, h2⟩ := h.ez
  obtain ⟨ds, h3, h4⟩ := h.ex
  have := h.hs
  exact ⟨h.rd0, h.row (by omega), h.bs.otherRow _ _ (by omega), h.hs, ⟨cs, h1.otherRow _ _ (by omega), h2⟩, ⟨_, h3.setRow _, rfl⟩⟩
theorem QF.fin {w5 : World} {q : Sp.Spc} {v : Value} (h : QF w w5 m vL s a b) (h5 : SlR w5 4 encBk v q.L) (hn : NewV W vL v) (hW : w.heap.size + 2 < W.heap.size) :
    SlR ((w5.setRow (w.heap.size + 1) (sA q v)).setRow (w.heap.size + 2) #[.int .i64 a, .int .i64 b]) 4 encBk v q.L ∧ NewV w vL v ∧ Below w.heap.size w ((w5.setRow (w.heap.size + 1) (sA q v)).setRow (w.heap.size + 2) #[.int .i64 a, .int .i64 b]) ∧
    Blk ((w5.setRow (w.heap.size + 1) (sA q v)).setRow (w.heap.size + 2) #[.int .i64 a, .int .i64 b]) (w.heap.size + 1) 44 (sA q v) ∧ Blk ((w5.setRow (w.heap.size + 1) (sA q v)).setRow (w.heap.size + 2) #[.int .i64 a, .int .i64 b]) (w.heap.size + 2) 35 #[.int .i64 a, .int .i64 b] := by
  obtain ⟨cs, h1, h2⟩ := h.ez
  obtain ⟨ds, h3, h4⟩ := h.ex
  have hd : ∀ b', v.ownBlock = some b' → b' < w.heap.size ∨ w.heap.size + 2 < b' := fun b' hb' => by
    rcases hn b' hb' with e | e
    · exact Or.inl (h.rd0.own_lt b' e)
    · exact Or.inr (by omega)
  have s1 := (Frm.setRow (w.heap.size + 1) none w5 (sA q v)).slr h5 (fun b' hb' => ⟨by have := hd b' hb'; omega, by simp⟩)
  refine ⟨(Frm.setRow (w.heap.size + 2) none _ _).slr s1 (fun b' hb' => ⟨by have := hd b' hb'; omega, by simp⟩), fun b' hb' => ?_, below_setRow (below_setRow h.U.bel (by omega) _) (by omega) _, (h1.setRow _).otherRow _ _ (by omega), (h3.otherRow _ _ (by omega)).setRow _⟩
  rcases hn b' hb' with e | e
  · exact Or.inl e
  · exact Or.inr (by omega)
end
end Go.Proofs.YtilahcnpjbnjiaaGreatDoor
