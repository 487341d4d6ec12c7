/- The document's spaces: Index, Owner, Close. -/
import Derived.Test.YtbeombmblifohaaSpcRefLeft
namespace Go.Proofs.Ytbeombmblifohaa
set_option linter.unusedVariables false
set_option linter.unusedSimpArgs false
open Go.RowKit Go.Shelf Go.Proofs

/-- a slice's block is that of another one, or a new one -/
def NewV (w : World) (v0 v : Value) : Prop := ∀ b, v.ownBlock = some b → v0.ownBlock = some b ∨ w.heap.size ≤ b
theorem NewV.refl (w : World) (v : Value) : NewV w v v := fun _ h => Or.inl h
/-- the document's space comes back, and an int -/
def RetSE (v0 : Value) (q : Sp.Spc × Int) (w : World) (e : Ending) (w' : World) : Prop := ∃ vL, e = .returned (.tuple #[.agg (sA q.1 vL), .int .i64 q.2]) ∧ SlR w' 4 encBk vL q.1.L ∧ NewV w v0 vL ∧ Below w.heap.size w w'
theorem infoS : (Try.prog.info? 31).map (·.size) = some 7 := by kernel_rfl
theorem oneS (m : Sp.Spc) (p : Option Addr) (n c : Nat) : (sA m (.slice p n c)).all (·.oneCell') = true := by simp [sA, Value.oneCell']
theorem results_ct {P : Program} {fn : Func} {p q : Tmp} {ty : TypeId} (h : fn.results = #[.cell p ty, .tmp q]) (tmps : Array Value) (w : World) (g : Nat) (t : TypeId) (cs : Array Value) (fr : Nat × Nat) (d : TypeDesc)
    (hp : tmps.getD p undef = .pointer (some ⟨g, 0, none⟩)) (hg : w.heap[g]? = some (.cells cs t fr))
    (hu : P.underlying ty = some d) (hd : (match d with | .struct _ | .array _ _ => true | _ => false) = true) (hi : (P.info? ty).map (·.size) = some cs.size) :
    (results fn tmps).run P w = .ok (.tuple #[.agg cs, tmps.getD q undef]) w := by
  have hp' : tmps[p]?.getD undef = .pointer (some ⟨g, 0, none⟩) := by simpa using hp
  simp [results, h, hp', asAddr, run_loadVar_row w g t ty cs fr d hg hu hd hi]
/-- the space's box is whole -/
structure QU (w W : World) (b : Nat) (m : Sp.Spc) (vL : Value) : Prop where
  rd : SlR W 4 encBk vL m.L
  bx : Blk W b 31 (sA m vL)
  bel : Below w.heap.size w W
theorem QU.next {w W : World} {b : Nat} {m : Sp.Spc} {vL : Value} (h : QU w W b m vL) {W' : World} (hb : Below W.heap.size W W') : QU w W' b m vL :=
  ⟨h.rd.below hb (Nat.le_refl _), h.bx.below hb h.bx.lt, h.bel.trans (hb.mono h.bel.size)⟩
theorem QU.first (w : World) (m : Sp.Spc) (vL : Value) (h : SlR w 4 encBk vL m.L) : QU w (w.alloc (.cells (sA m vL) 31)) w.heap.size m vL :=
  ⟨h.below (belowA w _) (Nat.le_refl _), Blk.new _ _ _, belowA w _⟩
theorem QU.cs {w W : World} {b : Nat} {x1 y1 x2 y2 : Int} {L : List Sp.Bk} {vL : Value} (h : QU w W b ⟨(x1, y1), (x2, y2), L⟩ vL) :
    W.cell? ⟨b, 0, none⟩ = some (.int .i64 0) ∧ W.cell? ⟨b, 1, none⟩ = some (.int .i64 0) ∧ W.cell? ⟨b, 2, none⟩ = some (.int .i64 x1) ∧ W.cell? ⟨b, 3, none⟩ = some (.int .i64 y1) ∧
    W.cell? ⟨b, 4, none⟩ = some (.int .i64 x2) ∧ W.cell? ⟨b, 5, none⟩ = some (.int .i64 y2) ∧ W.cell? ⟨b, 6, none⟩ = some vL :=
  ⟨h.bx.cell 0, h.bx.cell 1, h.bx.cell 2, h.bx.cell 3, h.bx.cell 4, h.bx.cell 5, h.bx.cell 6⟩
/-- and the result's is there -/
structure QZ (w W : World) (b z : Nat) (m : Sp.Spc) (vL : Value) : Prop where
  U : QU w W b m vL
  bz : Blk W z 31 (sA Sp.spc0 (.slice none 0 0))
  hz : w.heap.size ≤ z
theorem QZ.next {w W : World} {b z : Nat} {m : Sp.Spc} {vL : Value} (h : QZ w W b z m vL) {W' : World} (hb : Below W.heap.size W W') : QZ w W' b z m vL :=
  ⟨h.U.next hb, h.bz.below hb h.bz.lt, h.hz⟩

theorem early2 (w : World) (o : Obj) (m : Sp.Spc) (v : Value) : Below w.heap.size w ((w.alloc o).alloc (.cells (sA m v) 31)) ∧ Blk ((w.alloc o).alloc (.cells (sA m v) 31)) (w.heap.size + 1) 31 (sA m v) := by
  have h := Blk.new (w.alloc o) 31 (sA m v)
  rw [World.size_alloc] at h
  exact ⟨(belowA w _).alloc (by simp) _, h⟩
theorem early3 (w : World) (o o2 : Obj) (m : Sp.Spc) (v : Value) : Below w.heap.size w (((w.alloc o).alloc o2).alloc (.cells (sA m v) 31)) ∧ Blk (((w.alloc o).alloc o2).alloc (.cells (sA m v) 31)) (w.heap.size + 2) 31 (sA m v) := by
  have h := Blk.new ((w.alloc o).alloc o2) 31 (sA m v)
  simp only [World.size_alloc] at h
  exact ⟨((belowA w _).alloc (by simp) _).alloc (by simp; omega) _, h⟩
set_option maxHeartbeats 1000000 in
theorem r12_Index (m : Sp.Spc) (hm : Sp.WF m) (vL : Value) (hv : ∃ p n c, vL = .slice p n c) (n : Int) (w : World) :
    Calls Try.prog 13 #[.agg (sA m vL), .int .i64 n] w (RetIB (Sp.indexR m n) w) := by
  obtain ⟨p, l, c, rfl⟩ := hv
  have h1 : m.a1 = (0, 0) ∨ (16 ≤ m.a1.1 ∧ m.a1.1 ≤ m.a1.2 ∧ m.a1.2 ≤ 1048575) := hm.w1.imp id Sp.owns_iff.1
  obtain ⟨⟨x1, y1⟩, ⟨x2, y2⟩, L⟩ := m
  have hb : Below w.heap.size w (w.alloc (.cells (sA ⟨(x1, y1), (x2, y2), L⟩ (.slice p l c)) 31)) := belowA w _
  have HB := Lib.hid hb
  clear hb hm
  simp only [sA] at HB ⊢
  simp only [Prod.mk.injEq] at h1
  by_cases hx : x1 = 0
  · have hr : Sp.indexR ⟨(x1, y1), (x2, y2), L⟩ n = (0, false) := by unfold Sp.indexR; exact if_pos (Or.inl hx)
    rw [hr]
    subst hx
    clear hr h1
    go_enter Try.func13, Try.ntmps13
    go_wp2_with fail
    exact bodyPost_ret (v := .tuple #[.int .i64 0, .bool false]) (by simp [results, Try.results13, go_sem]) rfl ⟨rfl, HB.out⟩
  · have hxb : ((x1 : Int) == 0) = false := by rw [beq_eq_false_iff_ne]; exact hx
    obtain ⟨o1, o2, o3⟩ : 16 ≤ x1 ∧ x1 ≤ y1 ∧ y1 ≤ 1048575 := by rcases h1 with ⟨h, _⟩ | h; exact absurd h hx; exact h
    clear h1
    by_cases hn : n < 0 ∨ y1 - x1 < n
    · have hr : Sp.indexR ⟨(x1, y1), (x2, y2), L⟩ n = (0, false) := by unfold Sp.indexR; exact if_pos (Or.inr hn)
      rw [hr]
      clear hr hx
      rcases hn with hn | hn
      · go_enter Try.func13, Try.ntmps13
        go_wp2_with fail
        exact bodyPost_ret (v := .tuple #[.int .i64 0, .bool false]) (by simp [results, Try.results13, go_sem]) rfl ⟨rfl, HB.out⟩
      · have hn0 : ¬ n < 0 := by omega
        go_enter Try.func13, Try.ntmps13
        go_wp2_with fail
        exact bodyPost_ret (v := .tuple #[.int .i64 0, .bool false]) (by simp [results, Try.results13, go_sem]) rfl ⟨rfl, HB.out⟩
    · have hr : Sp.indexR ⟨(x1, y1), (x2, y2), L⟩ n = (x1 + n, true) := by unfold Sp.indexR; exact if_neg (fun h => by rcases h with h | h; exact hx h; exact hn h)
      rw [hr]
      have hn0 : ¬ n < 0 := by omega
      have hn1 : ¬ y1 - x1 < n := by omega
      clear hr hx hn
      go_enter Try.func13, Try.ntmps13
      go_wp2_with fail
      exact bodyPost_ret (v := .tuple #[.int .i64 (x1 + n), .bool true]) (by simp [results, Try.results13, go_sem]) rfl ⟨rfl, HB.out⟩

set_option maxRecDepth 100000 in
set_option maxHeartbeats 2000000 in
theorem r12_Owner (m : Sp.Spc) (hl : m.L.length ≤ 1000000) (vL : Value) (n : Int) (w : World) (hv : SlR w 4 encBk vL m.L) :
    Calls Try.prog 11 #[.agg (sA m vL), .int .i64 n] w (RetII (Sp.ownerR m n) w) := by
  have HU0 := Lib.hid (QU.first w m vL hv)
  obtain ⟨p, cap, rfl, hc1, hc2, hR⟩ := hv
  have hr : Sp.ownerR m n = match m.L.find? (Sp.hasL n) with | some b => (b.owner, b.area) | none => (0, 0) := rfl
  obtain ⟨z, hz⟩ : ∃ z, z = Sp.ownerR m n := ⟨_, rfl⟩
  have HZ : Hid (z = match m.L.find? (Sp.hasL n) with | some b => (b.owner, b.area) | none => (0, 0)) := Lib.hid (hz.trans hr)
  rw [← hz]
  clear hr hz hR
  obtain ⟨⟨x1, y1⟩, ⟨x2, y2⟩, L⟩ := m
  simp only [sA] at HU0 HZ hl hc1 ⊢
  go_enter Try.func11, Try.ntmps11
  go_wp2_with fail
  go_loopw [6] (fun vi wr => ∃ k : Nat, k ≤ L.length ∧ vi = .int .i64 k ∧ Hid (∀ (j : Nat) (d : Sp.Bk), L[j]? = some d → j < k → Sp.hasL n d = false) ∧ Hid (QU w wr w.heap.size ⟨(x1, y1), (x2, y2), L⟩ (.slice p L.length cap))) (fun vi _ => L.length - (intOf vi).toNat)
  case atStart => exact ⟨0, Nat.zero_le _, rfl, Lib.hid (fun j d _ h => by omega), HU0⟩
  case round =>
    obtain ⟨k, hk, rfl, HE, HU⟩ := hrel
    obtain ⟨-, -, -, -, -, -, c6⟩ := HU.out.cs
    by_cases hlt : k < L.length
    · obtain ⟨c, hc⟩ : ∃ c, L[k]? = some c := ⟨_, List.getElem?_eq_getElem hlt⟩
      have hcc : L[k] = c := (List.getElem?_eq_some_iff.1 hc).2
      obtain ⟨q1, cap1, hq1, _, _, hR⟩ := HU.out.rd
      cases hq1
      obtain ⟨bb, off, rfl, hbs, hcl⟩ := hR.at hlt
      rw [hcc] at hcl
      have c0 := hcl 0 _ rfl
      have c1 := hcl 1 _ rfl
      have c2 := hcl 2 _ rfl
      have c3 := hcl 3 _ rfl
      simp only [Nat.add_zero] at c0
      have HC := Lib.hid hc
      clear hcl hcc hc hR
      by_cases h1 : c.sp.1 ≤ n
      · by_cases h2 : n ≤ c.sp.2
        · have hf : L.find? (Sp.hasL n) = some c := find_hit HC.out HE.out (by simp [Sp.hasL, h1, h2])
          have hv : Hid (z = (c.owner, c.area)) := Lib.hid (by rw [HZ.out, hf])
          clear hf
          go_wp2_with fail
          go_quiet (fail)
          go_wp2_with fail
          exact bodyPost_ret (v := .tuple #[.int .i64 c.owner, .int .i64 c.area]) (by simp [results, Try.results11, go_sem]) rfl ⟨by rw [hv.out], below_drewN HU.out.bel _⟩
        · have HE2 : Hid (∀ (j : Nat) (d : Sp.Bk), L[j]? = some d → j < k + 1 → Sp.hasL n d = false) := Lib.hid fun j d hd hj => by
            rcases Nat.lt_or_ge j k with h | h
            · exact HE.out j d hd h
            · obtain rfl : j = k := by omega
              rw [HC.out] at hd; cases hd
              simp [Sp.hasL]; omega
          clear HE
          go_wp2_with fail
          exact ⟨⟨k + 1, by omega, by go_num, HE2, HU⟩, by simp [intOf]; omega⟩
      · have HE2 : Hid (∀ (j : Nat) (d : Sp.Bk), L[j]? = some d → j < k + 1 → Sp.hasL n d = false) := Lib.hid fun j d hd hj => by
          rcases Nat.lt_or_ge j k with h | h
          · exact HE.out j d hd h
          · obtain rfl : j = k := by omega
            rw [HC.out] at hd; cases hd
            simp [Sp.hasL, h1]
        clear HE
        go_wp2_with fail
        exact ⟨⟨k + 1, by omega, by go_num, HE2, HU⟩, by simp [intOf]; omega⟩
    · obtain rfl : k = L.length := by omega
      have hf : L.find? (Sp.hasL n) = none := find_miss HE.out
      have hv : Hid (z = (0, 0)) := Lib.hid (by rw [HZ.out, hf])
      clear hf
      go_wp2_with fail
      exact bodyPost_ret (v := .tuple #[.int .i64 0, .int .i64 0]) (by simp [results, Try.results11, go_sem]) rfl ⟨by rw [hv.out], HU.out.bel⟩

/-- the result's block, written; both results -/
theorem QZ.set {w W : World} {b z : Nat} {m : Sp.Spc} {vL : Value} (h : QZ w W b z m vL) (m' : Sp.Spc) (v' : Value) : Below w.heap.size w (W.setRow z (sA m' v')) ∧ Blk (W.setRow z (sA m' v')) z 31 (sA m' v') :=
  ⟨below_setRow h.U.bel h.hz _, h.bz.setRow _⟩
set_option maxRecDepth 100000 in
set_option maxHeartbeats 4000000 in
theorem r12_Close (m : Sp.Spc) (hl : m.L.length ≤ 1000000) (vL : Value) (k : Int) (w : World) (hv : SlR w 4 encBk vL m.L) :
    Calls Try.prog 29 #[.agg (sA m vL), .int .i64 k] w (RetSE vL (Sp.closeR m k) w) := by
  have HV := Lib.hid hv
  have hz0 := Blk.new (w.alloc (.cells (sA m vL) 31)) 31 (sA Sp.spc0 (.slice none 0 0))
  rw [World.size_alloc] at hz0
  have H0 : Hid (QZ w _ w.heap.size (w.heap.size + 1) m vL) := Lib.hid ⟨(QU.first w m vL hv).next (belowA _ _), hz0, by omega⟩
  obtain ⟨p, cap, rfl, hc1, hc2, hR⟩ := hv
  clear hR hz0
  obtain ⟨⟨x1, y1⟩, ⟨x2, y2⟩, L⟩ := m
  simp only [sA, Sp.spc0] at H0 ⊢
  simp only at HV hl hc1
  obtain ⟨b0, b1, b2, b3, b4, b5, b6⟩ := H0.out.U.cs
  by_cases hk : k < 1 ∨ 2 < k
  · have hr : Sp.closeR ⟨(x1, y1), (x2, y2), L⟩ k = (⟨(x1, y1), (x2, y2), L⟩, 1) := by unfold Sp.closeR; exact if_pos hk
    rw [hr]
    have HS := Lib.hid (early2 w (.cells (sA ⟨(x1, y1), (x2, y2), L⟩ (.slice p L.length cap)) 31) ⟨(x1, y1), (x2, y2), L⟩ (.slice p L.length cap))
    clear hr
    have hk2 : (k < 1 ∧ k < 1) ∨ (¬ k < 1 ∧ 2 < k) := by omega
    rcases hk2 with ⟨hk, _⟩ | ⟨hk, hk2⟩
    all_goals
      go_enter Try.func29, Try.ntmps29
      go_wp2_with fail
      exact bodyPost_ret (results_ct rfl _ _ _ _ _ _ _ rfl HS.out.2 Try.underlying31 rfl infoS) rfl ⟨_, rfl, HV.out.below HS.out.1 (Nat.le_refl _), NewV.refl _ _, HS.out.1⟩
  · have hk12 : k = 1 ∨ k = 2 := by omega
    obtain ⟨x, y, hat⟩ : ∃ x y, (Sp.Spc.at ⟨(x1, y1), (x2, y2), L⟩ k) = (x, y) := ⟨_, _, rfl⟩
    by_cases hx : x = 0
    · have hr : Sp.closeR ⟨(x1, y1), (x2, y2), L⟩ k = (⟨(x1, y1), (x2, y2), L⟩, 31) := by unfold Sp.closeR; rw [if_neg hk, if_pos (by rw [hat]; exact hx)]
      rw [hr]
      have HS := Lib.hid fun q => early2 w (.cells (sA q (.slice p L.length cap)) 31) q (.slice p L.length cap)
      clear hr
      subst hx
      rcases hk12 with rfl | rfl
      all_goals
        have hq : Hid ((x1 : Int) = 0 ∨ (x2 : Int) = 0) := Lib.hid (by cases hat; simp)
        cases hat
        clear hk hq
        first
          | have HS2 := Lib.hid (HS.out ⟨(0, y1), (x2, y2), L⟩)
          | have HS2 := Lib.hid (HS.out ⟨(x1, y1), (0, y2), L⟩)
        go_enter Try.func29, Try.ntmps29
        go_wp2_with fail
        exact bodyPost_ret (results_ct rfl _ _ _ _ _ _ _ rfl HS2.out.2 Try.underlying31 rfl infoS) rfl ⟨_, rfl, HV.out.below HS2.out.1 (Nat.le_refl _), NewV.refl _ _, HS2.out.1⟩
    · have hd : Sp.closeR ⟨(x1, y1), (x2, y2), L⟩ k = if Sp.busyB ⟨(x1, y1), (x2, y2), L⟩ k = true then (⟨(x1, y1), (x2, y2), L⟩, 33) else (Sp.Spc.lay ⟨(x1, y1), (x2, y2), L⟩ k (0, 0), 0) := by unfold Sp.closeR; rw [if_neg hk, if_neg (by rw [hat]; exact hx)]
      have HD := Lib.hid hd
      generalize Sp.closeR ⟨(x1, y1), (x2, y2), L⟩ k = q at HD ⊢
      have hxb : ((x : Int) == 0) = false := by rw [beq_eq_false_iff_ne]; exact hx
      have HB : Hid (Sp.busyB ⟨(x1, y1), (x2, y2), L⟩ k = L.any fun b => decide (b.area = k)) := Lib.hid rfl
      clear hd hx hk
      rcases hk12 with rfl | rfl
      all_goals
        cases hat
        go_enter Try.func29, Try.ntmps29
        go_wp2_with fail
        clear b0 b1 b2 b3 b4 b5 b6
      · go_loopw [6] (fun vi wr => ∃ n : Nat, n ≤ L.length ∧ vi = .int .i64 n ∧ Hid (∀ (j : Nat) (d : Sp.Bk), L[j]? = some d → j < n → d.area ≠ 1) ∧ Hid (QZ w wr w.heap.size (w.heap.size + 1) ⟨(x1, y1), (x2, y2), L⟩ (.slice p L.length cap))) (fun vi _ => L.length - (intOf vi).toNat)
        case atStart => exact ⟨0, Nat.zero_le _, rfl, Lib.hid (fun j d _ h => by omega), H0⟩
        case round =>
          obtain ⟨n, hn, rfl, HE, HU⟩ := hrel
          obtain ⟨b0, b1, b2, b3, b4, b5, b6⟩ := HU.out.U.cs
          by_cases hlt : n < L.length
          · obtain ⟨c, hc⟩ : ∃ c, L[n]? = some c := ⟨_, List.getElem?_eq_getElem hlt⟩
            have hcc : L[n] = c := (List.getElem?_eq_some_iff.1 hc).2
            obtain ⟨q1, cap1, hq1, _, _, hR⟩ := HU.out.U.rd
            cases hq1
            obtain ⟨bb, off, rfl, hbs, hcl⟩ := hR.at hlt
            rw [hcc] at hcl
            have c3 := hcl 3 _ rfl
            have HC := Lib.hid hc
            clear hcl hcc hc hR
            by_cases h1 : c.area = 1
            · have hbz : Sp.busyB ⟨(x1, y1), (x2, y2), L⟩ 1 = true := by rw [HB.out, List.any_eq_true]; exact ⟨c, List.mem_of_getElem? HC.out, by simp [h1]⟩
              have hr : q = (⟨(x1, y1), (x2, y2), L⟩, 33) := by rw [HD.out]; exact if_pos hbz
              have h1b : ((c.area : Int) == 1) = true := by simpa using h1
              rw [hr]
              have HS := Lib.hid (HU.out.set ⟨(x1, y1), (x2, y2), L⟩ (.slice (some ⟨bb, off, none⟩) L.length cap))
              clear hbz hr h1
              go_wp2_with (refine wpList_store_row rfl _ _ _ rfl (w.heap.size + 1) (sA ⟨(x1, y1), (x2, y2), L⟩ (.slice (some ⟨bb, off, none⟩) L.length cap)) rfl rfl _ _ HU.out.bz infoS rfl (oneS _ _ _ _) ?_)
              exact bodyPost_ret (results_ct rfl _ _ _ _ _ _ _ rfl HS.out.2 Try.underlying31 rfl infoS) rfl ⟨_, rfl, HV.out.below HS.out.1 (Nat.le_refl _), NewV.refl _ _, HS.out.1⟩
            · have HE2 : Hid (∀ (j : Nat) (d : Sp.Bk), L[j]? = some d → j < n + 1 → d.area ≠ 1) := Lib.hid fun j d hd hj => by
                rcases Nat.lt_or_ge j n with h | h
                · exact HE.out j d hd h
                · obtain rfl : j = n := by omega
                  rw [HC.out] at hd; cases hd
                  exact h1
              have h1b : ((c.area : Int) == 1) = false := by simpa using h1
              clear HE h1
              go_wp2_with fail
              exact ⟨⟨n + 1, by omega, by go_num, HE2, HU⟩, by simp [intOf]; omega⟩
          · have hbz : Sp.busyB ⟨(x1, y1), (x2, y2), L⟩ 1 = false := by
              rw [HB.out, List.any_eq_false]
              intro c hc
              obtain ⟨j, hj⟩ := List.getElem?_of_mem hc
              have := HE.out j c hj (by have := (List.getElem?_eq_some_iff.1 hj).1; omega)
              simpa using this
            have hr : q = (⟨(0, 0), (x2, y2), L⟩, 0) := by rw [HD.out, if_neg (by rw [hbz]; simp)]; rfl
            clear HD
            subst hr
            have hs := HU.out
            have HS : Hid (QZ w ((wr.setCell ⟨w.heap.size, 2, none⟩ (.int .i64 0)).setCell ⟨w.heap.size, 3, none⟩ (.int .i64 0)) w.heap.size (w.heap.size + 1) ⟨(0, 0), (x2, y2), L⟩ (.slice p L.length cap)) := Lib.hid
              ⟨⟨HV.out.below ((hs.U.bel.setCell (Nat.le_refl _) _).setCell (Nat.le_refl _) _) (Nat.le_refl _), (hs.U.bx.set 2 _).set 3 _, (hs.U.bel.setCell (Nat.le_refl _) _).setCell (Nat.le_refl _) _⟩, (hs.bz.other _ _ (by simp)).other _ _ (by simp), hs.hz⟩
            have HS2 := Lib.hid (HS.out.set ⟨(0, 0), (x2, y2), L⟩ (.slice p L.length cap))
            have g0 := HU.out.U.bx.frozen' 2
            have g1 := HU.out.U.bx.frozen' 3
            clear hbz hs
            go_wp2_with (refine wpList_store_row rfl _ _ _ rfl (w.heap.size + 1) (sA ⟨(0, 0), (x2, y2), L⟩ (.slice p L.length cap)) rfl rfl _ _ HS.out.bz infoS rfl (oneS _ _ _ _) ?_)
            exact bodyPost_ret (results_ct rfl _ _ _ _ _ _ _ rfl HS2.out.2 Try.underlying31 rfl infoS) rfl ⟨_, rfl, HV.out.below HS2.out.1 (Nat.le_refl _), NewV.refl _ _, HS2.out.1⟩
      · go_loopw [6] (fun vi wr => ∃ n : Nat, n ≤ L.length ∧ vi = .int .i64 n ∧ Hid (∀ (j : Nat) (d : Sp.Bk), L[j]? = some d → j < n → d.area ≠ 2) ∧ Hid (QZ w wr w.heap.size (w.heap.size + 1) ⟨(x1, y1), (x2, y2), L⟩ (.slice p L.length cap))) (fun vi _ => L.length - (intOf vi).toNat)
        case atStart => exact ⟨0, Nat.zero_le _, rfl, Lib.hid (fun j d _ h => by omega), H0⟩
        case round =>
          obtain ⟨n, hn, rfl, HE, HU⟩ := hrel
          obtain ⟨b0, b1, b2, b3, b4, b5, b6⟩ := HU.out.U.cs
          by_cases hlt : n < L.length
          · obtain ⟨c, hc⟩ : ∃ c, L[n]? = some c := ⟨_, List.getElem?_eq_getElem hlt⟩
            have hcc : L[n] = c := (List.getElem?_eq_some_iff.1 hc).2
            obtain ⟨q1, cap1, hq1, _, _, hR⟩ := HU.out.U.rd
            cases hq1
            obtain ⟨bb, off, rfl, hbs, hcl⟩ := hR.at hlt
            rw [hcc] at hcl
            have c3 := hcl 3 _ rfl
            have HC := Lib.hid hc
            clear hcl hcc hc hR
            by_cases h1 : c.area = 2
            · have hbz : Sp.busyB ⟨(x1, y1), (x2, y2), L⟩ 2 = true := by rw [HB.out, List.any_eq_true]; exact ⟨c, List.mem_of_getElem? HC.out, by simp [h1]⟩
              have hr : q = (⟨(x1, y1), (x2, y2), L⟩, 33) := by rw [HD.out]; exact if_pos hbz
              have h1b : ((c.area : Int) == 2) = true := by simpa using h1
              rw [hr]
              have HS := Lib.hid (HU.out.set ⟨(x1, y1), (x2, y2), L⟩ (.slice (some ⟨bb, off, none⟩) L.length cap))
              clear hbz hr h1
              go_wp2_with (refine wpList_store_row rfl _ _ _ rfl (w.heap.size + 1) (sA ⟨(x1, y1), (x2, y2), L⟩ (.slice (some ⟨bb, off, none⟩) L.length cap)) rfl rfl _ _ HU.out.bz infoS rfl (oneS _ _ _ _) ?_)
              exact bodyPost_ret (results_ct rfl _ _ _ _ _ _ _ rfl HS.out.2 Try.underlying31 rfl infoS) rfl ⟨_, rfl, HV.out.below HS.out.1 (Nat.le_refl _), NewV.refl _ _, HS.out.1⟩
            · have HE2 : Hid (∀ (j : Nat) (d : Sp.Bk), L[j]? = some d → j < n + 1 → d.area ≠ 2) := Lib.hid fun j d hd hj => by
                rcases Nat.lt_or_ge j n with h | h
                · exact HE.out j d hd h
                · obtain rfl : j = n := by omega
                  rw [HC.out] at hd; cases hd
                  exact h1
              have h1b : ((c.area : Int) == 2) = false := by simpa using h1
              clear HE h1
              go_wp2_with fail
              exact ⟨⟨n + 1, by omega, by go_num, HE2, HU⟩, by simp [intOf]; omega⟩
          · have hbz : Sp.busyB ⟨(x1, y1), (x2, y2), L⟩ 2 = false := by
              rw [HB.out, List.any_eq_false]
              intro c hc
              obtain ⟨j, hj⟩ := List.getElem?_of_mem hc
              have := HE.out j c hj (by have := (List.getElem?_eq_some_iff.1 hj).1; omega)
              simpa using this
            have hr : q = (⟨(x1, y1), (0, 0), L⟩, 0) := by rw [HD.out, if_neg (by rw [hbz]; simp)]; rfl
            clear HD
            subst hr
            have hs := HU.out
            have HS : Hid (QZ w ((wr.setCell ⟨w.heap.size, 4, none⟩ (.int .i64 0)).setCell ⟨w.heap.size, 5, none⟩ (.int .i64 0)) w.heap.size (w.heap.size + 1) ⟨(x1, y1), (0, 0), L⟩ (.slice p L.length cap)) := Lib.hid
              ⟨⟨HV.out.below ((hs.U.bel.setCell (Nat.le_refl _) _).setCell (Nat.le_refl _) _) (Nat.le_refl _), (hs.U.bx.set 4 _).set 5 _, (hs.U.bel.setCell (Nat.le_refl _) _).setCell (Nat.le_refl _) _⟩, (hs.bz.other _ _ (by simp)).other _ _ (by simp), hs.hz⟩
            have HS2 := Lib.hid (HS.out.set ⟨(x1, y1), (0, 0), L⟩ (.slice p L.length cap))
            have g0 := HU.out.U.bx.frozen' 4
            have g1 := HU.out.U.bx.frozen' 5
            clear hbz hs
            go_wp2_with (refine wpList_store_row rfl _ _ _ rfl (w.heap.size + 1) (sA ⟨(x1, y1), (0, 0), L⟩ (.slice p L.length cap)) rfl rfl _ _ HS.out.bz infoS rfl (oneS _ _ _ _) ?_)
            exact bodyPost_ret (results_ct rfl _ _ _ _ _ _ _ rfl HS2.out.2 Try.underlying31 rfl infoS) rfl ⟨_, rfl, HV.out.below HS2.out.1 (Nat.le_refl _), NewV.refl _ _, HS2.out.1⟩
end Go.Proofs.Ytbeombmblifohaa
