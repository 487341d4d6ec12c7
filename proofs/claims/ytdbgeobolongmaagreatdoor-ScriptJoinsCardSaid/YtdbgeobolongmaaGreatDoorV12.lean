/- Part of the proof: contracts of the functions that the statements of layer 32 reach. -/
import Derived.Deep.QuietTactic
import Derived.BigQuiet
import Derived.WalkSpells
import Derived.OrdersHeld
import Derived.Deep.RegionHeld
import Derived.Laws.Rows
import Derived.Deep.DeepCutAuto
import Derived.Test.YtdbgeobolongmaaGreatDoorV04
import Derived.Test.YtdbgeobolongmaaGreatDoorV11
set_option linter.unusedVariables false
set_option linter.unusedSimpArgs false
set_option maxRecDepth 100000
set_option maxHeartbeats 2000000
namespace Go.Proofs.YtdbgeobolongmaaGreatDoor
open Go.RowKit Go.Shelf Go.Proofs Go.OctetPlain
theorem Rdr.parts {g A : Nat} {w : World} {ws : List Hp.Wd} {bad : Bool} (h : Rdr g A w ws bad) : ∃ p cap, w.cell? ⟨g, 0, none⟩ = some (.slice p ws.length cap) ∧ w.cell? ⟨g, 1, none⟩ = some (.bool bad) ∧ w.frozen? ⟨g, 0, none⟩ = false ∧ w.frozen? ⟨g, 1, none⟩ = false ∧ ws.length ≤ cap ∧ cap ≤ 9223372036854775807 ∧ RdP w 1 encS p ws ∧ (∀ a, p = some a → ws.length ≠ 0 → a.block = A) ∧ g < w.heap.size := by
 obtain ⟨v, hb, p, cap, rfl, h1, h2, h3, h4⟩ := h.ex
 exact ⟨p, cap, hb.cell 0, hb.cell 1, hb.frozen' 0, hb.frozen' 1, h1, h2, h3, h4, hb.lt⟩
theorem Rdr.tail {g A : Nat} {w : World} {x : Hp.Wd} {xs : List Hp.Wd} {bad : Bool} (h : Rdr g A w (x :: xs) bad) {b off cap : Nat} (hc : w.cell? ⟨g, 0, none⟩ = some (.slice (some ⟨b, off, none⟩) (xs.length + 1) cap)) :
  (cap = 1 → Rdr g A (w.setCell ⟨g, 0, none⟩ (.slice (some ⟨b, off, none⟩) 0 0)) xs bad) ∧ Rdr g A (w.setCell ⟨g, 0, none⟩ (.slice (some ⟨b, off + 1, none⟩) xs.length (cap - 1))) xs bad := by
 obtain ⟨p, cap', c0, _, _, _, h1, h2, h3, h4, _⟩ := h.parts
 rw [hc] at c0
 simp only [List.length_cons, Option.some.injEq, Value.slice.injEq, true_and] at c0
 obtain ⟨rfl, rfl⟩ := c0
 have hA : b = A := h4 _ rfl (by simp)
 refine ⟨fun hcap => ?_, ?_⟩
 ·subst hcap
  exact h.setW (SlP.tailA (by simpa using h1) h3 hA)
 ·exact h.setW (SlP.tailB (by simpa using h1) h2 h3 hA)
theorem owns_set {w : World} {base : Nat} {e : TypeId} {size : Nat} {v : Value} {n : Nat} {xs : List Value} (h : w.ownsRow base e size v n xs) {g : Nat} (hg : g < base) (i : Nat) (x : Value) : (w.setCell ⟨g, i, none⟩ x).ownsRow base e size v n xs :=
 h.kept (grown_set w g i x) (by
  cases hv : v.ownBlock with
  | none => exact .inl rfl
  | some k => refine .inr (fun e => ?_); have := (h.lt k hv).1; cases e; omega)
theorem cell_set {w : World} {g i : Nat} {u : Value} (v : Value) (h : w.cell? ⟨g, i, none⟩ = some u) : (w.setCell ⟨g, i, none⟩ v).cell? ⟨g, i, none⟩ = some v := World.cell?_setCell_same' _ _ _ (by rw [h]; rfl)
def Short (ws : List Hp.Wd) : Prop := ∀ x ∈ ws, x.length ≤ 1073741824
structure NumS (g A : Nat) (ws : List Hp.Wd) (bad : Bool) (w wr : World) (out : List Int) (rest : List Hp.Wd) (vo : Value) : Prop where
 own : wr.ownsRow w.heap.size 3 1 vo out.length (flat encI out)
 rd : Rdr g A wr rest bad
 gr : w.grownBy wr (some g)
 eq : Hp.nums ws = (out ++ (Hp.nums rest).1, (Hp.nums rest).2)
 len : out.length + rest.length = ws.length
 tab : Tabs wr
 sh : Short rest
theorem nums_cons_some {x : Hp.Wd} {xs : List Hp.Wd} {n : Int} (h : number x 1048575 = some n) : Hp.nums (x :: xs) = (n :: (Hp.nums xs).1, (Hp.nums xs).2) := by rw [Hp.nums, h]
theorem nums_cons_none {x : Hp.Wd} {xs : List Hp.Wd} (h : number x 1048575 = none) : Hp.nums (x :: xs) = ([], x :: xs) := by rw [Hp.nums, h]
theorem hop_numbers (g A : Nat) (ws : List Hp.Wd) (hl : ws.length ≤ 1048576) (hsh : Short ws) (bad : Bool) (w : World) (ht : Tabs w) (hA : A < w.heap.size) (hg : ∀ W, w.grownBy W (some g) → Tabs W) (h : Rdr g A w ws bad) :
  Calls Tryz.prog 138 #[.pointer (some ⟨g, 0, none⟩)] w fun e w' => ∃ v, e = .returned v ∧ w'.ownsRow w.heap.size 3 1 v (Hp.nums ws).1.length (flat encI (Hp.nums ws).1) ∧ Rdr g A w' (Hp.nums ws).2 bad ∧ w.grownBy w' (some g) := by
 have HT := qh hg
 have HAL := qh hA
 have H0 := qh (NumS.mk (w := w) (World.ownsRow_nil _ _ _ _) h (grown_refl _ _) (out := []) (by simp) (by simp) ht hsh : NumS g A ws bad w w [] ws (.slice none 0 0))
 have hgl : g < w.heap.size := by obtain ⟨_, _, _, _, _, _, _, _, _, _, hx⟩ := h.parts; exact hx
 clear ht hg hsh h hA
 go_enter Tryz.func138, Tryz.ntmps138
 go_wp2_with fail
 go_loopw [3, 4, 5] (fun vo _ _ wr => ∃ (out : List Int) (rest : List Hp.Wd), Hid (NumS g A ws bad w wr out rest vo)) (fun _ _ _ wr => lenOf ((wr.cell? ⟨g, 0, none⟩).getD (.int .i64 0)))
 case atStart => exact ⟨[], ws, H0⟩
 case round =>
  obtain ⟨out, rest, HN⟩ := hrel
  have hlen := HN.out.len
  obtain ⟨p, cap, c0, -, f0, -, h1, h2, h3, h4, hgr⟩ := HN.out.rd.parts
  cases rest with
  | nil =>
   have HE : Hid (Hp.nums ws = (out, [])) := by rw [HN.out.eq]; exact qh (by simp [Hp.nums])
   simp only [List.length_nil] at c0
   go_wp2_with fail
   go_ret
   refine ⟨_, rfl, ?_, ?_, HN.out.gr⟩
   ·rw [HE.out]; exact HN.out.own
   ·rw [HE.out]; exact HN.out.rd
  | cons x xs =>
   obtain ⟨b, off, rfl, hbl, hc⟩ := h3.at (i := 0) (by simp)
   have hx := hc 0 (.string (str x)) rfl
   simp only [Nat.zero_mul, Nat.add_zero] at hx
   have hxl : x.length ≤ 1073741824 := HN.out.sh x List.mem_cons_self
   have HNum := qh (octet_Number x hxl 1048575 wr HN.out.tab)
   simp only [List.length_cons] at c0 h1 hlen
   have hAg := HN.out.rd.ne
   clear hc h3 h4 hxl
   have hlen1 : 0 < xs.length + 1 := by omega
   cases hn : number x 1048575 with
   | none =>
    rw [hn] at HNum
    have HE : Hid (Hp.nums ws = (out, x :: xs)) := by rw [HN.out.eq, nums_cons_none hn]; exact qh (by simp)
    clear hn
    go_wp2_with fail
    refine HNum.out.mono ?_
    rintro e w1 ⟨rfl, hb1⟩
    go_wp2_with fail
    go_ret
    refine ⟨_, rfl, ?_, ?_, grown_trans HN.out.gr (grown_below hb1 _)⟩
    ·rw [HE.out]; exact owns_below HN.out.own hb1 (Nat.le_refl _)
    ·rw [HE.out]; exact HN.out.rd.below hb1 (Nat.le_refl _)
   | some n =>
    rw [hn] at HNum
    have HE : Hid (Hp.nums ws = ((out ++ [n]) ++ (Hp.nums xs).1, (Hp.nums xs).2)) := by rw [HN.out.eq, nums_cons_some hn]; exact qh (by simp)
    clear hn
    have hge : ∀ W, Below wr.heap.size wr W → Hid (w.grownBy W (some g)) := fun W hW => qh (grown_trans HN.out.gr (grown_below hW _))
    have hws := HN.out.gr.size
    have HSH : Hid (Short xs) := qh fun y hy => HN.out.sh y (List.mem_cons_of_mem _ hy)
    go_wp2_with fail
    refine HNum.out.mono ?_
    rintro e w1 ⟨rfl, hb1⟩
    have HG1 := hge w1 hb1
    have HO1 := qh (owns_below HN.out.own hb1 (Nat.le_refl _))
    have hz1 := hb1.size
    have c01 : Hid (w1.cell? ⟨g, 0, none⟩ = some (.slice (some ⟨b, off, none⟩) (xs.length + 1) cap)) := qh ((hb1.cell (p := ⟨g, 0, none⟩) (by show g < _; omega)).trans c0)
    have f01 : Hid (w1.frozen? ⟨g, 0, none⟩ = false) := qh ((hb1.frozen (p := ⟨g, 0, none⟩) (by show g < _; omega)).trans f0)
    have HR1 := qh (HN.out.rd.below hb1 (Nat.le_refl _))
    clear hb1 hge
    have HGR : Hid (∀ W i v, Below w.heap.size w1 W → w.grownBy (W.setCell ⟨g, i, none⟩ v) (some g)) := qh fun W i v hW => grown_trans ⟨hW.os.trans HG1.out.os, hW.tape.trans HG1.out.tape, hW.output.trans HG1.out.output, Nat.le_trans HG1.out.size hW.size, fun k hk hne => (hW.block k hk).trans (HG1.out.block k hk hne)⟩ (grown_set W g i v)
    have HC0 := qh c0
    by_cases hcap : cap = 1
    ·subst hcap
     go_wp2_with (at_builtin; go_loud (refine wpList_app elemI rfl (.tmp 24) (.tmp 26) rfl w.heap.size u3 _ _ rfl HO1.out 1 1 [.int .i64 _] rfl rfl (by simp [Value.oneCell']) (by omega) (by omega) ?_; intro v4 w4 hown4 hgr4 hob4 hb4; have c04 := (hb4.cell (p := ⟨g, 0, none⟩) hgl).trans c01.out; have f04 := (hb4.frozen (p := ⟨g, 0, none⟩) hgl).trans f01.out; have HB4 := qh hb4; have HW4 := qh hown4; clear hown4 hgr4 hb4 hob4))
     have HC4 := qh c04
     have HR4 := qh (HR1.out.belowAt HB4.out hgl HAL.out)
     refine ⟨⟨out ++ [n], xs, qh ⟨?_, (HR4.out.tail HC4.out).1 rfl, ?_, HE.out, by simp; omega, ?_, HSH.out⟩⟩, ?_⟩
     ·rw [flat_append, List.length_append]
      exact owns_set HW4.out hgl 0 _
     ·exact HGR.out _ _ _ HB4.out
     ·exact HT.out _ (HGR.out _ _ _ HB4.out)
     ·rw [cell_set _ HC4.out, HC0.out]; simp [lenOf]
    ·skip
     go_wp2_with (at_builtin; go_loud (refine wpList_app elemI rfl (.tmp 24) (.tmp 26) rfl w.heap.size u3 _ _ rfl HO1.out 1 1 [.int .i64 _] rfl rfl (by simp [Value.oneCell']) (by omega) (by omega) ?_; intro v4 w4 hown4 hgr4 hob4 hb4; have c04 := (hb4.cell (p := ⟨g, 0, none⟩) hgl).trans c01.out; have f04 := (hb4.frozen (p := ⟨g, 0, none⟩) hgl).trans f01.out; have HB4 := qh hb4; have HW4 := qh hown4; clear hown4 hgr4 hb4 hob4))
     have HC4 := qh c04
     have HR4 := qh (HR1.out.belowAt HB4.out hgl HAL.out)
     refine ⟨⟨out ++ [n], xs, qh ⟨?_, (HR4.out.tail HC4.out).2, ?_, HE.out, by simp; omega, ?_, HSH.out⟩⟩, ?_⟩
     ·rw [flat_append, List.length_append]
      exact owns_set HW4.out hgl 0 _
     ·exact HGR.out _ _ _ HB4.out
     ·exact HT.out _ (HGR.out _ _ _ HB4.out)
     ·rw [cell_set _ HC4.out, HC0.out]; simp [lenOf]
end Go.Proofs.YtdbgeobolongmaaGreatDoor
namespace Go.Proofs.YtdbgeobolongmaaGreatDoor
open Go.RowKit Go.Shelf Go.Proofs Go.OctetPlain
def numP : List Int → Int × List Int × Bool
 | [] => (-1, [], true)
 | n :: more => (n, more, false)
theorem hop_number (g A : Nat) (ws : List Hp.Wd) (hl : ws.length ≤ 1048576) (hsh : Short ws) (bad : Bool) (w : World) (ht : Tabs w) (hA : A < w.heap.size) (hg : ∀ W, w.grownBy W (some g) → Tabs W) (h : Rdr g A w ws bad) :
  Calls Tryz.prog 141 #[.pointer (some ⟨g, 0, none⟩)] w fun e w' => ∃ v, e = .returned (.tuple #[.int .i64 (numP (Hp.nums ws).1).1, v]) ∧ SlP (w.heap.size ≤ ·) w' 1 encI v (numP (Hp.nums ws).1).2.1 ∧ Rdr g A w' (Hp.nums ws).2 (bad || (numP (Hp.nums ws).1).2.2) ∧ w.grownBy w' (some g) := by
 have HC := qh (hop_numbers g A ws hl hsh bad w ht hA hg h)
 have hgl : g < w.heap.size := by obtain ⟨_, _, _, _, _, _, _, _, _, _, hx⟩ := h.parts; exact hx
 clear ht hg hsh h hA
 generalize Hp.nums ws = q at *
 obtain ⟨l, rest⟩ := q
 simp only at *
 cases l with
 | nil =>
  go_enter Tryz.func141, Tryz.ntmps141
  go_wp2_with fail
  refine HC.out.mono ?_
  rintro e w1 ⟨v, rfl, ho, hr, hg⟩
  have HR := qh hr
  have HG := qh hg
  obtain ⟨p, cap, c0, c1, f0, f1, -, -, -, -, -⟩ := hr.parts
  have hv : ∃ p cap, v = .slice p 0 cap := by
   obtain ⟨p, cap, hv, -⟩ := SlR.of_owns encI_len ho
   exact ⟨p, cap, hv⟩
  obtain ⟨p2, cap2, rfl⟩ := hv
  clear ho hr hg
  go_wp2_with fail
  refine bodyPost_ret (v := .tuple #[.int .i64 (-1), .slice none 0 0]) (by simp [results, Tryz.results141, go_sem]) rfl ⟨_, rfl, SlP.nil _ _ _, ?_, grown_trans HG.out (grown_set _ _ _ _)⟩
  have := HR.out.setB true
  simpa [numP] using this
 | cons n more =>
  go_enter Tryz.func141, Tryz.ntmps141
  go_wp2_with fail
  refine HC.out.mono ?_
  rintro e w1 ⟨v, rfl, ho, hr, hg⟩
  obtain ⟨p, cap, rfl, h1, h2, h3, h4⟩ := SlP.of_owns encI_len ho
  obtain ⟨b, off, rfl, hbl, hc⟩ := h3.at (i := 0) (by simp)
  have hx : ∀ k, (w1.drewN k).cell? ⟨b, off, none⟩ = some (.int .i64 n) := fun k => by
   have := hc 0 (.int .i64 n) rfl
   simpa using this
  have hx0 := hx 0
  have HA := qh (fun h : more.length + 1 ≤ 1 => SlP.tailA (Pr := (w.heap.size ≤ ·)) h h3 (h4 _ rfl (by simp)))
  have HB := qh (SlP.tailB (Pr := (w.heap.size ≤ ·)) h1 h2 h3 (h4 _ rfl (by simp)))
  have HR := qh hr
  have HG := qh hg
  simp only [List.length_cons] at h1
  clear ho hr hg hc h3 h4
  have hp0 : 0 < more.length + 1 := by omega
  have hp1 : 1 ≤ more.length + 1 := by omega
  simp only [List.length_cons]
  by_cases hcap : cap = 1
  ·subst hcap
   have hm0 : more.length = 0 := by omega
   go_wp2_with fail
   go_quiet (fail)
   go_wp2_with fail
   refine bodyPost_ret (v := .tuple #[.int .i64 n, .slice (some ⟨b, off, none⟩) 0 0]) (by simp [results, Tryz.results141, go_sem]) rfl ?_
   have hbd := below_drewN (Below.refl w1.heap.size w1) nq
   exact ⟨_, rfl, (HA.out h1).below hbd (Nat.le_refl _), by simpa [numP] using HR.out.below hbd (Nat.le_refl _), grown_trans HG.out (grown_below hbd _)⟩
  ·skip
   go_wp2_with fail
   go_quiet (fail)
   go_wp2_with fail
   refine bodyPost_ret (v := .tuple #[.int .i64 n, .slice (some ⟨b, off + 1, none⟩) more.length (cap - 1)]) (by simp [results, Tryz.results141, go_sem]) rfl ?_
   have hbd := below_drewN (Below.refl w1.heap.size w1) nq
   exact ⟨_, rfl, HB.out.below hbd (Nat.le_refl _), by simpa [numP] using HR.out.below hbd (Nat.le_refl _), grown_trans HG.out (grown_below hbd _)⟩
end Go.Proofs.YtdbgeobolongmaaGreatDoor
namespace Go.Proofs.YtdbgeobolongmaaGreatDoor
open Go Go.RowKit
section
variable {P : Program} {ops : Array Oper} {Q : Exit → Act → World → Prop} {md : Region.Mode} {S : World → Prop}
theorem yieldsIf_load_row {op : Oper} {a : Act} (hw : Region.wanted op (yielded ops a.tmps) = true) (ty : TypeId) (x : Operand) (ho : op.op = .load ty x)
  (g : Nat) (hx : a.eval x = .pointer (some ⟨g, 0, none⟩)) (t : TypeId) (cs : Array Value) (d : TypeDesc) (hS : ∀ w, S w → Blk w g t cs)
  (hu : P.underlying ty = some d) (hd : (match d with | .struct _ | .array _ _ => true | _ => false) = true) (hi : (P.info? ty).map (·.size) = some cs.size) : YieldsIf P ops S op (.agg cs) a :=
 .inl ⟨hw, fun w h => by
  unfold execOp
  simp only [ho, hx, Instr.loadAt, Instr.sureAddr, Sem.run_bind, Sem.run_pure, Result.andThen_ok, run_loadVar_row w g t ty cs (0, 0) d (hS w h) hu hd hi]⟩
theorem yieldsIf_off {op : Oper} {a : Act} (hw : Region.wanted op (yielded ops a.tmps) = false) : YieldsIf P ops S op undef a := .inr ⟨hw, rfl⟩
theorem held_step {i : Nat} {o : Oper} {fuel : Nat} {listed : Array Bool} {a : Act} {w : World} (ho : ops[i]? = some o) (hr : Region.ready md ops listed = [i]) (hw : Region.wanted o (yielded ops a.tmps) = true)
  (h : ∀ K' : Act → World → Prop, Shut (∀ a w, S w → (S w → wpAnyH P md ops Q S fuel (listed.setIfInBounds i true) a w) → K' a w) → Oper.wp P o a w K' Q) : wpAnyH P md ops Q S (fuel + 1) listed a w :=
 wpAnyH_ready hr (by simp) (AllReadyH.cons ho (fun K hK => by rw [if_pos hw]; exact h K hK) AllReadyH.nil)
end
section
variable {P : Program} {ops : Array Oper} {Q : Exit → Act → World → Prop} {md : Region.Mode} {S : World → Prop}
theorem kY (i : Nat) {oi : Oper} {v : Value} {fuel : Nat} {listed l' : Array Bool} {a a' : Act} {w : World}
    (hi : ops[i]? = some oi) (hy : YieldsIf P ops S oi v a)
    (h : wpAnyH P md ops Q S fuel l' a' w)
    (hs : Region.noSelect ops = true := by kernel_rfl) (hf : Region.free md ops listed i = true := by kernel_rfl) (hr : (Region.ready md ops listed).contains i = true := by kernel_rfl)
    (ha : a.put oi.dst v = a' := by (simp only [qA, qB, qC, qD, qE, qF, qG]; with_reducible rfl))
    (hl : listed.setIfInBounds i true = l' := by first | (simp only [qB, qC, qD]; with_reducible rfl) | with_reducible rfl)
    (hQ : ∀ c a w, Q (.panic c) (a.put oi.dst v) w → Q (.panic c) a w := by exact fun _ _ _ h => h)
    (hS : S w := by assumption) : wpAnyH P md ops Q S (fuel + 1) listed a w := by
  subst ha hl; exact wpAnyH_take hi hs hf hr hQ hy hS h
theorem kq (i : Nat) {oi : Oper} {v : Value} {fuel : Nat} {listed l' : Array Bool} {a a' : Act} {w : World}
    (h : wpAnyH P md ops Q S fuel l' a' w)
    (hi : ops[i]? = some oi := by rfl) (hs : Region.noSelect ops = true := by kernel_rfl) (hf : Region.free md ops listed i = true := by kernel_rfl) (hr : (Region.ready md ops listed).contains i = true := by kernel_rfl)
    (hw : Region.wanted oi (yielded ops a.tmps) = true := by rfl)
    (hy : ∀ w, S w → (execOp a.eval oi).run P w = .ok (.value v) w := by intro w hSw; go_simp; try with_reducible rfl)
    (ha : a.put oi.dst v = a' := by (simp only [qA, qB, qC, qD, qE, qF, qG]; with_reducible rfl))
    (hl : listed.setIfInBounds i true = l' := by first | (simp only [qB, qC, qD]; with_reducible rfl) | with_reducible rfl)
    (hQ : ∀ c a w, Q (.panic c) (a.put oi.dst v) w → Q (.panic c) a w := by exact fun _ _ _ h => h)
    (hS : S w := by assumption) : wpAnyH P md ops Q S (fuel + 1) listed a w :=
  kY i hi (Or.inl ⟨hw, hy⟩) h hs hf hr ha hl hQ hS
theorem tn (i : Nat) {oi : Oper} {fuel : Nat} {listed l' : Array Bool} {a a' : Act} {w : World}
    (h : wpAnyH P md ops Q S fuel l' a' w)
    (hi : ops[i]? = some oi := by rfl) (hs : Region.noSelect ops = true := by kernel_rfl) (hf : Region.free md ops listed i = true := by kernel_rfl) (hr : (Region.ready md ops listed).contains i = true := by kernel_rfl)
    (hw : Region.wanted oi (yielded ops a.tmps) = false := by rfl)
    (ha : a.put oi.dst undef = a' := by (simp only [qA, qB, qC, qD, qE, qF, qG]; with_reducible rfl))
    (hl : listed.setIfInBounds i true = l' := by first | (simp only [qB, qC, qD]; with_reducible rfl) | with_reducible rfl)
    (hQ : ∀ c a w, Q (.panic c) (a.put oi.dst undef) w → Q (.panic c) a w := by exact fun _ _ _ h => h)
    (hS : S w := by assumption) : wpAnyH P md ops Q S (fuel + 1) listed a w :=
  kY i hi (yieldsIf_off hw) h hs hf hr ha hl hQ hS
theorem zR {op : Oper} {a : Act} {ty : TypeId} {x : Operand} (ho : op.op = .load ty x) (g : Nat) (hx : a.eval x = .pointer (some ⟨g, 0, none⟩)) (t : TypeId) (cs : Array Value) (d : TypeDesc) (hS : ∀ w, S w → Blk w g t cs)
    (hu : P.underlying ty = some d) (hd : (match d with | .struct _ | .array _ _ => true | _ => false) = true) (hi : (P.info? ty).map (·.size) = some cs.size) (hw : Region.wanted op (yielded ops a.tmps) = true := by rfl) : YieldsIf P ops S op (.agg cs) a :=
  yieldsIf_load_row hw ty x ho g hx t cs d hS hu hd hi
theorem zS (i : Nat) {o : Oper} {fuel : Nat} {listed : Array Bool} {a : Act} {w : World}
    (h : ∀ K' : Act → World → Prop, Shut (∀ a w, S w → (S w → wpAnyH P md ops Q S fuel (listed.setIfInBounds i true) a w) → K' a w) → Oper.wp P o a w K' Q)
    (ho : ops[i]? = some o := by rfl) (hr : Region.ready md ops listed = [i] := by kernel_rfl) (hw : Region.wanted o (yielded ops a.tmps) = true := by rfl) : wpAnyH P md ops Q S (fuel + 1) listed a w :=
  held_step ho hr hw h
theorem zD {listed : Array Bool} {a : Act} {w : World} {fuel : Nat} (h : Q .normal a w) (hr : Region.ready md ops listed = [] := by kernel_rfl) : wpAnyH P md ops Q S fuel listed a w :=
  wpAnyH_done hr h fuel
end
section
variable {P : Program} {ops : Array Oper} {Q : Exit → Act → World → Prop} {md : Region.Mode} {S : World → Prop}
theorem held_two {i j : Nat} {o p : Oper} {fuel : Nat} {listed : Array Bool} {a : Act} {w : World} (ho : ops[i]? = some o) (hp : ops[j]? = some p) (hr : Region.ready md ops listed = [i, j]) (hw : Region.wanted o (yielded ops a.tmps) = true) (hw2 : Region.wanted p (yielded ops a.tmps) = true)
  (h : ∀ K' : Act → World → Prop, Shut (∀ a w, S w → (S w → wpAnyH P md ops Q S fuel (listed.setIfInBounds i true) a w) → K' a w) → Oper.wp P o a w K' Q)
  (h2 : ∀ K' : Act → World → Prop, Shut (∀ a w, S w → (S w → wpAnyH P md ops Q S fuel (listed.setIfInBounds j true) a w) → K' a w) → Oper.wp P p a w K' Q) : wpAnyH P md ops Q S (fuel + 1) listed a w :=
 wpAnyH_ready hr (by simp) (AllReadyH.cons ho (fun K hK => by rw [if_pos hw]; exact h K hK) (AllReadyH.cons hp (fun K hK => by rw [if_pos hw2]; exact h2 K hK) AllReadyH.nil))
end
end Go.Proofs.YtdbgeobolongmaaGreatDoor
namespace Go.Proofs.YtdbgeobolongmaaGreatDoor
open Go.RowKit Go.Shelf Go.Proofs Go.OctetPlain
theorem hjoin_eq : ∀ ws : List Hp.Wd, Lib.join ws [32] = Hp.join ws
 | [] => rfl
 | [w] => by simp [Lib.join_one, Hp.join]
 | w :: v :: ws => by
  have ih := hjoin_eq (v :: ws)
  rw [Hp.join, ← ih]
  simp [Lib.join]
theorem hjoin_le {k : Nat} : ∀ ws : List Hp.Wd, (∀ w ∈ ws, w.length ≤ k) → (Hp.join ws).length ≤ (k + 1) * ws.length
 | [], _ => by simp [Hp.join]
 | [w], h => by have := h w List.mem_cons_self; simp only [Hp.join, List.length_cons, List.length_nil]; omega
 | w :: v :: ws, h => by
  have h1 := h w List.mem_cons_self
  have h2 := hjoin_le (v :: ws) fun u hu => h u (List.mem_cons_of_mem _ hu)
  rw [Hp.join, List.length_append, List.length_cons]
  simp only [List.length_cons] at h2 ⊢
  rw [Nat.mul_add (k + 1) (ws.length + 1) 1]
  omega
theorem joinExtraH : Builder.Extra Tryz.prog Tryz.join_ren := {
 sizeBuilder := by kernel_rfl
 liesBuilder := by kernel_rfl
 t5 := Tryz.underlying5
 a5 := fun w => run_isAgg_plain Tryz.underlying5 rfl w
 z5 := Tryz.sizeOf5
 v5 := Tryz.zeroValue5
 infoByte := by kernel_rfl
 cellsByte := by kernel_rfl
 sizeByte := by kernel_rfl
 neB5 := by decide }
theorem joinS_any (ws : List Hp.Wd) (hw : ws.length ≤ 1048576) (hll : (Hp.join ws).length ≤ 140737488355328) (v : Value) (w : World) (hv : SlR w 1 encS v ws) :
  Calls Tryz.prog 34 #[v, .string ⟨#[32]⟩] w fun e w' => e = .returned (.string (str (Hp.join ws))) ∧ Below w.heap.size w w' := by
 obtain ⟨p, cap, rfl, hd1, hd2, hR⟩ := hv
 have hjs : Lib.join ((ws.map str).map (·.data.toList)) (⟨#[32]⟩ : ByteArray).data.toList = Hp.join ws := by
  rw [List.map_map]
  have : (fun s : ByteArray => s.data.toList) ∘ str = id := by funext l; exact list_str l
  rw [this, List.map_id]
  exact hjoin_eq ws
 cases p with
 | none =>
  have h0 := hR.1 rfl
  have hL0 : ws = [] := List.eq_nil_of_length_eq_zero (by omega)
  subst hL0
  exact (Any.strings_Join_none Tryz.join joinExtraH none cap ⟨#[32]⟩ w).mono fun e w' h => ⟨h.1, by rw [h.2]; exact Below.refl _ _⟩
 | some a =>
  by_cases hl0 : ws.length = 0
  ·have hL0 : ws = [] := List.eq_nil_of_length_eq_zero hl0
   subst hL0
   exact (Any.strings_Join_none Tryz.join joinExtraH (some a) cap ⟨#[32]⟩ w).mono fun e w' h => ⟨h.1, by rw [h.2]; exact Below.refl _ _⟩
  obtain ⟨hsp, hbk, hcl⟩ := hR.2 a rfl hl0
  have ha : a = ⟨a.block, a.off, none⟩ := by cases a; simp only at hsp; subst hsp; rfl
  have hcon := Any.strings_Join Tryz.join joinExtraH a.block a.off cap (ws.map str) ⟨#[32]⟩ w (fun j x hx => by
   rw [List.getElem?_map] at hx
   cases hy : ws[j]? with
   | none => rw [hy] at hx; cases hx
   | some y =>
    rw [hy] at hx
    cases hx
    have := hcl j y hy 0 (.string (str y)) rfl
    simpa using this) hbk (by simp; omega) (by simpa using hd1) (by rw [hjs]; exact hll)
  rw [hjs, List.length_map] at hcon
  rw [ha]
  exact hcon
theorem owns_lit (W : World) (e : TypeId) (cs : Array Value) (n : Nat) (hn : cs.size = n) (hm : n ≤ 1048576) : (W.alloc (.cells cs e)).ownsRow W.heap.size e 1 (.slice (some ⟨W.heap.size, 0, none⟩) n n) n cs.toList := by
 subst hn
 exact ⟨by simp, .inr ⟨W.heap.size, cs.size, cs, rfl, Nat.le_refl _, heap_alloc_new W _, Nat.le_refl _, by unfold maxLen; omega, by simp, List.take_of_length_le (by simp)⟩⟩
theorem wp_app_sl {α : Type} {P : Program} {w : World} {o : Oper} {a : Act} {K : Act → World → Prop} {Q : Exit → Act → World → Prop} {t e : TypeId} {size bytes : Nat} (hE : ElemOk P t e size bytes) (s x : Operand)
  (ho : o.op = .call { callee := .builtin .append, args := #[s, x], argTypes := #[t, t] })
  (base : Nat) (v : Value) (n : Nat) (xs : List Value) (hs : a.eval s = v) (hown : w.ownsRow base e size v n xs)
  (enc : α → List Value) (hk : ∀ x, (enc x).length = size) (p : Option Addr) (c : Nat) (ys : List α) (hx : a.eval x = .slice p ys.length c) (hr : RdP w size enc p ys) (h1 : ∀ y, ∀ u ∈ enc y, u.oneCell' = true)
  (hsm : n + ys.length ≤ 1099511627776) (hbase : base ≤ w.heap.size)
  (h : ∀ v' w', w'.ownsRow base e size v' (n + ys.length) (xs ++ flat enc ys) → Below base w w' → K (a.put o.dst v') w') : o.wp P a w K Q := by
 have hE' := hE
 obtain ⟨ht, hb, hsz, i, z, hi, hz, hsize, hby, hzs⟩ := hE
 cases p with
 | none =>
  have h0 := hr.1 rfl
  have hys : ys = [] := List.eq_nil_of_length_eq_zero h0
  subst hys
  have hrun := run_append_none (ty := o.type) w hE' hown c
  unfold Oper.wp execOp
  simp only [List.length_nil] at hx
  simp only [ho, resolve, invoke, builtin, Sem.run_bind, Sem.run_pure, Result.andThen_ok, List.map_toArray, List.map_cons, List.map_nil, hs, hx, hrun]
  exact h v w (by simpa [flat] using hown) (Below.refl _ _)
 | some ad =>
  have hnews : ∀ j u, (flat enc ys)[j]? = some u → w.cell? (ad.add j) = some u := by
   intro j u hu
   have hjl : j < (flat enc ys).length := (List.getElem?_eq_some_iff.1 hu).1
   rw [flat_length hk] at hjl
   have hi' : j / size < ys.length := Nat.div_lt_of_lt_mul (by rw [Nat.mul_comm]; exact hjl)
   obtain ⟨hsp, _, hcell⟩ := hr.2 ad rfl (Nat.ne_of_gt (Nat.lt_of_le_of_lt (Nat.zero_le _) hi'))
   have hm : j % size < (enc ys[j / size]).length := by rw [hk]; exact Nat.mod_lt _ hsz
   have hfl := flat_at hk (List.getElem?_eq_getElem hi') (List.getElem?_eq_getElem hm)
   have hj : j / size * size + j % size = j := by rw [Nat.mul_comm]; exact Nat.div_add_mod j size
   rw [hj, hu] at hfl
   have := hcell _ _ (List.getElem?_eq_getElem hi') _ _ ((List.getElem?_eq_getElem hm).trans hfl.symm)
   rw [← this]
   congr 1
   unfold Addr.add
   split
   ·rename_i h0; subst h0; cases ad; simp_all
   ·cases ad; simp only [Addr.mk.injEq, true_and, and_true]; omega
  obtain ⟨v', w', hr', h2, h3, h4, h5⟩ := run_append_own_at (P := P) w base t o.type e i z size bytes ht hi hz hsize hby hzs hsz v n xs hown ad ys.length c (flat enc ys) (flat_length hk ys) hnews (by intro u hu; simp only [flat, List.mem_flatMap] at hu; obtain ⟨y, _, hy⟩ := hu; exact h1 y u hy) (by unfold maxLen; omega) (size_bytes hsm hb) hbase
  unfold Oper.wp execOp
  simp only [ho, resolve, invoke, builtin, Sem.run_bind, Sem.run_pure, Result.andThen_ok, List.map_toArray, List.map_cons, List.map_nil, hs, hx, hr']
  exact h v' w' h2 (below_grown (Below.refl _ _) h3 hown (Nat.le_refl _) hbase)
theorem encS_one (s : List UInt8) : ∀ u ∈ encS s, u.oneCell' = true := by
 intro u hu; simp only [encS, List.mem_singleton] at hu; subst hu; rfl
structure ShB (w W : World) (c0 c1 c2 c3 c4 c5 : Value) : Prop where
 b : Blk W w.heap.size 29 #[c0, c1, c2, c3, c4, c5]
 bel : Below w.heap.size w W
section
variable {w W : World} {c0 c1 c2 c3 c4 c5 : Value}
theorem ShB.next (h : ShB w W c0 c1 c2 c3 c4 c5) {W' : World} {B : Nat} (hb : Below B W W') (hB : w.heap.size < B) : ShB w W' c0 c1 c2 c3 c4 c5 := ⟨h.b.below hb hB, h.bel.trans (hb.mono (by omega))⟩
theorem ShB.drew (h : ShB w W c0 c1 c2 c3 c4 c5) : ShB w W.drew c0 c1 c2 c3 c4 c5 := ⟨h.b.drew, h.bel.drew⟩
theorem ShB.step (h : ShB w W c0 c1 c2 c3 c4 c5) {W' : World} (hb : Below W.heap.size W W') : ShB w W' c0 c1 c2 c3 c4 c5 := h.next hb h.b.lt
theorem ShB.cs (h : ShB w W c0 c1 c2 c3 c4 c5) : W.cell? ⟨w.heap.size, 0, none⟩ = some c0 ∧ W.cell? ⟨w.heap.size, 1, none⟩ = some c1 ∧ W.cell? ⟨w.heap.size, 2, none⟩ = some c2 ∧ W.cell? ⟨w.heap.size, 3, none⟩ = some c3 ∧ W.cell? ⟨w.heap.size, 4, none⟩ = some c4 ∧ W.cell? ⟨w.heap.size, 5, none⟩ = some c5 :=
 ⟨h.b.cell 0, h.b.cell 1, h.b.cell 2, h.b.cell 3, h.b.cell 4, h.b.cell 5⟩
end
structure ShS (w W : World) (c0 c1 c2 c3 c4 c5 : Value) (ws : List Hp.Wd) (v : Value) : Prop where
 S : ShB w W c0 c1 c2 c3 c4 c5
 own : W.ownsRow (w.heap.size + 1) 9 1 v ws.length (flat encS ws)
theorem ShS.next {w W : World} {c0 c1 c2 c3 c4 c5 : Value} {ws : List Hp.Wd} {v : Value} (h : ShS w W c0 c1 c2 c3 c4 c5 ws v) {W' : World} (hb : Below W.heap.size W W') : ShS w W' c0 c1 c2 c3 c4 c5 ws v := ⟨h.S.step hb, owns_below h.own hb (Nat.le_refl _)⟩
theorem ShS.app {w W : World} {c0 c1 c2 c3 c4 c5 : Value} {ws : List Hp.Wd} {v : Value} (h : ShS w W c0 c1 c2 c3 c4 c5 ws v) {W' : World} {v' : Value} (us : List Hp.Wd) (ho : W'.ownsRow (w.heap.size + 1) 9 1 v' (ws.length + us.length) (flat encS ws ++ flat encS us)) (hb : Below (w.heap.size + 1) W W') : ShS w W' c0 c1 c2 c3 c4 c5 (ws ++ us) v' :=
 ⟨h.S.next hb (Nat.lt_succ_self _), by rw [List.length_append, flat_append]; exact ho⟩
end Go.Proofs.YtdbgeobolongmaaGreatDoor
