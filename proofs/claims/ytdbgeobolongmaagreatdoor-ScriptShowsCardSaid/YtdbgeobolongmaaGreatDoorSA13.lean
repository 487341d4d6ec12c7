/- Part of the proof: ScriptLines, ScriptParses, ScriptShows. -/
import Derived.Deep.DeepCutAuto
import Derived.Test.YtdbgeobolongmaaGreatDoorSA10
set_option linter.unusedVariables false
set_option linter.unusedSimpArgs false
set_option maxRecDepth 100000
set_option maxHeartbeats 2000000
namespace Go.Proofs.YtdbgeobolongmaaGreatDoor
open Go.RowKit Go.Shelf Go.Proofs Go.OctetPlain Go.Proofs.Tryz
theorem Rdr.parts {g A : Nat} {w : World} {ws : List Hp.Wd} {bad : Bool} (h : Rdr g A w ws bad) : ∃ p cap, w.cell? ⟨g, 0, none⟩ = some (.slice p ws.length cap) /\ w.cell? ⟨g, 1, none⟩ = some (.bool bad) /\ w.frozen? ⟨g, 0, none⟩ = false /\ w.frozen? ⟨g, 1, none⟩ = false /\ ws.length <= cap /\ cap <= 9223372036854775807 /\ RdP w 1 encS p ws /\ (∀ a, p = some a -> ws.length ≠ 0 -> a.block = A) /\ g < w.heap.size := by
 obtain ⟨v, hb, p, cap, rfl, h1, h2, h3, h4⟩ := h.ex; exact ⟨p, cap, hb.cell 0, hb.cell 1, hb.frozen' 0, hb.frozen' 1, h1, h2, h3, h4, hb.lt⟩
theorem Rdr.tail {g A : Nat} {w : World} {x : Hp.Wd} {xs : List Hp.Wd} {bad : Bool} (h : Rdr g A w (x :: xs) bad) {b off cap : Nat} (hc : w.cell? ⟨g, 0, none⟩ = some (.slice (some ⟨b, off, none⟩) (xs.length + 1) cap)) :
  (cap = 1 -> Rdr g A (w.setCell ⟨g, 0, none⟩ (.slice (some ⟨b, off, none⟩) 0 0)) xs bad) /\ Rdr g A (w.setCell ⟨g, 0, none⟩ (.slice (some ⟨b, off + 1, none⟩) xs.length (cap - 1))) xs bad := by
 obtain ⟨p, cap', c0, _, _, _, h1, h2, h3, h4, _⟩ := h.parts; rw [hc] at c0; simp only [zI, uX, Value.slice.injEq, rX] at c0; obtain ⟨rfl, rfl⟩ := c0; have hA : b = A := h4 _ rfl zi; refine ⟨fun hcap => ?_, ?_⟩
 ·subst hcap
  exact h.setW (SlP.tailA (by simpa using h1) h3 hA)
 ·exact h.setW (SlP.tailB (by simpa using h1) h2 h3 hA)
theorem nZ {w : World} {base : Nat} {e : TypeId} {size : Nat} {v : Value} {n : Nat} {xs : List Value} (h : w.ownsRow base e size v n xs) {g : Nat} (hg : g < base) (i : Nat) (x : Value) : (w.setCell ⟨g, i, none⟩ x).ownsRow base e size v n xs :=
 h.kept (vH w g i x) (by
  cases hv : v.ownBlock with
  | none => exact .inl rfl
  | some k => refine .inr (fun e => ?_); have := (h.lt k hv).1; cases e; omega)
theorem cell_set {w : World} {g i : Nat} {u : Value} (v : Value) (h : w.cell? ⟨g, i, none⟩ = some u) : (w.setCell ⟨g, i, none⟩ v).cell? ⟨g, i, none⟩ = some v := World.cell?_setCell_same' _ _ _ (by rw [h]; rfl)
def sI (ws : List Hp.Wd) : Prop := ∀ x ∈ ws, x.length <= 1073741824
structure NumS (g A : Nat) (ws : List Hp.Wd) (bad : Bool) (w wr : World) (out : List Int) (rest : List Hp.Wd) (vo : Value) : Prop where
 own : wr.ownsRow w.heap.size 3 1 vo out.length (flat encI out)
 rd : Rdr g A wr rest bad
 gr : w.grownBy wr (some g)
 eq : Hp.nums ws = (out ++ (Hp.nums rest).1, (Hp.nums rest).2)
 len : out.length + rest.length = ws.length
 tab : Tabs wr
 sh : sI rest
theorem nums_cons_some {x : Hp.Wd} {xs : List Hp.Wd} {n : Int} (h : number x 1048575 = some n) : Hp.nums (x :: xs) = (n :: (Hp.nums xs).1, (Hp.nums xs).2) := by rw [Hp.nums, h]
theorem nums_cons_none {x : Hp.Wd} {xs : List Hp.Wd} (h : number x 1048575 = none) : Hp.nums (x :: xs) = ([], x :: xs) := by rw [Hp.nums, h]
theorem zFe (g A : Nat) (ws : List Hp.Wd) (hl : ws.length <= 1048576) (hsh : sI ws) (bad : Bool) (w : World) (ht : Tabs w) (hA : A < w.heap.size) (hg : ∀ W, w.grownBy W (some g) -> Tabs W) (h : Rdr g A w ws bad) :
  Calls prog 138 #[.pointer (some ⟨g, 0, none⟩)] w fun e w' => ∃ v, e = .returned v /\ w'.ownsRow w.heap.size 3 1 v (Hp.nums ws).1.length (flat encI (Hp.nums ws).1) /\ Rdr g A w' (Hp.nums ws).2 bad /\ w.grownBy w' (some g) := by
 have HT := qh hg; have HAL := qh hA; have H0 := qh (NumS.mk (w := w) (xL _ _ _ _) h (jM _ _) (out := []) zi zi ht hsh : NumS g A ws bad w w [] ws (.slice none 0 0)); have hgl : g < w.heap.size := by obtain ⟨_, _, _, _, _, _, _, _, _, _, hx⟩ := h.parts; exact hx
 clear ht hg hsh h hA
 go_enter func138, ntmps138
 go_wp2_with fail
 go_loopw [3, 4, 5] (fun vo _ _ wr => ∃ (out : List Int) (rest : List Hp.Wd), Hid (NumS g A ws bad w wr out rest vo)) (fun _ _ _ wr => lenOf ((wr.cell? ⟨g, 0, none⟩).getD (.int .i64 0)))
 case atStart => exact ⟨[], ws, H0⟩
 case round =>
  obtain ⟨out, rest, HN⟩ := hrel; have hlen := HN.o.len; obtain ⟨p, cap, c0, -, f0, -, h1, h2, h3, h4, hgr⟩ := HN.o.rd.parts
  cases rest with
  |nil =>
   have HE : Hid (Hp.nums ws = (out, [])) := by rw [HN.o.eq]; exact qh (by simp [Hp.nums])
   simp only [xI] at c0
   go_wp2
   go_ret
   refine ⟨_, rfl, ?_, ?_, HN.o.gr⟩
   ·rw [HE.o]; exact HN.o.own
   ·rw [HE.o]; exact HN.o.rd
  |cons x xs =>
   obtain ⟨b, off, rfl, hbl, hc⟩ := h3.at (i := 0) zi; have hx := hc 0 (.string (str x)) rfl; simp only [jP, xN] at hx; have hxl : x.length <= 1073741824 := HN.o.sh x yH; have HNum := qh (fP x hxl 1048575 wr HN.o.tab); simp only [zI] at c0 h1 hlen; have hAg := HN.o.rd.ne; clear hc h3 h4 hxl; have hlen1 : 0 < xs.length + 1 := om
   cases hn : number x 1048575 with
   |none =>
    rw [hn] at HNum; have HE : Hid (Hp.nums ws = (out, x :: xs)) := by rw [HN.o.eq, nums_cons_none hn]; exact qh zi
    clear hn; go_wp2_with fail
    refine zT HNum.o fun w1 hb1 => ?_
    go_wp2
    go_ret
    refine ⟨_, rfl, ?_, ?_, uK HN.o.gr (uE hb1 _)⟩
    ·rw [HE.o]; exact vL HN.o.own hb1 zn
    ·rw [HE.o]; exact HN.o.rd.below hb1 zn
   |some n =>
    rw [hn] at HNum; have HE : Hid (Hp.nums ws = ((out ++ [n]) ++ (Hp.nums xs).1, (Hp.nums xs).2)) := by rw [HN.o.eq, nums_cons_some hn]; exact qh zi
    clear hn; have hge : ∀ W, zW wr W -> Hid (w.grownBy W (some g)) := fun W hW => qh (uK HN.o.gr (uE hW _)); have hws := HN.o.gr.size; have HSH : Hid (sI xs) := qh fun y hy => HN.o.sh y (yP _ hy); go_wp2_with fail
    refine zT HNum.o fun w1 hb1 => ?_; have HG1 := hge w1 hb1; have HO1 := qh (vL HN.o.own hb1 zn); have hz1 := hb1.size; have c01 : Hid (w1.cell? ⟨g, 0, none⟩ = some (.slice (some ⟨b, off, none⟩) (xs.length + 1) cap)) := qh ((hb1.cell (p := ⟨g, 0, none⟩) (by show g < _; omega)).trans c0); have f01 : Hid (w1.frozen? ⟨g, 0, none⟩ = false) := qh ((hb1.frozen (p := ⟨g, 0, none⟩) (by show g < _; omega)).trans f0); have HR1 := qh (HN.o.rd.below hb1 zn); clear hb1 hge; have HGR : Hid (∀ W i v, Below w.heap.size w1 W -> w.grownBy (W.setCell ⟨g, i, none⟩ v) (some g)) := qh fun W i v hW => uK ⟨hW.os.trans HG1.o.os, hW.tape.trans HG1.o.tape, hW.output.trans HG1.o.output, yK HG1.o.size hW.size, fun k hk hne => (hW.block k hk).trans (HG1.o.block k hk hne)⟩ (vH W g i v); have HC0 := qh c0
    by_cases hcap : cap = 1
    ·subst hcap
     go_wp2_with (at_builtin; go_loud (refine uR elemI rfl (.tmp 24) (.tmp 26) rfl w.heap.size u3 _ _ rfl HO1.o 1 1 [.int .i64 _] rfl rfl (by simp [Value.oneCell']) om om ?_; intro v4 w4 hown4 hgr4 hob4 hb4; have c04 := (hb4.cell (p := ⟨g, 0, none⟩) hgl).trans c01.o; have f04 := (hb4.frozen (p := ⟨g, 0, none⟩) hgl).trans f01.o; have HB4 := qh hb4; have HW4 := qh hown4; clear hown4 hgr4 hb4 hob4))
     have HC4 := qh c04; have HR4 := qh (HR1.o.belowAt HB4.o hgl HAL.o); refine ⟨⟨out ++ [n], xs, qh ⟨?_, (HR4.o.tail HC4.o).1 rfl, ?_, HE.o, zo, ?_, HSH.o⟩⟩, ?_⟩
     ·rw [vK, zG]
      exact nZ HW4.o hgl 0 _
     ·exact HGR.o _ _ _ HB4.o
     ·exact HT.o _ (HGR.o _ _ _ HB4.o)
     ·rw [cell_set _ HC4.o, HC0.o]; simp [lenOf]
    ·skip
     go_wp2_with (at_builtin; go_loud (refine uR elemI rfl (.tmp 24) (.tmp 26) rfl w.heap.size u3 _ _ rfl HO1.o 1 1 [.int .i64 _] rfl rfl (by simp [Value.oneCell']) om om ?_; intro v4 w4 hown4 hgr4 hob4 hb4; have c04 := (hb4.cell (p := ⟨g, 0, none⟩) hgl).trans c01.o; have f04 := (hb4.frozen (p := ⟨g, 0, none⟩) hgl).trans f01.o; have HB4 := qh hb4; have HW4 := qh hown4; clear hown4 hgr4 hb4 hob4))
     have HC4 := qh c04; have HR4 := qh (HR1.o.belowAt HB4.o hgl HAL.o); refine ⟨⟨out ++ [n], xs, qh ⟨?_, (HR4.o.tail HC4.o).2, ?_, HE.o, zo, ?_, HSH.o⟩⟩, ?_⟩
     ·rw [vK, zG]
      exact nZ HW4.o hgl 0 _
     ·exact HGR.o _ _ _ HB4.o
     ·exact HT.o _ (HGR.o _ _ _ HB4.o)
     ·rw [cell_set _ HC4.o, HC0.o]; simp [lenOf]
def numP : List Int -> Int × List Int × Bool
 | [] => (-1, [], true)
 | n :: more => (n, more, false)
theorem hop_number (g A : Nat) (ws : List Hp.Wd) (hl : ws.length <= 1048576) (hsh : sI ws) (bad : Bool) (w : World) (ht : Tabs w) (hA : A < w.heap.size) (hg : ∀ W, w.grownBy W (some g) -> Tabs W) (h : Rdr g A w ws bad) :
  Calls prog 141 #[.pointer (some ⟨g, 0, none⟩)] w fun e w' => ∃ v, e = .returned (.tuple #[.int .i64 (numP (Hp.nums ws).1).1, v]) /\ SlP (w.heap.size <= ·) w' 1 encI v (numP (Hp.nums ws).1).2.1 /\ Rdr g A w' (Hp.nums ws).2 (bad || (numP (Hp.nums ws).1).2.2) /\ w.grownBy w' (some g) := by
 have HC := qh (zFe g A ws hl hsh bad w ht hA hg h); have hgl : g < w.heap.size := by obtain ⟨_, _, _, _, _, _, _, _, _, _, hx⟩ := h.parts; exact hx
 clear ht hg hsh h hA; generalize Hp.nums ws = q at *; obtain ⟨l, rest⟩ := q; simp only at *
 cases l with
 |nil =>
  go_enter func141, ntmps141
  go_wp2_with fail
  refine HC.o.mono ?_; rintro e w1 ⟨v, rfl, ho, hr, hg⟩; have HR := qh hr; have HG := qh hg; obtain ⟨p, cap, c0, c1, f0, f1, -, -, -, -, -⟩ := hr.parts
  have hv : ∃ p cap, v = .slice p 0 cap := by
   obtain ⟨p, cap, hv, -⟩ := SlR.of_owns mI ho; exact ⟨p, cap, hv⟩
  obtain ⟨p2, cap2, rfl⟩ := hv; clear ho hr hg
  go_wp2
  refine zC (v := .tuple #[.int .i64 (-1), .slice none 0 0]) (by simp [results, results141, go_sem]) rfl ⟨_, rfl, SlP.nil _ _ _, ?_, uK HG.o (vH _ _ _ _)⟩; have := HR.o.setB true
  simpa [numP] using this
 |cons n more =>
  go_enter func141, ntmps141
  go_wp2_with fail
  refine HC.o.mono ?_; rintro e w1 ⟨v, rfl, ho, hr, hg⟩; obtain ⟨p, cap, rfl, h1, h2, h3, h4⟩ := SlP.of_owns mI ho; obtain ⟨b, off, rfl, hbl, hc⟩ := h3.at (i := 0) zi
  have hx : ∀ k, (w1.drewN k).cell? ⟨b, off, none⟩ = some (.int .i64 n) := fun k => by
   have := hc 0 (.int .i64 n) rfl
   simpa using this
  have hx0 := hx 0; have HA := qh (fun h : more.length + 1 <= 1 => SlP.tailA (Pr := (w.heap.size <= ·)) h h3 (h4 _ rfl zi)); have HB := qh (SlP.tailB (Pr := (w.heap.size <= ·)) h1 h2 h3 (h4 _ rfl zi)); have HR := qh hr; have HG := qh hg; simp only [zI] at h1; clear ho hr hg hc h3 h4; have hp0 : 0 < more.length + 1 := om; have hp1 : 1 <= more.length + 1 := om; simp only [zI]
  by_cases hcap : cap = 1
  ·subst hcap
   have hm0 : more.length = 0 := om; go_wp2_with fail
   go_quiet (fail)
   go_wp2
   refine zC (v := .tuple #[.int .i64 n, .slice (some ⟨b, off, none⟩) 0 0]) (by simp [results, results141, go_sem]) rfl ?_; have hbd := below_drewN (xE w1.heap.size w1) nq; exact ⟨_, rfl, (HA.o h1).below hbd zn, by simpa [numP] using HR.o.below hbd zn, uK HG.o (uE hbd _)⟩
  ·skip
   go_wp2_with fail
   go_quiet (fail)
   go_wp2
   refine zC (v := .tuple #[.int .i64 n, .slice (some ⟨b, off + 1, none⟩) more.length (cap - 1)]) (by simp [results, results141, go_sem]) rfl ?_; have hbd := below_drewN (xE w1.heap.size w1) nq; exact ⟨_, rfl, HB.o.below hbd zn, by simpa [numP] using HR.o.below hbd zn, uK HG.o (uE hbd _)⟩
theorem hjoin_eq : ∀ ws : List Hp.Wd, Lib.join ws [32] = Hp.join ws
 | [] => rfl
 | [w] => by simp [Lib.join_one, Hp.join]
 |w :: v :: ws => by
  have ih := hjoin_eq (v :: ws); rw [Hp.join, ← ih]; simp [Lib.join]
theorem zDe {k : Nat} : ∀ ws : List Hp.Wd, (∀ w ∈ ws, w.length <= k) -> (Hp.join ws).length <= (k + 1) * ws.length
 | [], _ => by simp [Hp.join]
 | [w], h => by have := h w yH; simp only [Hp.join, zI, xI]; omega
 |w :: v :: ws, h => by
  have h1 := h w yH; have h2 := zDe (v :: ws) fun u hu => h u (yP _ hu); rw [Hp.join, zG, zI]; simp only [zI] at h2 ⊢; rw [Nat.mul_add (k + 1) (ws.length + 1) 1]; omega
theorem tN : Builder.Extra prog Tryz.join_ren := {
 sizeBuilder := kf
 liesBuilder := kf
 t5 := underlying5
 a5 := fun w => run_isAgg_plain underlying5 rfl w
 z5 := sizeOf5
 v5 := zeroValue5
 infoByte := kf
 cellsByte := kf
 sizeByte := kf
 neB5 := by decide }
theorem zAs (ws : List Hp.Wd) (hw : ws.length <= 1048576) (hll : (Hp.join ws).length <= 140737488355328) (v : Value) (w : World) (hv : SlR w 1 encS v ws) :
  zCB 34 #[v, .string ⟨#[32]⟩] w (.string (str (Hp.join ws))) := by
 obtain ⟨p, cap, rfl, hd1, hd2, hR⟩ := hv
 have hjs : Lib.join ((ws.map str).map (·.data.toList)) (⟨#[32]⟩ : ByteArray).data.toList = Hp.join ws := by
  rw [kJ]; have : (fun s : ByteArray => s.data.toList) ∘ str = id := by funext l; exact kM l
  rw [this, zGg]; exact hjoin_eq ws
 cases p with
 |none =>
  have h0 := hR.1 rfl; have hL0 : ws = [] := zX om; subst hL0; exact (Any.strings_Join_none Tryz.join tN none cap ⟨#[32]⟩ w).mono fun e w' h => ⟨h.1, by rw [h.2]; exact xE _ _⟩
 |some a =>
  by_cases hl0 : ws.length = 0
  ·have hL0 : ws = [] := zX hl0
   subst hL0; exact (Any.strings_Join_none Tryz.join tN (some a) cap ⟨#[32]⟩ w).mono fun e w' h => ⟨h.1, by rw [h.2]; exact xE _ _⟩
  obtain ⟨hsp, hbk, hcl⟩ := hR.2 a rfl hl0; have ha : a = ⟨a.block, a.off, none⟩ := by cases a; simp only at hsp; subst hsp; rfl
  have hcon := Any.strings_Join Tryz.join tN a.block a.off cap (ws.map str) ⟨#[32]⟩ w (fun j x hx => by
   rw [jL] at hx
   cases hy : ws[j]? with
   | none => rw [hy] at hx; cases hx
   |some y =>
    rw [hy] at hx
    cases hx; have := hcl j y hy 0 (.string (str y)) rfl
    simpa using this) hbk zo (by simpa using hd1) (by rw [hjs]; exact hll)
  rw [hjs, yX] at hcon; rw [ha]; exact hcon
theorem zAe (W : World) (e : TypeId) (cs : Array Value) (n : Nat) (hn : cs.size = n) (hm : n <= 1048576) : (W.alloc (.cells cs e)).ownsRow W.heap.size e 1 (.slice (some ⟨W.heap.size, 0, none⟩) n n) n cs.toList := by
 subst hn; exact ⟨zi, .inr ⟨W.heap.size, cs.size, cs, rfl, yZ _, jW W _, yZ _, by unfold maxLen; omega, zi, xY zi⟩⟩
theorem wp_app_sl {α : Type} {P : Program} {w : World} {o : Oper} {a : Act} {K : Act -> World -> Prop} {Q : Exit -> Act -> World -> Prop} {t e : TypeId} {size bytes : Nat} (hE : tY P t e size bytes) (s x : Operand)
  (ho : o.op = .call { callee := .builtin .append, args := #[s, x], argTypes := #[t, t] })
  (base : Nat) (v : Value) (n : Nat) (xs : List Value) (hs : a.eval s = v) (hown : w.ownsRow base e size v n xs)
  (enc : α -> List Value) (hk : ∀ x, (enc x).length = size) (p : Option Addr) (c : Nat) (ys : List α) (hx : a.eval x = .slice p ys.length c) (hr : RdP w size enc p ys) (h1 : ∀ y, ∀ u ∈ enc y, u.oneCell' = true)
  (hsm : n + ys.length <= 1099511627776) (hbase : base <= w.heap.size)
  (h : ∀ v' w', w'.ownsRow base e size v' (n + ys.length) (xs ++ flat enc ys) -> Below base w w' -> K (a.put o.dst v') w') : o.wp P a w K Q := by
 have hE' := hE; obtain ⟨ht, hb, hsz, i, z, hi, hz, hsize, hby, hzs⟩ := hE
 cases p with
 |none =>
  have h0 := hr.1 rfl; have hys : ys = [] := zX h0; subst hys; have hrun := wJ (ty := o.type) w hE' hown c; unfold Oper.wp execOp; simp only [xI] at hx; simp only [ho, resolve, invoke, builtin, kS, qN, jA, jF, yM, xH, hs, hx, hrun]; exact h v w (by simpa [flat] using hown) zb
 |some ad =>
  have hnews : ∀ j u, (flat enc ys)[j]? = some u -> w.cell? (ad.add j) = some u := by
   intro j u hu; have hjl : j < (flat enc ys).length := (zL.1 hu).1; rw [aI hk] at hjl; have hi' : j / size < ys.length := zBe (by rw [bM]; exact hjl); obtain ⟨hsp, _, hcell⟩ := hr.2 ad rfl (Nat.ne_of_gt (nJ (yQ _) hi')); have hm : j % size < (enc ys[j / size]).length := by rw [hk]; exact zDm _ hsz
   have hfl := oF hk (zA hi') (zA hm); have hj : j / size * size + j % size = j := by rw [bM]; exact Nat.div_add_mod j size
   rw [hj, hu] at hfl; have := hcell _ _ (zA hi') _ _ ((zA hm).trans hfl.symm); rw [← this]
   congr 1
   unfold Addr.add
   split
   ·rename_i h0; subst h0; cases ad; simp_all
   ·cases ad; simp only [Addr.mk.injEq, rX, pQ]; omega
  obtain ⟨v', w', hr', h2, h3, h4, h5⟩ := run_append_own_at (P := P) w base t o.type e i z size bytes ht hi hz hsize hby hzs hsz v n xs hown ad ys.length c (flat enc ys) (aI hk ys) hnews (by intro u hu; simp only [flat, List.mem_flatMap] at hu; obtain ⟨y, _, hy⟩ := hu; exact h1 y u hy) (by unfold maxLen; omega) (oJ hsm hb) hbase; unfold Oper.wp execOp; simp only [ho, resolve, invoke, builtin, kS, qN, jA, jF, yM, xH, hs, hx, hr']; exact h v' w' h2 (below_grown zb h3 hown zn hbase)
theorem pE (s : List UInt8) : ∀ u ∈ encS s, u.oneCell' = true := by
 intro u hu; simp only [encS, xS] at hu; subst hu; rfl
structure ShB (w W : World) (c0 c1 c2 c3 c4 c5 : Value) : Prop where
 b : Blk W w.heap.size 29 #[c0, c1, c2, c3, c4, c5]
 bel : zW w W
section
variable {w W : World} {c0 c1 c2 c3 c4 c5 : Value}
theorem ShB.next (h : ShB w W c0 c1 c2 c3 c4 c5) {W' : World} {B : Nat} (hb : Below B W W') (hB : w.heap.size < B) : ShB w W' c0 c1 c2 c3 c4 c5 := ⟨h.b.below hb hB, h.bel.trans (hb.mono om)⟩
theorem ShB.drew (h : ShB w W c0 c1 c2 c3 c4 c5) : ShB w W.drew c0 c1 c2 c3 c4 c5 := ⟨h.b.drew, h.bel.drew⟩
theorem ShB.step (h : ShB w W c0 c1 c2 c3 c4 c5) {W' : World} (hb : zW W W') : ShB w W' c0 c1 c2 c3 c4 c5 := h.next hb h.b.lt
theorem ShB.cs (h : ShB w W c0 c1 c2 c3 c4 c5) : W.cell? ⟨w.heap.size, 0, none⟩ = some c0 /\ W.cell? ⟨w.heap.size, 1, none⟩ = some c1 /\ W.cell? ⟨w.heap.size, 2, none⟩ = some c2 /\ W.cell? ⟨w.heap.size, 3, none⟩ = some c3 /\ W.cell? ⟨w.heap.size, 4, none⟩ = some c4 /\ W.cell? ⟨w.heap.size, 5, none⟩ = some c5 :=
 ⟨h.b.cell 0, h.b.cell 1, h.b.cell 2, h.b.cell 3, h.b.cell 4, h.b.cell 5⟩
end
structure ShS (w W : World) (c0 c1 c2 c3 c4 c5 : Value) (ws : List Hp.Wd) (v : Value) : Prop where
 S : ShB w W c0 c1 c2 c3 c4 c5
 own : W.ownsRow (w.heap.size + 1) 9 1 v ws.length (flat encS ws)
section
variable {c0 c1 c2 c3 c4 c5 : Value}
theorem ShS.next {w W : World} {ws : List Hp.Wd} {v : Value} (h : ShS w W c0 c1 c2 c3 c4 c5 ws v) {W' : World} (hb : zW W W') : ShS w W' c0 c1 c2 c3 c4 c5 ws v := ⟨h.S.step hb, vL h.own hb zn⟩
theorem ShS.app {w W : World} {ws : List Hp.Wd} {v : Value} (h : ShS w W c0 c1 c2 c3 c4 c5 ws v) {W' : World} {v' : Value} (us : List Hp.Wd) (ho : W'.ownsRow (w.heap.size + 1) 9 1 v' (ws.length + us.length) (flat encS ws ++ flat encS us)) (hb : Below (w.heap.size + 1) W W') : ShS w W' c0 c1 c2 c3 c4 c5 (ws ++ us) v' :=
 ⟨h.S.next hb (sJ _), by rw [zG, vK]; exact ho⟩
theorem zGr {n : Int} (h : n <= 1048575) : (Hp.dec n).length <= 19 := by
 unfold Hp.dec; rw [Lib.decDigits_length]; exact rG _ om
end
structure TwoB (g H : Nat) (w w' : World) : Prop where
 size : w.heap.size <= w'.heap.size
 block : ∀ k, k < w.heap.size -> k ≠ g -> k ≠ H -> w'.heap[k]? = w.heap[k]?
theorem TwoB.refl (g H : Nat) (w : World) : TwoB g H w w := ⟨yZ _, fun _ _ _ _ => rfl⟩
theorem TwoB.trans {g H : Nat} {a b c : World} (h : TwoB g H a b) (h2 : TwoB g H b c) : TwoB g H a c := ⟨yK h.size h2.size, fun k hk h3 h4 => (h2.block k (xC hk h.size) h3 h4).trans (h.block k hk h3 h4)⟩
theorem TwoB.g {g H : Nat} {a b : World} (h : a.grownBy b (some g)) : TwoB g H a b := ⟨h.size, fun k hk h1 _ => h.block k hk (by simpa using h1)⟩
theorem TwoB.h {g H : Nat} {a b : World} (h : a.grownBy b (some H)) : TwoB g H a b := ⟨h.size, fun k hk _ h1 => h.block k hk (by simpa using h1)⟩
theorem TwoB.below {g H : Nat} {a b : World} (h : zW a b) : TwoB g H a b := ⟨h.size, fun k hk _ _ => h.block k hk⟩
theorem TwoB.blk {g H k : Nat} {a b : World} (h : TwoB g H a b) {t : TypeId} {cs : Array Value} (hb : Blk a k t cs) (h1 : k ≠ g) (h2 : k ≠ H) : Blk b k t cs := (h.block k hb.lt h1 h2).trans hb
structure PSH (w0 wS : World) (g A H V : Nat) (w : World) (h : Hp.Hop) (ws : List Hp.Wd) (bad : Bool) : Prop where
 hb : ∃ l r, Blk w H 29 (hopA h l r) /\ SlP (fun b => w0.heap.size <= b /\ b ≠ g /\ b ≠ H) w 1 encI l h.labels /\ SlP (fun b => w0.heap.size <= b /\ b ≠ g /\ b ≠ H) w 1 encI r h.repair
 vb : Blk w V 183 #[.pointer (some ⟨g, 0, none⟩)]
 rd : Rdr g A w ws bad
 bel : zW w0 w
 fr : TwoB g H wS w
 sh : sI ws
 ln : ws.length <= 1048576
 nH : g ≠ H
 nV : g ≠ V
 nW : H ≠ V
 nA : A ≠ H
 gg : w0.heap.size <= g
 gH : w0.heap.size <= H
section
variable {w0 wS w w' : World} {g A H V : Nat} {h : Hp.Hop} {ws ws' : List Hp.Wd} {bad bad' : Bool}
theorem PSH.gl (P : PSH w0 wS g A H V w h ws bad) : g < w.heap.size := by obtain ⟨_, _, _, _, _, _, _, _, _, _, hx⟩ := P.rd.parts; exact hx
theorem PSH.Hl (P : PSH w0 wS g A H V w h ws bad) : H < w.heap.size := by obtain ⟨_, _, hb, _⟩ := P.hb; exact hb.lt
theorem PSH.read (P : PSH w0 wS g A H V w h ws bad) (hr : Rdr g A w' ws' bad') (hg : w.grownBy w' (some g)) (hs : sI ws') (hl : ws'.length <= 1048576) : PSH w0 wS g A H V w' h ws' bad' := by
 obtain ⟨l, r, h1, h2, h3⟩ := P.hb
 exact ⟨⟨l, r, h1.grown hg P.nH.symm, h2.grown hg (fun b hb => by have := hb.2.1; simpa using bD this), h3.grown hg (fun b hb => by have := hb.2.1; simpa using bD this)⟩,
  P.vb.grown hg P.nV.symm, hr, P.bel.trans (jB hg P.bel.size P.gg), P.fr.trans (.g hg), hs, hl, P.nH, P.nV, P.nW, P.nA, P.gg, P.gH⟩
theorem PSH.write (P : PSH w0 wS g A H V w h ws bad) {h' : Hp.Hop} (i : Nat) (v : Value)
  (hw : ∀ l r, Blk w H 29 (hopA h l r) -> SlP (fun b => w0.heap.size <= b /\ b ≠ g /\ b ≠ H) w 1 encI l h.labels -> SlP (fun b => w0.heap.size <= b /\ b ≠ g /\ b ≠ H) w 1 encI r h.repair ->
   ∃ l' r', (hopA h l r).setIfInBounds i v = hopA h' l' r' /\ SlP (fun b => w0.heap.size <= b /\ b ≠ g /\ b ≠ H) w 1 encI l' h'.labels /\ SlP (fun b => w0.heap.size <= b /\ b ≠ g /\ b ≠ H) w 1 encI r' h'.repair) : PSH w0 wS g A H V (w.setCell ⟨H, i, none⟩ v) h' ws bad := by
 obtain ⟨l, r, h1, h2, h3⟩ := P.hb; obtain ⟨l', r', e, g2, g3⟩ := hw l r h1 h2 h3; have hg := vH w H i v
 exact ⟨⟨l', r', by rw [← e]; exact h1.set i v, g2.grown hg (fun b hb => by have := hb.2.2; simpa using bD this), g3.grown hg (fun b hb => by have := hb.2.2; simpa using bD this)⟩,
  P.vb.grown hg P.nW.symm, P.rd.grown hg P.nH.symm P.nA.symm, P.bel.trans (jB hg P.bel.size P.gH), P.fr.trans (.h hg), P.sh, P.ln, P.nH, P.nV, P.nW, P.nA, P.gg, P.gH⟩
theorem PSH.tabs (P : PSH w0 wS g A H V w h ws bad) (ht : Tabs w0) : Tabs w := ht.next P.bel zn
theorem PSH.tabsG (P : PSH w0 wS g A H V w h ws bad) (ht : Tabs w0) {W : World} (hg : w.grownBy W (some g)) : Tabs W := ht.next (P.bel.trans (jB hg P.bel.size P.gg)) zn
theorem PSH.vc (P : PSH w0 wS g A H V w h ws bad) : w.cell? ⟨V, 0, none⟩ = some (.pointer (some ⟨g, 0, none⟩)) := P.vb.cell 0
theorem PSH.alloc (P : PSH w0 wS g A H V w h ws bad) (o : Obj) : PSH w0 wS g A H V (w.alloc o) h ws bad := by
 have hb := yD w o; obtain ⟨l, r, h1, h2, h3⟩ := P.hb; exact ⟨⟨l, r, h1.alloc o, h2.below hb zn, h3.below hb zn⟩, P.vb.alloc o, P.rd.alloc o, P.bel.trans (hb.mono P.bel.size), P.fr.trans (.below hb), P.sh, P.ln, P.nH, P.nV, P.nW, P.nA, P.gg, P.gH⟩
theorem PSH.drew (P : PSH w0 wS g A H V w h ws bad) : PSH w0 wS g A H V w.drew h ws bad := by
 have hb := (xE w.heap.size w).drew; obtain ⟨l, r, h1, h2, h3⟩ := P.hb; exact ⟨⟨l, r, h1.drew, h2.below hb zn, h3.below hb zn⟩, P.vb.drew, P.rd.drew, P.bel.trans (hb.mono P.bel.size), P.fr.trans (.below hb), P.sh, P.ln, P.nH, P.nV, P.nW, P.nA, P.gg, P.gH⟩
theorem PSH.rebase (P : PSH w0 wS g A H V w h ws bad) : PSH w0 w g A H V w h ws bad := ⟨P.hb, P.vb, P.rd, P.bel, TwoB.refl _ _ _, P.sh, P.ln, P.nH, P.nV, P.nW, P.nA, P.gg, P.gH⟩
theorem PSH.below (P : PSH w0 wS g A H V w h ws bad) (hb : zW w w') : PSH w0 wS g A H V w' h ws bad := by
 obtain ⟨l, r, h1, h2, h3⟩ := P.hb; exact ⟨⟨l, r, h1.below hb h1.lt, h2.below hb zn, h3.below hb zn⟩, P.vb.below hb P.vb.lt, P.rd.below hb zn, P.bel.trans (hb.mono P.bel.size), P.fr.trans (.below hb), P.sh, P.ln, P.nH, P.nV, P.nW, P.nA, P.gg, P.gH⟩
theorem PSH.frozenH (P : PSH w0 wS g A H V w h ws bad) (i : Nat) : w.frozen? ⟨H, i, none⟩ = false := by obtain ⟨l, r, h1, _⟩ := P.hb; exact h1.frozen' i
theorem PSH.op (P : PSH w0 wS g A H V w h ws bad) : w.cell? ⟨H, 0, none⟩ = some (.int .i64 h.op) := by obtain ⟨l, r, h1, _⟩ := P.hb; exact h1.cell 0
theorem PSH.cellH (P : PSH w0 wS g A H V w h ws bad) (i : Nat) (hi : i < 6) : ∃ v, w.cell? ⟨H, i, none⟩ = some v := by
 obtain ⟨l, r, h1, _⟩ := P.hb; have : (hopA h l r).size = 6 := rfl; exact ⟨_, (h1.cell i).trans (kR om)⟩
theorem PSH.setPipe (P : PSH w0 wS g A H V w h ws bad) (b : Bool) : PSH w0 wS g A H V (w.setCell ⟨H, 5, none⟩ (.bool b)) { h with pipe := b } ws bad := P.write 5 _ fun l r _ h2 h3 => ⟨l, r, rfl, h2, h3⟩
theorem PSH.setPort (P : PSH w0 wS g A H V w h ws bad) (n : Int) : PSH w0 wS g A H V (w.setCell ⟨H, 2, none⟩ (.int .i64 n)) { h with port := n } ws bad := P.write 2 _ fun l r _ h2 h3 => ⟨l, r, rfl, h2, h3⟩
theorem PSH.setBackup (P : PSH w0 wS g A H V w h ws bad) (n : Int) : PSH w0 wS g A H V (w.setCell ⟨H, 3, none⟩ (.int .i64 n)) { h with backup := n } ws bad := P.write 3 _ fun l r _ h2 h3 => ⟨l, r, rfl, h2, h3⟩
theorem PSH.setOp (P : PSH w0 wS g A H V w h ws bad) (n : Int) : PSH w0 wS g A H V (w.setCell ⟨H, 0, none⟩ (.int .i64 n)) { h with op := n } ws bad := P.write 0 _ fun l r _ h2 h3 => ⟨l, r, rfl, h2, h3⟩
theorem PSH.setRepair (P : PSH w0 wS g A H V w h ws bad) {v : Value} {l' : List Int} (hv : SlP (fun b => w0.heap.size <= b /\ b ≠ g /\ b ≠ H) w 1 encI v l') : PSH w0 wS g A H V (w.setCell ⟨H, 4, none⟩ v) { h with repair := l' } ws bad := P.write 4 _ fun l r _ h2 h3 => ⟨l, v, rfl, h2, hv⟩
theorem PSH.setLabels (P : PSH w0 wS g A H V w h ws bad) {v : Value} {l' : List Int} (hv : SlP (fun b => w0.heap.size <= b /\ b ≠ g /\ b ≠ H) w 1 encI v l') : PSH w0 wS g A H V (w.setCell ⟨H, 1, none⟩ v) { h with labels := l' } ws bad := P.write 1 _ fun l r _ h2 h3 => ⟨v, r, rfl, hv, h3⟩
theorem PSH.own (P : PSH w0 wS g A H V w h ws bad) {v : Value} {W : World} {l : List Int} (hv : SlP (w.heap.size <= ·) W 1 encI v l) : SlP (fun b => w0.heap.size <= b /\ b ≠ g /\ b ≠ H) W 1 encI v l :=
 hv.imp fun b hb => by have := P.gl; have := P.Hl; have := P.bel.size; omega
end
theorem mR {ws : List Hp.Wd} (h : sI ws) : sI ws.tail := fun x hx => h x (List.mem_of_mem_tail hx)
theorem zBz {ws : List Hp.Wd} (h : sI ws) : sI (Hp.nums ws).2 := fun x hx => h x (by rw [Hp.nums_eq ws]; exact oW _ hx)
theorem len_nums (ws : List Hp.Wd) : (Hp.nums ws).2.length <= ws.length := by
 have := yG List.length (Hp.nums_eq ws); rw [zG] at this; omega
theorem short_if {ws : List Hp.Wd} {c : Prop} [Decidable c] (h : sI ws) : sI (if c then ws.tail else ws) := by
 split
 ·exact mR h
 ·exact h
theorem len_if {ws : List Hp.Wd} {c : Prop} [Decidable c] : (if c then ws.tail else ws).length <= ws.length := by split <;> simp
theorem parse_pipe (w0 wS : World) (g A H V : Nat) (h : Hp.Hop) (ws : List Hp.Wd) (bad : Bool) (w : World) (ht : Tabs w0) (P : PSH w0 wS g A H V w h ws bad) :
  Calls prog 143 #[.pointer (some ⟨V, 0, none⟩), .pointer (some ⟨H, 0, none⟩)] w fun e w' => e = .returned (.tuple #[]) /\ PSH w0 wS g A H V w' { h with pipe := (Hp.partC ws).1 } (Hp.partC ws).2 bad := by
 have HC := qh (zDw g A Hp.wPipe ws (by have := P.ln; omega) bad w P.rd)
 have HP : Hid (Hp.partC ws = (decide (ws.head? = some Hp.wPipe), if ws.head? = some Hp.wPipe then ws.tail else ws)) := by
  unfold Hp.partC
  by_cases c : ws.head? = some Hp.wPipe
  ·rw [zN c, zN c, zV c]; exact qh rfl
  ·rw [zH c, zH c, zM c]; exact qh rfl
 have HS : Hid (sI (if ws.head? = some Hp.wPipe then ws.tail else ws) /\ (if ws.head? = some Hp.wPipe then ws.tail else ws).length <= 1048576) := qh ⟨short_if P.sh, yK len_if P.ln⟩; have hvc := P.vc; have HPS := qh P; clear P ht; rw [HP.o]; generalize (if ws.head? = some Hp.wPipe then ws.tail else ws) = ws' at *; generalize decide (ws.head? = some Hp.wPipe) = b at *
 go_enter func143, ntmps143
 go_wp2_with fail
 refine HC.o.mono ?_; rintro e w1 ⟨rfl, hr, hg⟩; have HP1 := qh (HPS.o.read hr hg HS.o.1 HS.o.2); clear hr hg; obtain ⟨v5, c5⟩ := HP1.o.cellH 5 om; have f5 := HP1.o.frozenH 5; go_wp2_with fail
 go_end0
 exact ⟨rfl, HP1.o.setPipe b⟩
theorem parse_backup (w0 wS : World) (g A H V : Nat) (h : Hp.Hop) (hh : h.backup = -1 /\ h.repair = []) (ws : List Hp.Wd) (bad : Bool) (w : World) (ht : Tabs w0) (P : PSH w0 wS g A H V w h ws bad) :
  Calls prog 142 #[.pointer (some ⟨V, 0, none⟩), .pointer (some ⟨H, 0, none⟩)] w fun e w' => e = .returned (.tuple #[]) /\ PSH w0 wS g A H V w' { h with backup := (Hp.partB ws).1, repair := (Hp.partB ws).2.1 } (Hp.partB ws).2.2.2 (bad || (Hp.partB ws).2.2.1) := by
 have HC := qh (zDw g A Hp.wBackup ws (by have := P.ln; omega) bad w P.rd); have hvc := P.vc; have HPS := qh P; have HT := qh ht; clear P ht
 by_cases c : ws.head? = some Hp.wBackup
 ·have HP : Hid (Hp.partB ws = ((numP (Hp.nums ws.tail).1).1, (numP (Hp.nums ws.tail).1).2.1, (numP (Hp.nums ws.tail).1).2.2, (Hp.nums ws.tail).2)) := by
   unfold Hp.partB; rw [zN c]
   cases (Hp.nums ws.tail).1 <;> exact qh rfl
  rw [zN c, zV c] at HC; rw [HP.o]; have HS : Hid (sI ws.tail /\ ws.tail.length <= 1048576) := qh ⟨mR HPS.o.sh, by have := HPS.o.ln; simp; omega⟩; clear c; have HS2 : Hid (sI (Hp.nums ws.tail).2 /\ (Hp.nums ws.tail).2.length <= 1048576) := qh ⟨zBz HS.o.1, yK (len_nums _) HS.o.2⟩
  have HN : Hid (∀ w1, PSH w0 wS g A H V w1 h ws.tail bad -> Calls prog 141 #[.pointer (some ⟨g, 0, none⟩)] w1 fun e w' => ∃ v, e = .returned (.tuple #[.int .i64 (numP (Hp.nums ws.tail).1).1, v]) /\ SlP (w1.heap.size <= ·) w' 1 encI v (numP (Hp.nums ws.tail).1).2.1 /\ Rdr g A w' (Hp.nums ws.tail).2 (bad || (numP (Hp.nums ws.tail).1).2.2) /\ w1.grownBy w' (some g)) :=
   qh fun w1 P1 => hop_number g A ws.tail HS.o.2 HS.o.1 bad w1 (P1.tabs HT.o) P1.rd.la (fun W hW => P1.tabsG HT.o hW) P1.rd
  generalize Hp.nums ws.tail = q at *; obtain ⟨ql, rest⟩ := q; generalize ws.tail = ws' at *; simp only at *; generalize hnp : numP ql = np at *; obtain ⟨n, more, b⟩ := np; clear hnp; simp only at *
  go_enter func142, ntmps142
  go_wp2_with fail
  refine HC.o.mono ?_; rintro e w1 ⟨rfl, hr, hg⟩; have HP1 := qh (HPS.o.read hr hg HS.o.1 HS.o.2); have hvc1 := HP1.o.vc; clear hr hg; go_wp2_with fail
  refine (HN.o _ HP1.o).mono ?_; rintro e w2 ⟨v, rfl, hv, hr, hg⟩; have HP2 := qh (HP1.o.read hr hg HS2.o.1 HS2.o.2); have HV := qh (HP1.o.own hv); obtain ⟨p, cp, rfl, -, -, -, -⟩ := hv; clear hr hg; obtain ⟨v3, c3⟩ := HP2.o.cellH 3 om; have f3 := HP2.o.frozenH 3; obtain ⟨v4, c4⟩ := HP2.o.cellH 4 om; have f4 := HP2.o.frozenH 4; have HP3 := qh (HP2.o.setBackup n); have HV3 := qh (HV.o.grown (vH w2 H 3 (.int .i64 n)) (fun b hb => by have := hb.2.2; simpa using bD this)); go_wp2_with fail
  go_end0
  exact ⟨rfl, HP3.o.setRepair HV3.o⟩
 ·have HP : Hid (Hp.partB ws = (-1, [], false, ws)) := by unfold Hp.partB; rw [zH c]; exact qh rfl
  rw [zH c, zM c] at HC; rw [HP.o]; clear c
  go_enter func142, ntmps142
  go_wp2_with fail
  refine HC.o.mono ?_; rintro e w1 ⟨rfl, hr, hg⟩; have HP1 := qh (HPS.o.read hr hg HPS.o.sh HPS.o.ln); clear hr hg; go_wp2_with fail
  go_end0
  refine ⟨rfl, ?_⟩; obtain ⟨op, L, P, B, R, C⟩ := h; obtain ⟨rfl, rfl⟩ := hh
  simpa using HP1.o
theorem PSH.setBad {w0 wS w : World} {g A H V : Nat} {h : Hp.Hop} {ws : List Hp.Wd} {bad : Bool} (P : PSH w0 wS g A H V w h ws bad) (b : Bool) : PSH w0 wS g A H V (w.setCell ⟨g, 1, none⟩ (.bool b)) h ws b := P.read (P.rd.setB b) (vH _ _ _ _) P.sh P.ln
theorem parse_port (w0 wS : World) (g A H V : Nat) (h : Hp.Hop) (hh : h.port = 0) (ws : List Hp.Wd) (w : World) (ht : Tabs w0) (P : PSH w0 wS g A H V w h ws false) :
  Calls prog 139 #[.pointer (some ⟨H, 0, none⟩), .pointer (some ⟨V, 0, none⟩)] w fun e w' => e = .returned (.tuple #[]) /\ PSH w0 wS g A H V w' { h with port := (Hp.partP h.op ws).1 } (Hp.partP h.op ws).2.2 (Hp.partP h.op ws).2.1 := by
 have HC := qh (zDw g A Hp.wPort ws (by have := P.ln; omega) false w P.rd); have hvc := P.vc; have hop := P.op; have HPS := qh P; have HT := qh ht; clear P ht; have hself : Hid ({ h with port := 0 } = h) := by obtain ⟨op, L, q, B, R, C⟩ := h; subst hh; exact qh rfl
 by_cases h3 : h.op = 3
 ·have HP : Hid (Hp.partP h.op ws = (0, false, ws)) := by unfold Hp.partP; rw [zH (fun c => c.1 h3), zM (by simpa using h3)]; exact qh rfl
  rw [HP.o]; simp only; rw [hself.o]; rw [h3] at hop; obtain ⟨_, _, -, c1, -, f1, -, -, -, -, -⟩ := HPS.o.rd.parts; have hop' : ∀ k, (w.drewN k).cell? ⟨H, 0, none⟩ = some (.int .i64 3) := fun _ => hop; clear h3 HP hself HC
  go_enter func139, ntmps139
  go_wp2_with fail
  go_still_tail 12, kf
  change wpList _ _ _ _ _ w.drew; go_wp2_with fail
  go_end0
  exact ⟨rfl, HPS.o.drew.setBad false⟩
 ·have hne : (h.op != 3) = true := by simpa using h3
  by_cases c : ws.head? = some Hp.wPort
  ·have HP : Hid (Hp.partP h.op ws = ((numP (Hp.nums ws.tail).1).1, (decide ((numP (Hp.nums ws.tail).1).2.1 ≠ []) || (numP (Hp.nums ws.tail).1).2.2), (Hp.nums ws.tail).2)) := by
    unfold Hp.partP; rw [zN ⟨h3, c⟩]
    cases (Hp.nums ws.tail).1 with
    | nil => exact qh rfl
    | cons n more => exact qh (by simp only [numP, Bool.or_false]; exact Prod.ext rfl (Prod.ext (decide_eq_decide.2 Iff.rfl) rfl))
   rw [zN c, zV c] at HC; rw [HP.o]; have HS : Hid (sI ws.tail /\ ws.tail.length <= 1048576) := qh ⟨mR HPS.o.sh, by have := HPS.o.ln; simp; omega⟩; clear c; have HS2 : Hid (sI (Hp.nums ws.tail).2 /\ (Hp.nums ws.tail).2.length <= 1048576) := qh ⟨zBz HS.o.1, yK (len_nums _) HS.o.2⟩
   have HN : Hid (∀ w1, PSH w0 wS g A H V w1 h ws.tail false -> Calls prog 141 #[.pointer (some ⟨g, 0, none⟩)] w1 fun e w' => ∃ v, e = .returned (.tuple #[.int .i64 (numP (Hp.nums ws.tail).1).1, v]) /\ SlP (w1.heap.size <= ·) w' 1 encI v (numP (Hp.nums ws.tail).1).2.1 /\ Rdr g A w' (Hp.nums ws.tail).2 (false || (numP (Hp.nums ws.tail).1).2.2) /\ w1.grownBy w' (some g)) :=
    qh fun w1 P1 => hop_number g A ws.tail HS.o.2 HS.o.1 false w1 (P1.tabs HT.o) P1.rd.la (fun W hW => P1.tabsG HT.o hW) P1.rd
   generalize Hp.nums ws.tail = q at *; obtain ⟨ql, rest⟩ := q; generalize ws.tail = ws' at *; simp only at *; generalize hnp : numP ql = np at *; obtain ⟨n, more, b⟩ := np; clear hnp h3; simp only [Bool.false_or] at *
   go_enter func139, ntmps139
   go_wp2_with fail
   refine HC.o.mono ?_; rintro e w1 ⟨rfl, hr, hg⟩; have HP1 := qh (HPS.o.read hr hg HS.o.1 HS.o.2); have hvc1 := HP1.o.vc; clear hr hg; go_wp2_with fail
   refine (HN.o _ HP1.o).mono ?_; rintro e w2 ⟨v, rfl, hv, hr, hg⟩; have HP2 := qh (HP1.o.read hr hg HS2.o.1 HS2.o.2); obtain ⟨p, cp, rfl, -, -, -, -⟩ := hv; clear hr hg; obtain ⟨v2, c2⟩ := HP2.o.cellH 2 om; have f2 := HP2.o.frozenH 2; have HP3 := qh (HP2.o.setPort n); have hvc3 := HP3.o.vc; obtain ⟨_, _, -, c1, -, f1, -, -, -, -, -⟩ := HP3.o.rd.parts
   cases b
   ·by_cases hm : more = []
    ·subst hm
     have HB := qh (HP3.o.drew.setBad false); simp only [xI]; go_wp2_with fail
     generalize w2.setCell ⟨H, 2, none⟩ (.int .i64 n) = w3 at *
     go_still_tail 12, kf
     change wpList _ _ _ _ _ (World.drew _); go_wp2_with fail
     go_end0
     exact ⟨rfl, HB.o⟩
    ·have hml : 0 < more.length := kU.2 hm
     have HB : Hid (PSH w0 wS g A H V ((w2.setCell ⟨H, 2, none⟩ (.int .i64 n)).drew.setCell ⟨g, 1, none⟩ (.bool true)) { h with port := n } rest (decide (more ≠ []) || false)) := by rw [zV hm]; exact qh (HP3.o.drew.setBad true)
     clear hm; go_wp2_with fail
     generalize w2.setCell ⟨H, 2, none⟩ (.int .i64 n) = w3 at *
     go_still_tail 12, kf
     change wpList _ _ _ _ _ (World.drew _); go_wp2_with fail
     go_end0
     exact ⟨rfl, HB.o⟩
   ·have HB : Hid (PSH w0 wS g A H V ((w2.setCell ⟨H, 2, none⟩ (.int .i64 n)).drew.setCell ⟨g, 1, none⟩ (.bool true)) { h with port := n } rest (decide (more ≠ []) || true)) := by rw [Bool.or_true]; exact qh (HP3.o.drew.setBad true)
    go_wp2_with fail
    generalize w2.setCell ⟨H, 2, none⟩ (.int .i64 n) = w3 at *
    go_still_tail 12, kf
    change wpList _ _ _ _ _ (World.drew _); go_wp2_with fail
    go_end0
    exact ⟨rfl, HB.o⟩
  ·have HP : Hid (Hp.partP h.op ws = (0, true, ws)) := by unfold Hp.partP; rw [zH (fun x => c x.2), zV (by simpa using h3)]; exact qh rfl
   rw [zH c, zM c] at HC; rw [HP.o]; simp only; rw [hself.o]; clear c h3 HP hself
   go_enter func139, ntmps139
   go_wp2_with fail
   refine HC.o.mono ?_; rintro e w1 ⟨rfl, hr, hg⟩; have HP1 := qh (HPS.o.read hr hg HPS.o.sh HPS.o.ln); have hvc1 := HP1.o.vc; have hop1 := HP1.o.op; obtain ⟨_, _, -, c1, -, f1, -, -, -, -, -⟩ := HP1.o.rd.parts; clear hr hg; go_wp2_with fail
   go_still_tail 12, kf
   change wpList _ _ _ _ _ w1.drew; go_wp2_with fail
   go_end0
   exact ⟨rfl, HP1.o.drew.setBad true⟩
def glue (now : Hp.Wd) : List Hp.Wd -> List Hp.Wd
 | [] => [now]
 | w :: ws => (now ++ w) :: ws
theorem zCn (ws : List Hp.Wd) (h : ws ≠ []) : glue [] ws = ws := by cases ws with | nil => exact absurd rfl h | cons w ws => rfl
structure WdS (w wr : World) (s : List UInt8) (k : Nat) (out : List Hp.Wd) (now : Hp.Wd) (vo : Value) : Prop where
 own : wr.ownsRow w.heap.size 9 1 vo out.length (flat encS out)
 bel : zW w wr
 eq : Hp.spl s = out ++ glue now (Hp.spl (s.drop k))
 len : out.length <= k
 ln2 : now.length <= k
theorem ref_words (s : List UInt8) (hs : s.length <= 1000000) (w : World) :
  Calls prog 117 #[.string (str s)] w fun e w' => ∃ v, e = .returned v /\ w'.ownsRow w.heap.size 9 1 v (Hp.spl s).length (flat encS (Hp.spl s)) /\ zW w w' := by
 have hsz : (str s).size = s.length := zZ s
 go_enter func117, ntmps117
 go_wp2_with fail
 go_loopw [3, 4, 5] (fun vo vn vi wr => ∃ (k : Nat) (out : List Hp.Wd) (now : Hp.Wd), vi = .int .i64 k /\ k <= s.length /\ vn = .string (str now) /\ Hid (WdS w wr s k out now vo)) (fun _ _ vi _ => s.length - (intOf vi).toNat)
 case atStart => exact ⟨0, [], [], rfl, yQ _, rfl, qh ⟨xL _ _ _ _, xE _ _, by rw [xU, zCn _ (Hp.spl_ne s)]; rfl, yZ _, yZ _⟩⟩
 case round =>
  obtain ⟨k, out, now, rfl, hk, rfl, HW⟩ := hrel; have hol := HW.o.len; have hnl := HW.o.ln2; have hz := HW.o.bel.size
  by_cases hlt : k < s.length
  ·obtain ⟨c, hcg⟩ : ∃ c, s[k] = c := ⟨_, rfl⟩
   have HDR : Hid (s.drop k = c :: s.drop (k + 1)) := qh (by rw [← hcg]; exact yE hlt); have hg : ∀ h, (str s)[k]'h = c := fun h => by rw [jS, hcg]
   have HX : Hid ((str s).extract k (k + 1) = str [c]) := by
    rw [aP, HDR.o, show k + 1 - k = 1 from om]; exact qh rfl
   clear hcg; have hns : (str now).size = now.length := zZ _
   by_cases hc : c = 32
   ·subst hc
    go_wp2_with (at_builtin; go_loud (refine uR rT rfl (.tmp 16) (.tmp 18) rfl w.heap.size u3 _ _ rfl HW.o.own 1 1 [.string _] rfl rfl (by simp [Value.oneCell']) om om ?_; intro v4 w4 hown4 _ _ hb4))
    refine ⟨⟨k + 1, out ++ [now], [], by go_num, om, rfl, qh ⟨?_, HW.o.bel.trans hb4, ?_, zo, zi⟩⟩, by simp [intOf]; omega⟩
    ·rw [vK, zG]; exact hown4
    ·rw [HW.o.eq, HDR.o, Hp.spl, zN rfl, zCn _ (Hp.spl_ne _)]
     simp [glue]
   ·have hne : ((c.toNat : Int) == 32) = false := by
     simp only [yF, qR]; exact fun h => hc (uH.1 (by have : c.toNat = 32 := om; rw [this]; rfl))
    have HC := qh hc; clear hc
    go_wp2
    refine ⟨⟨k + 1, out, now ++ [c], by go_num, om, by rw [HX.o, xJ], qh ⟨HW.o.own, HW.o.bel, ?_, om, zo⟩⟩, by simp [intOf]; omega⟩; rw [HW.o.eq, HDR.o, Hp.spl, zH HC.o]
    congr 1
    cases hq : Hp.spl (s.drop (k + 1)) with
    | nil => exact absurd hq (Hp.spl_ne _)
    | cons v vs => simp [glue]
  ·obtain rfl : k = s.length := om
   have HE : Hid (Hp.spl s = out ++ [now]) := by
    have h := HW.o.eq; rw [qO] at h; have h2 : glue now (Hp.spl []) = [now] := by simp [Hp.spl, glue]
    rw [h2] at h; exact qh h
   go_wp2_with (at_builtin; go_loud (refine uR rT rfl (.tmp 27) (.tmp 29) rfl w.heap.size u3 _ _ rfl HW.o.own 1 1 [.string _] rfl rfl (by simp [Value.oneCell']) om om ?_; intro v4 w4 hown4 _ _ hb4))
   go_ret
   refine ⟨_, rfl, ?_, HW.o.bel.trans hb4⟩; rw [HE.o, vK, zG]; exact hown4
end Go.Proofs.YtdbgeobolongmaaGreatDoor
