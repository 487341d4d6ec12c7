/- Part of the proof: ScriptLines, ScriptParses, ScriptShows. -/
import Derived.Laws.EntriesVeiled
import Derived.Test.YtdbgeobolongmaaGreatDoorSA25
set_option linter.unusedVariables false
set_option linter.unusedSimpArgs false
set_option maxRecDepth 100000
set_option maxHeartbeats 8000000
namespace Go.Proofs.YtdbgeobolongmaaGreatDoor
open Go.RowKit Go.Shelf Go.Proofs Go.OctetPlain Go.PrefixPlain Go.Proofs.Tryz
def wT (p : Sc.Part) (W : World) (e : Ending) (W' : World) : Prop := ∃ vs vr, e = .returned (.agg #[vs, vr]) /\ kK W.heap.size W'.heap.size W' p vs vr /\ zW W W'
theorem kK.of {p : Sc.Part} {lo hi : Nat} {w : World} {f g : Nat} {cf cg : Array Value} (ef : Ent f) (eg : Ent g) (hs : wL p f cf lo hi w) (hr : wN p g cg lo hi w) : kK lo hi w p (.func (.func f) #[] cf) (.func (.func g) #[] cg) := ⟨f, g, cf, cg, rfl, rfl, ef, eg, hs, hr⟩
theorem sQ {P : Program} {fn : Func} {p : Tmp} {ty : TypeId} (h : fn.results = #[.cell p ty]) (tmps : Array Value) (w : World) (g : Nat) (t : TypeId) (cs : Array Value) (fr : Nat × Nat) (d : TypeDesc)
  (hp : tmps.getD p undef = .pointer (some ⟨g, 0, none⟩)) (hg : w.heap[g]? = some (.cells cs t fr))
  (hu : P.underlying ty = some d) (hd : (match d with | .struct _ | .array _ _ => true | _ => false) = true) (hi : (P.info? ty).map (·.size) = some cs.size) :
  (results fn tmps).run P w = .ok (.agg cs) w := by
 have hp' : tmps[p]?.getD undef = .pointer (some ⟨g, 0, none⟩) := by simpa using hp
 simp [results, h, hp', asAddr, nT w g t ty cs fr d hg hu hd hi]
theorem zCq (f g : Fn) (a b c d : Array Value) : (#[Value.func f a b, Value.func g c d] : Array Value).all (·.oneCell') = true := by simp [Value.oneCell']
theorem aG : (prog.info? 88).map (·.size) = some 2 := kf
theorem scr_spans (W : World) : Calls prog 52 #[] W (wT .S W) := by
 have HK : Hid (∀ W', kK W.heap.size W'.heap.size W' .S (.func (.func 95) #[] #[]) (.func (.func 96) #[] #[])) := qh fun W' => kK.of (enters_of func95 kf rfl) (enters_of func96 kf rfl) (spans_show _ _ _) (spans_read _ _ _)
 go_enter func52, ntmps52
 go_wp2_with (refine vS rfl _ _ _ rfl #[.func (.func 95) #[] #[], .func (.func 96) #[] #[]] rfl rfl _ _ aG rfl (zCq _ _ _ _ _ _) ?_)
 refine zC (sQ rfl _ _ W.heap.size 88 #[.func (.func 95) #[] #[], .func (.func 96) #[] #[]] (0, 0) _ rfl (jW W _) underlying88 rfl aG) rfl ⟨_, _, rfl, HK.o _, zb.alloc zn _⟩
theorem scr_hops (W : World) : Calls prog 53 #[] W (wT .H W) := by
 have HK : Hid (∀ W', kK W.heap.size W'.heap.size W' .H (.func (.func 98) #[] #[]) (.func (.func 100) #[] #[])) := qh fun W' => kK.of (enters_of func98 kf rfl) (enters_of func100 kf rfl) (hops_show _ _ _) (hops_read _ _ _)
 go_enter func53, ntmps53
 go_wp2_with (refine vS rfl _ _ _ rfl #[.func (.func 98) #[] #[], .func (.func 100) #[] #[]] rfl rfl _ _ aG rfl (zCq _ _ _ _ _ _) ?_)
 refine zC (sQ rfl _ _ W.heap.size 88 #[.func (.func 98) #[] #[], .func (.func 100) #[] #[]] (0, 0) _ rfl (jW W _) underlying88 rfl aG) rfl ⟨_, _, rfl, HK.o _, zb.alloc zn _⟩
theorem scr_ways (W : World) : Calls prog 54 #[] W (wT .W W) := by
 have HK : Hid (∀ W', kK W.heap.size W'.heap.size W' .W (.func (.func 102) #[] #[]) (.func (.func 103) #[] #[])) := qh fun W' => kK.of (enters_of func102 kf rfl) (enters_of func103 kf rfl) (ways_show _ _ _) (ways_read _ _ _)
 go_enter func54, ntmps54
 go_wp2_with (refine vS rfl _ _ _ rfl #[.func (.func 102) #[] #[], .func (.func 103) #[] #[]] rfl rfl _ _ aG rfl (zCq _ _ _ _ _ _) ?_)
 refine zC (sQ rfl _ _ W.heap.size 88 #[.func (.func 102) #[] #[], .func (.func 103) #[] #[]] (0, 0) _ rfl (jW W _) underlying88 rfl aG) rfl ⟨_, _, rfl, HK.o _, zb.alloc zn _⟩
theorem scr_prefixes (W : World) : Calls prog 55 #[] W (wT .P W) := by
 have HK : Hid (∀ W', kK W.heap.size W'.heap.size W' .P (.func (.func 104) #[] #[]) (.func (.func 106) #[] #[])) := qh fun W' => kK.of (enters_of func104 kf rfl) (enters_of func106 kf rfl) (prefixes_show _ _ _) (prefixes_read _ _ _)
 go_enter func55, ntmps55
 go_wp2_with (refine vS rfl _ _ _ rfl #[.func (.func 104) #[] #[], .func (.func 106) #[] #[]] rfl rfl _ _ aG rfl (zCq _ _ _ _ _ _) ?_)
 refine zC (sQ rfl _ _ W.heap.size 88 #[.func (.func 104) #[] #[], .func (.func 106) #[] #[]] (0, 0) _ rfl (jW W _) underlying88 rfl aG) rfl ⟨_, _, rfl, HK.o _, zb.alloc zn _⟩
theorem scr_packets (W : World) : Calls prog 57 #[] W (wT .B W) := by
 have HK : Hid (∀ W', kK W.heap.size W'.heap.size W' .B (.func (.func 112) #[] #[]) (.func (.func 114) #[] #[])) := qh fun W' => kK.of (enters_of func112 kf rfl) (enters_of func114 kf rfl) (packets_show _ _ _) (packets_read _ _ _)
 go_enter func57, ntmps57
 go_wp2_with (refine vS rfl _ _ _ rfl #[.func (.func 112) #[] #[], .func (.func 114) #[] #[]] rfl rfl _ _ aG rfl (zCq _ _ _ _ _ _) ?_)
 refine zC (sQ rfl _ _ W.heap.size 88 #[.func (.func 112) #[] #[], .func (.func 114) #[] #[]] (0, 0) _ rfl (jW W _) underlying88 rfl aG) rfl ⟨_, _, rfl, HK.o _, zb.alloc zn _⟩
theorem two_blks (W : World) (o1 o2 : Obj) : ((W.alloc o1).alloc o2).heap[W.heap.size]? = some o1 /\ ((W.alloc o1).alloc o2).heap[W.heap.size + 1]? = some o2 := by
 refine ⟨(Below.heap_alloc _ _ _ zi).trans (jW W o1), ?_⟩; have := jW (W.alloc o1) o2; rw [xG] at this; exact this
theorem scr_texts (W : World) : Calls prog 56 #[] W (wT .T W) := by
 have hmf : ∀ (fn : Fn) (first cap : Array Value) (w : World), (Instr.makeFunc fn first cap).run prog w = .ok (.func fn first cap) w := fun _ _ _ _ => rfl; have HK : Hid (∀ W', Blk W' (W.heap.size + 1) 163 #[.func (.func 108) #[] #[]] -> W.heap.size + 2 <= W'.heap.size -> kK W.heap.size W'.heap.size W' .T (.func (.func 109) #[] #[]) (.func (.func 110) #[] #[.pointer (some ⟨W.heap.size + 1, 0, none⟩)])) := qh fun W' hb hz => kK.of (enters_of func109 kf rfl) (enters_of func110 kf rfl) (texts_show _ _ _) (texts_read _ _ (W.heap.size + 1) _ om om hb)
 go_enter func56, ntmps56
 go_wp2_with fail
 have h2 := two_blks W (.cells #[.func (.func 109) #[] #[], .func (.func 110) #[] #[.pointer (some ⟨W.heap.size + 1, 0, none⟩)]] 88) (.cells #[.func (.func 108) #[] #[]] 163); refine zC (sQ rfl _ _ W.heap.size 88 _ (0, 0) _ rfl h2.1 underlying88 rfl aG) rfl ⟨_, _, rfl, HK.o _ h2.2 zi, (zb.alloc zn _).alloc zi _⟩
theorem wZ {p : Sc.Part} {k o : Nat} {get : Sc.Stp -> Int} {set : Sc.Stp -> Int -> Sc.Stp} (N : NumAt p k o get set) (W : World) : Calls prog 47 #[.func (.func k) #[] #[]] W (wT p W) := by
 have hmf : ∀ (fn : Fn) (first cap : Array Value) (w : World), (Instr.makeFunc fn first cap).run prog w = .ok (.func fn first cap) w := fun _ _ _ _ => rfl; have HK : Hid (∀ W', Blk W' W.heap.size 110 (boxAt k) -> W.heap.size < W'.heap.size -> kK W.heap.size W'.heap.size W' p (.func (.func 92) #[] #[.pointer (some ⟨W.heap.size, 0, none⟩)]) (.func (.func 93) #[] #[.pointer (some ⟨W.heap.size, 0, none⟩)])) := qh fun W' hb hz => kK.of (enters_of func92 kf rfl) (enters_of func93 kf rfl) (num_show N _ _ _ _ zn hz hb) (num_read N _ _ _ _ zn hz hb)
 go_enter func47, ntmps47
 go_wp2_with fail
 have h2 := two_blks W (.cells #[.func (.func k) #[] #[]] 110) (.cells #[.func (.func 92) #[] #[.pointer (some ⟨W.heap.size, 0, none⟩)], .func (.func 93) #[] #[.pointer (some ⟨W.heap.size, 0, none⟩)]] 88); refine zC (sQ rfl _ _ (W.heap.size + 1) 88 _ (0, 0) _ rfl h2.2 underlying88 rfl aG) rfl ⟨_, _, rfl, HK.o _ h2.1 zo, (zb.alloc zn _).alloc zi _⟩
def encPt (x : Value × Value) : List Value := [x.1, x.2]
theorem encPt_len (x : Value × Value) : (encPt x).length = 2 := rfl
def wK (lo : Nat) (w : World) : List (Value × Value) -> List Sc.Part -> Prop
 | [], [] => True
 | (vs, vr) :: r, p :: ps => kK lo w.heap.size w p vs vr /\ wK lo w r ps
 | _, _ => False
theorem wK.len {lo : Nat} {w : World} : ∀ {r : List (Value × Value)} {ps : List Sc.Part}, wK lo w r ps -> r.length = ps.length
 | [], [], _ => rfl
 | [], _ :: _, h => h.elim
 | (_, _) :: _, [], h => h.elim
 | (vs, vr) :: r, p :: ps, h => by rw [zI, zI, h.2.len]
theorem wK.mono {lo : Nat} {w w' : World} (ha : Agree lo w.heap.size w w') (hz : w.heap.size <= w'.heap.size) : ∀ {r : List (Value × Value)} {ps : List Sc.Part}, wK lo w r ps -> wK lo w' r ps
 | [], [], _ => trivial
 | [], _ :: _, h => h.elim
 | (_, _) :: _, [], h => h.elim
 | (vs, vr) :: r, p :: ps, h => ⟨h.1.mono ha zn hz, wK.mono ha hz h.2⟩
theorem wK.get {lo : Nat} {w : World} : ∀ {r : List (Value × Value)} {ps : List Sc.Part}, wK lo w r ps -> ∀ {i : Nat} {p : Sc.Part} {vs vr : Value}, ps[i]? = some p -> r[i]? = some (vs, vr) -> kK lo w.heap.size w p vs vr
 | [], [], _, i, p, vs, vr, h1, h2 => by simp at h1
 | [], _ :: _, h, _, _, _, _, _, _ => h.elim
 | (_, _) :: _, [], h, _, _, _, _, _, _ => h.elim
 |(a, b) :: r, q :: ps, h, 0, p, vs, vr, h1, h2 => by
  simp only [xA, uX, rZ] at h1 h2; obtain ⟨rfl, rfl⟩ := h2; subst h1; exact h.1
 | (a, b) :: r, q :: ps, h, i + 1, p, vs, vr, h1, h2 => h.2.get (by simpa using h1) (by simpa using h2)
def CB (lo : Nat) (w : World) (b : Nat) : Prop := lo <= b /\ ∃ t cs, Blk w b t cs
theorem CB.below {lo b B : Nat} {w w' : World} (h : CB lo w b) (hb : Below B w w') (hB : w.heap.size <= B) : CB lo w' b := by
 obtain ⟨h1, t, cs, h2⟩ := h; exact ⟨h1, t, cs, h2.below hb (xC h2.lt hB)⟩
def uM (lo : Nat) (w : World) (v : Value) (ps : List Sc.Part) : Prop := ∃ rows, wK lo w rows ps /\ SlP (CB lo w) w 2 encPt v rows
theorem uM.below {lo : Nat} {w w' : World} {v : Value} {ps : List Sc.Part} (h : uM lo w v ps) (hb : zW w w') : uM lo w' v ps := by
 obtain ⟨rows, h1, h2⟩ := h; exact ⟨rows, h1.mono (Agree.of_below hb zn) hb.size, (h2.below hb zn).imp fun b hc => hc.below hb zn⟩
theorem uM.grown {lo X : Nat} {w w' : World} {v : Value} {ps : List Sc.Part} (h : uM lo w v ps) (hg : w.grownBy w' (some X)) (hX : X < lo) : uM lo w' v ps := by
 obtain ⟨rows, h1, h2⟩ := h
 exact ⟨rows, h1.mono (Agree.of_grown hg om) hg.size, (h2.grown hg (fun b hb => by have := hb.1; simp; omega)).imp fun b hc => by
  obtain ⟨h3, t, cs, h4⟩ := hc; exact ⟨h3, t, cs, h4.grown hg om⟩⟩
theorem uM.nil (lo : Nat) (w : World) : uM lo w (.slice none 0 0) [] := ⟨[], trivial, SlP.nil _ _ _⟩
structure Turn (M : Nat) (w w' : World) : Prop where
 g : w.grownBy w' (some M)
 m : ∃ es c, w.heap[M]? = some (.map es c)
theorem Turn.agree {M lo hi : Nat} {w w' : World} (h : Turn M w w') : Agree lo hi w w' := fun k h1 h2 cs t fr hc => by
 obtain ⟨es, c, hm⟩ := h.m; have : k ≠ M := fun e => by subst e; rw [hm] at hc; cases hc
 exact (h.g.block k (xB.1 hc).1 (by simpa using this)).trans hc
theorem Turn.blk {M g : Nat} {w w' : World} (h : Turn M w w') {t : TypeId} {cs : Array Value} (hb : Blk w g t cs) : Blk w' g t cs := h.agree (lo := 0) (hi := g + 1) g (yQ _) (sJ _) cs t (0, 0) hb
theorem Turn.ne {M b lo : Nat} {w w' : World} (h : Turn M w w') (hc : CB lo w b) : b ≠ M := fun e => by
 obtain ⟨-, t, cs, h2⟩ := hc; obtain ⟨es, c, hm⟩ := h.m; subst e; rw [show w.heap[b]? = _ from h2] at hm
 cases hm
theorem uM.turn {lo M : Nat} {w w' : World} {v : Value} {ps : List Sc.Part} (h : uM lo w v ps) (ht : Turn M w w') : uM lo w' v ps := by
 obtain ⟨rows, h1, h2⟩ := h
 exact ⟨rows, h1.mono ht.agree ht.g.size, (h2.grown ht.g (fun b hb => by simp; exact fun e => ht.ne hb e.symm)).imp fun b hc => by
  obtain ⟨h3, t, cs, h4⟩ := hc; exact ⟨h3, t, cs, ht.blk h4⟩⟩
theorem zEp {lo : Nat} {w : World} {rows : List (Value × Value)} {ps : List Sc.Part} (h : wK lo w rows ps) (hl : lo <= w.heap.size) (hr : rows.length <= 1048576) (e : TypeId) (cs : Array Value) (hcs : cs = (flat encPt rows).toArray) :
  uM lo (w.alloc (.cells cs e)) (.slice (some ⟨w.heap.size, 0, none⟩) rows.length rows.length) ps := by
 refine ⟨rows, h.mono (Agree.of_below (yD w _) zn) zi, ?_⟩; obtain ⟨p, cap, hv, h1, h2, h3⟩ := rF encPt_len w e rows hr cs hcs
 cases hv; exact ⟨_, _, rfl, yZ _, h2, h3, fun a ha _ => by cases ha; exact ⟨hl, e, cs, Blk.new _ _ _⟩⟩
def valElem (v : Value) : Option (DataW Value × List MemPlace) := some (.held v, [])
structure MapOf (lo M : Nat) (w : World) (n : Nat) (ks : List Hp.Wd) : Prop where
 ex : ∃ D, w.ownsMap prog 9 valElem M n D /\ Maps.IsMap D /\ (∀ x, x ∈ ks -> ∃ v, (∀ zd, D.atKey (.string x) zd = .held v) /\ uM lo w v (Sc.partsOf x)) /\ (∀ x, x ∉ ks -> ∀ zd, D.atKey (.string x) zd = zd)
theorem MapOf.below {lo M n : Nat} {w w' : World} {ks : List Hp.Wd} (h : MapOf lo M w n ks) (hb : zW w w') : MapOf lo M w' n ks := by
 obtain ⟨D, h1, h2, h3, h4⟩ := h.ex; exact ⟨D, h1.kept (uE hb none) zi, h2, fun x hx => by obtain ⟨v, a, b⟩ := h3 x hx; exact ⟨v, a, b.below hb⟩, h4⟩
theorem MapOf.made (lo : Nat) (w : World) : MapOf lo w.heap.size (w.alloc (.map #[] 0)) 0 [] :=
 ⟨.map [], World.ownsMap_made w _ _ _, ⟨[], rfl⟩, fun x hx => (by cases hx), fun x _ zd => rfl⟩
theorem MapOf.isMap {lo M n : Nat} {w : World} {ks : List Hp.Wd} (h : MapOf lo M w n ks) : ∃ es c, w.heap[M]? = some (.map es c) := by
 obtain ⟨D, ⟨es, c, h1, -⟩, -⟩ := h.ex; exact ⟨es, c, h1⟩
theorem wp_ins {lo M n : Nat} {w : World} {ks : List Hp.Wd} {o : Oper} {a : Act} {Q : Exit -> Act -> World -> Prop} {K : Act -> World -> Prop} (m x v : Operand) (hop : o.op = Op.insert 112 m x v)
  (hm : a.eval m = .map (some M)) (key : Hp.Wd) (hx : a.eval x = .string (str key)) (vv : Value) (hv : a.eval v = vv) (H : MapOf lo M w n ks) (hn : n < 100) (hkl : key.length <= 1000) (HP : uM lo w vv (Sc.partsOf key))
  (hK : ∀ w', MapOf lo M w' (n + 1) (ks ++ [key]) -> Turn M w w' -> K (a.put o.dst undef) w') : o.wp prog a w K Q := by
 obtain ⟨D, h1, h2, h3, h4⟩ := H.ex; have hK2 := zGi key om; obtain ⟨w', hrun, r1, r2⟩ := h1.update (Maps.string_keyed underlying9) underlying112 (by unfold maxLen; omega) hK2 (val := vv) (d := .held vv) (ps := []) rfl; unfold Oper.wp; simp [execOp, hop, hm, hx, hv, hrun, Result.andThen]; have ht : Turn M w w' := ⟨r2, H.isMap⟩; refine hK w' ⟨_, r1, h2.put _ _, fun y hy => ?_, fun y hy zd => ?_⟩ ht
 ·by_cases he : y = key
  ·subst he
   exact ⟨vv, fun zd => Maps.atKey_put_same h2 (show WideAt.IsKeyLit (.string _) from trivial) _ _, HP.turn ht⟩
  ·have hy' : y ∈ ks := (xR.1 hy).resolve_right (by simpa using he)
   obtain ⟨u, e1, e2⟩ := h3 y hy'; exact ⟨u, fun zd => by rw [Maps.atKey_put_other (fun e => he (by cases e; rfl))]; exact e1 zd, e2.turn ht⟩
 ·have he : y ≠ key := fun e => hy (by rw [e]; simp)
  rw [Maps.atKey_put_other (fun e => he (by cases e; rfl))]; exact h4 y (fun h => hy (wG _ h)) zd
theorem wp_look {lo M n : Nat} {w : World} {ks : List Hp.Wd} {o : Oper} {a : Act} {Q : Exit -> Act -> World -> Prop} {K : Act -> World -> Prop} (m x : Operand) (hop : o.op = Op.lookup 112 m x false)
  (hm : a.eval m = .map (some M)) (key : Hp.Wd) (hx : a.eval x = .string (str key)) (H : MapOf lo M w n ks) (hkl : key.length <= 1073741824) (hks : key ∉ ks -> Sc.partsOf key = [])
  (hK : ∀ vv, uM lo w vv (Sc.partsOf key) -> K (a.put o.dst vv) w) : o.wp prog a w K Q := by
 obtain ⟨D, h1, h2, h3, h4⟩ := H.ex; have hK2 := zGi key hkl; obtain ⟨v, ps, hrun, hv⟩ := h1.lookup (Maps.string_keyed underlying9) underlying112 (z := .slice none 0 0) (zeroValue83 w) (zd := .held (.slice none 0 0)) (zp := []) rfl hK2; unfold Oper.wp; simp [execOp, hop, hm, hx, hrun, Result.andThen]; refine hK v ?_
 have hv2 : DataW.held v = D.atKey (.string key) (.held (.slice none 0 0)) := by
  unfold valElem at hv; injection hv with hv
  exact yG Prod.fst hv
 by_cases hm : key ∈ ks
 ·obtain ⟨u, e1, e2⟩ := h3 key hm
  rw [e1] at hv2; injection hv2 with hv2
  rw [hv2]; exact e2
 ·rw [h4 key hm] at hv2
  injection hv2 with hv2
  rw [hv2, hks hm]; exact uM.nil _ _
theorem wp_mk {o : Oper} {a : Act} {w : World} {Q : Exit -> Act -> World -> Prop} {K : Act -> World -> Prop} (lo : Nat) (hop : o.op = Op.makeMap 112 none)
  (hK : MapOf lo w.heap.size (w.alloc (.map #[] 0)) 0 [] -> K (a.put o.dst (.map (some w.heap.size))) (w.alloc (.map #[] 0))) : o.wp prog a w K Q := by
 unfold Oper.wp; simp [execOp, hop, run_makeMap, Result.andThen]; exact hK (MapOf.made _ w)
structure PB (lo : Nat) (w : World) (gA gN gO gQ : Nat) (va ra vn rn vo ro vq rq : Value) : Prop where
 bA : Blk w gA 88 #[va, ra]
 bN : Blk w gN 88 #[vn, rn]
 bO : Blk w gO 88 #[vo, ro]
 bQ : Blk w gQ 88 #[vq, rq]
 A : kK lo w.heap.size w .A va ra
 N : kK lo w.heap.size w .N vn rn
 O : kK lo w.heap.size w .O vo ro
 Q : kK lo w.heap.size w .Q vq rq
section
variable {lo : Nat} {w w' : World} {gA gN gO gQ : Nat} {va ra vn rn vo ro vq rq : Value}
theorem PB.below (h : PB lo w gA gN gO gQ va ra vn rn vo ro vq rq) (hb : zW w w') : PB lo w' gA gN gO gQ va ra vn rn vo ro vq rq :=
 have a := Agree.of_below (lo := lo) hb zn
 ⟨h.bA.below hb h.bA.lt, h.bN.below hb h.bN.lt, h.bO.below hb h.bO.lt, h.bQ.below hb h.bQ.lt, h.A.mono a zn hb.size, h.N.mono a zn hb.size, h.O.mono a zn hb.size, h.Q.mono a zn hb.size⟩
theorem PB.turn {M : Nat} (h : PB lo w gA gN gO gQ va ra vn rn vo ro vq rq) (ht : Turn M w w') : PB lo w' gA gN gO gQ va ra vn rn vo ro vq rq :=
 have a : Agree lo w.heap.size w w' := ht.agree
 ⟨ht.blk h.bA, ht.blk h.bN, ht.blk h.bO, ht.blk h.bQ, h.A.mono a zn ht.g.size, h.N.mono a zn ht.g.size, h.O.mono a zn ht.g.size, h.Q.mono a zn ht.g.size⟩
theorem PB.cs (h : PB lo w gA gN gO gQ va ra vn rn vo ro vq rq) : (w.cell? ⟨gA, 0, none⟩ = some va /\ w.cell? ⟨gA, 1, none⟩ = some ra) /\ (w.cell? ⟨gN, 0, none⟩ = some vn /\ w.cell? ⟨gN, 1, none⟩ = some rn) /\ (w.cell? ⟨gO, 0, none⟩ = some vo /\ w.cell? ⟨gO, 1, none⟩ = some ro) /\ (w.cell? ⟨gQ, 0, none⟩ = some vq /\ w.cell? ⟨gQ, 1, none⟩ = some rq) :=
 ⟨⟨h.bA.cell 0, h.bA.cell 1⟩, ⟨h.bN.cell 0, h.bN.cell 1⟩, ⟨h.bO.cell 0, h.bO.cell 1⟩, h.bQ.cell 0, h.bQ.cell 1⟩
end
def allWords : List Hp.Wd := Sc.names ++ [Sc.wIp, Sc.wMpls]
theorem no_parts {x : Hp.Wd} (h : x ∉ allWords) : Sc.partsOf x = [] := jO fun hn => by
 rcases Sc.parts_word hn with h1 | ⟨-, -, h3⟩
 ·rcases h1 with rfl | rfl <;> exact h zd
 ·exact h (wG _ (uA (Sc.idx_get h3)))
theorem kK.lower {lo lo' : Nat} {w : World} {p : Sc.Part} {vs vr : Value} (h : kK lo w.heap.size w p vs vr) (hl : lo' <= lo) : kK lo' w.heap.size w p vs vr := h.mono (fun k _ _ cs t fr hc => hc) hl zn
theorem kK.next {lo : Nat} {w w' : World} {p : Sc.Part} {vs vr : Value} (h : kK lo w.heap.size w p vs vr) (hb : zW w w') : kK lo w'.heap.size w' p vs vr := h.mono (Agree.of_below hb zn) zn hb.size
namespace Pt
inductive K where
 | mk
 | ld (d s : Nat) (p : Sc.Part)
 | cl (d f : Nat) (p : Sc.Part)
 | bs1 (d s dp : Nat) (p : Sc.Part)
 | bs2 (d s1 s2 dp1 dp2 : Nat) (p1 p2 : Sc.Part)
 | bs3 (d s1 s2 s3 dp1 dp2 dp3 : Nat) (p1 p2 p3 : Sc.Part)
 | ins (x : Hp.Wd) (s dp : Nat) (ps : List Sc.Part)
 | m61 | m62 | lk | asg
def T : List K := [.mk,
 .ld 12 3 .A,
 .ld 13 4 .N,
 .bs2 14 12 13 1 2 .A .N,
 .ins [112, 111, 114, 116] 14 3 [.A, .N],
 .ld 15 3 .A,
 .bs1 16 15 5 .A,
 .ins [110, 111, 112, 111, 114, 116] 16 6 [.A],
 .ld 17 3 .A,
 .ld 18 4 .N,
 .bs2 19 17 18 8 9 .A .N,
 .ins [108, 105, 110, 107] 19 10 [.A, .N],
 .ld 20 3 .A,
 .cl 21 52 .S,
 .bs2 22 20 21 12 13 .A .S,
 .ins [99, 97, 114, 118, 101] 22 14 [.A, .S],
 .ld 23 3 .A,
 .bs1 24 23 16 .A,
 .ins [99, 108, 111, 115, 101] 24 17 [.A],
 .ld 25 5 .O,
 .ld 26 3 .A,
 .ld 27 4 .N,
 .bs3 28 25 26 27 19 20 21 .O .A .N,
 .ins [100, 114, 97, 119] 28 22 [.O, .A, .N],
 .ld 29 5 .O,
 .cl 30 52 .S,
 .bs2 31 29 30 24 25 .O .S,
 .ins [116, 97, 107, 101] 31 26 [.O, .S],
 .ld 32 5 .O,
 .cl 33 52 .S,
 .bs2 34 32 33 28 29 .O .S,
 .ins [102, 114, 101, 101] 34 30 [.O, .S],
 .cl 35 53 .H,
 .bs1 36 35 32 .H,
 .ins [104, 111, 112] 36 33 [.H],
 .ld 37 3 .A,
 .bs1 38 37 35 .A,
 .ins [110, 111, 104, 111, 112] 38 36 [.A],
 .ld 39 3 .A,
 .cl 40 54 .W,
 .bs2 41 39 40 38 39 .A .W,
 .ins [98, 105, 110, 100] 41 40 [.A, .W],
 .ld 42 3 .A,
 .bs1 43 42 42 .A,
 .ins [110, 111, 98, 105, 110, 100] 43 43 [.A],
 .cl 44 55 .P,
 .cl 45 54 .W,
 .bs2 46 44 45 45 46 .P .W,
 .ins [114, 111, 117, 116, 101] 46 47 [.P, .W],
 .cl 47 55 .P,
 .bs1 48 47 49 .P,
 .ins [110, 111, 114, 111, 117, 116, 101] 48 50 [.P],
 .ld 49 3 .A,
 .cl 50 56 .T,
 .bs2 51 49 50 52 53 .A .T,
 .ins [112, 111, 108, 105, 99, 121] 51 54 [.A, .T],
 .ld 52 3 .A,
 .cl 53 54 .W,
 .bs2 54 52 53 56 57 .A .W,
 .ins [115, 105, 100] 54 58 [.A, .W],
 .ld 55 6 .Q,
 .cl 56 57 .B,
 .bs2 57 55 56 60 61 .Q .B,
 .ins [105, 112] 57 62 [.Q, .B],
 .ld 58 6 .Q,
 .cl 59 57 .B,
 .bs2 60 58 59 64 65 .Q .B,
 .ins [109, 112, 108, 115] 60 66 [.Q, .B],
 .m61,
 .m62,
 .lk,
 .asg]
def dstK : K -> Option Nat
 | .mk => some 11 | .ld d _ _ => some d | .cl d _ _ => some d | .bs1 d _ _ _ => some d | .bs2 d _ _ _ _ _ _ => some d | .bs3 d _ _ _ _ _ _ _ _ _ => some d
 | .ins _ _ _ _ => none | .m61 => some 61 | .m62 => some 62 | .lk => some 63 | .asg => some 2
def wQ : K -> List Nat
 | .mk => [] | .ld _ _ _ => [] | .cl _ _ _ => [] | .bs1 _ _ a _ => [a] | .bs2 _ _ _ a b _ _ => [a, b] | .bs3 _ _ _ _ a b c _ _ _ => [a, b, c]
 | .ins _ _ a _ => [0, a] | .m61 => List.range 68 | .m62 => [] | .lk => [68, 69] | .asg => [70]
def opK : K -> Op
 | .mk => .makeMap 112 none
 | .ld _ s _ => .load 88 (.tmp s)
 | .cl _ f _ => .call { callee := .value (.func f), args := #[], argTypes := #[] }
 | .bs1 _ s _ _ => .buildSlice 83 1 #[(0, .tmp s)]
 | .bs2 _ s1 s2 _ _ _ _ => .buildSlice 83 2 #[(0, .tmp s1), (1, .tmp s2)]
 | .bs3 _ s1 s2 s3 _ _ _ _ _ _ => .buildSlice 83 3 #[(0, .tmp s1), (1, .tmp s2), (2, .tmp s3)]
 | .ins x s _ _ => .insert 112 (.tmp 11) (.const (.string (str x))) (.tmp s)
 | .m61 => .move (.tmp 11)
 | .m62 => .move (.tmp 0)
 | .lk => .lookup 112 (.tmp 61) (.tmp 62) false
 | .asg => .assign (.tmp 63)
def OpOK (i : Nat) (k : K) (o : Oper) : Prop := o.guard = none /\ (o.after.all fun e => decide (e.on < i)) = true /\ ((wQ k).all fun j => o.after.any fun e => e.on == j && Region.binds .any e) = true /\ o.dst = dstK k /\ o.op = opK k
def zFw : List K -> List Oper -> Nat -> Prop
 | k :: ks, o :: os, i => OpOK i k o /\ zFw ks os (i + 1)
 | [], [], _ => True
 | _, _, _ => False
theorem zFw.len : ∀ {ks : List K} {os : List Oper} {i : Nat}, zFw ks os i -> ks.length = os.length
 | [], [], _, _ => rfl
 | [], _ :: _, _, h => h.elim
 | _ :: _, [], _, h => h.elim
 | k :: ks, o :: os, i, h => by rw [zI, zI, zFw.len h.2]
theorem zFw.get : ∀ {ks : List K} {os : List Oper} {i : Nat}, zFw ks os i -> ∀ {j : Nat} {o : Oper}, os[j]? = some o -> ∃ k, ks[j]? = some k /\ OpOK (i + j) k o
 | [], [], _, _, j, o, h => by simp at h
 | [], _ :: _, _, h, _, _, _ => h.elim
 | _ :: _, [], _, h, _, _, _ => h.elim
 |k :: ks, o :: os, i, h, 0, q, hq => by
  simp only [xA, uX] at hq; subst hq; exact ⟨k, rfl, h.1⟩
 |k :: ks, o :: os, i, h, j + 1, q, hq => by
  obtain ⟨k', h1, h2⟩ := zFw.get h.2 (j := j) (o := q) (by simpa using hq); exact ⟨k', by simpa using h1, by rw [show i + (j + 1) = i + 1 + j from om]; exact h2⟩
def zFu (j s : Nat) (p : Sc.Part) : Bool := match T[j]? with | some (.ld d _ q) => d == s && decide (q = p) | some (.cl d _ q) => d == s && decide (q = p) | _ => false
def sliOK (j s : Nat) (ps : List Sc.Part) : Bool := match T[j]? with | some (.bs1 d _ _ p) => d == s && decide (ps = [p]) | some (.bs2 d _ _ _ _ p1 p2) => d == s && decide (ps = [p1, p2]) | some (.bs3 d _ _ _ _ _ _ p1 p2 p3) => d == s && decide (ps = [p1, p2, p3]) | _ => false
def zAk (i : Nat) : K -> Bool
 | .mk => i == 0
 | .ld _ s p => (s == 3 && decide (p = .A)) || (s == 4 && decide (p = .N)) || (s == 5 && decide (p = .O)) || (s == 6 && decide (p = .Q))
 | .cl _ f p => (f == 52 && decide (p = .S)) || (f == 53 && decide (p = .H)) || (f == 54 && decide (p = .W)) || (f == 55 && decide (p = .P)) || (f == 56 && decide (p = .T)) || (f == 57 && decide (p = .B))
 | .bs1 _ s a p => zFu a s p
 | .bs2 _ s t a b p q => zFu a s p && zFu b t q
 | .bs3 _ s t u a b c p q r => zFu a s p && zFu b t q && zFu c u r
 | .ins x s a ps => sliOK a s ps && decide (ps = Sc.partsOf x) && decide (x.length <= 1000) && decide (i < 68) && decide (x ∈ allWords)
 | .m61 => i == 68
 | .m62 => i == 69
 | .lk => i == 70
 | .asg => i == 71
def okD (i : Nat) (k : K) : Bool := match dstK k with
 | none => true
 | some d => decide (d < 64) && (d != 0 && d != 3 && d != 4 && d != 5 && d != 6) && (d != 11 || i == 0) && (d != 61 || i == 68)
theorem T_len : T.length = 72 := rfl
theorem T_good : (T.zipIdx.all fun q => zAk q.2 q.1 && okD q.2 q.1) = true := kf
theorem T_dst : ((List.range 72).all fun i => (List.range 72).all fun j => i == j || (match T[i]?, T[j]? with | some a, some b => (match dstK a, dstK b with | some x, some y => x != y | _, _ => true) | _, _ => true)) = true := kf
theorem T_words : (allWords.all fun x => T.any fun k => match k with | .ins y _ _ _ => decide (y = x) | _ => false) = true := kf
theorem good {i : Nat} {k : K} (h : T[i]? = some k) : zAk i k = true /\ okD i k = true := by
 have h1 := jE.1 T_good (k, i) (List.mem_zipIdx_iff_getElem?.2 h)
 simpa using h1
theorem dst_ne {i j : Nat} {a b : K} {x y : Nat} (h1 : T[i]? = some a) (h2 : T[j]? = some b) (hx : dstK a = some x) (hy : dstK b = some y) (hne : i ≠ j) : x ≠ y := by
 have hi : i < 72 := by have := (zL.1 h1).1; rw [T_len] at this; exact this
 have hj : j < 72 := by have := (zL.1 h2).1; rw [T_len] at this; exact this
 have := jE.1 (jE.1 T_dst i (List.mem_range.2 hi)) j (List.mem_range.2 hj); rw [h1, h2] at this; simp only [hx, hy] at this
 simpa [hne] using this
def zEd (lo : Nat) (w : World) (v : Value) (p : Sc.Part) : Prop := ∃ vs vr, v = .agg #[vs, vr] /\ kK lo w.heap.size w p vs vr
def factV (lo : Nat) (word : Hp.Wd) (k : K) (v : Value) (w : World) : Prop := match k with
 | .ld _ _ p => zEd lo w v p
 | .cl _ _ p => zEd lo w v p
 | .bs1 _ _ _ p => uM lo w v [p]
 | .bs2 _ _ _ _ _ p q => uM lo w v [p, q]
 | .bs3 _ _ _ _ _ _ _ p q r => uM lo w v [p, q, r]
 | .m62 => v = .string (str word)
 | .lk => uM lo w v (Sc.partsOf word)
 | .asg => uM lo w v (Sc.partsOf word)
 | _ => True
def Stb (w w' : World) : Prop := zW w w' ∨ ∃ M, Turn M w w'
theorem Stb.agree {lo : Nat} {w w' : World} (h : Stb w w') : Agree lo w.heap.size w w' := by
 rcases h with h | ⟨M, h⟩
 ·exact Agree.of_below h zn
 ·exact h.agree
theorem Stb.size {w w' : World} (h : Stb w w') : w.heap.size <= w'.heap.size := by
 rcases h with h | ⟨M, h⟩
 ·exact h.size
 ·exact h.g.size
theorem Stb.parts {lo : Nat} {w w' : World} {v : Value} {ps : List Sc.Part} (h : Stb w w') (hp : uM lo w v ps) : uM lo w' v ps := by
 rcases h with h | ⟨M, h⟩
 ·exact hp.below h
 ·exact hp.turn h
theorem Stb.part {lo : Nat} {w w' : World} {v : Value} {p : Sc.Part} (h : Stb w w') (hp : zEd lo w v p) : zEd lo w' v p := by
 obtain ⟨vs, vr, e, hv⟩ := hp; exact ⟨vs, vr, e, hv.mono h.agree zn h.size⟩
theorem Stb.fact {lo : Nat} {word : Hp.Wd} {k : K} {v : Value} {w w' : World} (h : Stb w w') (hf : factV lo word k v w) : factV lo word k v w' := by
 cases k <;> first | exact h.part hf | exact h.parts hf | exact hf
variable {w0 : World} {word : Hp.Wd} {gA gN gO gQ : Nat} {va ra vn rn vo ro vq rq : Value}
theorem Stb.pb {lo : Nat} {w w' : World} (h : Stb w w') (hp : PB lo w gA gN gO gQ va ra vn rn vo ro vq rq) : PB lo w' gA gN gO gQ va ra vn rn vo ro vq rq := by
 rcases h with h | ⟨M, h⟩
 ·exact hp.below h
 ·exact hp.turn h
def InsL (L : Array Bool) (x : Hp.Wd) : Prop := ∃ i s dp ps, T[i]? = some (.ins x s dp ps) /\ L.getD i false = true
structure Inv (w0 : World) (word : Hp.Wd) (gA gN gO gQ : Nat) (va ra vn rn vo ro vq rq : Value) (L : Array Bool) (a : Act) (w : World) : Prop where
 sz : L.size = 72
 tz : a.tmps.size = 64
 df : a.defers = []
 t0 : a.tmps.getD 0 undef = .string (str word)
 b3 : a.tmps.getD 3 undef = .pointer (some ⟨gA, 0, none⟩)
 b4 : a.tmps.getD 4 undef = .pointer (some ⟨gN, 0, none⟩)
 b5 : a.tmps.getD 5 undef = .pointer (some ⟨gO, 0, none⟩)
 b6 : a.tmps.getD 6 undef = .pointer (some ⟨gQ, 0, none⟩)
 pb : PB w0.heap.size w gA gN gO gQ va ra vn rn vo ro vq rq
 bel : zW w0 w
 fv : ∀ i k d, T[i]? = some k -> dstK k = some d -> L.getD i false = true -> factV w0.heap.size word k (a.tmps.getD d undef) w
 mp : L.getD 0 false = true -> ∃ M n ks, w0.heap.size <= M /\ a.tmps.getD 11 undef = .map (some M) /\ MapOf w0.heap.size M w n ks /\ n + unl L <= 72 /\ (∀ x, x ∈ ks ↔ InsL L x) /\ (L.getD 68 false = true -> a.tmps.getD 61 undef = .map (some M))
 i0 : ∀ i k, T[i]? = some k -> 0 ∈ wQ k -> L.getD i false = true -> L.getD 0 false = true
 all : L.getD 68 false = true -> ∀ i, i < 68 -> L.getD i false = true
theorem lD {a : Act} {d e : Nat} {v : Value} (hd : d < a.tmps.size) : (a.put (some d) v).tmps.getD e undef = if e = d then v else a.tmps.getD e undef := by
 simp only [Act.put, Array.getD_eq_getD_getElem?, Array.getElem?_setIfInBounds]
 by_cases h : e = d
 ·subst h; simp [hd]
 ·rw [zH h, zH (bD h)]
theorem insL_set {L : Array Bool} {i : Nat} {k : K} (hk : T[i]? = some k) (hL : i < L.size) (hn : ∀ x s dp ps, k ≠ .ins x s dp ps) (x : Hp.Wd) : InsL (L.setIfInBounds i true) x ↔ InsL L x := by
 constructor
 ·rintro ⟨j, s, dp, ps, h1, h2⟩
  rcases (vJ hL).1 h2 with rfl | h2
  ·rw [hk] at h1; cases h1; exact absurd rfl (hn x s dp ps)
  ·exact ⟨j, s, dp, ps, h1, h2⟩
 ·rintro ⟨j, s, dp, ps, h1, h2⟩
  exact ⟨j, s, dp, ps, h1, (vJ hL).2 (Or.inr h2)⟩
section
variable {L : Array Bool} {a : Act} {w w' : World}
theorem Inv.put (h : Inv w0 word gA gN gO gQ va ra vn rn vo ro vq rq L a w) {i : Nat} {k : K} {d : Nat} (hk : T[i]? = some k) (hu : L.getD i true = false) (hd : dstK k = some d) (hmk : k ≠ .mk)
  (hdep : ∀ j ∈ wQ k, L.getD j false = true) {v : Value} (hb : zW w w') (hf : factV w0.heap.size word k v w') (h61 : k = .m61 -> v = a.tmps.getD 11 undef) :
  Inv w0 word gA gN gO gQ va ra vn rn vo ro vq rq (L.setIfInBounds i true) (a.put (some d) v) w' := by
 have hi : i < L.size := by
  rcases jQ i L.size with h' | h'
  ·exact h'
  ·simp [Array.getD, Nat.not_lt.2 h'] at hu
 obtain ⟨g1, g2⟩ := good hk; unfold okD at g2; rw [hd] at g2; simp only [xO, xP, jZ, qR, zBk, uP] at g2; obtain ⟨⟨⟨d64, ⟨⟨⟨⟨d0, d3⟩, d4⟩, d5⟩, d6⟩⟩, d11⟩, d61⟩ := g2; have hdz : d < a.tmps.size := by rw [h.tz]; exact d64
 have hst : Stb w w' := Or.inl hb; have hne : ∀ e, e ≠ d -> (a.put (some d) v).tmps.getD e undef = a.tmps.getD e undef := fun e he => by rw [lD hdz, zH he]
 have hi0 : i ≠ 0 ∨ k = .mk := by
  by_cases e : i = 0
  ·subst e; exact Or.inr (by have : T[0]? = some K.mk := rfl; rw [this] at hk; cases hk; rfl)
  ·exact Or.inl e
 have hi0 := hi0.resolve_right hmk
 refine ⟨by simpa using h.sz, by simpa [Act.put] using h.tz, h.df, by rw [hne 0 (bD d0)]; exact h.t0, by rw [hne 3 (bD d3)]; exact h.b3, by rw [hne 4 (bD d4)]; exact h.b4, by rw [hne 5 (bD d5)]; exact h.b5, by rw [hne 6 (bD d6)]; exact h.b6,
  hst.pb h.pb, h.bel.trans (hb.mono h.bel.size), fun j k' d' hk' hd' hL' => ?_, fun hL0 => ?_, fun j k' hk' h0 hL' => ?_, fun hL68 j hj => ?_⟩
 ·by_cases e : j = i
  ·subst e
   rw [hk] at hk'; cases hk'; rw [hd] at hd'; cases hd'; rw [lD hdz, zN rfl]; exact hf
  ·rcases (vJ hi).1 hL' with h1 | h1
   ·exact absurd h1 e
   ·rw [hne d' (dst_ne hk' hk hd' hd e)]
    exact hst.fact (h.fv j k' d' hk' hd' h1)
 ·rcases (vJ hi).1 hL0 with h1 | h1
  ·exact absurd h1.symm hi0
  ·obtain ⟨M, n, ks, m1, m2, m3, m4, m5, m6⟩ := h.mp h1
   have hnI : ∀ x s dp ps, k ≠ .ins x s dp ps := fun x s dp ps e => by subst e; cases hd
   refine ⟨M, n, ks, m1, by rw [hne 11 (fun e => by rcases d11 with d11 | d11; exact d11 e.symm; exact hi0 d11)]; exact m2, m3.below hb, by have := zGo hu; omega, fun x => (m5 x).trans (insL_set hk hi hnI x).symm, fun h68 => ?_⟩
   rcases (vJ hi).1 h68 with e | e
   ·have hk68 : k = .m61 := by subst e; have : T[68]? = some K.m61 := rfl; rw [this] at hk; cases hk; rfl
    subst hk68
    cases hd; rw [lD hdz, zN rfl, h61 rfl, m2]
   ·by_cases e2 : 61 = d
    ·rcases d61 with d61 | d61
     ·exact absurd e2.symm d61
     ·subst d61
      have : L.getD 68 true = true := by
       have h9 := h.sz; simp [Array.getD, h9] at e ⊢; exact e
      rw [this] at hu; cases hu
    ·rw [hne 61 e2]; exact m6 e
 ·rcases (vJ hi).1 hL' with h1 | h1
  ·subst h1
   rw [hk] at hk'; cases hk'; exact (vJ hi).2 (Or.inr (hdep 0 h0))
  ·exact (vJ hi).2 (Or.inr (h.i0 j k' hk' h0 h1))
 ·rcases (vJ hi).1 hL68 with h1 | h1
  ·have hk68 : k = .m61 := by subst h1; have : T[68]? = some K.m61 := rfl; rw [this] at hk; cases hk; rfl
   subst hk68; exact (vJ hi).2 (Or.inr (hdep j (List.mem_range.2 hj)))
  ·exact (vJ hi).2 (Or.inr (h.all h1 j hj))
theorem Inv.made (h : Inv w0 word gA gN gO gQ va ra vn rn vo ro vq rq L a w) (hu : L.getD 0 true = false) (hM : MapOf w0.heap.size w.heap.size (w.alloc (.map #[] 0)) 0 []) :
  Inv w0 word gA gN gO gQ va ra vn rn vo ro vq rq (L.setIfInBounds 0 true) (a.put (some 11) (.map (some w.heap.size))) (w.alloc (.map #[] 0)) := by
 have hi : 0 < L.size := by rw [h.sz]; decide
 have hdz : 11 < a.tmps.size := by rw [h.tz]; decide
 have hb := yD w (.map #[] 0); have hst : Stb w (w.alloc (.map #[] 0)) := Or.inl hb; have hne : ∀ e, e ≠ 11 -> (a.put (some 11) (.map (some w.heap.size))).tmps.getD e undef = a.tmps.getD e undef := fun e he => by rw [lD hdz, zH he]
 have hf0 : L.getD 0 false = false := by
  simp [Array.getD, hi] at hu ⊢; exact hu
 refine ⟨by simpa using h.sz, by simpa [Act.put] using h.tz, h.df, by rw [hne 0 zd]; exact h.t0, by rw [hne 3 zd]; exact h.b3, by rw [hne 4 zd]; exact h.b4, by rw [hne 5 zd]; exact h.b5, by rw [hne 6 zd]; exact h.b6,
  hst.pb h.pb, h.bel.trans (hb.mono h.bel.size), fun j k' d' hk' hd' hL' => ?_, fun _ => ?_, fun j k' hk' h0 hL' => (vJ hi).2 (Or.inl rfl), fun hL68 j hj => ?_⟩
 ·by_cases e : j = 0
  ·subst e
   have : T[0]? = some K.mk := rfl; rw [this] at hk'; cases hk'
   trivial
  ·rcases (vJ hi).1 hL' with h1 | h1
   ·exact absurd h1 e
   ·rw [hne d' (dst_ne (b := .mk) (y := 11) hk' rfl hd' rfl e)]
    exact hst.fact (h.fv j k' d' hk' hd' h1)
 ·refine ⟨w.heap.size, 0, [], h.bel.size, by rw [lD hdz, zN rfl], hM, ?_, fun x => ⟨(fun hx => by cases hx), fun hx => ?_⟩, fun h68 => ?_⟩
  ·have := zGo hu
   have h9 : unl L <= 72 := by
    unfold unl; have := aK (a := false) (l := L.toList); rw [bK, h.sz] at this; exact this
   omega
  ·obtain ⟨j, s, dp, ps, h1, h2⟩ := hx
   rcases (vJ hi).1 h2 with rfl | h2
   ·cases h1
   ·have := h.i0 j _ h1 (by simp [wQ]) h2
    rw [hf0] at this; cases this
  ·rcases (vJ hi).1 h68 with e | e
   ·cases e
   ·have := h.all e 0 zd
    rw [hf0] at this; cases this
 ·rcases (vJ hi).1 hL68 with e | e
  ·cases e
  ·exact (vJ hi).2 (Or.inr (h.all e j hj))
theorem Inv.insd (h : Inv w0 word gA gN gO gQ va ra vn rn vo ro vq rq L a w) {i : Nat} {x : Hp.Wd} {s dp : Nat} {ps : List Sc.Part} (hk : T[i]? = some (.ins x s dp ps)) (hu : L.getD i true = false) (h0 : L.getD 0 false = true) {M n : Nat} {ks : List Hp.Wd}
  (m1 : w0.heap.size <= M) (m2 : a.tmps.getD 11 undef = .map (some M)) (m4 : n + unl L <= 72) (m5 : ∀ y, y ∈ ks ↔ InsL L y) (m6 : L.getD 68 false = true -> a.tmps.getD 61 undef = .map (some M))
  (hM : MapOf w0.heap.size M w' (n + 1) (ks ++ [x])) (ht : Turn M w w') :
  Inv w0 word gA gN gO gQ va ra vn rn vo ro vq rq (L.setIfInBounds i true) a w' := by
 have hi : i < L.size := by
  rcases jQ i L.size with h' | h'
  ·exact h'
  ·simp [Array.getD, Nat.not_lt.2 h'] at hu
 have hi68 : i < 68 := by
  have := (good hk).1; simp only [zAk, xO, xP] at this; exact this.1.2
 have hst : Stb w w' := Or.inr ⟨M, ht⟩; refine ⟨by simpa using h.sz, h.tz, h.df, h.t0, h.b3, h.b4, h.b5, h.b6, hst.pb h.pb, h.bel.trans (jB ht.g h.bel.size m1), fun j k' d' hk' hd' hL' => ?_, fun _ => ?_, fun j k' hk' h9 hL' => (vJ hi).2 (Or.inr h0), fun hL68 j hj => ?_⟩
 ·rcases (vJ hi).1 hL' with rfl | h1
  ·rw [hk] at hk'; cases hk'; cases hd'
  ·exact hst.fact (h.fv j k' d' hk' hd' h1)
 ·refine ⟨M, n + 1, ks ++ [x], m1, m2, hM, by have := zGo hu; omega, fun y => ?_, fun h68 => ?_⟩
  ·rw [xR, m5 y]
   constructor
   ·rintro (⟨j, s', dp', ps', h1, h2⟩ | hy)
    ·exact ⟨j, s', dp', ps', h1, (vJ hi).2 (Or.inr h2)⟩
    ·obtain rfl : y = x := by simpa using hy
     exact ⟨i, s, dp, ps, hk, (vJ hi).2 (Or.inl rfl)⟩
   ·rintro ⟨j, s', dp', ps', h1, h2⟩
    rcases (vJ hi).1 h2 with rfl | h2
    ·rw [hk] at h1; cases h1; exact Or.inr zi
    ·exact Or.inl ⟨j, s', dp', ps', h1, h2⟩
  ·rcases (vJ hi).1 h68 with e | e
   ·omega
   ·exact m6 e
 ·rcases (vJ hi).1 hL68 with e | e
  ·omega
  ·exact (vJ hi).2 (Or.inr (h.all e j hj))
theorem pO (h : Inv w0 word gA gN gO gQ va ra vn rn vo ro vq rq L a w) {j s : Nat} {p : Sc.Part} (hs : zFu j s p = true) (hL : L.getD j false = true) : zEd w0.heap.size w (a.eval (.tmp s)) p := by
 unfold zFu at hs
 split at hs
 ·rename_i d s' q e
  simp only [xO, uP, xP] at hs; obtain ⟨rfl, rfl⟩ := hs; exact h.fv j _ d e rfl hL
 ·rename_i d f q e
  simp only [xO, uP, xP] at hs; obtain ⟨rfl, rfl⟩ := hs; exact h.fv j _ d e rfl hL
 ·cases hs
theorem sli_fact (h : Inv w0 word gA gN gO gQ va ra vn rn vo ro vq rq L a w) {j s : Nat} {ps : List Sc.Part} (hs : sliOK j s ps = true) (hL : L.getD j false = true) : uM w0.heap.size w (a.eval (.tmp s)) ps := by
 unfold sliOK at hs
 split at hs
 ·rename_i d _ _ q e
  simp only [xO, uP, xP] at hs; obtain ⟨rfl, rfl⟩ := hs; exact h.fv j _ d e rfl hL
 ·rename_i d _ _ _ _ q1 q2 e
  simp only [xO, uP, xP] at hs; obtain ⟨rfl, rfl⟩ := hs; exact h.fv j _ d e rfl hL
 ·rename_i d _ _ _ _ _ _ q1 q2 q3 e
  simp only [xO, uP, xP] at hs; obtain ⟨rfl, rfl⟩ := hs; exact h.fv j _ d e rfl hL
 ·cases hs
theorem bs_run1 (v : Value) (vs vr : Value) (hv : v = .agg #[vs, vr]) (w : World) : (Instr.buildSlice 83 1 #[(0, v)]).run prog w = .ok (.slice (some ⟨w.heap.size, 0, none⟩) 1 1) (w.alloc (.cells #[vs, vr] 88)) := by
 subst hv; simp [Instr.buildSlice, Instr.fill, Value.cells, newRow, go_sem, underlying83, sizeOf88, zeroValue88, Result.andThen]
theorem bs_run2 (v1 v2 : Value) (a1 b1 a2 b2 : Value) (h1 : v1 = .agg #[a1, b1]) (h2 : v2 = .agg #[a2, b2]) (w : World) : (Instr.buildSlice 83 2 #[(0, v1), (1, v2)]).run prog w = .ok (.slice (some ⟨w.heap.size, 0, none⟩) 2 2) (w.alloc (.cells #[a1, b1, a2, b2] 88)) := by
 subst h1 h2; simp [Instr.buildSlice, Instr.fill, Value.cells, newRow, go_sem, underlying83, sizeOf88, zeroValue88, Result.andThen]
theorem bs_run3 (v1 v2 v3 : Value) (a1 b1 a2 b2 a3 b3 : Value) (h1 : v1 = .agg #[a1, b1]) (h2 : v2 = .agg #[a2, b2]) (h3 : v3 = .agg #[a3, b3]) (w : World) : (Instr.buildSlice 83 3 #[(0, v1), (1, v2), (2, v3)]).run prog w = .ok (.slice (some ⟨w.heap.size, 0, none⟩) 3 3) (w.alloc (.cells #[a1, b1, a2, b2, a3, b3] 88)) := by
 subst h1 h2 h3; simp [Instr.buildSlice, Instr.fill, Value.cells, newRow, go_sem, underlying83, sizeOf88, zeroValue88, Result.andThen]
theorem wp_bs {o : Oper} {n : Nat} {parts : Array (Nat × Operand)} {v : Value} {w1 : World} {Q : Exit -> Act -> World -> Prop} {K : Act -> World -> Prop} (hop : o.op = .buildSlice 83 n parts)
  (hr : (Instr.buildSlice 83 n (parts.map fun (i, x) => (i, a.eval x))).run prog w = .ok v w1) (hK : K (a.put o.dst v) w1) : o.wp prog a w K Q := by
 unfold Oper.wp; simp only [execOp, hop, kS, hr, jA, qN]; exact hK
theorem wp_cl {o : Oper} {f : Nat} {p : Sc.Part} {Q : Exit -> Act -> World -> Prop} {K : Act -> World -> Prop} (hop : o.op = .call { callee := .value (.func f), args := #[], argTypes := #[] })
  (he : Ent f) (hc : Calls prog f #[] w (wT p w)) (hK : ∀ v w', zEd w.heap.size w' v p -> zW w w' -> K (a.put o.dst v) w') : o.wp prog a w K Q := by
 have hr : (execOp a.eval o).run prog w = .ok (.enter f #[]) w := by
  unfold Ent at he; simp [execOp, hop, resolve, go_sem, he]
 unfold Oper.wp; rw [hr, Oper.upon_enter]; refine hc.mono ?_; rintro e w' ⟨vs, vr, rfl, hv, hb⟩; exact hK _ _ ⟨vs, vr, rfl, hv⟩ hb
theorem wp_mv {o : Oper} {x : Operand} {Q : Exit -> Act -> World -> Prop} {K : Act -> World -> Prop} (hop : o.op = .move x) (hK : K (a.put o.dst (a.eval x)) w) : o.wp prog a w K Q := by
 unfold Oper.wp; simp only [execOp, hop]; exact hK
theorem wp_as {o : Oper} {x : Operand} {Q : Exit -> Act -> World -> Prop} {K : Act -> World -> Prop} (hop : o.op = .assign x) (hK : K (a.put o.dst (a.eval x)) w) : o.wp prog a w K Q := by
 unfold Oper.wp; simp only [execOp, hop]; exact hK
theorem wp_ld {o : Oper} {s g : Nat} {vs vr : Value} {Q : Exit -> Act -> World -> Prop} {K : Act -> World -> Prop} (hop : o.op = .load 88 (.tmp s)) (hx : a.eval (.tmp s) = .pointer (some ⟨g, 0, none⟩)) (hb : Blk w g 88 #[vs, vr])
  (hK : K (a.put o.dst (.agg #[vs, vr])) w) : o.wp prog a w K Q :=
 wp_load_row _ _ hop g hx _ _ (0, 0) _ hb underlying88 rfl aG hK
theorem Inv.step (h : Inv w0 word gA gN gO gQ va ra vn rn vo ro vq rq L a w) (hw : word.length <= 1073741824) {ops : Array Oper} {Q : Exit -> Act -> World -> Prop} {i : Nat} {o : Oper} {k : K} (hk : T[i]? = some k) (ho : ops[i]? = some o) (hok : OpOK i k o) (hu : L.getD i true = false)
  (hdep : ∀ e ∈ o.after, Region.binds .any e = true -> L.getD e.on false = true) : wpOp prog ops Q i (fun a' w' => Inv w0 word gA gN gO gQ va ra vn rn vo ro vq rq (L.setIfInBounds i true) a' w') a w := by
 obtain ⟨hg, -, hd, hdst, hop⟩ := hok; refine wpOp_plain ho hg ?_
 have hdeps : ∀ j ∈ wQ k, L.getD j false = true := fun j hj => by
  have := jE.1 hd j hj; obtain ⟨q, hq, hb⟩ := Array.any_eq_true.1 this; simp only [xO, uP] at hb; rw [← hb.1]; exact hdep _ (Array.getElem_mem hq) hb.2
 have hgood := (good hk).1
 cases k with
 |mk =>
  have hi0 : i = 0 := by simpa [zAk] using hgood
  subst hi0; refine wp_mk w0.heap.size hop fun hM => ?_; rw [hdst]; exact h.made hu hM
 |ld d s p =>
  simp only [zAk, zBk, xO, uP, xP] at hgood
  rcases hgood with ((⟨rfl, rfl⟩ | ⟨rfl, rfl⟩) | ⟨rfl, rfl⟩) | ⟨rfl, rfl⟩
  ·exact wp_ld hop h.b3 h.pb.bA (by rw [hdst]; exact h.put hk hu rfl zi hdeps zb ⟨_, _, rfl, h.pb.A⟩ zi)
  ·exact wp_ld hop h.b4 h.pb.bN (by rw [hdst]; exact h.put hk hu rfl zi hdeps zb ⟨_, _, rfl, h.pb.N⟩ zi)
  ·exact wp_ld hop h.b5 h.pb.bO (by rw [hdst]; exact h.put hk hu rfl zi hdeps zb ⟨_, _, rfl, h.pb.O⟩ zi)
  ·exact wp_ld hop h.b6 h.pb.bQ (by rw [hdst]; exact h.put hk hu rfl zi hdeps zb ⟨_, _, rfl, h.pb.Q⟩ zi)
 |cl d f p =>
  simp only [zAk, zBk, xO, uP, xP] at hgood
  have hc : Ent f /\ Calls prog f #[] w (wT p w) := by
   rcases hgood with ((((⟨rfl, rfl⟩ | ⟨rfl, rfl⟩) | ⟨rfl, rfl⟩) | ⟨rfl, rfl⟩) | ⟨rfl, rfl⟩) | ⟨rfl, rfl⟩
   ·exact ⟨enters_of func52 kf rfl, scr_spans w⟩
   ·exact ⟨enters_of func53 kf rfl, scr_hops w⟩
   ·exact ⟨enters_of func54 kf rfl, scr_ways w⟩
   ·exact ⟨enters_of func55 kf rfl, scr_prefixes w⟩
   ·exact ⟨enters_of func56 kf rfl, scr_texts w⟩
   ·exact ⟨enters_of func57 kf rfl, scr_packets w⟩
  refine wp_cl hop hc.1 hc.2 fun v w' hv hb => ?_; rw [hdst]; obtain ⟨vs, vr, e, hp⟩ := hv; exact h.put hk hu rfl zi hdeps hb ⟨vs, vr, e, hp.lower h.bel.size⟩ zi
 |bs1 d s dp p =>
  simp only [zAk] at hgood; obtain ⟨vs, vr, e, hp⟩ := pO h hgood (hdeps dp (by simp [wQ])); have hb := yD w (.cells #[vs, vr] 88); refine wp_bs (v := .slice (some ⟨w.heap.size, 0, none⟩) 1 1) (w1 := w.alloc (.cells #[vs, vr] 88)) hop (by simp only [jF, yM, xH]; exact bs_run1 _ vs vr e w) ?_; rw [hdst]; exact h.put hk hu rfl zi hdeps hb (zEp (ps := [p]) (rows := [(vs, vr)]) ⟨hp, trivial⟩ h.bel.size zi _ _ rfl) zi
 |bs2 d s t a1 a2 p q =>
  simp only [zAk, xO] at hgood; obtain ⟨vs, vr, e, hp⟩ := pO h hgood.1 (hdeps a1 (by simp [wQ])); obtain ⟨vt, vu, e2, hp2⟩ := pO h hgood.2 (hdeps a2 (by simp [wQ])); have hb := yD w (.cells #[vs, vr, vt, vu] 88); refine wp_bs (v := .slice (some ⟨w.heap.size, 0, none⟩) 2 2) (w1 := w.alloc (.cells #[vs, vr, vt, vu] 88)) hop (by simp only [jF, yM, xH]; exact bs_run2 _ _ vs vr vt vu e e2 w) ?_; rw [hdst]; exact h.put hk hu rfl zi hdeps hb (zEp (ps := [p, q]) (rows := [(vs, vr), (vt, vu)]) ⟨hp, hp2, trivial⟩ h.bel.size zi _ _ rfl) zi
 |bs3 d s t u a1 a2 a3 p q r =>
  simp only [zAk, xO] at hgood; obtain ⟨vs, vr, e, hp⟩ := pO h hgood.1.1 (hdeps a1 (by simp [wQ])); obtain ⟨vt, vu, e2, hp2⟩ := pO h hgood.1.2 (hdeps a2 (by simp [wQ])); obtain ⟨vx, vy, e3, hp3⟩ := pO h hgood.2 (hdeps a3 (by simp [wQ])); have hb := yD w (.cells #[vs, vr, vt, vu, vx, vy] 88); refine wp_bs (v := .slice (some ⟨w.heap.size, 0, none⟩) 3 3) (w1 := w.alloc (.cells #[vs, vr, vt, vu, vx, vy] 88)) hop (by simp only [jF, yM, xH]; exact bs_run3 _ _ _ vs vr vt vu vx vy e e2 e3 w) ?_; rw [hdst]; exact h.put hk hu rfl zi hdeps hb (zEp (ps := [p, q, r]) (rows := [(vs, vr), (vt, vu), (vx, vy)]) ⟨hp, hp2, hp3, trivial⟩ h.bel.size zi _ _ rfl) zi
 |ins x s dp ps =>
  simp only [zAk, xO, xP] at hgood; obtain ⟨⟨⟨⟨g1, g2⟩, g3⟩, g4⟩, g5⟩ := hgood; have h0 := hdeps 0 (by simp [wQ]); have hv := sli_fact h g1 (hdeps dp (by simp [wQ])); rw [g2] at hv; obtain ⟨M, n, ks, m1, m2, m3, m4, m5, m6⟩ := h.mp h0; refine wp_ins _ _ _ hop m2 x rfl _ rfl m3 om g3 hv fun w' hM ht => ?_; rw [hdst]; exact h.insd hk hu h0 m1 m2 m4 m5 m6 hM ht
 |m61 =>
  refine wp_mv hop ?_; rw [hdst]; exact h.put hk hu rfl zi hdeps zb trivial (fun _ => rfl)
 |m62 =>
  refine wp_mv hop ?_; rw [hdst]; exact h.put hk hu rfl zi hdeps zb h.t0 zi
 |lk =>
  have h68 := hdeps 68 (by simp [wQ]); have h69 := hdeps 69 (by simp [wQ]); have hall := h.all h68; obtain ⟨M, n, ks, m1, m2, m3, m4, m5, m6⟩ := h.mp (hall 0 zd); have hwd : a.eval (.tmp 62) = .string (str word) := h.fv 69 .m62 62 rfl rfl h69; refine wp_look _ _ hop (m6 h68) word hwd m3 hw (fun hn => no_parts fun hm => hn ((m5 word).2 ?_)) fun vv hvv => ?_
  ·have := jE.1 T_words word hm
   rw [List.any_eq_true] at this; obtain ⟨k, hkm, hk2⟩ := this; obtain ⟨j, hj⟩ := List.getElem?_of_mem hkm
   split at hk2
   ·rename_i y s dp ps
    have hy : y = word := by simpa using hk2
    subst hy
    have hj68 : j < 68 := by
     have := (good hj).1; simp only [zAk, xO, xP] at this; exact this.1.2
    exact ⟨j, s, dp, ps, hj, hall j hj68⟩
   ·cases hk2
  ·rw [hdst]
   exact h.put hk hu rfl zi hdeps zb hvv zi
 |asg =>
  have h70 := hdeps 70 (by simp [wQ]); refine wp_as hop ?_; rw [hdst]; exact h.put hk hu rfl zi hdeps zb (h.fv 70 .lk 63 rfl rfl h70) zi
theorem region {ops : Array Oper} {Q : Exit -> Act -> World -> Prop} {id : Nat} (hall : zFw T ops.toList 0) (hw : word.length <= 1073741824) (tz : a.tmps.size = 64) (df : a.defers = []) (t0 : a.tmps.getD 0 undef = .string (str word))
  (b3 : a.tmps.getD 3 undef = .pointer (some ⟨gA, 0, none⟩)) (b4 : a.tmps.getD 4 undef = .pointer (some ⟨gN, 0, none⟩)) (b5 : a.tmps.getD 5 undef = .pointer (some ⟨gO, 0, none⟩)) (b6 : a.tmps.getD 6 undef = .pointer (some ⟨gQ, 0, none⟩))
  (pb : PB w0.heap.size w gA gN gO gQ va ra vn rn vo ro vq rq) (bel : zW w0 w)
  (hQ : ∀ a' w', a'.tmps.size = 64 -> a'.defers = [] -> uM w0.heap.size w' (a'.tmps.getD 2 undef) (Sc.partsOf word) -> zW w0 w' -> Q .normal a' w') : (Code.region id ops true).wp prog Q a w := by
 have hlen : ops.size = 72 := by have := hall.len; rw [T_len] at this; simpa using this.symm
 have hget : ∀ (i : Nat) (o : Oper), ops[i]? = some o -> ∃ k, T[i]? = some k /\ OpOK i k o := fun i o ho => by
  obtain ⟨k, h1, h2⟩ := hall.get (j := i) (o := o) (by simpa using ho); exact ⟨k, h1, by simpa using h2⟩
 have hno : ∀ i, (Array.replicate ops.size false).getD i false = false := fun i => by
  simp [Array.getD]
 refine wp_region_inv kf (Inv w0 word gA gN gO gQ va ra vn rn vo ro vq rq) (fun i o ho e he => ?_) (fun L a w h => by rw [h.sz, hlen]) (fun L a w i o h ho hu hd => ?_) (fun L a w h hl => ?_) ?_
 ·obtain ⟨k, h1, h2⟩ := hget i o ho
  have := h2.2.1; rw [Array.all_eq_true_iff_forall_mem] at this
  simpa using this e he
 ·obtain ⟨k, h1, h2⟩ := hget i o ho
  exact h.step hw h1 ho h2 hu hd
 ·exact hQ a w h.tz h.df (h.fv 71 .asg 2 rfl rfl (hl 71 (by rw [hlen]; decide))) h.bel
 ·have hb := (xE w.heap.size w).drew
  exact ⟨by simp [hlen], tz, df, t0, b3, b4, b5, b6, pb.below hb, bel.trans (hb.mono bel.size), (fun i k d _ _ hL => by rw [hno] at hL; cases hL), (fun hL => by rw [hno] at hL; cases hL), (fun i k _ _ hL => by rw [hno] at hL; cases hL), (fun hL => by rw [hno] at hL; cases hL)⟩
end
end Pt
open Pt in
theorem zEh (word : Hp.Wd) (hw : word.length <= 1073741824) (w : World) :
  Calls prog 25 #[.string (str word)] w fun e w' => ∃ v, e = .returned v /\ zW w w' /\ uM w.heap.size w' v (Sc.partsOf word) := by
 have HCA := qh fun W => wZ numA W; have HCN := qh fun W => wZ numN W; have HCO := qh fun W => wZ numO W; have HCQ := qh fun W => wZ numQ W
 go_enter func25, ntmps25
 go_wp2_with fail
 refine (HCA.o _).mono ?_; rintro e w1 ⟨vA, rA, rfl, hA, hb1⟩; obtain ⟨fA, gA, cfA, cgA, rfl, rfl, -⟩ := id hA; have HB1 := qh hb1; have hpA1 := kK.lower (lo' := w.heap.size) hA (by exact yZ _)
 go_wp2_with (refine vS rfl _ _ _ rfl #[.func (.func fA) #[] cfA, .func (.func gA) #[] cgA] rfl rfl _ _ aG rfl (zCq _ _ _ _ _ _) ?_)
 refine (HCN.o _).mono ?_; rintro e w2 ⟨vN, rN, rfl, hN, hb2⟩; obtain ⟨fN, gN, cfN, cgN, rfl, rfl, -⟩ := id hN; have HB2 := qh ((HB1.o.alloc HB1.o.size (.cells #[.func (.func fA) #[] cfA, .func (.func gA) #[] cgA] 88)).trans (hb2.mono (by have := HB1.o.size; simp; omega))); have hkA2 := (Blk.new w1 88 #[.func (.func fA) #[] cfA, .func (.func gA) #[] cgA]).below hb2 zi; have hpA2 := (hpA1.next (yD w1 (.cells #[.func (.func fA) #[] cfA, .func (.func gA) #[] cgA] 88))).next hb2; have hpN2 := kK.lower (lo' := w.heap.size) hN (by have := HB1.o.size; simp; omega)
 go_wp2_with (refine vS rfl _ _ _ rfl #[.func (.func fN) #[] cfN, .func (.func gN) #[] cgN] rfl rfl _ _ aG rfl (zCq _ _ _ _ _ _) ?_)
 refine (HCO.o _).mono ?_; rintro e w3 ⟨vO, rO, rfl, hO, hb3⟩; obtain ⟨fO, gO, cfO, cgO, rfl, rfl, -⟩ := id hO; have HB3 := qh ((HB2.o.alloc HB2.o.size (.cells #[.func (.func fN) #[] cfN, .func (.func gN) #[] cgN] 88)).trans (hb3.mono (by have := HB2.o.size; simp; omega))); have hkA3 := (hkA2.alloc (.cells #[.func (.func fN) #[] cfN, .func (.func gN) #[] cgN] 88)).below hb3 (by have := hkA2.lt; simp; omega); have hpA3 := (hpA2.next (yD w2 (.cells #[.func (.func fN) #[] cfN, .func (.func gN) #[] cgN] 88))).next hb3; have hkN3 := (Blk.new w2 88 #[.func (.func fN) #[] cfN, .func (.func gN) #[] cgN]).below hb3 zi; have hpN3 := (hpN2.next (yD w2 (.cells #[.func (.func fN) #[] cfN, .func (.func gN) #[] cgN] 88))).next hb3; have hpO3 := kK.lower (lo' := w.heap.size) hO (by have := HB2.o.size; simp; omega)
 go_wp2_with (refine vS rfl _ _ _ rfl #[.func (.func fO) #[] cfO, .func (.func gO) #[] cgO] rfl rfl _ _ aG rfl (zCq _ _ _ _ _ _) ?_)
 refine (HCQ.o _).mono ?_; rintro e w4 ⟨vQ, rQ, rfl, hQ, hb4⟩; obtain ⟨fQ, gQ, cfQ, cgQ, rfl, rfl, -⟩ := id hQ; have HB4 := qh ((HB3.o.alloc HB3.o.size (.cells #[.func (.func fO) #[] cfO, .func (.func gO) #[] cgO] 88)).trans (hb4.mono (by have := HB3.o.size; simp; omega))); have hkA4 := (hkA3.alloc (.cells #[.func (.func fO) #[] cfO, .func (.func gO) #[] cgO] 88)).below hb4 (by have := hkA3.lt; simp; omega); have hpA4 := (hpA3.next (yD w3 (.cells #[.func (.func fO) #[] cfO, .func (.func gO) #[] cgO] 88))).next hb4; have hkN4 := (hkN3.alloc (.cells #[.func (.func fO) #[] cfO, .func (.func gO) #[] cgO] 88)).below hb4 (by have := hkN3.lt; simp; omega); have hpN4 := (hpN3.next (yD w3 (.cells #[.func (.func fO) #[] cfO, .func (.func gO) #[] cgO] 88))).next hb4; have hkO4 := (Blk.new w3 88 #[.func (.func fO) #[] cfO, .func (.func gO) #[] cgO]).below hb4 zi; have hpO4 := (hpO3.next (yD w3 (.cells #[.func (.func fO) #[] cfO, .func (.func gO) #[] cgO] 88))).next hb4; have hpQ4 := kK.lower (lo' := w.heap.size) hQ (by have := HB3.o.size; simp; omega); have HPB : Hid (PB w.heap.size (w4.alloc (.cells #[.func (.func fQ) #[] cfQ, .func (.func gQ) #[] cgQ] 88)) w1.heap.size w2.heap.size w3.heap.size w4.heap.size (.func (.func fA) #[] cfA) (.func (.func gA) #[] cgA) (.func (.func fN) #[] cfN) (.func (.func gN) #[] cgN) (.func (.func fO) #[] cfO) (.func (.func gO) #[] cgO) (.func (.func fQ) #[] cfQ) (.func (.func gQ) #[] cgQ)) := qh ⟨hkA4.alloc _, hkN4.alloc _, hkO4.alloc _, Blk.new _ _ _, hpA4.next (yD _ _), hpN4.next (yD _ _), hpO4.next (yD _ _), hpQ4.next (yD _ _)⟩; have HB5 : Hid (zW w (w4.alloc (.cells #[.func (.func fQ) #[] cfQ, .func (.func gQ) #[] cgQ] 88))) := qh (HB4.o.alloc HB4.o.size _); clear hkA2 hkA3 hkN3 hkA4 hkN4 hkO4 hpA1 hpA2 hpN2 hpA3 hpN3 hpO3 hpA4 hpN4 hpO4 hpQ4 hb1 hb2 hb3 hb4 HB1 HB2 HB3 HB4 hA hN hO hQ
 go_wp2_with (refine vS rfl _ _ _ rfl #[.func (.func fQ) #[] cfQ, .func (.func gQ) #[] cgQ] rfl rfl _ _ aG rfl (zCq _ _ _ _ _ _) ?_)
 refine Pt.region (word := word) ?_ hw rfl rfl rfl rfl rfl rfl rfl HPB.o HB5.o ?_
 ·repeat (first | exact trivial | refine ⟨⟨rfl, kf, kf, rfl, rfl⟩, ?_⟩)
 ·intro a' w' h1 h2 h3 h4
  go_wp2_with fail
  exact zC (v := a'.tmps.getD 2 undef) (by simp [results, results25, go_sem]) h2 ⟨_, rfl, h4, h3⟩
def bI (x : Hp.Wd) : Int := if Sc.idx x < 16 then (Sc.idx x : Int) else -1
theorem zAp : Sc.names.length = 16 := rfl
theorem idx_found {x : Hp.Wd} {k : Nat} (h : Sc.names[k]? = some x) : Sc.idx x = k := by
 have hk : k < 16 := by obtain ⟨h1, -⟩ := zL.1 h; exact h1
 have hd := (Sc.names_idx k hk).1; rw [vP, h] at hd; exact hd
theorem idx_none {x : Hp.Wd} (h : ∀ k, k < 16 -> Sc.names[k]? ≠ some x) : ¬ Sc.idx x < 16 := fun hi => h _ hi (Sc.idx_get hi)
theorem scr_index (x : Hp.Wd) (w : World) (ht : ST w) :
  zCQ 24 #[.slice (some ⟨0, 0, none⟩) 16 16, .string (str x)] w (.int .i64 (bI x)) := by
 have HT := qh ht.nm; clear ht
 go_enter func24, ntmps24
 go_wp2_with fail
 go_loop [5, 8] (fun _ i => ∃ k : Nat, i = .int .i64 k /\ k <= 16 /\ Hid (∀ j, j < k -> Sc.names[j]? ≠ some x)) (fun _ i => 16 - (intOf i).toNat)
 case atStart => exact ⟨0, rfl, yQ _, qh fun j hj => absurd hj (Nat.not_lt_zero _)⟩
 case round =>
  obtain ⟨k, rfl, hk, HJ⟩ := hrel
  by_cases hlt : k < 16
  ·obtain ⟨y, hy⟩ : ∃ y, Sc.names[k]? = some y := ⟨_, zA (by rw [zAp]; exact hlt)⟩
   have hc := HT.o k y hy; have HY := qh hy; clear hy; have hx := vX x; have hz := vX y
   by_cases he : x = y
   ·subst he
    have HK : Hid (bI x = (k : Int)) := qh (by unfold bI; rw [idx_found HY.o, zN hlt]); have hb : ((str x).toList == (str x).toList) = true := zi
    go_wp2
    go_ret
    exact ⟨by rw [HK.o]; rfl, rfl⟩
   ·have hb : ((str x).toList == (str y).toList) = false := by rw [hx, hz]; simpa using he
    have HN : Hid (∀ j, j < k + 1 -> Sc.names[j]? ≠ some x) := qh fun j hj hjx => by
     by_cases h : j = k
     ·subst h; rw [HY.o] at hjx; cases hjx; exact he rfl
     ·exact HJ.o j om hjx
    clear he hx hz; go_wp2_with fail
    go_round
    case rel => exact ⟨k + 1, by go_num, om, HN⟩
    case measure => simp [intOf]; omega
  ·obtain rfl : k = 16 := om
   have HK : Hid (bI x = -1) := qh (by unfold bI; rw [zH (idx_none fun j hj => HJ.o j hj)])
   go_wp2
   go_ret
   exact ⟨by rw [HK.o]; rfl, rfl⟩
theorem kind_max (x : Hp.Wd) : max (bI x) 0 = (Sc.x0 x).kind := by
 unfold bI Sc.x0; simp only
 split <;> omega
theorem join_tail (x : Hp.Wd) (r : List Hp.Wd) : (Hp.join r).length <= (Hp.join (x :: r)).length := by
 cases r with
 | nil => simp [Hp.join]
 | cons y t => simp [Hp.join]; omega
theorem aU.tail {x : Hp.Wd} {r : List Hp.Wd} (h : aU (x :: r)) : aU r :=
 ⟨by have := h.1; simp at this; omega, fun y hy => h.2.1 y (yP _ hy), yK (join_tail x r) h.2.2⟩
theorem aU.nil : aU [] := ⟨zi, fun x hx => (by cases hx), by simp [Hp.join]⟩
theorem read_tail {p : Sc.Part} {t y : Sc.Stp} {l r : List Hp.Wd} (h : Sc.read p t l = some (y, r)) : r = [] ∨ r = l.tail := by
 cases p <;> cases l <;> simp only [Sc.read] at h
 all_goals first
  | (cases h; done)
  | (repeat' split at h) <;> first | (cases h; done) | (cases h; first | exact Or.inl rfl | exact Or.inr rfl) | (simp only [bR] at h; obtain ⟨_, _, h⟩ := h; cases h; first | exact Or.inl rfl | exact Or.inr rfl)
theorem aU.read {p : Sc.Part} {t y : Sc.Stp} {l r : List Hp.Wd} (h : aU l) (hr : Sc.read p t l = some (y, r)) : aU r := by
 rcases read_tail hr with rfl | rfl
 ·exact aU.nil
 ·cases l with
  | nil => exact aU.nil
  | cons x s => exact h.tail
theorem aU.spl {s : List UInt8} (h : s.length <= 65536) : aU (Hp.spl s) := ⟨by rw [zCl]; have := aK (a := (32 : UInt8)) (l := s); omega, fun x hx => yK (spl_le s x hx) h, by rw [Hp.join_spl]; exact h⟩
theorem read_ways {p : Sc.Part} {t y : Sc.Stp} {l r : List Hp.Wd} (hp : p ≠ .W) (h : Sc.read p t l = some (y, r)) : y.ways = t.ways := by
 cases p <;> cases l <;> simp only [Sc.read] at h
 all_goals first
  | (exact absurd rfl hp)
  | (cases h; done)
  | (repeat' split at h) <;> first | (cases h; done) | (cases h; rfl) | (simp only [bR] at h; obtain ⟨_, _, h⟩ := h; cases h; rfl)
theorem yS {P : Program} {ops : Array Oper} {rest : List Oper} {o : Oper} {a : Act} {w : World} {Q : Exit -> Act -> World -> Prop} (hg : o.guard = none) (ty : TypeId) (x : Operand) (ho : o.op = .box ty x) (cells : Array Value) (hx : a.eval x = .agg cells)
  (h : ∀ w', w' = w.alloc (.cells cells ty) -> wpList P ops Q rest (a.put o.dst (.pointer (some ⟨w.heap.size, 0, none⟩))) w') : wpList P ops Q (o :: rest) a w := by
 refine zEs hg fun K hK => ?_; unfold Oper.wp execOp; simp only [ho, hx, kS, Instr.box, newVar, newRow, run_newObj_alloc, qN, jA, Value.cells]; exact hK _ _ (h _ rfl)
theorem zQ {P : Program} {ops : Array Oper} {rest : List Oper} {o : Oper} {a : Act} {w : World} {Q : Exit -> Act -> World -> Prop} (hg : o.guard = none) (ty : TypeId) (ho : o.op = .alloc ty) (cells : Array Value) (hz : ∀ w, (zeroValue ty).run P w = .ok (.agg cells) w)
  (h : ∀ w', w' = w.alloc (.cells cells ty) -> wpList P ops Q rest (a.put o.dst (.pointer (some ⟨w.heap.size, 0, none⟩))) w') : wpList P ops Q (o :: rest) a w := by
 refine zEs hg fun K hK => ?_; unfold Oper.wp execOp; simp only [ho, kS, Instr.alloc, hz, newVar, newRow, run_newObj_alloc, qN, jA, Value.cells]; exact hK _ _ (h _ rfl)
theorem zJ {P : Program} {ops : Array Oper} {rest : List Oper} {o : Oper} {a : Act} {w : World} {Q : Exit -> Act -> World -> Prop} (hgd : o.guard = none) (ty : TypeId) (x y : Operand) (ho : o.op = .store ty x y)
  (g : Nat) (cells : Array Value) (hx : a.eval x = .pointer (some ⟨g, 0, none⟩)) (hy : a.eval y = .agg cells)
  (t : TypeId) (old : Array Value) (hg : Blk w g t old) (hi : (P.info? ty).map (·.size) = some cells.size)
  (hold : old.size = cells.size) (h1 : cells.all (·.oneCell') = true)
  (h : ∀ w', w' = w.setRow g cells -> wpList P ops Q rest (a.put o.dst undef) w') : wpList P ops Q (o :: rest) a w :=
 uZ hgd ty x y ho g cells hx hy t old hg hi hold h1 (h _ rfl)
theorem wpN {P : Program} {ops : Array Oper} {rest : List Oper} {o : Oper} {a : Act} {w : World} {Q : Exit -> Act -> World -> Prop} (hg : o.guard = none) (ty : TypeId) (ho : o.op = .alloc ty) (cells : Array Value) (hz : ∀ w, (zeroValue ty).run P w = .ok (.agg cells) w) {a0 : World} (hB : zW a0 w)
  (h : ∀ w', Hid (Blk w' w.heap.size ty cells) -> Hid (zW a0 w') -> Hid (zW w w') -> wpList P ops Q rest (a.put o.dst (.pointer (some ⟨w.heap.size, 0, none⟩))) w') : wpList P ops Q (o :: rest) a w :=
 zQ hg ty ho cells hz fun w' hw => h w' (by rw [hw]; exact qh (Blk.new _ _ _)) (by rw [hw]; exact qh (hB.alloc hB.size _)) (by rw [hw]; exact qh (yD w _))
theorem wpF {P : Program} {ops : Array Oper} {rest : List Oper} {o : Oper} {a : Act} {w : World} {Q : Exit -> Act -> World -> Prop} (hgd : o.guard = none) (ty : TypeId) (x y : Operand) (ho : o.op = .store ty x y)
  (g : Nat) (cells : Array Value) (hx : a.eval x = .pointer (some ⟨g, 0, none⟩)) (hy : a.eval y = .agg cells)
  {t : TypeId} {old : Array Value} (hb : Blk w g t old) (hi : (P.info? ty).map (·.size) = some cells.size) (hold : old.size = cells.size) (h1 : cells.all (·.oneCell') = true) {a0 : World} (hB : zW a0 w) (h0 : a0.heap.size <= g)
  (h : ∀ w', Hid (Blk w' g t cells) -> Hid (zW a0 w') -> Hid (w.grownBy w' (some g)) -> wpList P ops Q rest (a.put o.dst undef) w') : wpList P ops Q (o :: rest) a w :=
 zJ hgd ty x y ho g cells hx hy t old hb hi hold h1 fun w' hw => h w' (by rw [hw]; exact qh (hb.setRow _)) (by rw [hw]; exact qh (below_setRow hB h0 _)) (by rw [hw]; exact qh (uV _ _ _))
theorem fM {P : Program} {ops : Array Oper} {rest : List Oper} {o : Oper} {a : Act} {w : World} {Q : Exit -> Act -> World -> Prop} (hg : o.guard = none) (ty : TypeId) (x : Operand) (hop : o.op = Op.slice ty x (some (.const (.int .i64 1))) none none)
  (hu : P.underlying ty = some (.slice (P.elem ty))) (hz : ∀ w, (sizeOf (P.elem ty)).run P w = .ok 1 w) {α : Type} {enc : α -> List Value} {Pr : Nat -> Prop} {xs : List α} {y : α} {v : Value} (hx : a.eval x = v) (hv : SlP Pr w 1 enc v (y :: xs))
  (hK : ∀ v', SlP Pr w 1 enc v' xs -> wpList P ops Q rest (a.put o.dst v') w) : wpList P ops Q (o :: rest) a w := by
 refine zEs hg fun K' hK' => ?_; obtain ⟨p, cap, rfl, c1, c2, hR, hq⟩ := hv; obtain ⟨b, off, rfl, hbl, hc⟩ := hR.at (i := 0) zi; simp only [zI] at c1 hx; unfold Oper.wp; have h1 : ((1 : Int) <= ((xs.length + 1 : Nat) : Int)) := om; have hr := run_slice_l (P := P) (w := w) ty (some ⟨b, off, none⟩) (xs.length + 1) cap hu .i64 1 om h1; have hs := run_sliceAt_slice (P := P) (w := w) ty (.slice (some ⟨b, off, none⟩) (xs.length + 1) cap) (some (.int .i64 1)) none none hu; have hev : a.eval (.const (.int .i64 1)) = .int .i64 1 := rfl; simp only [execOp, hop, hx, mZ, Option.map_none, kS, hev, hs, hr, hz, jA, qN, Oper.upon_value, sliced]; refine hK' _ _ (hK _ ?_); rw [show Int.toNat 1 = 1 from rfl]
 by_cases hcap : cap = 1
 ·subst hcap
  have hxs : xs = [] := zX om; subst hxs; exact SlP.tailA zi hR (hq _ rfl zi)
 ·rw [zH hcap]
  exact SlP.tailB c1 c2 hR (hq _ rfl zi)
theorem SlP.bd {q : Nat -> Prop} {α : Type} {enc : α -> List Value} {w : World} {k : Nat} {v : Value} {xs : List α} (h : SlP q w k enc v xs) : SlP (fun b => q b /\ b < w.heap.size) w k enc v xs := by
 obtain ⟨p, c, h1, h2, h3, h4, h5⟩ := h; exact ⟨p, c, h1, h2, h3, h4, fun a ha hn => ⟨h5 a ha hn, (h4.2 a ha hn).2.1⟩⟩
def zEi (o : Option Sc.Stp) (W : World) (e : Ending) (W' : World) : Prop := ∃ s', e = .returned (.tuple #[.agg (zY s'), .bool o.isSome]) /\ s'.t = o.getD Sc.z /\ s'.t.pf.addr.length = 16 /\ xX (fun b => W.heap.size <= b) W' s' /\ zW W W'
def sv (t : Sc.Stp) : StV := ⟨t, .slice none 0 0, .slice none 0 0, .slice none 0 0, .slice none 0 0⟩
theorem bX {q : Nat -> Prop} {w : World} {t : Sc.Stp} (h1 : t.hop = Sc.hop0) (h2 : t.ways = []) (h3 : t.bytes = []) : xX q w (sv t) := ⟨by show SlP q w 1 encI _ t.hop.labels; rw [h1]; exact SlP.nil _ _ _, by show SlP q w 1 encI _ t.hop.repair; rw [h1]; exact SlP.nil _ _ _, by show SlP q w 2 aV _ t.ways; rw [h2]; exact SlP.nil _ _ _, by show SlP q w 1 encB _ t.bytes; rw [h3]; exact SlP.nil _ _ _⟩
theorem uQ : (prog.info? 37).map (·.size) = some 36 := kf
theorem zDv {s : StV} (h1 : s.vl.oneCell' = true) (h2 : s.vr.oneCell' = true) (h3 : s.vw.oneCell' = true) (h4 : s.vb.oneCell' = true) : (zY s).all (·.oneCell') = true := by
 refine sV fun v hv => ?_; simp only [uC, preL, pfL, hopL, sD, uS, yC, yJ, xQ, yR, xR, vB, jV, mW] at hv
 rcases hv with rfl | rfl | rfl | rfl | rfl | rfl | rfl | rfl | ⟨c, -, rfl⟩ | rfl | rfl | rfl | rfl | rfl | rfl | rfl | rfl | rfl | rfl | rfl | rfl
 all_goals first | rfl | assumption
theorem SlP.one {q : Nat -> Prop} {α : Type} {enc : α -> List Value} {w : World} {k : Nat} {v : Value} {xs : List α} (h : SlP q w k enc v xs) : v.oneCell' = true := by
 obtain ⟨p, c, rfl, -⟩ := h; rfl
theorem xX.one {q : Nat -> Prop} {w : World} {s : StV} (h : xX q w s) : (zY s).all (·.oneCell') = true := zDv h.l.one h.r.one h.ws.one h.b.one
theorem lZ (x : Hp.Wd) : (Sc.partsOf x).length <= 3 := by
 by_cases h : Sc.partsOf x = []
 ·rw [h]; decide
 ·rcases Sc.parts_word h with (rfl | rfl) | ⟨h1, h2, h3⟩
  ·decide
  ·decide
  ·unfold Sc.partsOf
   rw [zH (by rintro (e | e); exact h1 e; exact h2 e)]; have : ∀ k, k < 16 -> (Sc.partsK.getD k []).length <= 3 := zd; exact this _ h3
theorem bJ (w : World) : (zeroValue 37).run prog w = .ok (.agg (zY (sv Sc.z))) w := kf
def NX (w : World) (X : Nat) (b : Nat) : Prop := b ≠ X /\ w.heap.size < b
structure OnS (w : World) (X lo : Nat) (ps : List Sc.Part) (z : Option (Sc.Stp × List Hp.Wd)) (k : Nat) (s : StV) (left : List Hp.Wd) (vl vk : Value) (wr : World) : Prop where
 S : StAt wr X s
 I : xX (NX w X) wr s
 V : SlP (NX w X) wr 1 encS vl left
 W : .W ∈ ps.drop k -> s.t.ways = [] /\ s.vw = .slice none 0 0
 F : aU left
 eq : z = Sc.reads (ps.drop k) s.t left
 P : uM lo wr vk ps
 B : zW w wr
 R : Blk wr w.heap.size 37 (zY (sv Sc.z))
 XL : X < lo
 XR : w.heap.size < X
 T : ST w
theorem OnS.below {w wr w' : World} {X lo k : Nat} {ps : List Sc.Part} {z : Option (Sc.Stp × List Hp.Wd)} {s : StV} {left : List Hp.Wd} {vl vk : Value} (h : OnS w X lo ps z k s left vl vk wr) (hb : zW wr w') : OnS w X lo ps z k s left vl vk w' :=
 ⟨h.S.next hb, h.I.below hb zn, h.V.below hb zn, h.W, h.F, h.eq, h.P.below hb, h.B.trans (hb.mono h.B.size), h.R.below hb h.R.lt, h.XL, h.XR, h.T⟩
theorem xX.setRowR {w wr : World} {X : Nat} {s : StV} (h : xX (NX w X) wr s) (cs : Array Value) : xX (NX w X) (wr.setRow w.heap.size cs) s :=
 h.grown (uV _ _ _) fun b hb => by have := hb.2; simp; omega
theorem OnS.next {w wr w' : World} {X lo k : Nat} {ps : List Sc.Part} {z : Option (Sc.Stp × List Hp.Wd)} {s s' : StV} {left r : List Hp.Wd} {vl vk v' : Value} (h : OnS w X lo ps z k s left vl vk wr) (hnd : ps.Nodup) {p : Sc.Part} (hp : ps[k]? = some p)
  (hr : Sc.read p s.t left = some (s'.t, r)) (hg : wr.grownBy w' (some X)) (h1 : StAt w' X s') (h2 : xX (NX w X) w' s') (h3 : SlP (NX w X) w' 1 encS v' r) (h4 : p ≠ .W -> s'.vw = s.vw) : OnS w X lo ps z (k + 1) s' r v' vk w' := by
 obtain ⟨hk, hpk⟩ := zL.1 hp; have hd : ps.drop k = p :: ps.drop (k + 1) := by rw [yE hk, hpk]
 refine ⟨h1, h2, h3, fun hw => ?_, h.F.read hr, by rw [h.eq, hd, Sc.reads, hr], h.P.grown hg h.XL, h.B.trans (jB hg h.B.size (by have := h.XR; omega)), h.R.grown hg (by have := h.XR; omega), h.XL, h.XR, h.T⟩
 have hn : p ≠ .W := fun e => by
  subst e; have hnd2 : (ps.drop k).Nodup := hnd.sublist (List.drop_sublist _ _); rw [hd] at hnd2; exact (List.nodup_cons.1 hnd2).1 hw
 obtain ⟨a, b⟩ := h.W (by rw [hd]; exact yP _ hw); exact ⟨by rw [read_ways hn hr]; exact a, by rw [h4 hn]; exact b⟩
theorem oG (l : List UInt8) (hl : l.length <= 65536) (w : World) (ht : ST w) :
  Calls prog 10 #[.string (str l)] w (zEi (Sc.oneR l) w) := by
 have HW := qh fun W => zEa l om W; have HF := qh (aU.spl hl); have HT := qh ht
 obtain ⟨x, r, hxr⟩ : ∃ x r, Hp.spl l = x :: r := by
  cases h : Hp.spl l with
  | nil => exact absurd h (Hp.spl_ne l)
  | cons x r => exact ⟨x, r, rfl⟩
 have HO : Hid (Sc.oneR l = match Sc.reads (Sc.partsOf x) (Sc.x0 x) r with | some (y, []) => if Sc.partsOf x = [] then none else some y | _ => none) := qh (by unfold Sc.oneR; rw [hxr]; rfl); rw [hxr] at HW HF; generalize Sc.oneR l = o at *; have hxl : x.length <= 65536 := HF.o.2.1 x yH; have HFR := qh HF.o.tail; have hrl : r.length + 1 <= 1048576 := by have := HF.o.1; simpa using this
 have HP := qh fun W => zEh x om W; have HI := qh fun W h => scr_index x W h; have HND : Hid (Sc.partsOf x).Nodup := qh Sc.parts_good.1; have HPL : Hid ((Sc.partsOf x).length <= 3) := qh (lZ x); have HKM := qh (kind_max x); have harr : prog.arrayLen 82 = 16 := kf
 obtain ⟨c1, c2, hcc, HX0⟩ : ∃ c1 c2 : Bool, (c1 = true /\ c2 = false ∨ c1 = false /\ c2 = true ∨ c1 = false /\ c2 = false) /\ Hid ((x == ([105, 112] : List UInt8)) = c1 /\ (x == ([109, 112, 108, 115] : List UInt8)) = c2 /\ Sc.x0 x = { Sc.z with is := c1 || c2, mpls := c2, kind := max (bI x) 0 }) := by
  refine ⟨decide (x = Sc.wIp), decide (x = Sc.wMpls), ?_, qh ⟨?_, ?_, by rw [kind_max]; rfl⟩⟩
  ·by_cases h1 : x = Sc.wIp
   ·subst h1; decide
   ·by_cases h2 : x = Sc.wMpls
    ·subst h2; decide
    ·rw [zM h1, zM h2]; exact Or.inr (Or.inr ⟨rfl, rfl⟩)
  ·by_cases h : x = Sc.wIp
   ·rw [zV h]; exact uP.2 h
   ·rw [zM h]; exact yF.2 h
  ·by_cases h : x = Sc.wMpls
   ·rw [zV h]; exact uP.2 h
   ·rw [zM h]; exact yF.2 h
 obtain ⟨e1, e2, -⟩ := HX0.o; have htl := vX; have HX1 : Hid (Sc.x0 x = { Sc.z with is := c1 || c2, mpls := c2, kind := max (bI x) 0 }) := qh HX0.o.2.2; clear hxr ht hl HX0; generalize Sc.partsOf x = ps at *; generalize Sc.x0 x = t0 at *
 rcases hcc with ⟨rfl, rfl⟩ | ⟨rfl, rfl⟩ | ⟨rfl, rfl⟩
 go_enter func10, ntmps10
 go_wp2_with (refine zQ rfl _ rfl _ bJ ?_; intro wz hwz; have HRZ : Hid (Blk wz w.heap.size 37 (zY (sv Sc.z))) := (by rw [hwz]; exact qh (Blk.new _ _ _)); have HBZ : Hid (zW w wz) := (by rw [hwz]; exact qh (yD w _)); clear hwz)
 refine (HW.o _).mono ?_; rintro e w1 ⟨v1, rfl, ho1, hb1⟩; have hz1 := HRZ.o.lt; have HR1 := qh (HRZ.o.below hb1 HRZ.o.lt); have HB1 := qh (HBZ.o.trans (hb1.mono HBZ.o.size)); have HT1 := qh (HT.o.below HB1.o); have HV1 := qh (SlP.of_owns vU ho1); have hb1s := hb1.size; obtain ⟨p1, k1, rfl⟩ := uG ho1; obtain ⟨pp, cap, hvv, q1, q2, hR, hq⟩ := HV1.o
 cases hvv; obtain ⟨b, off, rfl, hbl2, hc⟩ := hR.at (i := 0) zi; have hx := hc 0 (.string (str x)) rfl; simp only [jP, xN] at hx; clear hR hq hc hb1
 go_wp2_with (first
  | (refine zQ rfl _ rfl _ bJ ?_; intro w2 hw2; have HX2 : Hid (Blk w2 w1.heap.size 37 (zY (sv Sc.z))) := (by rw [hw2]; exact qh (Blk.new _ _ _)); have HB2 : Hid (zW w1 w2) := (by rw [hw2]; exact qh (yD w1 _)); have HZ2 : Hid (w2.heap.size = w1.heap.size + 1) := (by rw [hw2]; exact qh zi); clear hw2)
  | ((refine zJ rfl _ (.tmp 6) (.tmp 23) rfl w1.heap.size (zY (sv { Sc.z with is := true })) rf rf _ _ HX2.o (by rw [zO]; exact uQ) (by rw [zO, zO]) (bX (q := fun _ => True) (w := w) rfl rfl rfl).one ?_; intro w3 hw3; have HX3 : Hid (Blk w3 w1.heap.size 37 (zY (sv { Sc.z with is := true }))) := (by rw [hw3]; exact qh (HX2.o.setRow _)); have HB3 : Hid (zW w1 w3) := (by rw [hw3]; exact qh (below_setRow HB2.o zn _)); have HZ3 : Hid (w3.heap.size = w1.heap.size + 1) := (by rw [hw3]; exact qh (by unfold World.setRow; simp [HZ2.o])); clear hw3; have HS3 : Hid (StAt w3 w1.heap.size (sv { Sc.z with is := true })) := qh ⟨HX3.o, rfl⟩; have c34 := HS3.o.c34; have f34 := HS3.o.fz 34; have c1 := HS3.o.c1; have f1 := HS3.o.fz 1; simp only [sv, Sc.z] at c34 c1)))
 have HS4 : Hid (StAt (w3.setCell ⟨w1.heap.size, 34, none⟩ (.bool false)) w1.heap.size (sv { Sc.z with is := true, mpls := false })) := qh (HS3.o.setM false); have HB4 : Hid (zW w1 (w3.setCell ⟨w1.heap.size, 34, none⟩ (.bool false))) := qh (HB3.o.setCell zn _); refine zU (HI.o _ (HT1.o.below HB4.o)) ?_; have c1' := HS4.o.c1; have f1' := HS4.o.fz 1; go_wp2_with fail
 refine (HP.o _).mono ?_; rintro e w5 ⟨v5, rfl, hb5, hp5⟩; have HB5 : Hid (zW w1 w5) := qh ((HB4.o.setCell zn _).trans (hb5.mono (HB4.o.setCell zn _).size)); have HL5 : Hid (((w3.setCell ⟨w1.heap.size, 34, none⟩ (.bool false)).setCell ⟨w1.heap.size, 1, none⟩ (.int .i64 (max (bI x) 0))).heap.size = w1.heap.size + 1) := qh (by rw [tF, tF]; exact HZ3.o); have HS5 : Hid (StAt w5 w1.heap.size (sv { Sc.z with is := true, mpls := false, kind := max (bI x) 0 })) := qh ((HS4.o.setKind _).next hb5); have HP5 : Hid (uM (w1.heap.size + 1) w5 v5 ps) := qh (by rw [HL5.o] at hp5; exact hp5); have HV5 : Hid (SlP (NX w w1.heap.size) w5 1 encS (.slice (some ⟨b, off, none⟩) (r.length + 1) k1) (x :: r)) := qh ((HV1.o.bd.below HB5.o zn).imp fun b hb => ⟨Nat.ne_of_lt hb.2, by have := hb.1; omega⟩); have HB6 : Hid (zW w w5) := qh (HB1.o.trans (HB5.o.mono HB1.o.size)); have HR5 := qh (HR1.o.below HB5.o HR1.o.lt); clear hb5 hp5 HL5 HX2 HX3 HS3 HS4 HB2 HB3 HB4 HZ2 HZ3 HV1 hx c34 f34 c1 f1 c1' f1'; obtain ⟨rows, hpl, p5, c5, rfl, -⟩ := HP5.o; have hlr := hpl.len; have hn5 : rows.length <= 3 := by rw [hlr]; exact HPL.o
 clear hpl
 go_wp2_with (refine fM rfl 79 (.tmp 36) rf underlying79 (fun w => kf) (v := .slice (some ⟨b, off, none⟩) (r.length + 1) k1) rf HV5.o ?_; intro v6 hv6; have HV6 := qh hv6; clear hv6)
 have HO0 : Hid (OnS w w1.heap.size (w1.heap.size + 1) ps (Sc.reads ps t0 r) 0 (sv { Sc.z with is := true, mpls := false, kind := max (bI x) 0 }) r v6 (.slice p5 ps.length c5) w5) := qh ⟨HS5.o, bX rfl rfl rfl, HV6.o, fun _ => ⟨rfl, rfl⟩, HFR.o, (by rw [xU, HX1.o]; rfl), (by have := HP5.o; rw [hlr] at this; exact this), HB6.o, HR5.o, sJ _, xC hz1 hb1s, HT.o⟩; clear HS5 HP5 HV5 HV6 HB5 HB6 HR5 hlr hn5; generalize Sc.reads ps t0 r = Z at *; rotate_left
 go_enter func10, ntmps10
 go_wp2_with (refine zQ rfl _ rfl _ bJ ?_; intro wz hwz; have HRZ : Hid (Blk wz w.heap.size 37 (zY (sv Sc.z))) := (by rw [hwz]; exact qh (Blk.new _ _ _)); have HBZ : Hid (zW w wz) := (by rw [hwz]; exact qh (yD w _)); clear hwz)
 refine (HW.o _).mono ?_; rintro e w1 ⟨v1, rfl, ho1, hb1⟩; have hz1 := HRZ.o.lt; have HR1 := qh (HRZ.o.below hb1 HRZ.o.lt); have HB1 := qh (HBZ.o.trans (hb1.mono HBZ.o.size)); have HT1 := qh (HT.o.below HB1.o); have HV1 := qh (SlP.of_owns vU ho1); have hb1s := hb1.size; obtain ⟨p1, k1, rfl⟩ := uG ho1; obtain ⟨pp, cap, hvv, q1, q2, hR, hq⟩ := HV1.o
 cases hvv; obtain ⟨b, off, rfl, hbl2, hc⟩ := hR.at (i := 0) zi; have hx := hc 0 (.string (str x)) rfl; simp only [jP, xN] at hx; clear hR hq hc hb1
 go_wp2_with (first
  | (refine zQ rfl _ rfl _ bJ ?_; intro w2 hw2; have HX2 : Hid (Blk w2 w1.heap.size 37 (zY (sv Sc.z))) := (by rw [hw2]; exact qh (Blk.new _ _ _)); have HB2 : Hid (zW w1 w2) := (by rw [hw2]; exact qh (yD w1 _)); have HZ2 : Hid (w2.heap.size = w1.heap.size + 1) := (by rw [hw2]; exact qh zi); clear hw2)
  | ((refine zJ rfl _ (.tmp 6) (.tmp 23) rfl w1.heap.size (zY (sv { Sc.z with is := true })) rf rf _ _ HX2.o (by rw [zO]; exact uQ) (by rw [zO, zO]) (bX (q := fun _ => True) (w := w) rfl rfl rfl).one ?_; intro w3 hw3; have HX3 : Hid (Blk w3 w1.heap.size 37 (zY (sv { Sc.z with is := true }))) := (by rw [hw3]; exact qh (HX2.o.setRow _)); have HB3 : Hid (zW w1 w3) := (by rw [hw3]; exact qh (below_setRow HB2.o zn _)); have HZ3 : Hid (w3.heap.size = w1.heap.size + 1) := (by rw [hw3]; exact qh (by unfold World.setRow; simp [HZ2.o])); clear hw3; have HS3 : Hid (StAt w3 w1.heap.size (sv { Sc.z with is := true })) := qh ⟨HX3.o, rfl⟩; have c34 := HS3.o.c34; have f34 := HS3.o.fz 34; have c1 := HS3.o.c1; have f1 := HS3.o.fz 1; simp only [sv, Sc.z] at c34 c1)))
 have HS4 : Hid (StAt (w3.setCell ⟨w1.heap.size, 34, none⟩ (.bool true)) w1.heap.size (sv { Sc.z with is := true, mpls := true })) := qh (HS3.o.setM true); have HB4 : Hid (zW w1 (w3.setCell ⟨w1.heap.size, 34, none⟩ (.bool true))) := qh (HB3.o.setCell zn _); refine zU (HI.o _ (HT1.o.below HB4.o)) ?_; have c1' := HS4.o.c1; have f1' := HS4.o.fz 1; go_wp2_with fail
 refine (HP.o _).mono ?_; rintro e w5 ⟨v5, rfl, hb5, hp5⟩; have HB5 : Hid (zW w1 w5) := qh ((HB4.o.setCell zn _).trans (hb5.mono (HB4.o.setCell zn _).size)); have HL5 : Hid (((w3.setCell ⟨w1.heap.size, 34, none⟩ (.bool true)).setCell ⟨w1.heap.size, 1, none⟩ (.int .i64 (max (bI x) 0))).heap.size = w1.heap.size + 1) := qh (by rw [tF, tF]; exact HZ3.o); have HS5 : Hid (StAt w5 w1.heap.size (sv { Sc.z with is := true, mpls := true, kind := max (bI x) 0 })) := qh ((HS4.o.setKind _).next hb5); have HP5 : Hid (uM (w1.heap.size + 1) w5 v5 ps) := qh (by rw [HL5.o] at hp5; exact hp5); have HV5 : Hid (SlP (NX w w1.heap.size) w5 1 encS (.slice (some ⟨b, off, none⟩) (r.length + 1) k1) (x :: r)) := qh ((HV1.o.bd.below HB5.o zn).imp fun b hb => ⟨Nat.ne_of_lt hb.2, by have := hb.1; omega⟩); have HB6 : Hid (zW w w5) := qh (HB1.o.trans (HB5.o.mono HB1.o.size)); have HR5 := qh (HR1.o.below HB5.o HR1.o.lt); clear hb5 hp5 HL5 HX2 HX3 HS3 HS4 HB2 HB3 HB4 HZ2 HZ3 HV1 hx c34 f34 c1 f1 c1' f1'; obtain ⟨rows, hpl, p5, c5, rfl, -⟩ := HP5.o; have hlr := hpl.len; have hn5 : rows.length <= 3 := by rw [hlr]; exact HPL.o
 clear hpl
 go_wp2_with (refine fM rfl 79 (.tmp 36) rf underlying79 (fun w => kf) (v := .slice (some ⟨b, off, none⟩) (r.length + 1) k1) rf HV5.o ?_; intro v6 hv6; have HV6 := qh hv6; clear hv6)
 have HO0 : Hid (OnS w w1.heap.size (w1.heap.size + 1) ps (Sc.reads ps t0 r) 0 (sv { Sc.z with is := true, mpls := true, kind := max (bI x) 0 }) r v6 (.slice p5 ps.length c5) w5) := qh ⟨HS5.o, bX rfl rfl rfl, HV6.o, fun _ => ⟨rfl, rfl⟩, HFR.o, (by rw [xU, HX1.o]; rfl), (by have := HP5.o; rw [hlr] at this; exact this), HB6.o, HR5.o, sJ _, xC hz1 hb1s, HT.o⟩; clear HS5 HP5 HV5 HV6 HB5 HB6 HR5 hlr hn5; generalize Sc.reads ps t0 r = Z at *; rotate_left
 go_enter func10, ntmps10
 go_wp2_with (refine zQ rfl _ rfl _ bJ ?_; intro wz hwz; have HRZ : Hid (Blk wz w.heap.size 37 (zY (sv Sc.z))) := (by rw [hwz]; exact qh (Blk.new _ _ _)); have HBZ : Hid (zW w wz) := (by rw [hwz]; exact qh (yD w _)); clear hwz)
 refine (HW.o _).mono ?_; rintro e w1 ⟨v1, rfl, ho1, hb1⟩; have hz1 := HRZ.o.lt; have HR1 := qh (HRZ.o.below hb1 HRZ.o.lt); have HB1 := qh (HBZ.o.trans (hb1.mono HBZ.o.size)); have HT1 := qh (HT.o.below HB1.o); have HV1 := qh (SlP.of_owns vU ho1); have hb1s := hb1.size; obtain ⟨p1, k1, rfl⟩ := uG ho1; obtain ⟨pp, cap, hvv, q1, q2, hR, hq⟩ := HV1.o
 cases hvv; obtain ⟨b, off, rfl, hbl2, hc⟩ := hR.at (i := 0) zi; have hx := hc 0 (.string (str x)) rfl; simp only [jP, xN] at hx; clear hR hq hc hb1
 go_wp2_with (first
  | (refine zQ rfl _ rfl _ bJ ?_; intro w2 hw2; have HX2 : Hid (Blk w2 w1.heap.size 37 (zY (sv Sc.z))) := (by rw [hw2]; exact qh (Blk.new _ _ _)); have HB2 : Hid (zW w1 w2) := (by rw [hw2]; exact qh (yD w1 _)); have HZ2 : Hid (w2.heap.size = w1.heap.size + 1) := (by rw [hw2]; exact qh zi); clear hw2)
  | ((refine zJ rfl _ (.tmp 6) (.tmp 23) rfl w1.heap.size (zY (sv { Sc.z with is := false })) rf rf _ _ HX2.o (by rw [zO]; exact uQ) (by rw [zO, zO]) (bX (q := fun _ => True) (w := w) rfl rfl rfl).one ?_; intro w3 hw3; have HX3 : Hid (Blk w3 w1.heap.size 37 (zY (sv { Sc.z with is := false }))) := (by rw [hw3]; exact qh (HX2.o.setRow _)); have HB3 : Hid (zW w1 w3) := (by rw [hw3]; exact qh (below_setRow HB2.o zn _)); have HZ3 : Hid (w3.heap.size = w1.heap.size + 1) := (by rw [hw3]; exact qh (by unfold World.setRow; simp [HZ2.o])); clear hw3; have HS3 : Hid (StAt w3 w1.heap.size (sv { Sc.z with is := false })) := qh ⟨HX3.o, rfl⟩; have c34 := HS3.o.c34; have f34 := HS3.o.fz 34; have c1 := HS3.o.c1; have f1 := HS3.o.fz 1; simp only [sv, Sc.z] at c34 c1)))
 have HS4 : Hid (StAt (w3.setCell ⟨w1.heap.size, 34, none⟩ (.bool false)) w1.heap.size (sv { Sc.z with is := false, mpls := false })) := qh (HS3.o.setM false); have HB4 : Hid (zW w1 (w3.setCell ⟨w1.heap.size, 34, none⟩ (.bool false))) := qh (HB3.o.setCell zn _); refine zU (HI.o _ (HT1.o.below HB4.o)) ?_; have c1' := HS4.o.c1; have f1' := HS4.o.fz 1; go_wp2_with fail
 refine (HP.o _).mono ?_; rintro e w5 ⟨v5, rfl, hb5, hp5⟩; have HB5 : Hid (zW w1 w5) := qh ((HB4.o.setCell zn _).trans (hb5.mono (HB4.o.setCell zn _).size)); have HL5 : Hid (((w3.setCell ⟨w1.heap.size, 34, none⟩ (.bool false)).setCell ⟨w1.heap.size, 1, none⟩ (.int .i64 (max (bI x) 0))).heap.size = w1.heap.size + 1) := qh (by rw [tF, tF]; exact HZ3.o); have HS5 : Hid (StAt w5 w1.heap.size (sv { Sc.z with is := false, mpls := false, kind := max (bI x) 0 })) := qh ((HS4.o.setKind _).next hb5); have HP5 : Hid (uM (w1.heap.size + 1) w5 v5 ps) := qh (by rw [HL5.o] at hp5; exact hp5); have HV5 : Hid (SlP (NX w w1.heap.size) w5 1 encS (.slice (some ⟨b, off, none⟩) (r.length + 1) k1) (x :: r)) := qh ((HV1.o.bd.below HB5.o zn).imp fun b hb => ⟨Nat.ne_of_lt hb.2, by have := hb.1; omega⟩); have HB6 : Hid (zW w w5) := qh (HB1.o.trans (HB5.o.mono HB1.o.size)); have HR5 := qh (HR1.o.below HB5.o HR1.o.lt); clear hb5 hp5 HL5 HX2 HX3 HS3 HS4 HB2 HB3 HB4 HZ2 HZ3 HV1 hx c34 f34 c1 f1 c1' f1'; obtain ⟨rows, hpl, p5, c5, rfl, -⟩ := HP5.o; have hlr := hpl.len; have hn5 : rows.length <= 3 := by rw [hlr]; exact HPL.o
 clear hpl
 go_wp2_with (refine fM rfl 79 (.tmp 36) rf underlying79 (fun w => kf) (v := .slice (some ⟨b, off, none⟩) (r.length + 1) k1) rf HV5.o ?_; intro v6 hv6; have HV6 := qh hv6; clear hv6)
 have HO0 : Hid (OnS w w1.heap.size (w1.heap.size + 1) ps (Sc.reads ps t0 r) 0 (sv { Sc.z with is := false, mpls := false, kind := max (bI x) 0 }) r v6 (.slice p5 ps.length c5) w5) := qh ⟨HS5.o, bX rfl rfl rfl, HV6.o, fun _ => ⟨rfl, rfl⟩, HFR.o, (by rw [xU, HX1.o]; rfl), (by have := HP5.o; rw [hlr] at this; exact this), HB6.o, HR5.o, sJ _, xC hz1 hb1s, HT.o⟩; clear HS5 HP5 HV5 HV6 HB5 HB6 HR5 hlr hn5; generalize Sc.reads ps t0 r = Z at *
 all_goals
  go_loopw [4, 9, 10, 11, 40] (fun vl _ _ _ vi wr => ∃ (k : Nat) (s : StV) (left : List Hp.Wd), vi = .int .i64 k /\ k <= ps.length /\ Hid (OnS w w1.heap.size (w1.heap.size + 1) ps Z k s left vl (.slice p5 ps.length c5) wr)) (fun _ _ _ _ vi _ => ps.length - (intOf vi).toNat)
  case atStart => exact ⟨0, _, r, rfl, yQ _, HO0⟩
  case round =>
   obtain ⟨k, s, left, rfl, hk, HU⟩ := hrel; have hps := HPL.o; have hwr := HU.o.B.size; have hXr := HU.o.S.lt
   by_cases hlt : k < ps.length
   ·obtain ⟨pk, hpk⟩ : ∃ p, ps[k]? = some p := ⟨_, zA hlt⟩
    obtain ⟨rows, hpl, hsl⟩ := HU.o.P; obtain ⟨p6, c6, hvv, q1, q2, hR, -⟩ := hsl; have hlr : rows.length = ps.length := hpl.len; have hrk : k < rows.length := om; obtain ⟨b6, o6, hb6, hbl6, hc⟩ := hR.at hrk; injection hvv with e1 e2 e3
    subst e1 e3 hb6; clear e2; obtain ⟨vs, vr, hvr⟩ : ∃ vs vr, rows[k] = (vs, vr) := ⟨_, _, rfl⟩; rw [hvr] at hc; have hc0 := hc 0 vs rfl; have hc1 := hc 1 vr rfl; simp only [xN] at hc0; have hpv := hpl.get hpk (by rw [zA hrk, hvr]); obtain ⟨f, g, cf, cg, rfl, rfl, ef, eg, hsh, hrd⟩ := hpv; have hent := eg; unfold Ent at hent; have HPK := qh hpk; have HBX : Hid (zW wr (wr.alloc (.cells #[.func (.func f) #[] cf, .func (.func g) #[] cg] 88))) := qh (yD wr _); have HU2 := qh (HU.o.below HBX.o); have HRD := qh (hrd (wr.alloc (.cells #[.func (.func f) #[] cf, .func (.func g) #[] cg] 88)) w1.heap.size s u4 left (NX w w1.heap.size) (fun b hb => hb.1) (fun b hb => by have := HU.o.XR; simp at hb; exact ⟨om, om⟩) (Agree.of_below HBX.o zn) zi ⟨w, HT.o, HU2.o.B, jI HU.o.XR⟩ om HU2.o.S HU2.o.I (fun e => HU2.o.W (by rw [yE hlt, ← e]; have := zL.1 hpk; obtain ⟨_, h9⟩ := this; rw [h9]; exact yH)) HU2.o.F HU2.o.V)
    have HEQ : Hid (Z = match Sc.read pk s.t left with | some (y, q) => Sc.reads (ps.drop (k + 1)) y q | none => none) := qh (by
     rw [HU.o.eq, yE hlt]; obtain ⟨_, h9⟩ := zL.1 hpk; rw [h9]; rfl)
    obtain ⟨ro, hro⟩ : ∃ ro, Sc.read pk s.t left = ro := ⟨_, rfl⟩; rw [hro] at HRD HEQ; have HRO := qh hro; clear hc hpl hR hsh hrd hpk hvr ef eg hXr hro; go_wp2_with fail
    refine HRD.o.mono ?_; rintro e w7 ⟨hgr, v7, rfl, hy⟩; have HGR := qh hgr; have HY := qh hy; have HR7 : Hid (Blk w7 w.heap.size 37 (zY (sv Sc.z))) := qh (HU2.o.R.grown hgr (by have := HU.o.XR; omega)); have HB7 : Hid (zW w w7) := qh (HU2.o.B.trans (jB hgr HU2.o.B.size (jI HU.o.XR))); clear hgr hy HRD
    cases ro with
    |none =>
     have HON : Hid (o = none) := qh (by rw [HO.o, HEQ.o]); clear HEQ HRO HY
     go_wp2_with (refine zJ rfl _ (.tmp 2) (.tmp 53) rfl w.heap.size (zY (sv Sc.z)) rf rf _ _ HR7.o (by rw [zO]; exact uQ) (by rw [zO]) (bX (q := fun _ => True) (w := w) rfl rfl rfl).one ?_; intro w8 hw8; have HR8 : Hid (Blk w8 w.heap.size 37 (zY (sv Sc.z))) := (by rw [hw8]; exact qh (HR7.o.setRow _)); have HB8 : Hid (zW w w8) := (by rw [hw8]; exact qh (below_setRow HB7.o zn _)); clear hw8)
     exact zC (results_cell_tmp rfl _ _ _ _ _ _ _ rfl HR8.o underlying37 rfl (by rw [zO]; exact uQ)) rfl ⟨sv Sc.z, by rw [HON.o]; rfl, by rw [HON.o]; rfl, rfl, bX rfl rfl rfl, HB8.o⟩
    |some yq =>
     obtain ⟨y, q⟩ := yq; obtain ⟨s', rfl, h1, h2, h3, h4⟩ := HY.o y q rfl; have HN := qh (HU2.o.next HND.o HPK.o HRO.o HGR.o h1 h2 h3 h4); clear HEQ HRO HY h1 h2 h3 h4
     go_wp2
     exact ⟨⟨k + 1, s', q, by go_num, om, HN⟩, by simp [intOf]; omega⟩
   ·obtain rfl : k = ps.length := om
    have HZ : Hid (Z = some (s.t, left)) := qh (by rw [HU.o.eq, qO]; rfl); have HR7 := qh HU.o.R; have HB7 := qh HU.o.B; obtain ⟨pl, cl, rfl, l1, l2, -⟩ := HU.o.V
    by_cases hp0 : ps = []
    ·have HON : Hid (o = none) := qh (by rw [HO.o, HZ.o]; cases left <;> simp [hp0])
     subst hp0; simp only [xI] at *
     go_wp2_with (refine zJ rfl _ (.tmp 2) (.tmp 64) rfl w.heap.size (zY (sv Sc.z)) rf rf _ _ HR7.o (by rw [zO]; exact uQ) (by rw [zO]) (bX (q := fun _ => True) (w := w) rfl rfl rfl).one ?_; intro w8 hw8; have HR8 : Hid (Blk w8 w.heap.size 37 (zY (sv Sc.z))) := (by rw [hw8]; exact qh (HR7.o.setRow _)); have HB8 : Hid (zW w w8) := (by rw [hw8]; exact qh (below_setRow HB7.o zn _)); clear hw8)
     exact zC (results_cell_tmp rfl _ _ _ _ _ _ _ rfl HR8.o underlying37 rfl (by rw [zO]; exact uQ)) rfl ⟨sv Sc.z, by rw [HON.o]; rfl, by rw [HON.o]; rfl, rfl, bX rfl rfl rfl, HB8.o⟩
    ·have hpp : 0 < ps.length := kU.2 hp0
     have hpe : ((ps.length : Int) == 0) = false := by simp only [yF, qR]; omega
     by_cases hl0 : left = []
     ·have HON : Hid (o = some s.t) := qh (by rw [HO.o, HZ.o, hl0]; simp [hp0])
      subst hl0; clear hp0; have HSX := qh HU.o.S; have HIX := qh HU.o.I; have hXR := HU.o.XR; simp only [xI] at *
      go_wp2_with (first
       | (refine wpList_load_row rfl _ (.tmp 6) rfl w1.heap.size rf _ (zY s) (0, 0) _ HSX.o.b underlying37 rfl (by rw [zO]; exact uQ) ?_)
       | (refine zJ rfl _ (.tmp 2) (.tmp 65) rfl w.heap.size (zY s) rf rf _ _ HR7.o (by rw [zO]; exact uQ) (by rw [zO, zO]) HIX.o.one ?_; intro w8 hw8; have HR8 : Hid (Blk w8 w.heap.size 37 (zY s)) := (by rw [hw8]; exact qh (HR7.o.setRow _)); have HB8 : Hid (zW w w8) := (by rw [hw8]; exact qh (below_setRow HB7.o zn _)); have HI8 : Hid (xX (fun b => w.heap.size <= b) w8 s) := (by rw [hw8]; exact qh ((HIX.o.setRowR (zY s)).imp fun _ h => jI h.2)); clear hw8))
      exact zC (results_cell_tmp rfl _ _ _ _ _ _ _ rfl HR8.o underlying37 rfl (by rw [zO]; exact uQ)) rfl ⟨s, by rw [HON.o]; rfl, by rw [HON.o]; rfl, HSX.o.p16, HI8.o, HB8.o⟩
     ·have HON : Hid (o = none) := qh (by rw [HO.o, HZ.o]; cases left with | nil => exact absurd rfl hl0 | cons a b => rfl)
      have hll : 0 < left.length := kU.2 hl0; clear hp0 hl0
      go_wp2_with (refine zJ rfl _ (.tmp 2) (.tmp 64) rfl w.heap.size (zY (sv Sc.z)) rf rf _ _ HR7.o (by rw [zO]; exact uQ) (by rw [zO]) (bX (q := fun _ => True) (w := w) rfl rfl rfl).one ?_; intro w8 hw8; have HR8 : Hid (Blk w8 w.heap.size 37 (zY (sv Sc.z))) := (by rw [hw8]; exact qh (HR7.o.setRow _)); have HB8 : Hid (zW w w8) := (by rw [hw8]; exact qh (below_setRow HB7.o zn _)); clear hw8)
      exact zC (results_cell_tmp rfl _ _ _ _ _ _ _ rfl HR8.o underlying37 rfl (by rw [zO]; exact uQ)) rfl ⟨sv Sc.z, by rw [HON.o]; rfl, by rw [HON.o]; rfl, rfl, bX rfl rfl rfl, HB8.o⟩
def rmA (r : Int × Int × Int) : Array Value := #[.int .i64 r.1, .int .i64 r.2.1, .int .i64 r.2.2]
def rm3 (a b c : Option Int) : Option (Int × Int × Int) := match a, b, c with | some x, some y, some z => some (x, y, z) | _, _, _ => none
def RetRooms (o : Option (Int × Int × Int)) (W : World) (e : Ending) (W' : World) : Prop := e = .returned (.tuple #[.agg (rmA (o.getD (0, 0, 0))), .bool o.isSome]) /\ zW W W'
theorem aY : (prog.info? 55).map (·.size) = some 3 := kf
theorem fJ (r : Int × Int × Int) : (rmA r).all (·.oneCell') = true := by simp [rmA, Value.oneCell']
theorem zeroRm (w : World) : (zeroValue 55).run prog w = .ok (.agg (rmA (0, 0, 0))) w := kf
theorem zero3 (w : World) : (zeroValue 174).run prog w = .ok (.agg #[.int .i64 0, .int .i64 0, .int .i64 0]) w := kf
theorem rooms_none {l : List Hp.Wd} (h : l.length ≠ 4) : Sc.roomsR l = none := by
 match l, h with
 | [], _ => rfl
 | [_], _ => rfl
 | [_, _], _ => rfl
 | [_, _, _], _ => rfl
 | [_, _, _, _], h => exact absurd rfl h
 | _ :: _ :: _ :: _ :: _ :: _, _ => rfl
theorem scr_rooms (l : List Hp.Wd) (hl : l.length <= 1048576) (hx : ∀ x ∈ l, x.length <= 65536) (v : Value) (w : World) (ht : ST w) (hv : SlR w 1 encS v l) :
  Calls prog 80 #[v] w (RetRooms (Sc.roomsR l) w) := by
 have HT := qh ht.p.tabs; obtain ⟨p, cap, rfl, h1, h2, hR⟩ := hv
 by_cases h4 : l.length = 4
 ·obtain ⟨x0, x1, x2, x3, rfl⟩ : ∃ a b c d, l = [a, b, c, d] := by
   match l, h4 with
   | [a, b, c, d], _ => exact ⟨a, b, c, d, rfl⟩
  have HR := qh fun W (hb : zW w W) => hR.below hb zn; obtain ⟨b, off, rfl, hbl, -⟩ := hR.at (i := 0) zi
  have HC : Hid (∀ W, zW w W -> W.cell? ⟨b, off, none⟩ = some (.string (str x0)) /\ W.cell? ⟨b, off + 1, none⟩ = some (.string (str x1)) /\ W.cell? ⟨b, off + 2, none⟩ = some (.string (str x2)) /\ W.cell? ⟨b, off + 3, none⟩ = some (.string (str x3))) := qh fun W hb => by
   have h := HR.o W hb; have c0 := h.in (i := 0) zi 0 _ rfl; have c1 := h.in (i := 1) zi 0 _ rfl; have c2 := h.in (i := 2) zi 0 _ rfl; have c3 := h.in (i := 3) zi 0 _ rfl; exact ⟨by simpa using c0, by simpa using c1, by simpa using c2, by simpa using c3⟩
  have htl := vX; have h1' := hx x1 zi; have h2' := hx x2 zi; have h3' := hx x3 zi; have HN1 := qh fun W (hb : zW w W) => fP x1 om 1073741824 W (HT.o.below hb); have HN2 := qh fun W (hb : zW w W) => fP x2 om 1073741824 W (HT.o.below hb); have HN3 := qh fun W (hb : zW w W) => fP x3 om 1073741824 W (HT.o.below hb); have HO : Hid (Sc.roomsR [x0, x1, x2, x3] = if x0 = Sc.wRooms then rm3 (number x1 1073741824) (number x2 1073741824) (number x3 1073741824) else none) := qh rfl; generalize Sc.roomsR [x0, x1, x2, x3] = o at *; generalize number x1 1073741824 = n1 at *; generalize number x2 1073741824 = n2 at *; generalize number x3 1073741824 = n3 at *; clear hR h4 hx h1' h2' h3' ht hl h1; obtain ⟨d0, d1, d2, d3⟩ := HC.o w zb
  by_cases h0 : x0 = Sc.wRooms
  ·have he : (x0 == ([114, 111, 111, 109, 115] : List UInt8)) = true := uP.2 h0
   have HO1 : Hid (o = rm3 n1 n2 n3) := qh (by rw [HO.o, zN h0]); clear h0 HO
   go_enter func80, ntmps80
   go_wp2_with (first
    | (refine zQ rfl 55 rf _ zeroRm ?_; intro wz hwz; have HRZ : Hid (Blk wz w.heap.size 55 (rmA (0, 0, 0))) := (by rw [hwz]; exact qh (Blk.new _ _ _)); have HBZ : Hid (zW w wz) := (by rw [hwz]; exact qh (yD w _)); clear hwz; have hzz := HRZ.o.lt; clear d0 d1 d2 d3; obtain ⟨d0, d1, d2, d3⟩ := HC.o wz HBZ.o)
    | (refine zQ rfl 174 rf _ zero3 ?_; intro w1 hw1; have HA1 : Hid (Blk w1 wz.heap.size 174 #[.int .i64 0, .int .i64 0, .int .i64 0]) := (by rw [hw1]; exact qh (Blk.new _ _ _)); have HB1 : Hid (zW w w1) := (by rw [hw1]; exact qh (HBZ.o.alloc HBZ.o.size _)); have HR1 : Hid (Blk w1 w.heap.size 55 (rmA (0, 0, 0))) := (by rw [hw1]; exact qh (HRZ.o.alloc _)); clear hw1; clear d0 d1 d2 d3; obtain ⟨d0, d1, d2, d3⟩ := HC.o w1 HB1.o; have hz1 := HA1.o.lt))
   refine wp_loop_rounds 4 ?_; rw [mD]; go_wp2_with fail
   refine zT (HN1.o _ HB1.o) fun v2 hb2 => ?_; have HC2 := qh (HB1.o.trans (hb2.mono HB1.o.size)); have HD2 := qh (HA1.o.below hb2 HA1.o.lt); have HE2 := qh (HR1.o.below hb2 HR1.o.lt); clear d0 d1 d2 d3 hb2; obtain ⟨d0, d1, d2, d3⟩ := HC.o v2 HC2.o
   cases n1 with
   |none =>
    have HON : Hid (o = none) := qh (by rw [HO1.o]; unfold rm3; rfl)
    go_wp2_with (refine zJ rfl _ (.tmp 2) (.tmp 32) rfl w.heap.size (rmA (0, 0, 0)) rf rf _ _ HE2.o aY rfl (fJ _) ?_; intro w8 hw8; have HR8 : Hid (Blk w8 w.heap.size 55 (rmA (0, 0, 0))) := (by rw [hw8]; exact qh (HE2.o.setRow _)); have HB8 : Hid (zW w w8) := (by rw [hw8]; exact qh (below_setRow HC2.o zn _)); clear hw8)
    exact zC (results_cell_tmp rfl _ _ _ _ _ _ _ rfl HR8.o underlying55 rfl aY) rfl ⟨by rw [HON.o]; rfl, HB8.o⟩
   |some a =>
    have q0 := HD2.o.cell 0; have q1 := HD2.o.frozen' 0; simp only [xD, xA, xW] at q0; have HA2 : Hid (Blk (v2.setCell ⟨wz.heap.size, 0, none⟩ (.int .i64 a)) wz.heap.size 174 #[.int .i64 a, .int .i64 0, .int .i64 0]) := qh (HD2.o.set 0 _); have HB2 : Hid (zW w (v2.setCell ⟨wz.heap.size, 0, none⟩ (.int .i64 a))) := qh (HC2.o.setCell HBZ.o.size _); have HR2 : Hid (Blk (v2.setCell ⟨wz.heap.size, 0, none⟩ (.int .i64 a)) w.heap.size 55 (rmA (0, 0, 0))) := qh (HE2.o.other ⟨wz.heap.size, 0, none⟩ _ (by simp only; omega)); clear d0 d1 d2 d3; obtain ⟨d0, d1, d2, d3⟩ := HC.o _ HB2.o; go_wp2_with fail
    rw [mD]; go_wp2_with fail
    refine zT (HN2.o _ HB2.o) fun v3 hb3 => ?_; have HC3 := qh (HB2.o.trans (hb3.mono HB2.o.size)); have HD3 := qh (HA2.o.below hb3 HA2.o.lt); have HE3 := qh (HR2.o.below hb3 HR2.o.lt); clear d0 d1 d2 d3 hb3; obtain ⟨d0, d1, d2, d3⟩ := HC.o v3 HC3.o
    cases n2 with
    |none =>
     have HON : Hid (o = none) := qh (by rw [HO1.o]; unfold rm3; rfl)
     go_wp2_with (refine zJ rfl _ (.tmp 2) (.tmp 32) rfl w.heap.size (rmA (0, 0, 0)) rf rf _ _ HE3.o aY rfl (fJ _) ?_; intro w8 hw8; have HR8 : Hid (Blk w8 w.heap.size 55 (rmA (0, 0, 0))) := (by rw [hw8]; exact qh (HE3.o.setRow _)); have HB8 : Hid (zW w w8) := (by rw [hw8]; exact qh (below_setRow HC3.o zn _)); clear hw8)
     exact zC (results_cell_tmp rfl _ _ _ _ _ _ _ rfl HR8.o underlying55 rfl aY) rfl ⟨by rw [HON.o]; rfl, HB8.o⟩
    |some b1 =>
     have q0 := HD3.o.cell 1; have q1 := HD3.o.frozen' 1; simp only [xD, xA, xW] at q0; have HA3 : Hid (Blk (v3.setCell ⟨wz.heap.size, 1, none⟩ (.int .i64 b1)) wz.heap.size 174 #[.int .i64 a, .int .i64 b1, .int .i64 0]) := qh (HD3.o.set 1 _); have HB3 : Hid (zW w (v3.setCell ⟨wz.heap.size, 1, none⟩ (.int .i64 b1))) := qh (HC3.o.setCell HBZ.o.size _); have HR3 : Hid (Blk (v3.setCell ⟨wz.heap.size, 1, none⟩ (.int .i64 b1)) w.heap.size 55 (rmA (0, 0, 0))) := qh (HE3.o.other ⟨wz.heap.size, 1, none⟩ _ (by simp only; omega)); clear d0 d1 d2 d3; obtain ⟨d0, d1, d2, d3⟩ := HC.o _ HB3.o; go_wp2_with fail
     rw [mD]; go_wp2_with fail
     refine zT (HN3.o _ HB3.o) fun v4 hb4 => ?_; have HC4 := qh (HB3.o.trans (hb4.mono HB3.o.size)); have HD4 := qh (HA3.o.below hb4 HA3.o.lt); have HE4 := qh (HR3.o.below hb4 HR3.o.lt); clear d0 d1 d2 d3 hb4; obtain ⟨d0, d1, d2, d3⟩ := HC.o v4 HC4.o
     cases n3 with
     |none =>
      have HON : Hid (o = none) := qh (by rw [HO1.o]; unfold rm3; rfl)
      go_wp2_with (refine zJ rfl _ (.tmp 2) (.tmp 32) rfl w.heap.size (rmA (0, 0, 0)) rf rf _ _ HE4.o aY rfl (fJ _) ?_; intro w8 hw8; have HR8 : Hid (Blk w8 w.heap.size 55 (rmA (0, 0, 0))) := (by rw [hw8]; exact qh (HE4.o.setRow _)); have HB8 : Hid (zW w w8) := (by rw [hw8]; exact qh (below_setRow HC4.o zn _)); clear hw8)
      exact zC (results_cell_tmp rfl _ _ _ _ _ _ _ rfl HR8.o underlying55 rfl aY) rfl ⟨by rw [HON.o]; rfl, HB8.o⟩
     |some c =>
      have q0 := HD4.o.cell 2; have q1 := HD4.o.frozen' 2; simp only [xD, xA, xW] at q0; have HA4 : Hid (Blk (v4.setCell ⟨wz.heap.size, 2, none⟩ (.int .i64 c)) wz.heap.size 174 #[.int .i64 a, .int .i64 b1, .int .i64 c]) := qh (HD4.o.set 2 _); have HB4 : Hid (zW w (v4.setCell ⟨wz.heap.size, 2, none⟩ (.int .i64 c))) := qh (HC4.o.setCell HBZ.o.size _); have HR4 : Hid (Blk (v4.setCell ⟨wz.heap.size, 2, none⟩ (.int .i64 c)) w.heap.size 55 (rmA (0, 0, 0))) := qh (HE4.o.other ⟨wz.heap.size, 2, none⟩ _ (by simp only; omega)); clear d0 d1 d2 d3; obtain ⟨d0, d1, d2, d3⟩ := HC.o _ HB4.o; have HON : Hid (o = some (a, b1, c)) := qh (by rw [HO1.o]; rfl); go_wp2_with fail
      rw [mD]; have g0 := HA4.o.cell 0; have g1 := HA4.o.cell 1; have g2 := HA4.o.cell 2; simp only [xD, xA, xW] at g0 g1 g2
      go_wp2_with (refine zJ rfl _ (.tmp 2) (.tmp 43) rfl w.heap.size (rmA (a, b1, c)) rf rf _ _ HR4.o aY rfl (fJ _) ?_; intro w8 hw8; have HR8 : Hid (Blk w8 w.heap.size 55 (rmA (a, b1, c))) := (by rw [hw8]; exact qh (HR4.o.setRow _)); have HB8 : Hid (zW w w8) := (by rw [hw8]; exact qh (below_setRow HB4.o zn _)); clear hw8)
      exact zC (results_cell_tmp rfl _ _ _ _ _ _ _ rfl HR8.o underlying55 rfl aY) rfl ⟨by rw [HON.o]; rfl, HB8.o⟩
  ·have he : (x0 == ([114, 111, 111, 109, 115] : List UInt8)) = false := yF.2 h0
   have HON : Hid (o = none) := qh (by rw [HO.o, zH h0]); clear h0 HO
   go_enter func80, ntmps80
   go_wp2_with (first
    | (refine zQ rfl 55 rf _ zeroRm ?_; intro wz hwz; have HRZ : Hid (Blk wz w.heap.size 55 (rmA (0, 0, 0))) := (by rw [hwz]; exact qh (Blk.new _ _ _)); have HBZ : Hid (zW w wz) := (by rw [hwz]; exact qh (yD w _)); clear hwz; clear d0 d1 d2 d3; obtain ⟨d0, d1, d2, d3⟩ := HC.o wz HBZ.o)
    | (refine zJ rfl _ (.tmp 2) (.tmp 17) rfl w.heap.size (rmA (0, 0, 0)) rf rf _ _ HRZ.o aY rfl (fJ _) ?_; intro w8 hw8; have HR8 : Hid (Blk w8 w.heap.size 55 (rmA (0, 0, 0))) := (by rw [hw8]; exact qh (HRZ.o.setRow _)); have HB8 : Hid (zW w w8) := (by rw [hw8]; exact qh (below_setRow HBZ.o zn _)); clear hw8))
   exact zC (results_cell_tmp rfl _ _ _ _ _ _ _ rfl HR8.o underlying55 rfl aY) rfl ⟨by rw [HON.o]; rfl, HB8.o⟩
 ·have hn : ((l.length : Int) != 4) = true := by simp only [jZ, qR]; omega
  have HON := qh (rooms_none h4); clear h4
  go_enter func80, ntmps80
  go_wp2_with (first
   | (refine zQ rfl 55 rf _ zeroRm ?_; intro wz hwz; have HRZ : Hid (Blk wz w.heap.size 55 (rmA (0, 0, 0))) := (by rw [hwz]; exact qh (Blk.new _ _ _)); have HBZ : Hid (zW w wz) := (by rw [hwz]; exact qh (yD w _)); clear hwz)
   | (refine zJ rfl _ (.tmp 2) (.tmp 17) rfl w.heap.size (rmA (0, 0, 0)) rf rf _ _ HRZ.o aY rfl (fJ _) ?_; intro w8 hw8; have HR8 : Hid (Blk w8 w.heap.size 55 (rmA (0, 0, 0))) := (by rw [hw8]; exact qh (HRZ.o.setRow _)); have HB8 : Hid (zW w w8) := (by rw [hw8]; exact qh (below_setRow HBZ.o zn _)); clear hw8))
  exact zC (results_cell_tmp rfl _ _ _ _ _ _ _ rfl HR8.o underlying55 rfl aY) rfl ⟨by rw [HON.o]; rfl, HB8.o⟩
theorem run_way (s t : Int × Int) (w : World) : (Op.equalIn 10000 131 (.agg #[.int .i64 s.1, .int .i64 s.2]) (.agg #[.int .i64 t.1, .int .i64 t.2])).run prog w = .ok (decide (s = t)) w := by
 have u3 := underlying3; have a3 := isAgg3; have z3 := sizeOf3; have hS : prog.underlying 131 = some (.struct (prog.fieldsOf 131)) := kf; have hp : prog.stoodInHeld 131 = false := kf; obtain ⟨a, b⟩ := s; obtain ⟨c, d⟩ := t; rw [show (10000 : Nat) = 9999 + 1 from rfl, zDj w 9999 131 _ _ hS hp]; simp only [Program.fieldsOf, underlying131]; go_simp
 by_cases h1 : a = c <;> by_cases h2 : b = d <;> simp [h1, h2]
theorem run_span (s t : Int × Int) (w : World) : (Op.equalIn 10000 23 (.agg #[.int .i64 s.1, .int .i64 s.2]) (.agg #[.int .i64 t.1, .int .i64 t.2])).run prog w = .ok (decide (s = t)) w := by
 have u3 := underlying3; have a3 := isAgg3; have z3 := sizeOf3; have hS : prog.underlying 23 = some (.struct (prog.fieldsOf 23)) := kf; have hp : prog.stoodInHeld 23 = false := kf; obtain ⟨a, b⟩ := s; obtain ⟨c, d⟩ := t; rw [show (10000 : Nat) = 9999 + 1 from rfl, zDj w 9999 23 _ _ hS hp]; simp only [Program.fieldsOf, underlying23]; go_simp
 by_cases h1 : a = c <;> by_cases h2 : b = d <;> simp [h1, h2]
theorem zEq {α : Type} [DecidableEq α] [Inhabited α] : ∀ (a b : List α), Lib.allEq (fun x y => decide (x = y)) a b = decide (a = b)
 | [], [] => rfl
 | [], _ :: _ => rfl
 | _ :: _, [] => rfl
 |x :: a, y :: b => by
  rw [Lib.allEq, zEq a b]
  by_cases h1 : x = y <;> by_cases h2 : a = b <;> simp [h1, h2]
theorem neq_way : NeqAt prog 131 (fun x => .agg (aV x).toArray) (fun x y => decide (x = y)) :=
 ⟨fun x y w => by
  show (binOp .neq _ (.agg #[.int .i64 x.1, .int .i64 x.2]) (.agg #[.int .i64 y.1, .int .i64 y.2])).run _ _ = _
  rw [run_neq_struct, run_way]; rfl, GuardAt.agg _ kf⟩
theorem neq_u8 : NeqAt prog 5 (fun c : UInt8 => .int .u8 (c.toNat : Int)) (fun x y => decide (x = y)) :=
 ⟨fun x y w => by
  by_cases h : x = y
  ·subst h; simp [binOp, Op.intCmp, bne]
  ·have : ¬ ((x.toNat : Int) = (y.toNat : Int)) := fun e => h (uH.1 om)
   simp [binOp, Op.intCmp, bne, h, this], fun op a b x y w => by rw [eqGuard_at_int]; rfl⟩
theorem equalW_any (a b : List (Int × Int)) (ha : a.length <= 1073741824) (hb : b.length <= 1073741824) (va vb : Value) (w : World) (hva : SlR w 2 aV va a) (hvb : SlR w 2 aV vb b) :
  zCB 74 #[va, vb] w (.bool (decide (a = b))) := by
 obtain ⟨p1, c1, rfl, h1, h2, R1⟩ := hva; obtain ⟨p2, c2, rfl, g1, g2, R2⟩ := hvb
 by_cases hl : a.length = b.length
 ·by_cases h0 : b.length = 0
  ·obtain rfl : a = [] := zX om
   obtain rfl : b = [] := zX h0; clear hl h0
   go_enter func74, ntmps74
   go_wp2_with fail
   go_loop [5, 13] (fun _ i => i = .int .i64 0) (fun _ _ => 0)
   case atStart => rfl
   case round =>
    subst hrel
    go_wp2
    go_ret
    exact ⟨rfl, xE _ _⟩
  ·obtain ⟨b1, o1, rfl, -, -⟩ := R1.at (i := 0) om
   obtain ⟨b2, o2, rfl, -, -⟩ := R2.at (i := 0) om
   have hcon := AnyQ.slices_Equal Tryz.equalW 2 (by intro w; exact isAgg131 w) (by intro w; exact sizeOf131 w) aV nX (fun x y => decide (x = y)) neq_way b1 o1 a.length c1 b2 o2 b.length c2 a b w zn zn om om
    (fun j hj i v hi => by rw [getElem!_pos a j hj] at hi; exact R1.in hj i v hi) (fun j hj i v hi => by rw [getElem!_pos b j hj] at hi; exact R2.in hj i v hi)
   change Calls prog 74 _ _ _ at hcon; refine hcon.mono ?_; rintro e w' ⟨rfl, q, rfl⟩; exact ⟨by rw [xK, xK, zEq], below_drewN zb q⟩
 ·have HN : Hid (decide (a = b) = false) := qh (zM fun h => hl (by rw [h]))
  have hd : ((a.length : Int) != (b.length : Int)) = true := by simp only [jZ, qR]; omega
  have hd2 : ((a.length : Int) == (b.length : Int)) = false := by simp only [yF, qR]; omega
  generalize decide (a = b) = db at *; clear hl
  go_enter func74, ntmps74
  go_wp2
  go_ret
  exact ⟨by rw [HN.o]; rfl, xE _ _⟩
theorem equalB_any (a b : List UInt8) (ha : a.length <= 1073741824) (hb : b.length <= 1073741824) (va vb : Value) (w : World) (hva : SlR w 1 encB va a) (hvb : SlR w 1 encB vb b) :
  zCB 75 #[va, vb] w (.bool (decide (a = b))) := by
 obtain ⟨p1, c1, rfl, h1, h2, R1⟩ := hva; obtain ⟨p2, c2, rfl, g1, g2, R2⟩ := hvb
 by_cases hl : a.length = b.length
 ·by_cases h0 : b.length = 0
  ·obtain rfl : a = [] := zX om
   obtain rfl : b = [] := zX h0; clear hl h0
   go_enter func75, ntmps75
   go_wp2_with fail
   go_loop [5, 13] (fun _ i => i = .int .i64 0) (fun _ _ => 0)
   case atStart => rfl
   case round =>
    subst hrel
    go_wp2
    go_ret
    exact ⟨rfl, xE _ _⟩
  ·obtain ⟨b1, o1, rfl, -, -⟩ := R1.at (i := 0) om
   obtain ⟨b2, o2, rfl, -, -⟩ := R2.at (i := 0) om
   have hcon := AnyE.slices_Equal Tryz.equalB (fun c : UInt8 => .int .u8 (c.toNat : Int)) (fun x y => decide (x = y)) neq_u8 b1 o1 a.length c1 b2 o2 b.length c2 a b w zn zn om om
    (fun j hj => by have := R1.in hj 0 _ rfl; rw [getElem!_pos a j hj]; simpa using this) (fun j hj => by have := R2.in hj 0 _ rfl; rw [getElem!_pos b j hj]; simpa using this)
   change Calls prog 75 _ _ _ at hcon; refine hcon.mono ?_; rintro e w' ⟨rfl, q, rfl⟩; exact ⟨by rw [xK, xK, zEq], below_drewN zb q⟩
 ·have HN : Hid (decide (a = b) = false) := qh (zM fun h => hl (by rw [h]))
  have hd : ((a.length : Int) != (b.length : Int)) = true := by simp only [jZ, qR]; omega
  have hd2 : ((a.length : Int) == (b.length : Int)) = false := by simp only [yF, qR]; omega
  generalize decide (a = b) = db at *; clear hl
  go_enter func75, ntmps75
  go_wp2
  go_ret
  exact ⟨by rw [HN.o]; rfl, xE _ _⟩
end Go.Proofs.YtdbgeobolongmaaGreatDoor
namespace Go.Proofs.YtdbgeobolongmaaGreatDoor
open Go.RowKit Go.Shelf Go.Proofs Go.OctetPlain Go.PrefixPlain
structure wM (W : World) (s : StV) : Prop where
 I : xX (fun _ => True) W s
 p16 : s.t.pf.addr.length = 16
 nl : s.t.hop.labels.length <= 1073741824
 nr : s.t.hop.repair.length <= 1073741824
 nw : s.t.ways.length <= 1073741824
 nb : s.t.bytes.length <= 1073741824
theorem wM.below {W w : World} {s : StV} (h : wM W s) (hb : zW W w) : wM w s := ⟨h.I.below hb zn, h.p16, h.nl, h.nr, h.nw, h.nb⟩
theorem wM.hop {W : World} {s : StV} (h : wM W s) : wP W s.t.hop s.vl s.vr := ⟨h.nl, h.nr, h.I.l.sl, h.I.r.sl⟩
structure TwoS (W : World) (a b : StV) (g k : Nat) (w : World) : Prop where
 A : StAt w g a
 B : StAt w k b
 bel : zW W w
 ok : wM W a
 ok2 : wM W b
theorem TwoS.next {W w w' : World} {a b : StV} {g k : Nat} (h : TwoS W a b g k w) (hb : zW w w') : TwoS W a b g k w' := ⟨h.A.next hb, h.B.next hb, h.bel.trans (hb.mono h.bel.size), h.ok, h.ok2⟩
theorem zBi {P : Program} {ops : Array Oper} {id : Nat} {a : Act} {w : World} {Q : Exit -> Act -> World -> Prop} (l : List Oper) (hl : ops.toList = l) (h : ∀ OPS : Array Oper, (∀ j : Nat, OPS[j]? = ops[j]?) -> wpList P OPS Q l a w) : (Code.region id ops false).wp P Q a w :=
 wp_region_list (by rw [hl]; exact h ops fun _ => rfl)
def vY (OPS : Array Oper) (j d : Nat) : Prop := ∃ o, OPS[j]? = some o /\ o.dst = some d
theorem vY.y {OPS : Array Oper} {j d : Nat} (h : vY OPS j d) {t : Array Value} {b : Bool} (ht : t[d]? = some (.bool b)) : yielded OPS t j = some b := by
 obtain ⟨o, h1, h2⟩ := h; unfold yielded; rw [h1]; simp only [Option.bind_some, h2, ht]
theorem Oper.wp_keeps {P : Program} {o : Oper} {a : Act} {w : World} {K : Act -> World -> Prop} {Q : Exit -> Act -> World -> Prop} {d : Nat} (hd : o.dst ≠ some d) (h : o.wp P a w K Q) : o.wp P a w (fun a' w' => K a' w' /\ a'.tmps[d]? = a.tmps[d]?) Q := by
 have keep : ∀ (b : Act) v, b.tmps = a.tmps -> (b.put o.dst v).tmps[d]? = a.tmps[d]? := fun b v hb => by
  cases hdd : o.dst with
  | none => simp [Act.put, hb]
  |some e =>
   simp only [Act.put, hb]; rw [Array.getElem?_setIfInBounds, zH (fun e2 => hd (by rw [hdd, e2]))]
 unfold Oper.wp at *; generalize (execOp a.eval o).run P w = r at *
 cases r with
 |ok n w' =>
  cases n <;> simp only [Oper.upon] at h ⊢
  case value u => exact ⟨h, keep _ _ rfl⟩
  case skip => exact ⟨h, keep _ _ rfl⟩
  case defer q => exact ⟨h, keep _ _ rfl⟩
  case enter f args =>
   refine Calls.mono h fun e w2 he => ?_
   cases e with
   | returned u => exact ⟨he, keep _ _ rfl⟩
   | panicked c => exact he
   | outgrown => exact he
  case row row args => exact Rows.mono h fun u w2 he => ⟨he, keep _ _ rfl⟩
 | halt x w' => cases x <;> simp only [Oper.upon] at h ⊢ <;> exact h
theorem uO {P : Program} {OPS : Array Oper} {Q : Exit -> Act -> World -> Prop} {j d : Nat} (hF : vY OPS j d) : ∀ (l rest : List Oper) (a : Act) (w : World), (∀ o ∈ l, o.guard = some (j, true) /\ o.dst ≠ some d) -> a.tmps[d]? = some (.bool true) ->
  wpList P OPS Q (l.map (fun o => { o with guard := none }) ++ rest) a w -> wpList P OPS Q (l ++ rest) a w
 | [], rest, a, w, _, _, h => h
 |o :: l, rest, a, w, hl, ha, h => by
  obtain ⟨h1, h2⟩ := hl o yH; simp only [yM, yC] at h ⊢; unfold wpList at h ⊢; rw [zN (by simp [Region.wanted])] at h; rw [zN (by unfold Region.wanted; rw [h1]; simp only [hF.y ha]; rfl)]
  rcases h with h | ⟨h, h'⟩
  ·refine Or.inl (Oper.wp_mono ?_ (Oper.wp_keeps (d := d) h2 (show o.wp P a w _ Q from h)))
   rintro a' w' ⟨k, e⟩; exact uO hF l rest a' w' (fun o ho => hl o (yP _ ho)) (by rw [e]; exact ha) k
  ·exact Or.inr ⟨h, h'⟩
theorem uT {P : Program} {OPS : Array Oper} {Q : Exit -> Act -> World -> Prop} {j d : Nat} {o : Oper} {rest : List Oper} {a : Act} {w : World} (hF : vY OPS j d) (hg : o.guard = some (j, true)) (ha : a.tmps[d]? = some (.bool false)) (h : wpList P OPS Q rest (a.put o.dst undef) w) : wpList P OPS Q (o :: rest) a w := by
 unfold wpList; rw [zH (by unfold Region.wanted; rw [hg]; simp only [hF.y ha]; decide)]; exact h
theorem vY.of {ops OPS : Array Oper} (h : ∀ j : Nat, OPS[j]? = ops[j]?) {j d : Nat} {o : Oper} (h1 : ops[j]? = some o) (h2 : o.dst = some d) : vY OPS j d := ⟨o, by rw [h, h1], h2⟩
abbrev zFr (a b : StV) (g k : Nat) (L : List Value) : Act := ⟨List.toArray (.agg (zY a)::.agg (zY b)::.pointer (some ⟨g, 0, none⟩)::.pointer (some ⟨k, 0, none⟩)::L), []⟩
open Go.Proofs.Tryz
theorem r18_Same (a b : List (Int × Int)) (ha : a.length <= 1073741824) (hb : b.length <= 1073741824) (va vb : Value) (w : World) (hva : SlR w 2 aV va a) (hvb : SlR w 2 aV vb b) :
  zCB 33 #[va, vb] w (.bool (decide (a = b))) := by
 obtain ⟨p, c, rfl, h1, h2, hp⟩ := hva; obtain ⟨q, d, rfl, h3, h4, hq⟩ := hvb; have HP := qh fun W (h : zW w W) => hp.below h zn; have HQ := qh fun W (h : zW w W) => hq.below h zn; have HAB : Hid (decide (a = b) = decide (a = b)) := qh rfl; obtain ⟨r, HR⟩ : ∃ r, Hid (r = decide (a = b)) := ⟨_, qh rfl⟩; rw [← HR.o]; clear hp hq HAB
 by_cases hn : a.length = b.length
 rotate_left
 ·have HF : Hid (r = false) := qh (by rw [HR.o]; exact zM fun e => hn (by rw [e]))
  have hd : ((a.length : Int) != (b.length : Int)) = true := by simp only [jZ, qR]; omega
  clear hn
  go_enter func33, ntmps33
  go_wp2
  go_ret
  exact ⟨by rw [HF.o]; rfl, xE _ _⟩
 have hd : ((a.length : Int) != (b.length : Int)) = false := by simp only [bne_eq_false_iff_eq]; omega
 have HN := qh hn; clear hn
 go_enter func33, ntmps33
 go_wp2_with fail
 go_loopw [5] (fun vi wr => ∃ k : Nat, vi = .int .i64 k /\ k <= a.length /\ Hid (a.take k = b.take k) /\ Hid (zW w wr)) (fun vi _ => a.length - (intOf vi).toNat)
 case atStart => exact ⟨0, rfl, yQ _, qh rfl, qh zb⟩
 case round =>
  obtain ⟨k, rfl, hk, HE, HB⟩ := hrel
  by_cases hlt : k < a.length
  ·have hlt2 : k < b.length := by rw [← HN.o]; exact hlt
   obtain ⟨b1, o1, hb1, hl1, x0, x1⟩ := (HP.o wr HB.o).atW hlt; obtain ⟨b2, o2, hb2, hl2, y0, y1⟩ := (HQ.o wr HB.o).atW hlt2; subst hb1 hb2
   have HC : Hid (∀ W, zW w W -> W.cell? ⟨b1, o1 + k * 2, none⟩ = some (.int .i64 a[k].1) /\ W.cell? ⟨b1, o1 + k * 2 + 1, none⟩ = some (.int .i64 a[k].2) /\ W.cell? ⟨b2, o2 + k * 2, none⟩ = some (.int .i64 b[k].1) /\ W.cell? ⟨b2, o2 + k * 2 + 1, none⟩ = some (.int .i64 b[k].2)) := qh fun W h => by
    obtain ⟨g1, f1, e1, -, u0, u1⟩ := (HP.o W h).atW hlt; obtain ⟨g2, f2, e2, -, v0, v1⟩ := (HQ.o W h).atW hlt2
    cases e1; cases e2
    exact ⟨u0, u1, v0, v1⟩
   have hsp := fun w => run_way a[k] b[k] w; have hgs := fun w op x y => GuardAt.agg (P := prog) (T := 131) (fun c : Array Value => c) kf op x y #[.int .i64 a[k].1, .int .i64 a[k].2] #[.int .i64 b[k].1, .int .i64 b[k].2] w; have HTA : Hid (a.take (k + 1) = a.take k ++ [a[k]]) := qh (yA hlt); have HTB : Hid (b.take (k + 1) = b.take k ++ [b[k]]) := qh (yA hlt2); have HGA : Hid (a[k]? = some a[k]) := qh (zA hlt); have HGB : Hid (b[k]? = some b[k]) := qh (zA hlt2); generalize a[k] = x at *; generalize b[k] = y at *; obtain ⟨xa, xb⟩ := x; obtain ⟨ya, yb⟩ := y; simp only at hsp hgs HC x0 x1 y0 y1; clear x0 x1 y0 y1; generalize hv : decide ((xa, xb) = (ya, yb)) = v at *; have HV := qh hv; clear hv
   go_upto_region 6 with fail
   refine yB (S := fun W => zW w W) kf HB.o.drew (fun hHeld => ?_); refine kq 0 ?_; refine kq 1 ?_; refine kq 2 ?_; refine kq 4 ?_; refine kq 5 ?_; refine kq 6 ?_; refine kq 3 ?_ (hy := by intro w h; have c := HC.o w h; obtain ⟨c1, c2, c3, c4⟩ := c; go_simp; try with_reducible rfl); refine kq 7 ?_ (hy := by intro w h; have c := HC.o w h; obtain ⟨c1, c2, c3, c4⟩ := c; go_simp; try with_reducible rfl); refine kq 8 ?_; refine zD ?_
   cases v with
   |true =>
    have HB2 : Hid (zW w wr.drew) := qh HB.o.drew; have HE2 : Hid (a.take (k + 1) = b.take (k + 1)) := qh (by rw [HTA.o, HTB.o, HE.o, kV HV.o])
    go_wp2
    exact ⟨⟨k + 1, by go_num, om, HE2, HB2⟩, by simp [intOf]; omega⟩
   |false =>
    have HF : Hid (r = false) := qh (by
     rw [HR.o]; refine zM fun e => ?_; subst e; have := HGA.o.symm.trans HGB.o; exact of_decide_eq_false HV.o (vW this))
    have HB2 : Hid (zW w wr.drew) := qh HB.o.drew
    go_wp2
    go_ret
    exact ⟨by rw [HF.o]; rfl, HB2.o⟩
  ·obtain rfl : k = a.length := om
   have HT : Hid (r = true) := qh (by
    rw [HR.o]; have := HE.o; rw [xK, HN.o, xK] at this; exact zV this)
   go_wp2
   go_ret
   exact ⟨by rw [HT.o]; rfl, HB.o⟩
open Go.ColonPlain
theorem r32_kind (x : Hp.Wd) (w : World) :
  zCB 28 #[.string (str x)] w (.int .i64 (bI x)) := by
 go_enter func28, ntmps28
 go_wp2_with fail
 generalize hg : World.alloc w _ = w1; have hw1 : w1 = w.alloc (.cells (flat encS Sc.names).toArray 9) := hg.symm
 have HC : Hid (∀ k y, Sc.names[k]? = some y -> w1.cell? ⟨w.heap.size, k, none⟩ = some (.string (str y))) := qh fun k y hy => by
  obtain ⟨p, cap, hv, h1, h2, h3⟩ := rF vU w 9 Sc.names zd _ rfl
  cases hv; obtain ⟨hk, rfl⟩ := zL.1 hy; have := h3.in hk 0 (.string (str Sc.names[k])) rfl; rw [hw1]
  simpa using this
 have HB : Hid (zW w w1) := qh (by rw [hw1]; exact yD w _); clear hg hw1
 go_loop [4] (fun i => ∃ k : Nat, i = .int .i64 k /\ k <= 16 /\ Hid (∀ j, j < k -> Sc.names[j]? ≠ some x)) (fun i => 16 - (intOf i).toNat)
 case atStart => exact ⟨0, rfl, yQ _, qh fun j hj => absurd hj (Nat.not_lt_zero _)⟩
 case round =>
  obtain ⟨k, rfl, hk, HJ⟩ := hrel
  by_cases hlt : k < 16
  ·obtain ⟨y, hy⟩ : ∃ y, Sc.names[k]? = some y := ⟨_, zA (by rw [zAp]; exact hlt)⟩
   have hc := HC.o k y hy; have HY := qh hy; clear hy; have hx := vX x; have hz := vX y
   by_cases he : x = y
   ·subst he
    have HK : Hid (bI x = (k : Int)) := qh (by unfold bI; rw [idx_found HY.o, zN hlt]); have hb : ((str x).toList == (str x).toList) = true := zi
    go_wp2
    go_ret
    exact ⟨by rw [HK.o]; rfl, HB.o⟩
   ·have hb : ((str y).toList == (str x).toList) = false := by rw [hx, hz]; simpa using fun h => he h.symm
    have HN : Hid (∀ j, j < k + 1 -> Sc.names[j]? ≠ some x) := qh fun j hj hjx => by
     by_cases h : j = k
     ·subst h; rw [HY.o] at hjx; cases hjx; exact he rfl
     ·exact HJ.o j om hjx
    clear he hx hz; go_wp2_with fail
    go_round
    case rel => exact ⟨k + 1, by go_num, om, HN⟩
    case measure => simp [intOf]; omega
  ·obtain rfl : k = 16 := om
   have HK : Hid (bI x = -1) := qh (by unfold bI; rw [zH (idx_none fun j hj => HJ.o j hj)])
   go_wp2
   go_ret
   exact ⟨by rw [HK.o]; rfl, HB.o⟩
theorem lt16 {k : Nat} (h : k < 16) : k = 0 ∨ k = 1 ∨ k = 2 ∨ k = 3 ∨ k = 4 ∨ k = 5 ∨ k = 6 ∨ k = 7 ∨ k = 8 ∨ k = 9 ∨ k = 10 ∨ k = 11 ∨ k = 12 ∨ k = 13 ∨ k = 14 ∨ k = 15 := om
theorem r32_fields (k : Nat) (hk : k < 16) (w : World) :
  zCB 29 #[.int .i64 k] w (.string (str (Sc.fieldsL.getD k []))) := by
 rcases lt16 hk with rfl | rfl | rfl | rfl | rfl | rfl | rfl | rfl | rfl | rfl | rfl | rfl | rfl | rfl | rfl | rfl
 all_goals
  go_enter func29, ntmps29
  go_wp2
  go_ret
  exact ⟨rfl, yD w _⟩
theorem aD (k : Nat) (hk : k < 16) (w : World) :
  zCQ 61 #[.int .i64 k] w (.int .u8 ((Sc.restL.getD k 0).toNat : Int)) := by
 rcases lt16 hk with rfl | rfl | rfl | rfl | rfl | rfl | rfl | rfl | rfl | rfl | rfl | rfl | rfl | rfl | rfl | rfl
 all_goals
  go_enter func61, ntmps61
  go_wp2
  go_ret
  exact ⟨rfl, rfl⟩
theorem r32_printed (x : Hp.Wd) (hx : x.length <= 1073741824) (w : World) :
  zCQ 68 #[.string (str x)] w (.bool (Sc.printed x)) := by
 have hsz : (str x).size = x.length := zZ x; have HP : Hid (Sc.printed x = (decide (x ≠ []) && x.all fun c => decide (33 <= c.toNat) && decide (c.toNat <= 126))) := qh rfl; generalize Sc.printed x = pr at *
 go_enter func68, ntmps68
 go_wp2_with fail
 go_loop [3] (fun i => ∃ k : Nat, i = .int .i64 k /\ k <= x.length /\ Hid (∀ c ∈ x.take k, 33 <= c.toNat /\ c.toNat <= 126)) (fun i => x.length - (intOf i).toNat)
 case atStart => exact ⟨0, rfl, yQ _, qh fun c hc => by simp at hc⟩
 case round =>
  obtain ⟨k, rfl, hk, HJ⟩ := hrel
  by_cases hlt : k < x.length
  ·obtain ⟨c, hcg⟩ : ∃ c, x[k] = c := ⟨_, rfl⟩
   have hg : ∀ h, (str x)[k]'h = c := fun h => by rw [jS, hcg]
   have HM : Hid (c ∈ x) := qh (by rw [← hcg]; exact yU hlt); have HT : Hid (x.take (k + 1) = x.take k ++ [c]) := qh (by rw [← hcg]; exact yA hlt); clear hcg
   by_cases h1 : (c.toNat : Int) < 33
   ·have HF : Hid (pr = false) := qh (by
     rw [HP.o, oZ]; right; rw [List.all_eq_false]; exact ⟨c, HM.o, zo⟩)
    go_wp2
    go_ret
    exact ⟨by rw [HF.o]; rfl, rfl⟩
   ·by_cases h2 : (126 : Int) < (c.toNat : Int)
    ·have HF : Hid (pr = false) := qh (by
      rw [HP.o, oZ]; right; rw [List.all_eq_false]; exact ⟨c, HM.o, zo⟩)
     go_wp2
     go_ret
     exact ⟨by rw [HF.o]; rfl, rfl⟩
    ·have HN : Hid (∀ d ∈ x.take (k + 1), 33 <= d.toNat /\ d.toNat <= 126) := qh fun d hd => by
      rw [HT.o] at hd
      rcases xR.1 hd with hd | hd
      ·exact HJ.o d hd
      ·have : d = c := by simpa using hd
       subst this; omega
     go_wp2_with fail
     go_round
     case rel => exact ⟨k + 1, by go_num, om, HN⟩
     case measure => simp [intOf]; omega
  ·obtain rfl : k = x.length := om
   have htl := vX x
   by_cases h0 : x = []
   ·have HF : Hid (pr = false) := qh (by rw [HP.o, h0]; rfl)
    have HE : Hid ((!List.isEmpty x) = pr) := qh (by rw [HF.o, h0]; rfl); clear h0
    go_wp2
    go_ret
    exact ⟨by rw [← HE.o]; rfl, rfl⟩
   ·have HF : Hid (pr = true) := qh (by
     have hA := HJ.o; rw [xK] at hA; rw [HP.o, xO, xP, jE]; exact ⟨h0, fun c hc => by have := hA c hc; simp; omega⟩)
    have HE : Hid ((!List.isEmpty x) = pr) := qh (by rw [HF.o]; simpa using h0); clear h0
    go_wp2
    go_ret
    exact ⟨by rw [← HE.o]; rfl, rfl⟩
def RetWays (o : Option (List (Int × Int))) (W : World) (e : Ending) (W' : World) : Prop := ∃ (v : Value) (ws : List (Int × Int)), e = .returned (.tuple #[v, .bool o.isSome]) /\ (∀ p, o = some p -> p = ws) /\ SlP (W.heap.size <= ·) W' 2 aV v ws /\ zW W W'
structure WyR (W : World) (l : List Hp.Wd) (k : Nat) (ws : List (Int × Int)) (v : Value) (wr : World) : Prop where
 own : wr.ownsRow W.heap.size 131 2 v ws.length (flat aV ws)
 bel : zW W wr
 eq : Sc.waysP (l.take k) = some ws
 len : ws.length <= k
theorem zEn : ∀ {l : List Hp.Wd} {r : List (Int × Int)}, Sc.waysP l = some r -> r.length = l.length
 | [], r, h => by cases h; rfl
 |x :: l, r, h => by
  rw [Sc.waysP] at h
  split at h
  ·rename_i p q h1 h2
   cases h; rw [zI, zI, zEn h2]
  ·cases h
theorem r32_ways (l : List Hp.Wd) (hl : l.length <= 1048576) (hx : ∀ x ∈ l, x.length <= 65536) (v : Value) (W : World) (hv : SlR W 1 encS v l) :
  Calls prog 65 #[v] W (RetWays (Sc.waysN l) W) := by
 have HO : Hid (Sc.waysN l = if l = [] then none else Sc.waysP l) := qh (by cases l <;> rfl); generalize Sc.waysN l = ro at *; have HX := qh hx; obtain ⟨pp, cap, rfl, c1, c2, hR⟩ := hv; have HR := qh hR; clear hR hx
 go_enter func65, ntmps65
 go_wp2_with fail
 go_loopw [4, 5, 6, 7, 8] (fun v vi _ _ _ wr => ∃ (k : Nat) (ws : List (Int × Int)), vi = .int .i64 k /\ k <= l.length /\ Hid (WyR W l k ws v wr)) (fun _ vi _ _ _ _ => l.length - (intOf vi).toNat)
 case atStart => exact ⟨0, [], rfl, yQ _, qh ⟨xL _ _ _ _, xE _ _, rfl, yZ _⟩⟩
 case round =>
  obtain ⟨k, ws, rfl, hk, HU⟩ := hrel; have hul := HU.o.len; have hwz := HU.o.bel.size
  by_cases hlt : k < l.length
  ·obtain ⟨b, off, rfl, hbs, hcell⟩ := (HR.o.below HU.o.bel zn).at hlt
   have hx := hcell 0 (.string (str l[k])) rfl; simp only [jN, xN] at hx; have hxl := HX.o l[k] (yU hlt); have HWN := qh (waysP_next hlt HU.o.eq); have h42 := Sc.twoD_eq 42 (Or.inl zd) l[k]; have HN := qh (r32_two 42 l[k] om wr); rw [h42] at HN; clear h42; generalize l[k] = x at *; generalize Sc.two 42 x = on at *; clear hcell hxl; go_wp2_with fail
   refine HN.o.mono ?_; rintro e w2 ⟨A, B, rfl, hab, hb2⟩; have HB2 := qh hb2; have hw2 := hb2.size; clear hb2
   cases on with
   |none =>
    have HL : Hid (ro = none) := qh (by rw [HO.o, HWN.o.2 rfl]; split <;> rfl); have HG : Hid (zW W w2) := qh (HU.o.bel.trans (HB2.o.mono hwz)); clear HWN hab; go_wp2_with fail
    exact zC (v := .tuple #[.slice none 0 0, .bool false]) (by simp [results, results65, go_sem]) rfl (by rw [HL.o]; exact ⟨_, [], rfl, (fun p hp => by cases hp), SlP.nil _ _ _, HG.o⟩)
   |some p =>
    obtain rfl := hab p rfl; have HW2 := qh (HWN.o.1 _ rfl); have HO2 := qh (vL HU.o.own HB2.o zn); have HGR := qh (HU.o.bel.trans (HB2.o.mono hwz)); clear HWN HN hab
    go_wp2_with (first
     | (at_builtin; go_loud (refine uR elemWy rfl (.tmp 26) (.tmp 30) rfl W.heap.size _ _ _ rfl HO2.o 1 1 [.int .i64 A, .int .i64 B] rfl rfl (by simp [Value.oneCell']) om om ?_; intro v4 w4 hown4 hgr4 hob4 hb4; have HW4 := qh hown4; have HB4 := qh hb4; clear hown4 hgr4 hob4 hb4)))
    have HN4 : Hid (WyR W l (k + 1) (ws ++ [(A, B)]) v4 w4) := qh ⟨by rw [vK, zG]; exact HW4.o, HGR.o.trans HB4.o, HW2.o, zo⟩; exact ⟨⟨k + 1, ws ++ [(A, B)], by go_num, om, HN4⟩, by simp [intOf]; omega⟩
  ·obtain rfl : k = l.length := om
   have HE := HU.o.eq; rw [xK] at HE; have hll := zEn HE; have HE := qh HE; have HI := qh (SlP.of_owns nX HU.o.own); have HB := qh HU.o.bel; have HHO := qh HU.o.own; clear HU; obtain ⟨p1, k1, rfl⟩ := uG HHO.o; have HHL := qh hll
   by_cases h0 : l = []
   ·have hw0 : ws.length = 0 := by rw [hll, h0]; rfl
    have HL : Hid (ro = none) := qh (by rw [HO.o, zN h0]); have hd : decide (0 < ws.length) = false := by rw [hw0]; rfl
    have hd2 : ¬ 0 < ws.length := om; clear hll h0 hw0; go_wp2_with fail
    exact zC (v := .tuple #[.slice p1 ws.length k1, .bool false]) (by simp [results, results65, go_sem]) rfl (by rw [HL.o]; exact ⟨_, ws, rfl, (fun p hp => by cases hp), HI.o, HB.o⟩)
   ·have HL : Hid (ro = some ws) := qh (by rw [HO.o, zH h0, HE.o])
    have hpos : 0 < ws.length := by rw [hll]; exact kU.2 h0
    clear h0 hll; go_wp2_with fail
    exact zC (v := .tuple #[.slice p1 ws.length k1, .bool true]) (by simp [results, results65, go_sem]) rfl (by rw [HL.o]; exact ⟨_, ws, rfl, (fun p hp => by cases hp; rfl), HI.o, HB.o⟩)
end Go.Proofs.YtdbgeobolongmaaGreatDoor
