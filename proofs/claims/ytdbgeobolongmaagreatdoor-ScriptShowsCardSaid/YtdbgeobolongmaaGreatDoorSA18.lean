/- Part of the proof: ScriptLines, ScriptParses, ScriptShows. -/
import Derived.Maps.Views
import Derived.Test.YtdbgeobolongmaaGreatDoorSA13
set_option linter.unusedVariables false
set_option linter.unusedSimpArgs false
set_option maxRecDepth 100000
set_option maxHeartbeats 4000000
namespace Go.Proofs.YtdbgeobolongmaaGreatDoor
open Go.RowKit Go.Shelf Go.Proofs Go.OctetPlain Go.Proofs.Tryz
def opD : Nat -> DataW Unit
 | 0 => .map []
 | k + 1 => (opD k).put (.string (Hp.opW k)) (.lit (.int .i64 k))
theorem opD_map : ∀ k, ∃ l, opD k = .map l
 | 0 => ⟨[], rfl⟩
 | k + 1 => by obtain ⟨l, h⟩ := opD_map k; rw [opD, h]; exact ⟨_, rfl⟩
theorem zAa : Hp.opW 0 = Hp.wPush /\ Hp.opW 1 = Hp.wSwap /\ Hp.opW 2 = Hp.wPop /\ Hp.opW 3 = Hp.wHere := ⟨rfl, rfl, rfl, rfl⟩
theorem opD_has (x : Hp.Wd) : Maps.has (opD 4) (.string x) = (Hp.opOf x).isSome := by
 have key : ∀ k : Nat, ∀ y : Hp.Wd, Hp.opW k = y -> (x = y -> Maps.has (opD (k + 1)) (.string x) = true) /\ (x ≠ y -> Maps.has (opD (k + 1)) (.string x) = Maps.has (opD k) (.string x)) := fun k y hy => by
  subst hy; refine ⟨fun e => ?_, fun e => ?_⟩
  ·subst e; exact Maps.has_put_same (opD_map k) (show WideAt.IsKeyLit (.string _) from trivial) _
  ·exact Maps.has_put_other (fun h => e (by cases h; rfl)) _
 have k0 := key 0 _ zAa.1; have k1 := key 1 _ zAa.2.1; have k2 := key 2 _ zAa.2.2.1; have k3 := key 3 _ zAa.2.2.2; unfold Hp.opOf
 by_cases c0 : x = Hp.wPush
 ·rw [zN c0, k3.2 (by subst c0; decide), k2.2 (by subst c0; decide), k1.2 (by subst c0; decide), k0.1 c0]; rfl
 by_cases c1 : x = Hp.wSwap
 ·rw [zH c0, zN c1, k3.2 (by subst c1; decide), k2.2 (by subst c1; decide), k1.1 c1]; rfl
 by_cases c2 : x = Hp.wPop
 ·rw [zH c0, zH c1, zN c2, k3.2 (by subst c2; decide), k2.1 c2]; rfl
 by_cases c3 : x = Hp.wHere
 ·rw [zH c0, zH c1, zH c2, zN c3, k3.1 c3]; rfl
 rw [zH c0, zH c1, zH c2, zH c3, k3.2 c3, k2.2 c2, k1.2 c1, k0.2 c0]; rfl
theorem opD_at (x : Hp.Wd) : (opD 4).atKey (.string x) (.lit (.int .i64 0)) = .lit (.int .i64 ((Hp.opOf x).getD 0)) := by
 have key : ∀ k : Nat, ∀ y : Hp.Wd, Hp.opW k = y -> (x = y -> (opD (k + 1)).atKey (.string x) (.lit (.int .i64 0)) = .lit (.int .i64 k)) /\ (x ≠ y -> (opD (k + 1)).atKey (.string x) (.lit (.int .i64 0)) = (opD k).atKey (.string x) (.lit (.int .i64 0))) := fun k y hy => by
  subst hy; refine ⟨fun e => ?_, fun e => ?_⟩
  ·subst e; exact Maps.atKey_put_same (opD_map k) (show WideAt.IsKeyLit (.string _) from trivial) _ _
  ·exact Maps.atKey_put_other (fun h => e (by cases h; rfl)) _ _
 have k0 := key 0 _ zAa.1; have k1 := key 1 _ zAa.2.1; have k2 := key 2 _ zAa.2.2.1; have k3 := key 3 _ zAa.2.2.2; unfold Hp.opOf
 by_cases c0 : x = Hp.wPush
 ·rw [zN c0, k3.2 (by subst c0; decide), k2.2 (by subst c0; decide), k1.2 (by subst c0; decide), k0.1 c0]; rfl
 by_cases c1 : x = Hp.wSwap
 ·rw [zH c0, zN c1, k3.2 (by subst c1; decide), k2.2 (by subst c1; decide), k1.1 c1]; rfl
 by_cases c2 : x = Hp.wPop
 ·rw [zH c0, zH c1, zN c2, k3.2 (by subst c2; decide), k2.1 c2]; rfl
 by_cases c3 : x = Hp.wHere
 ·rw [zH c0, zH c1, zH c2, zN c3, k3.1 c3]; rfl
 rw [zH c0, zH c1, zH c2, zH c3, k3.2 c3, k2.2 c2, k1.2 c1, k0.2 c0]; rfl
theorem zGi (l : List UInt8) (h : l.length <= 1073741824) : keyOf prog 9 (.string (str l)) = some (Lit.string l) := by
 have h2 := WideMaps.keyOf_string_mk (P := prog) underlying9 (s := str l) (by rw [zZ]; unfold maxLen; omega); rw [kM] at h2; exact h2
theorem wf_small (k : Nat) (h : k < 9223372036854775808) : (Lit.int .i64 (k : Int)).wf = true := by
 have h1 : IntKind.i64.min = -9223372036854775808 := rfl; have h2 : IntKind.i64.max = 9223372036854775807 := rfl; simp only [Lit.wf, h1, h2, xO, xP]; omega
structure PR (w0 : World) (g A H V : Nat) (w : World) (ws : List Hp.Wd) : Prop where
 hb : Blk w H 29 (hopA ⟨-1, [], 0, -1, [], false⟩ (.slice none 0 0) (.slice none 0 0))
 vb : Blk w V 183 #[.pointer (some ⟨g, 0, none⟩)]
 rd : Rdr g A w ws false
 bel : zW w0 w
theorem PR.below {w0 w w' : World} {g A H V : Nat} {ws : List Hp.Wd} (P : PR w0 g A H V w ws) (hb : zW w w') : PR w0 g A H V w' ws :=
 ⟨P.hb.below hb P.hb.lt, P.vb.below hb P.vb.lt, P.rd.below hb zn, P.bel.trans (hb.mono P.bel.size)⟩
theorem PR.grown {w0 w w' : World} {g A H V M : Nat} {ws : List Hp.Wd} (P : PR w0 g A H V w ws) (hg : w.grownBy w' (some M)) (h1 : M ≠ g) (h2 : M ≠ A) (h3 : M ≠ H) (h4 : M ≠ V) (h5 : w0.heap.size <= M) : PR w0 g A H V w' ws :=
 ⟨P.hb.grown hg h3.symm, P.vb.grown hg h4.symm, P.rd.grown hg h1 h2, P.bel.trans (jB hg P.bel.size h5)⟩
theorem PR.ps {w0 w : World} {g A H V : Nat} {ws : List Hp.Wd} (P : PR w0 g A H V w ws) (sh : sI ws) (ln : ws.length <= 1048576) (nH : g ≠ H) (nV : g ≠ V) (nW : H ≠ V) (nA : A ≠ H) (gg : w0.heap.size <= g) (gH : w0.heap.size <= H) :
  PSH w0 w g A H V w ⟨-1, [], 0, -1, [], false⟩ ws false :=
 ⟨⟨_, _, P.hb, SlP.nil _ _ _, SlP.nil _ _ _⟩, P.vb, P.rd, P.bel, TwoB.refl _ _ _, sh, ln, nH, nV, nW, nA, gg, gH⟩
theorem PR.start (w0 : World) (ws : List Hp.Wd) (X : Array Value) (hX : X = (flat encS ws).toArray) (hl : ws.length <= 1048576) :
  PR w0 (w0.heap.size + 1) w0.heap.size (w0.heap.size + 1 + 1 + 1) (w0.heap.size + 1 + 1)
   (((((w0.alloc (.cells X 9)).alloc (.cells #[.slice (some ⟨w0.heap.size, 0, none⟩) ws.length ws.length, .bool false] 185)).alloc (.cells #[.pointer (some ⟨w0.heap.size + 1, 0, none⟩)] 183)).alloc (.cells #[.int .i64 (-1), .slice none 0 0, .int .i64 0, .int .i64 (-1), .slice none 0 0, .bool false] 29)).alloc (.map #[] 0)) ws := by
 have hw := rF (enc := encS) vU w0 9 ws hl X hX; generalize ho : Obj.cells X 9 = o at *; have s1 : (w0.alloc o).heap.size = w0.heap.size + 1 := zi; have b1 := Blk.new (w0.alloc o) 185 #[.slice (some ⟨w0.heap.size, 0, none⟩) ws.length ws.length, .bool false]; rw [s1] at b1; generalize ho2 : Obj.cells #[.slice (some ⟨w0.heap.size, 0, none⟩) ws.length ws.length, .bool false] 185 = o2 at *; have s2 : ((w0.alloc o).alloc o2).heap.size = w0.heap.size + 1 + 1 := zi; have b2 := Blk.new ((w0.alloc o).alloc o2) 183 #[.pointer (some ⟨w0.heap.size + 1, 0, none⟩)]; rw [s2] at b2; generalize ho3 : Obj.cells #[.pointer (some ⟨w0.heap.size + 1, 0, none⟩)] 183 = o3 at *; have s3 : (((w0.alloc o).alloc o2).alloc o3).heap.size = w0.heap.size + 1 + 1 + 1 := zi; have b3 := Blk.new (((w0.alloc o).alloc o2).alloc o3) 29 #[.int .i64 (-1), .slice none 0 0, .int .i64 0, .int .i64 (-1), .slice none 0 0, .bool false]; rw [s3] at b3; obtain ⟨p, cap, hv, h1, h2, h3⟩ := hw; have hws : SlP (· = w0.heap.size) (w0.alloc o) 1 encS (.slice (some ⟨w0.heap.size, 0, none⟩) ws.length ws.length) ws := ⟨_, _, rfl, yZ _, om, by cases hv; exact h3, fun a ha _ => by cases ha; rfl⟩; refine ⟨b3.alloc _, (b2.alloc _).alloc _, ⟨⟨_, ((b1.alloc _).alloc _).alloc _, ?_⟩, om, zo⟩, ?_⟩
 ·exact (((hws.below (yD _ o2) zn).below (yD _ o3) zn).below (yD _ _) zn).below (yD _ _) zn
 ·exact ((((yD w0 o).alloc zi _).alloc zo _).alloc zo _).alloc zo _
structure HopFr (B : Nat) (w : World) (h : Hp.Hop) (l r : Value) : Prop where
 n1 : h.labels.length <= 1073741824
 n2 : h.repair.length <= 1073741824
 sl : SlP (B <= ·) w 1 encI l h.labels
 sr : SlP (B <= ·) w 1 encI r h.repair
theorem HopFr.is {B : Nat} {w : World} {h : Hp.Hop} {l r : Value} (H : HopFr B w h l r) : wP w h l r := ⟨H.n1, H.n2, H.sl.sl, H.sr.sl⟩
def RetHop (o : Option Hp.Hop) (w : World) (e : Ending) (w' : World) : Prop := ∃ l r, e = .returned (.tuple #[.agg (hopA (o.getD ⟨0, [], 0, 0, [], false⟩) l r), .bool o.isSome]) /\ HopFr w.heap.size w' (o.getD ⟨0, [], 0, 0, [], false⟩) l r /\ zW w w'
theorem bL {P : Program} {fn : Func} {p q : Tmp} {ty : TypeId} (h : fn.results = #[.cell p ty, .tmp q]) (tmps : Array Value) (w : World) (g : Nat) (t : TypeId) (cs : Array Value) (fr : Nat × Nat) (d : TypeDesc)
  (hp : tmps.getD p undef = .pointer (some ⟨g, 0, none⟩)) (hg : w.heap[g]? = some (.cells cs t fr))
  (hu : P.underlying ty = some d) (hd : (match d with | .struct _ | .array _ _ => true | _ => false) = true) (hi : (P.info? ty).map (·.size) = some cs.size) :
  (results fn tmps).run P w = .ok (.tuple #[.agg cs, tmps.getD q undef]) w := by
 have hp' : tmps[p]?.getD undef = .pointer (some ⟨g, 0, none⟩) := by simpa using hp
 simp [results, h, hp', asAddr, nT w g t ty cs fr d hg hu hd hi]
theorem nI {P : Program} {ops : Array Oper} {rest : List Oper} {o : Oper} {a : Act} {w : World} {Q : Exit -> Act -> World -> Prop} (hw : Region.wanted o (yielded ops a.tmps) = true) (ty : TypeId) (x : Operand) (ho : o.op = .load ty x)
  (g : Nat) (hx : a.eval x = .pointer (some ⟨g, 0, none⟩)) (t : TypeId) (cs : Array Value) (fr : Nat × Nat) (d : TypeDesc) (hg : w.heap[g]? = some (.cells cs t fr))
  (hu : P.underlying ty = some d) (hd : (match d with | .struct _ | .array _ _ => true | _ => false) = true) (hi : (P.info? ty).map (·.size) = some cs.size)
  (h : wpList P ops Q rest (a.put o.dst (.agg cs)) w) : wpList P ops Q (o :: rest) a w :=
 mE hw fun _ hK => wp_load_row ty x ho g hx t cs fr d hg hu hd hi (hK _ _ h)
theorem len_nums1 (ws : List Hp.Wd) : (Hp.nums ws).1.length <= ws.length := by
 have := yG List.length (Hp.nums_eq ws); rw [zG, yX] at this; omega
theorem partB_len (r : List Hp.Wd) : (Hp.partB r).2.1.length <= r.length := by
 unfold Hp.partB
 split
 ·have := len_nums1 r.tail
  have h2 : r.tail.length <= r.length := zi
  cases h : (Hp.nums r.tail).1 with
  | nil => simp
  | cons n more => rw [h] at this; simp at this ⊢; omega
 ·simp
abbrev pfs (g k : Nat) : Array Value := #[.func (.func 139) #[] #[.pointer (some ⟨g, 0, none⟩), .pointer (some ⟨k, 0, none⟩)], .func (.func 142) #[] #[.pointer (some ⟨k, 0, none⟩), .pointer (some ⟨g, 0, none⟩)], .func (.func 143) #[] #[.pointer (some ⟨k, 0, none⟩), .pointer (some ⟨g, 0, none⟩)]]
theorem hop_Parse (s : List UInt8) (hs : s.length <= 1000000) (w : World) (ht : Tabs w) (hm : ∃ m, w.cell? ⟨1, 0, none⟩ = some (.int .i64 m)) :
  Calls prog 101 #[.string (str s)] w (RetHop (Hp.parseR s) w) := by
 obtain ⟨x, ws, hsp⟩ : ∃ x ws, Hp.spl s = x :: ws := by
  cases h : Hp.spl s with
  | nil => exact absurd h (Hp.spl_ne s)
  | cons x ws => exact ⟨x, ws, rfl⟩
 obtain ⟨X, hX⟩ : ∃ X : Array Value, X = (flat encS (x :: ws)).toArray := ⟨_, rfl⟩
 have HS : Hid (∀ W, zW w W -> Calls prog 37 #[.string (str s), .string ⟨#[32]⟩] W fun e w' => e = .returned (.slice (some ⟨W.heap.size, 0, none⟩) (x :: ws).length (x :: ws).length) /\ w' = W.alloc (.cells X 9)) := qh fun W hW => by
  obtain ⟨m, hmc⟩ := hm; have h := splitS_any s hs m W (by rw [hW.cell (p := ⟨1, 0, none⟩) (sW w _ hmc)]; exact hmc); rw [hsp] at h; rw [hX]; exact h
 have hR : Hid (Hp.parseR s = Hp.parseW (x :: ws)) := by rw [Hp.parseR, hsp]; exact qh rfl
 have HSH : Hid (sI (x :: ws)) := qh fun y hy => by have := spl_le s y (by rw [hsp]; exact hy); omega
 have hln : (x :: ws).length <= 1000001 := by
  have h1 := zCl s; rw [hsp] at h1; have := aK (a := (32 : UInt8)) (l := s); omega
 have HST := qh (PR.start (w.alloc (.cells #[.int .i64 0, .slice none 0 0, .int .i64 0, .int .i64 0, .slice none 0 0, .bool false] 29)) (x :: ws) X hX om); have HT := qh ht; have HT0 := qh (ht.below (yD w (.cells #[.int .i64 0, .slice none 0 0, .int .i64 0, .int .i64 0, .slice none 0 0, .bool false] 29))); have HN0 := qh (Blk.new w 29 #[.int .i64 0, .slice none 0 0, .int .i64 0, .int .i64 0, .slice none 0 0, .bool false]); clear hm hsp ht hX; have hmk := @run_makeMap prog; rw [hR.o]; clear hR; generalize hL : x :: ws = L at *; have HL := qh hL; clear hL
 go_enter func101, ntmps101
 go_wp2_with fail
 refine zU (HS.o _ (yD w _)) ?_; go_wp2_with fail
 clear HS hmk; have HW0 : Hid ((w.alloc (.cells #[.int .i64 0, .slice none 0 0, .int .i64 0, .int .i64 0, .slice none 0 0, .bool false] 29)).heap.size <= w.heap.size + 1 + 1 + 1 + 1 + 1) := qh zi; have HB0 := qh (yD w (.cells #[.int .i64 0, .slice none 0 0, .int .i64 0, .int .i64 0, .slice none 0 0, .bool false] 29)); have HN : Hid (∀ W, Below (w.alloc (.cells #[.int .i64 0, .slice none 0 0, .int .i64 0, .int .i64 0, .slice none 0 0, .bool false] 29)).heap.size (w.alloc (.cells #[.int .i64 0, .slice none 0 0, .int .i64 0, .int .i64 0, .slice none 0 0, .bool false] 29)) W -> Blk W w.heap.size 29 #[.int .i64 0, .slice none 0 0, .int .i64 0, .int .i64 0, .slice none 0 0, .bool false]) := qh fun W hW => HN0.o.below hW zi; have HS0 : Hid (w.heap.size <= (w.alloc (.cells #[.int .i64 0, .slice none 0 0, .int .i64 0, .int .i64 0, .slice none 0 0, .bool false] 29)).heap.size) := qh zi; clear HN0; have hz0 : (w.alloc (.cells #[.int .i64 0, .slice none 0 0, .int .i64 0, .int .i64 0, .slice none 0 0, .bool false] 29)).heap.size = w.heap.size + 1 := zi; rw [hz0] at HST; generalize hw0 : w.alloc (.cells #[.int .i64 0, .slice none 0 0, .int .i64 0, .int .i64 0, .slice none 0 0, .bool false] 29) = w0 at *; have HM := qh (World.ownsMap_made (H := Unit) ((((w0.alloc (.cells X 9)).alloc (.cells #[.slice (some ⟨w.heap.size + 1, 0, none⟩) L.length L.length, .bool false] 185)).alloc (.cells #[.pointer (some ⟨w.heap.size + 1 + 1, 0, none⟩)] 183)).alloc (.cells #[.int .i64 (-1), .slice none 0 0, .int .i64 0, .int .i64 (-1), .slice none 0 0, .bool false] 29)) prog 9 (plainElem prog 3))
 go_loopw [7, 19] (fun _ vi wr => ∃ k : Nat, vi = .int .i64 k /\ k <= 4 /\ Hid (PR w0 (w.heap.size + 1 + 1) (w.heap.size + 1) (w.heap.size + 1 + 1 + 1 + 1) (w.heap.size + 1 + 1 + 1) wr L) /\ Hid (wr.ownsMap prog 9 (plainElem prog 3) (w.heap.size + 1 + 1 + 1 + 1 + 1) k (opD k))) (fun _ vi _ => 4 - (intOf vi).toNat)
 case atStart =>
  refine ⟨0, rfl, om, HST, ?_⟩; simp only [xG, hz0] at HM; exact HM
 case round =>
  obtain ⟨k, rfl, hk, HP, HMk⟩ := hrel
  by_cases hlt : k < 4
  ·have HO := qh fun W => nO k W
   go_wp2_with fail
   refine zT (HO.o _) fun w2 hb2 => ?_; have HP2 := qh (HP.o.below hb2); have HM2 := qh (HMk.o.kept (uE hb2 none) zi); clear hb2; have HK := qh (zGi (Hp.opW k) (by unfold Hp.opW; (repeat' split) <;> simp [Hp.wPush, Hp.wSwap, Hp.wPop, Hp.wHere])); have hkm : Hid (k < maxLen) := qh (by unfold maxLen; omega)
   go_wp2_with (at_mapUpdate; refine wpList_mapUpdate_own _ rfl _ _ _ 186 rfl 9 3 (Maps.string_keyed underlying9) underlying186 (plainElem prog 3) (w.heap.size + 1 + 1 + 1 + 1 + 1) k (opD k) rfl HM2.o hkm.o _ _ (.string (Hp.opW k)) rfl rfl HK.o (.lit (.int .i64 k)) [] (plainElem_int underlying3 (wf_small k om)) ?_; intro w3 hown3 hgr3)
   have HP3 := qh (HP2.o.grown hgr3 om om om om HW0.o); exact ⟨⟨k + 1, by go_num, om, HP3, qh hown3⟩, by simp [intOf]; omega⟩
  ·obtain rfl : k = 4 := om
   obtain rfl := HL.o; have HK := qh (zGi x (by have := HSH.o x yH; omega)); have hvc := HP.o.vb.cell 0; simp only [xD, xA] at hvc; obtain ⟨p, cap, c0, c1, f0, f1, h1, h2, h3, h4, hgl⟩ := HP.o.rd.parts; obtain ⟨b, off, rfl, hbl, hc⟩ := h3.at (i := 0) zi; have hx := hc 0 (.string (str x)) rfl; simp only [jP, xN] at hx; have HX := qh (And.intro h1 h2); simp only [zI] at c0; have hl0 : 0 < ws.length + 1 := om; clear hc h3 h4 h1 h2; have hzr : ∀ w, (zeroValue 3).run prog w = .ok (.int .i64 0) w := zeroValue3
   cases hop : Hp.opOf x with
   |none =>
    have HH := qh (opD_has x); rw [hop] at HH; have HPN : Hid (Hp.parseW (x :: ws) = none) := by rw [Hp.parseW, hop]; exact qh rfl
    clear hop
    go_wp2_with (first
     | (at_lookup; refine wpList_lookup_own_ok_int _ rfl _ _ 186 rfl 9 3 .i64 (Maps.string_keyed underlying9) underlying186 underlying3 (hzr _) (w.heap.size + 1 + 1 + 1 + 1 + 1) 4 (opD 4) rfl HMk.o _ _ rfl HK.o ?_; intro c hat hwc; rw [HH.o])
     | (refine uZ rfl _ _ _ rfl w.heap.size #[.int .i64 0, .slice none 0 0, .int .i64 0, .int .i64 0, .slice none 0 0, .bool false] rfl rfl _ #[.int .i64 0, .slice none 0 0, .int .i64 0, .int .i64 0, .slice none 0 0, .bool false] (HN.o _ HP.o.bel) qH rfl (lF _ _ _ _ _ _ _ _ _ _) ?_))
    refine zC (bL rfl _ _ w.heap.size _ #[.int .i64 0, .slice none 0 0, .int .i64 0, .int .i64 0, .slice none 0 0, .bool false] _ _ rfl ((HN.o _ HP.o.bel).setRow _) underlying29 rfl qH) rfl ?_; rw [HPN.o]; refine ⟨.slice none 0 0, .slice none 0 0, rfl, ⟨zi, zi, SlP.nil _ _ _, SlP.nil _ _ _⟩, ?_⟩; exact qX (HB0.o.trans (HP.o.bel.mono HS0.o)) zn _
   |some n =>
    have HH := qh (opD_has x); have HA := qh (opD_at x); rw [hop] at HH HA; have hn := Hp.opOf_some hop; have hn0 : 0 <= n := hn.2.1; have hn3 : n <= 3 := hn.2.2; have HPS : Hid (Hp.parseW (x :: ws) = if Hp.bad n ws = true ∨ Hp.checkR (Hp.mk n ws) ≠ 0 then none else some (Hp.mk n ws)) := by rw [Hp.parseW, hop]; exact qh rfl
    clear hop hn; have hH0 := HP.o.hb.cell 0; have hHf := HP.o.hb.frozen' 0; have hP1 := (HP.o.ps HSH.o om om om om om (by rw [hz0]; omega) (by rw [hz0]; omega)).setOp n; have HP1 := qh hP1; clear hP1; simp only [hopA, xD, xA] at hH0
    go_wp2_with (first
     | (at_lookup; refine wpList_lookup_own_ok_int _ rfl _ _ 186 rfl 9 3 .i64 (Maps.string_keyed underlying9) underlying186 underlying3 (hzr _) (w.heap.size + 1 + 1 + 1 + 1 + 1) 4 (opD 4) rfl HMk.o _ _ rfl HK.o ?_; intro c hat hwc; rw [HH.o]; obtain rfl : n = c := by (have := HA.o.symm.trans hat; cases this; rfl)))
    have hvc3 := HP1.o.vc; obtain ⟨p', cap', c0', -, f0', -, h1', h2', -, -, hgl'⟩ := HP1.o.rd.parts
    have hcc : (wr.setCell ⟨w.heap.size + 1 + 1 + 1 + 1, 0, none⟩ (.int .i64 n)).cell? ⟨w.heap.size + 1 + 1, 0, none⟩ = some (.slice (some ⟨b, off, none⟩) (ws.length + 1) cap) := by
     rw [World.cell?_setCell_other _ _ _ _ zi]; exact c0
    clear hvc c0 c1 f0 f1 hgl hbl hx hH0 hHf hat hwc c0' HMk HP HM HK HH HA hzr; generalize wr.setCell ⟨w.heap.size + 1 + 1 + 1 + 1, 0, none⟩ (.int .i64 n) = w3 at *; have hl1 : (1 : Int) <= (ws.length : Int) + 1 := om
    go_cut [8] from 43 to 50 (fun s8 wx => s8 = .int .i64 n /\ Hid (PSH w0 wx (w.heap.size + 1 + 1) (w.heap.size + 1) (w.heap.size + 1 + 1 + 1 + 1) (w.heap.size + 1 + 1 + 1) wx ⟨n, [], 0, -1, [], false⟩ ws false))
    case first =>
     by_cases hcap : cap = 1
     ·subst hcap
      have hws0 : ws.length = 0 := by have := HX.o.1; simp only [zI] at this; omega
      have HR : Hid (Rdr (w.heap.size + 1 + 1) (w.heap.size + 1) (w3.drew.setCell ⟨w.heap.size + 1 + 1, 0, none⟩ (.slice (some ⟨b, off, none⟩) ws.length 0)) ws false) := by rw [hws0]; exact qh ((HP1.o.drew.rd.tail (hcc : w3.drew.cell? _ = _)).1 rfl)
      clear hws0; go_wp2_with fail
      go_still_tail 8, kf
      change wpList _ _ _ _ _ w3.drew; go_wp2_with fail
      go_meet
      exact ⟨rfl, qh (HP1.o.drew.read HR.o (vH _ _ _ _) (mR HSH.o) (by simp at hln ⊢; omega)).rebase⟩
     ·have HR := qh ((HP1.o.drew.rd.tail (hcc : w3.drew.cell? _ = _)).2)
      go_wp2_with fail
      go_still_tail 8, kf
      change wpList _ _ _ _ _ w3.drew; go_wp2_with fail
      go_meet
      exact ⟨rfl, qh (HP1.o.drew.read HR.o (vH _ _ _ _) (mR HSH.o) (by simp at hln ⊢; omega)).rebase⟩
    case rest =>
     obtain ⟨rfl, HP4⟩ := hcut; clear hcc hvc3 HP1 f0' h1' h2' hgl' HX; have hvc4 := HP4.o.vc; have HSW : Hid (sI ws /\ ws.length <= 1048576) := qh ⟨HP4.o.sh, HP4.o.ln⟩; have HN4 := qh (zFe (w.heap.size + 1 + 1) (w.heap.size + 1) ws HSW.o.2 HSW.o.1 false wc (HP4.o.tabs HT0.o) HP4.o.rd.la (fun W hW => HP4.o.tabsG HT0.o hW) HP4.o.rd); have HSN : Hid (sI (Hp.nums ws).2 /\ (Hp.nums ws).2.length <= 1048576) := qh ⟨zBz HSW.o.1, yK (len_nums _) HSW.o.2⟩; have hl1l := len_nums1 ws; generalize hq : Hp.nums ws = q at *; have HQ := qh hq; clear hq; obtain ⟨l1, r1⟩ := q; simp only at HN4 HSN hl1l; have HL1 : Hid (l1.length <= 1048576) := qh (yK hl1l HSW.o.2); clear hl1l; go_wp2_with fail
     refine HN4.o.mono ?_; rintro e w5 ⟨v, rfl, ho, hr, hg⟩; have HP5 := qh (HP4.o.read hr hg HSN.o.1 HSN.o.2); have hv := SlP.of_owns mI ho; have HV := qh (HP4.o.own hv); have HO1 := qh (And.intro (HP5.o.setLabels HV.o) HP5.o.vc); obtain ⟨p5, cp5, rfl, -, -, -, -⟩ := hv; obtain ⟨v1, c1⟩ := HP5.o.cellH 1 om; have f1 := HP5.o.frozenH 1; have hz5 : w.heap.size + 1 + 1 + 1 + 1 < w5.heap.size := HP5.o.Hl; have hmf : ∀ (fn : Fn) (first cap : Array Value) (w : World), (Instr.makeFunc fn first cap).run prog w = .ok (.func fn first cap) w := fun _ _ _ _ => rfl; clear ho hr hg HP4 hvc4 HN4 HSW; go_wp2_with fail
     have hF := Blk.new (w5.setCell ⟨w.heap.size + 1 + 1 + 1 + 1, 1, none⟩ (.slice p5 l1.length cp5)) 1 (pfs (w.heap.size + 1 + 1 + 1 + 1) (w.heap.size + 1 + 1 + 1)); rw [show (w5.setCell ⟨w.heap.size + 1 + 1 + 1 + 1, 1, none⟩ (.slice p5 l1.length cp5)).heap.size = w5.heap.size from zi] at hF; have HP6 : Hid (PSH w0 ((w5.setCell ⟨w.heap.size + 1 + 1 + 1 + 1, 1, none⟩ (.slice p5 l1.length cp5)).alloc (.cells (pfs (w.heap.size + 1 + 1 + 1 + 1) (w.heap.size + 1 + 1 + 1)) 1)) (w.heap.size + 1 + 1) (w.heap.size + 1) (w.heap.size + 1 + 1 + 1 + 1) (w.heap.size + 1 + 1 + 1) ((w5.setCell ⟨w.heap.size + 1 + 1 + 1 + 1, 1, none⟩ (.slice p5 l1.length cp5)).alloc (.cells (pfs (w.heap.size + 1 + 1 + 1 + 1) (w.heap.size + 1 + 1 + 1)) 1)) ⟨n, l1, 0, -1, [], false⟩ r1 false) := qh (HO1.o.1.alloc _).rebase; generalize (w5.setCell ⟨w.heap.size + 1 + 1 + 1 + 1, 1, none⟩ (.slice p5 l1.length cp5)).alloc (.cells (pfs (w.heap.size + 1 + 1 + 1 + 1) (w.heap.size + 1 + 1 + 1)) 1) = w6 at *; have hk0 := hF.cell 0; simp only [pfs, xD, xA] at hk0; have hFn : w5.heap.size ≠ w.heap.size + 1 + 1 /\ w5.heap.size ≠ w.heap.size + 1 + 1 + 1 + 1 := om; have HFB := qh (And.intro hF hFn); clear hF hFn HP5 HV HO1 c1 f1 hmf; have C1 := qh (parse_port w0 w6 (w.heap.size + 1 + 1) (w.heap.size + 1) (w.heap.size + 1 + 1 + 1 + 1) (w.heap.size + 1 + 1 + 1) _ rfl r1 w6 HT0.o HP6.o); refine wp_loop_rounds 4 ?_; rw [mD]; go_wp2_with fail
     refine zT C1.o fun w7 hP7 => ?_; have hk1 := (hP7.fr.blk HFB.o.1 HFB.o.2.1 HFB.o.2.2).cell 1; simp only [pfs, xD, xA, xW] at hk1
     try simp only at hP7
     generalize hpp : Hp.partP n r1 = pp at *; obtain ⟨P, bP, r2⟩ := pp
     try simp only at hP7
     have HPP := qh hpp; have C2 := qh (parse_backup w0 w6 (w.heap.size + 1 + 1) (w.heap.size + 1) (w.heap.size + 1 + 1 + 1 + 1) (w.heap.size + 1 + 1 + 1) _ ⟨rfl, rfl⟩ r2 bP w7 HT0.o hP7); have HR2 := qh hP7.ln; clear hP7 C1 hk0 hpp; go_wp2_with fail
     rw [mD]; go_wp2_with fail
     refine zT C2.o fun w8 hP8 => ?_; have hk2 := (hP8.fr.blk HFB.o.1 HFB.o.2.1 HFB.o.2.2).cell 2; simp only [pfs, xD, xA, xW] at hk2
     try simp only at hP8
     have hRl := partB_len r2; generalize hpb : Hp.partB r2 = pb at *; obtain ⟨B, R, bB, r3⟩ := pb
     try simp only at hP8 hRl
     have HPB := qh hpb; have C3 := qh (parse_pipe w0 w6 (w.heap.size + 1 + 1) (w.heap.size + 1) (w.heap.size + 1 + 1 + 1 + 1) (w.heap.size + 1 + 1 + 1) _ r3 (bP || bB) w8 HT0.o hP8); clear hP8 C2 hk1 hpb; go_wp2_with fail
     rw [mD]; go_wp2_with fail
     refine zT C3.o fun w9 hP9 => ?_
     try simp only at hP9
     generalize hpc : Hp.partC r3 = pc at *; obtain ⟨C, r4⟩ := pc
     try simp only at hP9
     have HPC := qh hpc; have HBL : Hid (zW w0 w9) := qh hP9.bel; obtain ⟨l9, r9, hb9, hl9, hr9⟩ := hP9.hb; have hvc9 := hP9.vc; obtain ⟨p9, cp9, c90, c91, -, -, -, -, -, -, -⟩ := hP9.rd.parts; have HIS : Hid (wP w9 ⟨n, l1, P, B, R, C⟩ l9 r9) := qh ⟨by have := HL1.o; simp only; omega, by have := HR2.o; simp only; omega, hl9.sl, hr9.sl⟩; have HB9 : Hid (Blk w9 (w.heap.size + 1 + 1 + 1 + 1) 29 (hopA ⟨n, l1, P, B, R, C⟩ l9 r9)) := qh hb9
     have HMK : Hid (Hp.mk n ws = ⟨n, l1, P, B, R, C⟩ /\ Hp.bad n ws = (bP || bB || decide (r4 ≠ []))) := qh (by
      unfold Hp.mk Hp.bad; rw [HQ.o]; simp only; rw [HPP.o]; simp only; rw [HPB.o]; simp only; rw [HPC.o]; exact ⟨rfl, rfl⟩)
     have HF : Hid (Hp.parseW (x :: ws) = if (bP || bB || decide (r4 ≠ [])) = true ∨ Hp.checkR ⟨n, l1, P, B, R, C⟩ ≠ 0 then none else some ⟨n, l1, P, B, R, C⟩) := by rw [HPS.o, HMK.o.1, HMK.o.2]; exact qh rfl
     have HSP := qh (And.intro hl9 hr9); obtain ⟨p1, cl1, hl1e, -, -, -, -⟩ := hl9; obtain ⟨p2, cl2, hl2e, -, -, -, -⟩ := hr9; simp only at hl1e hl2e; subst hl1e; subst hl2e; clear hP9 C3 hk2 hpc hb9 HMK HPS HPP HPB HPC HQ HFB hRl; generalize (bP || bB) = b9 at *; go_wp2_with fail
     rw [mD]
     cases b9
     ·cases r4 with
      |nil =>
       simp only [xI] at c90; have HCK := qh (hop_Check ⟨n, l1, P, B, R, C⟩ HIS.o.n1 HIS.o.n2 _ _ w9 HIS.o.sl HIS.o.sr); generalize hck : Hp.checkR ⟨n, l1, P, B, R, C⟩ = ck at *; clear hck
       go_wp2_with (refine nI rfl _ _ rfl (w.heap.size + 1 + 1 + 1 + 1) rfl _ #[.int .i64 n, .slice p1 l1.length cl1, .int .i64 P, .int .i64 B, .slice p2 R.length cl2, .bool C] (0, 0) _ HB9.o underlying29 rfl qH ?_)
       refine zT HCK.o fun w10 hb10 => ?_; have HBT : Hid (zW w0 w10) := qh (HBL.o.trans (hb10.mono HBL.o.size)); have HIT := qh (HIS.o.below hb10 zn); have HBH := qh (HB9.o.below hb10 HB9.o.lt); have HSL : Hid (∀ W : World, w10.grownBy W (some w.heap.size) -> SlP (w.heap.size <= ·) W 1 encI (.slice p1 l1.length cl1) l1 /\ SlP (w.heap.size <= ·) W 1 encI (.slice p2 R.length cl2) R) := qh fun W hW => ⟨((HSP.o.1.below hb10 zn).grown hW (fun b hb => by have := hb.1; rw [hz0] at this; simp; omega)).imp (fun b hb => by have := hb.1; rw [hz0] at this; omega), ((HSP.o.2.below hb10 zn).grown hW (fun b hb => by have := hb.1; rw [hz0] at this; simp; omega)).imp (fun b hb => by have := hb.1; rw [hz0] at this; omega)⟩; clear hb10
       by_cases hck : ck = 0
       ·subst hck
        have HE : Hid (Hp.parseW (x :: ws) = some ⟨n, l1, P, B, R, C⟩) := by rw [HF.o, zH zi]; exact qh rfl
        go_wp2_with (first
         | (refine wpList_load_row rfl _ _ rfl (w.heap.size + 1 + 1 + 1 + 1) rfl _ #[.int .i64 n, .slice p1 l1.length cl1, .int .i64 P, .int .i64 B, .slice p2 R.length cl2, .bool C] (0, 0) _ HBH.o underlying29 rfl qH ?_)
         | (refine uZ rfl _ _ _ rfl w.heap.size #[.int .i64 n, .slice p1 l1.length cl1, .int .i64 P, .int .i64 B, .slice p2 R.length cl2, .bool C] rfl rfl _ #[.int .i64 0, .slice none 0 0, .int .i64 0, .int .i64 0, .slice none 0 0, .bool false] (HN.o _ HBT.o) qH rfl (lF _ _ _ _ _ _ _ _ _ _) ?_))
        refine zC (bL rfl _ _ w.heap.size _ #[.int .i64 n, .slice p1 l1.length cl1, .int .i64 P, .int .i64 B, .slice p2 R.length cl2, .bool C] _ _ rfl ((HN.o _ HBT.o).setRow _) underlying29 rfl qH) rfl ?_; rw [HE.o]; have hgr := uV w10 w.heap.size #[.int .i64 n, .slice p1 l1.length cl1, .int .i64 P, .int .i64 B, .slice p2 R.length cl2, .bool C]; refine ⟨.slice p1 l1.length cl1, .slice p2 R.length cl2, rfl, ⟨HIT.o.n1, HIT.o.n2, ?_, ?_⟩, qX (HB0.o.trans (HBT.o.mono HS0.o)) zn _⟩
        ·exact (HSL.o _ hgr).1
        ·exact (HSL.o _ hgr).2
       ·have hck2 : (ck != 0) = true := by simpa using hck
        have HE : Hid (Hp.parseW (x :: ws) = none) := by rw [HF.o, zN (Or.inr hck)]; exact qh rfl
        clear hck
        go_wp2_with (refine uZ rfl _ _ _ rfl w.heap.size #[.int .i64 0, .slice none 0 0, .int .i64 0, .int .i64 0, .slice none 0 0, .bool false] rfl rfl _ #[.int .i64 0, .slice none 0 0, .int .i64 0, .int .i64 0, .slice none 0 0, .bool false] (HN.o _ HBT.o) qH rfl (lF _ _ _ _ _ _ _ _ _ _) ?_)
        refine zC (bL rfl _ _ w.heap.size _ #[.int .i64 0, .slice none 0 0, .int .i64 0, .int .i64 0, .slice none 0 0, .bool false] _ _ rfl ((HN.o _ HBT.o).setRow _) underlying29 rfl qH) rfl ?_; rw [HE.o]; exact ⟨.slice none 0 0, .slice none 0 0, rfl, ⟨zi, zi, SlP.nil _ _ _, SlP.nil _ _ _⟩, qX (HB0.o.trans ((HBT.o).mono HS0.o)) zn _⟩
      |cons y ys =>
       have HE : Hid (Hp.parseW (x :: ws) = none) := by rw [HF.o, zN (Or.inl zi)]; exact qh rfl
       simp only [zI] at c90; have hy : 0 < ys.length + 1 := om
       go_wp2_with (refine uZ rfl _ _ _ rfl w.heap.size #[.int .i64 0, .slice none 0 0, .int .i64 0, .int .i64 0, .slice none 0 0, .bool false] rfl rfl _ #[.int .i64 0, .slice none 0 0, .int .i64 0, .int .i64 0, .slice none 0 0, .bool false] (HN.o _ HBL.o) qH rfl (lF _ _ _ _ _ _ _ _ _ _) ?_)
       refine zC (bL rfl _ _ w.heap.size _ #[.int .i64 0, .slice none 0 0, .int .i64 0, .int .i64 0, .slice none 0 0, .bool false] _ _ rfl ((HN.o _ HBL.o).setRow _) underlying29 rfl qH) rfl ?_; rw [HE.o]; exact ⟨.slice none 0 0, .slice none 0 0, rfl, ⟨zi, zi, SlP.nil _ _ _, SlP.nil _ _ _⟩, qX (HB0.o.trans ((HBL.o).mono HS0.o)) zn _⟩
     ·have HE : Hid (Hp.parseW (x :: ws) = none) := by rw [HF.o, zN (Or.inl zi)]; exact qh rfl
      go_wp2_with (refine uZ rfl _ _ _ rfl w.heap.size #[.int .i64 0, .slice none 0 0, .int .i64 0, .int .i64 0, .slice none 0 0, .bool false] rfl rfl _ #[.int .i64 0, .slice none 0 0, .int .i64 0, .int .i64 0, .slice none 0 0, .bool false] (HN.o _ HBL.o) qH rfl (lF _ _ _ _ _ _ _ _ _ _) ?_)
      refine zC (bL rfl _ _ w.heap.size _ #[.int .i64 0, .slice none 0 0, .int .i64 0, .int .i64 0, .slice none 0 0, .bool false] _ _ rfl ((HN.o _ HBL.o).setRow _) underlying29 rfl qH) rfl ?_; rw [HE.o]; exact ⟨.slice none 0 0, .slice none 0 0, rfl, ⟨zi, zi, SlP.nil _ _ _, SlP.nil _ _ _⟩, qX (HB0.o.trans ((HBL.o).mono HS0.o)) zn _⟩
end Go.Proofs.YtdbgeobolongmaaGreatDoor
