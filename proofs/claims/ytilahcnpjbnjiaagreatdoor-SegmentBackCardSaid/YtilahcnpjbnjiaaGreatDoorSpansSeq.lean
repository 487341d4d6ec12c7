/- The library's iterator over a slice of spans, and what collects and sorts it. -/
import Derived.Test.YtilahcnpjbnjiaaGreatDoorMBase
import Derived.Test.YtilahcnpjbnjiaaGreatDoorSpansRef
namespace Go.Proofs.YtilahcnpjbnjiaaGreatDoor
set_option linter.unusedVariables false
set_option linter.unusedSimpArgs false
open Go.RowKit Go.Shelf Go.Proofs
attribute [local go_sem] Oper.semAt_some

/-- a span as a value -/
def aggSp (s : Sp.S) : Value := .agg #[.int .i64 s.1, .int .i64 s.2]

set_option maxRecDepth 100000 in
set_option maxHeartbeats 2000000 in
theorem values1_in {Kp : World → World → Prop} {Safe : World → Nat → Prop} (HK : Keeps Kp Safe) (n : Nat) (hn : 1 ≤ n) (l Bs : Nat) (p : Option Addr) (cap : Nat) (zs : List Sp.S) (hl : zs.length ≤ 4611686018427387904) (J Jx : List Sp.S → World → Prop)
    (W : World) (hJ : AbidesFrom W.heap.size J)
    (hY : ∀ pre x W1, J pre W1 → pre.length < zs.length → YieldAt FW (n - 1) Tryz.prog l #[.agg #[.int .i64 x.1, .int .i64 x.2]] W1 fun e W' =>
      (e = .returned (.bool true) ∧ J (pre ++ [x]) W' ∧ Kp W1 W') ∨ (e = .returned (.bool false) ∧ Jx (pre ++ [x]) W'))
    (hBs : W.cell? ⟨Bs, 0, none⟩ = some (.slice p zs.length cap)) (hR : RdP W 2 encSp p zs) (hS : ∀ a, p = some a → Safe W a.block) (h0 : J [] W) :
    CallsIn FW n Tryz.prog 130 #[.func (.yield l) #[] #[], .pointer (some ⟨Bs, 0, none⟩)] W fun e W' => (∃ v, e = .returned v) ∧
      ((∃ ys, ys = zs ∧ J ys W') ∨ (∃ pre, pre <+: zs ∧ Jx pre W')) := by
  refine callsIn_of_wp Tryz.func130 rfl trivial ?_ rfl
  simp only [Tryz.ntmps130, List.size_toArray, List.length_cons, List.length_nil, Nat.reduceAdd, Nat.reduceSub, Array.replicate_succ, Array.replicate_zero, List.push_toArray, List.append_toArray, List.nil_append, List.cons_append]
  have HH := Lib.hid HK
  clear HK
  gi_wp2
  gi_loopw [7] (fun i wr => ∃ k : Nat, k ≤ zs.length ∧ i = .int .i64 k ∧ J (zs.take k) wr ∧ RdP wr 2 encSp p zs ∧ Hid (∀ a, p = some a → Safe wr a.block)) (fun i _ => zs.length - (intOf i).toNat)
  case atStart => exact ⟨0, Nat.zero_le _, rfl, h0, hR, Lib.hid hS⟩
  case round =>
    obtain ⟨k, hk, rfl, hJs, hRr, hSr⟩ := hrel
    by_cases hlt : k < zs.length
    · have hRr' := hRr
      obtain ⟨b, off, rfl, hbs, hx0, hx1⟩ := hRr.at2 hlt
      have HT := Lib.hid (List.take_succ_eq_append_getElem hlt)
      have hJ1 : J (zs.take k) (wr.alloc (.cells #[.int .i64 zs[k].1, .int .i64 zs[k].2] 35)) := hJ _ _ _ none hJs (World.grownBy_alloc wr _ none) (fun r e => by cases e)
      obtain ⟨fn, tmps, assign, body, hy, hR⟩ := hY _ zs[k] _ hJ1 (by rw [List.length_take]; omega)
      gi_wp2
      refine hR.mono ?_
      rintro e W3 (⟨rfl, hJ3, hk3⟩ | ⟨rfl, hJx3⟩)
      · gi_wp2
        go_roundw
        case rel =>
          have hba : Below wr.heap.size wr (wr.alloc (.cells #[.int .i64 zs[k].1, .int .i64 zs[k].2] 35)) := (Below.refl _ _).alloc (Nat.le_refl _) _
          have hSa : ∀ a, some (⟨b, off, none⟩ : Addr) = some a → Safe (wr.alloc (.cells #[.int .i64 zs[k].1, .int .i64 zs[k].2] 35)) a.block := fun a ha => HH.out.grow hba (hSr.out a ha)
          exact ⟨k + 1, by omega, by simp, by rw [HT.out]; exact hJ3, (hRr'.below hba (Nat.le_refl _)).keeps HH.out hSa hk3, Lib.hid (fun a ha => HH.out.safe hk3 (hSa a ha))⟩
        case measure => simp [intOf]; omega
      · gi_wp2
        refine bodyPost_ret (results_none rfl _ _ _) rfl ?_
        exact ⟨⟨_, rfl⟩, .inr ⟨_, by rw [← HT.out]; exact List.take_prefix _ _, hJx3⟩⟩
    · obtain rfl : k = zs.length := by omega
      gi_wp2
      go_end0
      exact ⟨⟨_, rfl⟩, .inl ⟨_, rfl, by rw [List.take_length] at hJs; exact hJs⟩⟩

/-- slices.Values(s): the slice value is boxed; the function value captures the box. -/
theorem values_in (n : Nat) (v : Value) (w : World) (hv : v.oneCell' = true) (hv2 : v.cells = #[v]) :
    CallsIn FW n Tryz.prog 121 #[v] w fun e w' => e = .returned (.func (.func 130) #[] #[.pointer (some ⟨w.heap.size, 0, none⟩)]) ∧ w' = w.alloc (.cells #[v] 36) := by
  refine callsIn_of_wp Tryz.func121 rfl trivial ?_ rfl
  simp only [Tryz.ntmps121, List.size_toArray, List.length_cons, List.length_nil, Nat.reduceAdd, Nat.reduceSub, Array.replicate_succ, Array.replicate_zero, List.push_toArray, List.append_toArray, List.nil_append, List.cons_append]
  gi_wp2
  go_ret
  exact ⟨rfl, rfl⟩

/-- .. and gives all of zs, in order; or a part ahead -/
theorem values_stops {Kp : World → World → Prop} {Safe : World → Nat → Prop} (HK : Keeps Kp Safe) (n : Nat) (hn : 1 ≤ n) (Bs : Nat) (p : Option Addr) (cap : Nat) (zs : List Sp.S) (hl : zs.length ≤ 4611686018427387904) (w : World) (hBs : Bs < w.heap.size)
    (hc : w.cell? ⟨Bs, 0, none⟩ = some (.slice p zs.length cap)) (hR : RdP w 2 encSp p zs) (hS : ∀ a, p = some a → Safe w a.block) :
    SeqStopsK FW n Tryz.prog 130 #[.pointer (some ⟨Bs, 0, none⟩)] (fun x : Sp.S => #[.agg #[.int .i64 x.1, .int .i64 x.2]]) Kp (fun ys => ys = zs) (fun pre => pre <+: zs) zs.length w := fun l J Jx W hW hJ _ hY h0 =>
  values1_in HK n hn l Bs p cap zs hl J Jx W hJ hY ((hW.cell (p := ⟨Bs, 0, none⟩) hBs).trans hc) (hR.below hW (Nat.le_refl _)) (fun a ha => HK.grow hW (hS a ha)) h0

set_option maxRecDepth 100000 in
set_option maxHeartbeats 2000000 in
/-- for v := range seq { s = append(s, v) }, s nil at first -/
theorem appendSeq_in (n : Nat) (hn : 3 ≤ n) (gf : Nat) (lb : Array Value) (eg : ∀ args w, (callFunc gf args).run Tryz.prog w = .ok (.enter gf args) w) (zs : List Sp.S) (hl : zs.length ≤ 1073741824) (Sq : List Sp.S → Prop) (w : World)
    (hseq : ∀ W, Below w.heap.size w W → SeqStopsK FW (n - 1) Tryz.prog gf lb (fun x : Sp.S => #[.agg #[.int .i64 x.1, .int .i64 x.2]]) (Below w.heap.size) (fun ys => ys = zs) Sq zs.length W) :
    CallsIn FW n Tryz.prog 131 #[.slice none 0 0, .func (.func gf) #[] lb] w (RetRow w.heap.size 35 2 zs.length (flat encSp zs) w) := by
  have h1 : 1 ≤ n := by omega
  refine callsIn_of_wp_marks Tryz.func131 rfl trivial ?_ rfl
  simp only [Tryz.ntmps131, List.size_toArray, List.length_cons, List.length_nil, Nat.reduceAdd, Nat.reduceSub, Array.replicate_succ, Array.replicate_zero, List.push_toArray, List.append_toArray, List.nil_append, List.cons_append]
  gi_wp2
  have bO := Boxed.new w 36 (.slice none 0 0)
  have hB0 : Below w.heap.size w (w.alloc (.cells #[.slice none 0 0] 36)) := (Below.refl _ w).alloc (Nat.le_refl _) _
  refine wpIn_rangeFunc_ownH rfl h1 (gf := gf) (lb := lb) rfl trivial eg (hseq _ hB0) belowK_t (belowK_b (by simp)) (Below.refl _ _) (fun _ => rfl)
    (fun pre W => (∃ v, Boxed W w.heap.size 36 v ∧ W.ownsRow w.heap.size 35 2 v pre.length (flat encSp pre) ∧ True) ∧ Below w.heap.size w W)
    (fun _ _ _ => False)
    (OwnFrom.and (Own.from (holdsRow_own w.heap.size w.heap.size 36 35 2 (fun pre => pre.length) (fun pre => flat encSp pre) (fun _ _ => True)) _) (ownFrom_below (Nat.le_refl _) (by simp)))
    (fun _ _ _ _ _ hs _ _ => hs)
    ⟨⟨_, bO, World.ownsRow_nil _ _ _ _, trivial⟩, hB0⟩
    (fun x a' W => ∃ Bx, w.heap.size < Bx ∧ Blk W Bx 35 #[.int .i64 x.1, .int .i64 x.2] ∧ a' = { tmps := #[.slice none 0 0, .func (.func gf) #[] lb, .pointer (some ⟨w.heap.size, 0, none⟩), undef, .slice none 0 0, .pointer (some ⟨Bx, 0, none⟩), .func (.func gf) #[] lb, .agg #[.int .i64 x.1, .int .i64 x.2], undef, undef, undef, undef, undef], defers := [] })
    (fun x a' _ X Y row hs hg hr => by obtain ⟨Bx, h1, h2, h3⟩ := hs; exact ⟨Bx, h1, h2.own hg (fun r e => (hr r e).2), h3⟩)
    ?assign ?body ?done ?stop
  case assign =>
    rintro l pre x W K ⟨⟨v, hv, hrow, _⟩, hB⟩ hK
    gi_wp2
    exact hK _ _ ((KeepsOthers.alloc _ _).from _) ((Below.refl _ W).alloc hB.size _) ⟨⟨v, hv.alloc _, hrow.alloc _, trivial⟩, hB.alloc hB.size _⟩ ⟨W.heap.size, hv.lt, Blk.new W _ _, rfl⟩
  case body =>
    rintro l pre x a' W hl' ⟨r, hr⟩ ⟨⟨v, hv, hrow, _⟩, hB⟩ ⟨Bx, hBx, bX, rfl⟩ hlt
    have hc := hv.cell
    have hx0 := bX.cell 0
    have hx1 := bX.cell 1
    simp at hx0 hx1
    have hsz := hB.size
    gi_wp2_with (gi_at_builtin; refine wpListIn_app elemSp rfl _ _ rfl w.heap.size v _ _ rfl hrow 1 1 [.int .i64 x.1, .int .i64 x.2] rfl rfl (by simp [Value.oneCell']) (by omega) hsz ?_; intro v' w1 hown' hgrow _ _; obtain ⟨g', cap', rfl⟩ := ownsRow_succ hown'; obtain ⟨hv1, hv2, hr2, hk2, hb2⟩ := hv.appended (by decide) hrow hsz (Nat.le_refl _) hown' hgrow; have hc1 := hv1.cell; have hf1 := hv1.frozen)
    exact ⟨hk2.from _, hb2, ⟨_, hv2, by simpa [flat_append, flat, encSp] using hr2, trivial⟩, hB.trans hb2⟩
  case done =>
    rintro D ys W hD rfl ⟨⟨v, hv, hrow, _⟩, hB⟩ hK
    have hc := hv.cell
    gi_wp2
    refine ⟨by simp, .inl ⟨_, _, rfl, run_takeDeferred hK, ?_⟩⟩
    exact ⟨_, results_tmp rfl _ _ _, v, rfl, ownsRow_putObj hrow _ hK rfl, hB.trans (belowK_b (w := w) (Nat.le_refl _) W D _ _ (by simp at hD; omega) hK rfl rfl)⟩
  case stop =>
    rintro D c pre W _ _ h _
    exact h.elim
end Go.Proofs.YtilahcnpjbnjiaaGreatDoor
