/- spans.right: those that may be, rising; and spans.joined over it. -/
import Derived.Test.YtilahcnpjbnjiaaGreatDoorSpansSeq
import Derived.Test.YtilahcnpjbnjiaaGreatDoorSpansSort
import Derived.Test.YtilahcnpjbnjiaaGreatDoorSpansRef2
namespace Go.Proofs.YtilahcnpjbnjiaaGreatDoor
set_option linter.unusedVariables false
set_option linter.unusedSimpArgs false
open Go.RowKit Go.Shelf Go.Proofs
attribute [local go_sem] Oper.semAt_some

theorem collect_in (n : Nat) (hn : 4 ≤ n) (gf : Nat) (lb : Array Value) (eg : ∀ args w, (callFunc gf args).run Tryz.prog w = .ok (.enter gf args) w) (zs : List Sp.S) (hl : zs.length ≤ 1073741824) (Sq : List Sp.S → Prop) (w : World)
    (hseq : ∀ W m, 2 ≤ m → Below w.heap.size w W → SeqStopsK FW m Tryz.prog gf lb (fun x : Sp.S => #[.agg #[.int .i64 x.1, .int .i64 x.2]]) (Below w.heap.size) (fun ys => ys = zs) Sq zs.length W) :
    CallsIn FW n Tryz.prog 128 #[.func (.func gf) #[] lb] w (RetRow w.heap.size 35 2 zs.length (flat encSp zs) w) := by
  have hfn : ∀ k, FW.fn k := fun _ => trivial
  have hn1 : 1 ≤ n := by omega
  refine callsIn_of_wp Tryz.func128 rfl trivial ?_ rfl
  simp only [Tryz.ntmps128, List.size_toArray, List.length_cons, List.length_nil, Nat.reduceAdd, Nat.reduceSub, Array.replicate_succ, Array.replicate_zero, List.push_toArray, List.append_toArray, List.nil_append, List.cons_append]
  have hcon := appendSeq_in (n - 1) (by omega) gf lb eg zs hl Sq w (fun W hW => hseq W _ (by omega) hW)
  gi_wp2_with (gi_at_call 131; refine hcon.mono ?_; rintro e w1 ⟨v, rfl, hrow, hb⟩)
  go_ret
  exact ⟨v, rfl, hrow, hb⟩

def RetSorted (zs : List Sp.S) (w : World) (e : Ending) (w' : World) : Prop := ∃ v d, e = .returned v ∧ d.Perm zs ∧ Sp.Rising d ∧ w'.ownsRow w.heap.size 35 2 v d.length (flat encSp d) ∧ Below w.heap.size w w'

theorem sortedFunc_in (n : Nat) (hn : 5 ≤ n) (gf : Nat) (lb : Array Value) (eg : ∀ args w, (callFunc gf args).run Tryz.prog w = .ok (.enter gf args) w) (zs : List Sp.S) (hl : zs.length ≤ 1073741824) (Sq : List Sp.S → Prop) (w : World)
    (hseq : ∀ W m, 2 ≤ m → Below w.heap.size w W → SeqStopsK FW m Tryz.prog gf lb (fun x : Sp.S => #[.agg #[.int .i64 x.1, .int .i64 x.2]]) (Below w.heap.size) (fun ys => ys = zs) Sq zs.length W) :
    CallsIn FW n Tryz.prog 120 #[.func (.func gf) #[] lb, .func (.func 122) #[] #[]] w (RetSorted zs w) := by
  have hfn : ∀ k, FW.fn k := fun _ => trivial
  have hn1 : 1 ≤ n := by omega
  refine callsIn_of_wp Tryz.func120 rfl trivial ?_ rfl
  simp only [Tryz.ntmps120, List.size_toArray, List.length_cons, List.length_nil, Nat.reduceAdd, Nat.reduceSub, Array.replicate_succ, Array.replicate_zero, List.push_toArray, List.append_toArray, List.nil_append, List.cons_append]
  have hcon := collect_in (n - 1) (by omega) gf lb eg zs hl Sq w hseq
  gi_wp2_with (first
    | (gi_at_call 128; refine hcon.mono ?_; rintro e w1 ⟨v, rfl, hrow, hb⟩; have hs := sortSp zs (by omega) v w1 w.heap.size hb.size hrow)
    | (gi_at_call 129; refine (callsIn_wide.2 hs).mono ?_; rintro e w2 ⟨rfl, d, hp, hr, hrow2, hb2⟩))
  go_ret
  exact ⟨v, d, rfl, hp, hr, hrow2, hb.trans hb2⟩

theorem spans_may_yes (s : Sp.S) (w : World) (h : Sp.mayB s = true) :
    Calls Tryz.prog 73 #[.agg #[.int .i64 s.1, .int .i64 s.2]] w fun e w' => e = .returned (.bool true) ∧ Below w.heap.size w w' := by
  obtain ⟨a, b⟩ := s
  have hm := Sp.mayB_iff.1 h
  simp only at hm
  obtain ⟨h1, h2, h3⟩ := hm
  have hb : ∀ o : Obj, Below w.heap.size w (w.alloc o) := fun o => (Below.refl _ _).alloc (Nat.le_refl _) _
  clear h
  go_enter Tryz.func73, Tryz.ntmps73
  go_wp2
  go_ret
  exact ⟨rfl, hb _⟩

theorem spans_may_no (s : Sp.S) (w : World) (h : Sp.mayB s = false) :
    Calls Tryz.prog 73 #[.agg #[.int .i64 s.1, .int .i64 s.2]] w fun e w' => e = .returned (.bool false) ∧ Below w.heap.size w w' := by
  obtain ⟨a, b⟩ := s
  have hm : ¬ (0 ≤ a ∧ a ≤ b ∧ b ≤ 1048575) := fun hn => by rw [Sp.mayB_iff.2 hn] at h; cases h
  have hb : ∀ o : Obj, Below w.heap.size w (w.alloc o) := fun o => (Below.refl _ _).alloc (Nat.le_refl _) _
  clear h
  have HM := Lib.hid hm
  clear hm
  go_enter Tryz.func73, Tryz.ntmps73
  go_wp2
  all_goals go_ret
  all_goals refine ⟨ret_bool ?_, hb _⟩
  all_goals have := HM.out
  all_goals simp
  all_goals omega

theorem right_in (n : Nat) (hn : 1 ≤ n) (v : Value) (w : World) (hv : v.oneCell' = true) (hv2 : v.cells = #[v]) :
    CallsIn FW n Tryz.prog 109 #[v] w fun e w' => e = .returned (.func (.func 119) #[] #[.pointer (some ⟨w.heap.size, 0, none⟩)]) ∧ w' = w.alloc (.cells #[v] 36) := by
  have hfn : ∀ k, FW.fn k := fun _ => trivial
  have hn1 : 1 ≤ n := by omega
  refine callsIn_of_wp Tryz.func109 rfl trivial ?_ rfl
  simp only [Tryz.ntmps109, List.size_toArray, List.length_cons, List.length_nil, Nat.reduceAdd, Nat.reduceSub, Array.replicate_succ, Array.replicate_zero, List.push_toArray, List.append_toArray, List.nil_append, List.cons_append]
  gi_wp2
  go_ret
  exact ⟨rfl, rfl⟩

set_option maxRecDepth 100000 in
set_option maxHeartbeats 4000000 in
theorem right1_in {Kp : World → World → Prop} {Safe : World → Nat → Prop} (HK : Keeps Kp Safe) (n : Nat) (hn : 8 ≤ n) (l Bs : Nat) (p : Option Addr) (cap : Nat) (zs : List Sp.S) (hl : zs.length ≤ 1073741824) (J Jx : List Sp.SM → World → Prop)
    (W : World) (hJ : AbidesFrom W.heap.size J)
    (hY : ∀ pre x W1, J pre W1 → pre.length < zs.length → YieldAt FW (n - 1) Tryz.prog l #[.agg #[.int .i64 x.1.1, .int .i64 x.1.2]] W1 fun e W' =>
      (e = .returned (.bool true) ∧ J (pre ++ [x]) W' ∧ Kp W1 W') ∨ (e = .returned (.bool false) ∧ Jx (pre ++ [x]) W'))
    (hBs : W.cell? ⟨Bs, 0, none⟩ = some (.slice p zs.length cap)) (hR : RdP W 2 encSp p zs) (hF : Fresh Safe W) (h0 : J [] W) :
    CallsIn FW n Tryz.prog 119 #[.func (.yield l) #[] #[], .pointer (some ⟨Bs, 0, none⟩)] W fun e W' => (∃ v, e = .returned v) ∧
      ((∃ ys : List Sp.SM, Sp.Told zs (ys.map (·.1)) ∧ J ys W') ∨ (∃ pre : List Sp.SM, True ∧ Jx pre W')) := by
  have hfn : ∀ k, FW.fn k := fun _ => trivial
  have hn1 : 1 ≤ n := by omega
  refine callsIn_of_wp Tryz.func119 rfl trivial ?_ rfl
  simp only [Tryz.ntmps119, List.size_toArray, List.length_cons, List.length_nil, Nat.reduceAdd, Nat.reduceSub, Array.replicate_succ, Array.replicate_zero, List.push_toArray, List.append_toArray, List.nil_append, List.cons_append]
  have HX : Hid (CallsIn FW (n - 1) Tryz.prog 120 #[.func (.func 130) #[] #[.pointer (some ⟨W.heap.size, 0, none⟩)], .func (.func 122) #[] #[]] (W.alloc (.cells #[.slice p zs.length cap] 36)) (RetSorted zs (W.alloc (.cells #[.slice p zs.length cap] 36)))) := by
    refine sortedFunc_in (n - 1) (by omega) 130 #[.pointer (some ⟨W.heap.size, 0, none⟩)] (enters_of Tryz.func130 (by kernel_rfl) rfl) zs hl (fun pre => pre <+: zs) _ ?_
    intro W2 m hm hW2
    have hsz := hW2.size
    simp at hsz
    have hc := (hW2.cell (p := ⟨W.heap.size, 0, none⟩) (by simp)).trans (Boxed.new W 36 (.slice p zs.length cap)).cell
    have hRa := hR.below ((Below.refl _ _).alloc (Nat.le_refl _) (.cells #[.slice p zs.length cap] 36)) (Nat.le_refl _)
    exact values_stops (Keeps.below _) m (by omega) W.heap.size p cap zs (by omega) W2 (by omega) hc (hRa.below hW2 (Nat.le_refl _)) (fun a ha => by subst ha; exact hRa.lt)
  have HH := Lib.hid HK
  have HFr := Lib.hid hF
  clear HK hF
  gi_wp2_with (first
    | (gi_at_call 121; refine (values_in (n - 1) _ _ rfl rfl).mono ?_; rintro e w1 ⟨rfl, rfl⟩)
    | (gi_at_call 120; refine HX.out.mono ?_; rintro e w2 ⟨v, d, rfl, hp, hr, hrow, hb2⟩; obtain ⟨p2, c2, rfl, hd1, hd2, hR2⟩ := owns_sp hrow))
  have hbJ : Below W.heap.size W w2 := ((Below.refl _ _).alloc (Nat.le_refl _) _).trans (hb2.mono (by simp))
  have hJ2 : J [] w2 := hJ _ _ _ none h0 ⟨hbJ.os, hbJ.tape, hbJ.output, hbJ.size, fun k hk _ => hbJ.block k hk⟩ (fun r e => by cases e)
  have hdl := hp.length_eq
  have HS2 : Hid (∀ a, p2 = some a → Safe w2 a.block) := fun a ha => HFr.out w2 hbJ _ (by subst ha; have := (hrow.lt a.block rfl).1; simp at this; omega) (by subst ha; exact hR2.lt)
  have HP := Lib.hid hp
  have hle : d.length ≤ zs.length := by omega
  have HL := Lib.hid hdl
  clear hdl hp hrow
  gi_loopw [9] (fun i wr => ∃ k : Nat, k ≤ d.length ∧ i = .int .i64 k ∧ J (Sp.tm (d.take k)) wr ∧ RdP wr 2 encSp p2 d ∧ Hid (∀ a, p2 = some a → Safe wr a.block) ∧ W.heap.size ≤ wr.heap.size) (fun i _ => d.length - (intOf i).toNat)
  case atStart => exact ⟨0, Nat.zero_le _, rfl, hJ2, hR2, HS2, hbJ.size⟩
  case round =>
    obtain ⟨k, hk, rfl, hJs, hRr, hSr, hsz⟩ := hrel
    by_cases hlt : k < d.length
    · have hRr' := hRr
      obtain ⟨b, off, rfl, hbs, hx0, hx1⟩ := hRr.at2 hlt
      have HT := Lib.hid (List.take_succ_eq_append_getElem hlt)
      have hba : Below wr.heap.size wr (wr.alloc (.cells #[.int .i64 d[k].1, .int .i64 d[k].2] 35)) := (Below.refl _ _).alloc (Nat.le_refl _) _
      cases hm : Sp.mayB d[k]
      · gi_wp2_with (gi_at_call 73; refine (callsIn_wide.2 (spans_may_no _ _ hm)).mono ?_; rintro e w3 ⟨rfl, hb3⟩)
        have hb4 := hba.trans (hb3.mono (by simp))
        have hJ3 : J (Sp.tm (d.take k)) w3 := hJ _ _ _ none hJs ⟨hb4.os, hb4.tape, hb4.output, hb4.size, fun k hk _ => hb4.block k hk⟩ (fun r e => by cases e)
        go_roundw
        case rel => exact ⟨k + 1, by omega, by simp, by rw [HT.out, Sp.tm_no _ hm]; exact hJ3, hRr'.below hb4 (Nat.le_refl _), Lib.hid (fun a ha => HH.out.grow hb4 (hSr.out a ha)), Nat.le_trans hsz hb4.size⟩
        case measure => simp [intOf]; omega
      · have hfl : (Sp.tm (d.take k)).length < zs.length := by
          have h1 := Sp.tm_length (d.take k)
          rw [List.length_take] at h1
          omega
        gi_wp2_with (gi_at_call 73; refine (callsIn_wide.2 (spans_may_yes _ _ hm)).mono ?_; rintro e w3 ⟨rfl, hb3⟩; obtain ⟨hp0, hp1, hz1, hbw⟩ := box2 hb3; have hb4 := hba.trans (hb3.mono (by simp)); have hJ3 : J (Sp.tm (d.take k)) w3 := hJ _ _ _ none hJs ⟨hb4.os, hb4.tape, hb4.output, hb4.size, fun k hk _ => hb4.block k hk⟩ (fun r e => by cases e); obtain ⟨fn, tmps, assign, body, hy, hRo⟩ := hY _ ⟨d[k], hm⟩ _ hJ3 hfl)
        refine hRo.mono ?_
        have hSb : ∀ a, some (⟨b, off, none⟩ : Addr) = some a → Safe w3 a.block := fun a ha => HH.out.grow hb4 (hSr.out a ha)
        have HSb := Lib.hid hSb
        clear hSb
        rintro e W3 (⟨rfl, hJ4, hk4⟩ | ⟨rfl, hJx⟩)
        · gi_wp2
          go_roundw
          case rel => exact ⟨k + 1, by omega, by simp, by rw [HT.out, Sp.tm_yes _ hm]; exact hJ4, (hRr'.below hb4 (Nat.le_refl _)).keeps HH.out HSb.out hk4, Lib.hid (fun a ha => HH.out.safe hk4 (HSb.out a ha)), Nat.le_trans hsz (Nat.le_trans hb4.size (HH.out.size hk4))⟩
          case measure => simp [intOf]; omega
        · gi_wp2
          refine bodyPost_ret (results_none rfl _ _ _) rfl ?_
          exact ⟨⟨_, rfl⟩, .inr ⟨_, trivial, hJx⟩⟩
    · gi_wp2
      go_end0
      have hkk : k = d.length := by omega
      exact ⟨⟨_, rfl⟩, .inl ⟨Sp.tm d, ⟨d, HP.out, hr, Sp.tm_map d⟩, by rw [hkk, List.take_length] at hJs; exact hJs⟩⟩
end Go.Proofs.YtilahcnpjbnjiaaGreatDoor
