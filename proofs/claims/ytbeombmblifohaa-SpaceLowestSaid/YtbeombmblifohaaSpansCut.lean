/- spans.Cut. -/
import Derived.Test.YtbeombmblifohaaSpansFns3
import Derived.Deep.DeepCutAuto
namespace Go.Proofs.Ytbeombmblifohaa
set_option linter.unusedVariables false
set_option linter.unusedSimpArgs false
open Go.RowKit Go.Shelf Go.Proofs

theorem wpList_app' {P : Program} {w : World} {ops : Array Oper} {rest : List Oper} {o : Oper} {a : Act} {Q : Exit → Act → World → Prop} {t e : TypeId} {size bytes : Nat} (hE : ElemOk P t e size bytes) (hgd : o.guard = none) (s x : Operand)
    (ho : o.op = .call { callee := .builtin .append, args := #[s, x], argTypes := #[t, t] })
    (base : Nat) (v : Value) (n : Nat) (xs : List Value) (hs : a.eval s = v) (hown : w.ownsRow base e size v n xs)
    (m c B : Nat) (hBe : B = w.heap.size) (news : List Value) (hx : a.eval x = .slice (some ⟨B, 0, none⟩) m c) (hl : news.length = m * size) (h1 : ∀ u ∈ news, u.oneCell' = true)
    (hsm : n + m ≤ 1099511627776) (hbase : base ≤ w.heap.size)
    (h : ∀ v' w', w'.ownsRow base e size v' (n + m) (xs ++ news) → w.grownBy w' v.ownBlock → (v'.ownBlock = v.ownBlock ∨ v'.ownBlock = some (w.heap.size + 1)) → Below base w w' → wpList P ops Q rest (a.put o.dst v') w') :
    wpList P ops Q (o :: rest) a (w.alloc (.cells news.toArray e)) := by
  subst hBe
  exact wpList_app hE hgd s x ho base v n xs hs hown m c news hx hl h1 hsm hbase h

theorem blk_two (W : World) (t : TypeId) (cs cs' : Array Value) : Blk ((W.alloc (.cells cs t)).alloc (.cells cs' t)).drew W.heap.size t cs ∧ Blk ((W.alloc (.cells cs t)).alloc (.cells cs' t)).drew (W.heap.size + 1) t cs' ∧ Below W.heap.size W ((W.alloc (.cells cs t)).alloc (.cells cs' t)).drew := by
  refine ⟨((Blk.new W t cs).kept (row := none) (World.grownBy_alloc _ (.cells cs' t) none) (by simp) : Blk ((W.alloc (.cells cs t)).alloc (.cells cs' t)) W.heap.size t cs), ?_, (((Below.refl _ _).alloc (Nat.le_refl _) _).alloc (by simp) _).drew⟩
  have h := Blk.new (W.alloc (.cells cs t)) t cs'
  rw [World.size_alloc] at h
  exact h
theorem Blk.frozen {w : World} {g : Nat} {t : TypeId} {cs : Array Value} (h : Blk w g t cs) (i : Nat) : w.frozen? ⟨g, i, none⟩ = false := by
  unfold Blk at h; simp [World.frozen?, h]

set_option maxRecDepth 100000 in
set_option maxHeartbeats 4000000 in
theorem spans_Cut (l : List Sp.S) (s : Sp.S) (v : Value) (w : World) (hl : l.length ≤ 536870912) (hv : SlR w 2 encSp v l) :
    Calls Try.prog 69 #[v, .agg #[.int .i64 s.1, .int .i64 s.2]] w (RetRow w.heap.size 27 2 (Sp.cut l s).length (flat encSp (Sp.cut l s)) w) := by
  obtain ⟨a, b⟩ := s
  have hml := Sp.norm_length l
  have hB0 : Below w.heap.size w (w.alloc (.cells #[.int .i64 a, .int .i64 b] 27)) := (Below.refl _ _).alloc (Nat.le_refl _) _
  have hcon := spans_Norm l (by omega) v _ (hv.below hB0 (Nat.le_refl _))
  cases hm : Sp.mayB (a, b)
  · rw [show Sp.cut l (a, b) = Sp.norm l by simp [Sp.cut, hm]]
    generalize Sp.norm l = m at hcon hml ⊢
    have HC := Lib.hid hcon
    clear hcon
    go_enter Try.func69, Try.ntmps69
    go_wp2_with (first
      | (go_at_call 58; refine HC.out.mono ?_; rintro e w1 ⟨v1, rfl, hown1, hb1⟩; obtain ⟨hp0, hp1, hz1, hbw⟩ := box2 hb1)
      | (go_at_call 66; refine (spans_may_no _ _ hm).mono ?_; rintro e w2 ⟨rfl, hb2⟩))
    go_ret
    exact ⟨v1, rfl, owns_base (owns_below hown1 hb2 (Nat.le_refl _)) (by simp), hbw.trans (hb2.mono hbw.size)⟩
  · rw [show Sp.cut l (a, b) = Sp.norm (Sp.pieces (a, b) (Sp.norm l)) by simp [Sp.cut, hm]]
    have HM := Lib.hid (Sp.norm_ok l).1.may
    generalize Sp.norm l = m at hcon hml HM ⊢
    have hcon2 : ∀ v W, SlR W 2 encSp v (Sp.pieces (a, b) m) → Calls Try.prog 70 #[v] W (RetRow W.heap.size 27 2 (Sp.norm (Sp.pieces (a, b) m)).length (flat encSp (Sp.norm (Sp.pieces (a, b) m))) W) := fun v W h => joined_any _ (by rw [Sp.pieces_len]; omega) v W h
    generalize Sp.norm (Sp.pieces (a, b) m) = q at hcon2 ⊢
    have HC := Lib.hid hcon
    have HC2 := Lib.hid hcon2
    clear hcon hcon2
    obtain ⟨ha1, ha2, ha3⟩ := Sp.mayB_iff.1 hm
    simp only at ha1 ha2 ha3
    go_enter Try.func69, Try.ntmps69
    go_wp2_with (first
      | (go_at_call 58; refine HC.out.mono ?_; rintro e w1 ⟨v1, rfl, hown1, hb1⟩; obtain ⟨hp0, hp1, hz1, hbw⟩ := box2 hb1; obtain ⟨p1, c1, rfl, hd1, hd2, hR0⟩ := owns_sp hown1)
      | (go_at_call 66; refine (spans_may_yes _ _ hm).mono ?_; rintro e w2 ⟨rfl, hb2⟩))
    have hq0 := (hb2.cell (p := ⟨w.heap.size, 0, none⟩) hz1).trans hp0
    have hq1 := (hb2.cell (p := ⟨w.heap.size, 1, none⟩) hz1).trans hp1
    have hz := Nat.lt_of_lt_of_le hz1 hb2.size
    have hb3 := Lib.hid (hbw.trans (hb2.mono hbw.size))
    have hR1 := hR0.below hb2 (Nat.le_refl _)
    clear hown1 hb1 hb2 hp0 hp1 hbw hR0
    go_loopw [5, 18] (fun o i wr => ∃ k : Nat, k ≤ m.length ∧ i = .int .i64 k ∧ wr.ownsRow w2.heap.size 27 2 o (k * 2) (flat encSp (Sp.pieces (a, b) (m.take k))) ∧ Below w2.heap.size w2 wr) (fun _ i _ => m.length - (intOf i).toNat)
    case atStart => exact ⟨0, Nat.zero_le _, rfl, World.ownsRow_nil _ _ _ _, Below.refl _ _⟩
    case round =>
      obtain ⟨k, hk, rfl, hrow, hbl⟩ := hrel
      by_cases hlt : k < m.length
      · obtain ⟨g, off, rfl, hbs, hx0, hx1⟩ := (hR1.below hbl (Nat.le_refl _)).at2 hlt
        have q0 : wr.cell? ⟨w.heap.size, 0, none⟩ = some (.int .i64 a) := (hbl.cell (p := ⟨w.heap.size, 0, none⟩) hz).trans hq0
        have q1 : wr.cell? ⟨w.heap.size, 1, none⟩ = some (.int .i64 b) := (hbl.cell (p := ⟨w.heap.size, 1, none⟩) hz).trans hq1
        have hbz : w2.heap.size ≤ wr.heap.size := hbl.size
        obtain ⟨hm1, hm2, hm3⟩ := Sp.mayB_iff.1 (HM.out _ (List.getElem_mem hlt))
        have HT := Lib.hid (Sp.pieces_take (s := (a, b)) hlt)
        have HR := Lib.hid hrow
        clear hrow
        go_upto_region 8 with fail
        go_cut [8, 9] (fun s8 s9 wx => ∃ g8 g9 : Nat, s8 = .pointer (some ⟨g8, 0, none⟩) ∧ s9 = .pointer (some ⟨g9, 0, none⟩) ∧ wr.heap.size < g8 ∧ wr.heap.size < g9 ∧ g8 ≠ g9 ∧ Blk wx g8 27 #[.int .i64 m[k].1, .int .i64 m[k].2] ∧ Blk wx g9 27 #[.int .i64 m[k].1, .int .i64 m[k].2] ∧ Below (wr.heap.size + 1) (wr.alloc (.cells #[.int .i64 m[k].1, .int .i64 m[k].2] 27)) wx)
        case first =>
          go_region
          all_goals (go_wp2_with fail; go_meet)
          all_goals
            obtain ⟨t1, t2, t3⟩ := blk_two (wr.alloc (.cells #[.int .i64 m[k].1, .int .i64 m[k].2] 27)) 27 #[.int .i64 m[k].1, .int .i64 m[k].2] #[.int .i64 m[k].1, .int .i64 m[k].2]
            simp only [World.size_alloc] at t1 t2 t3
          · exact ⟨_, _, rfl, rfl, by omega, by omega, by omega, t1, t2, t3⟩
          · exact ⟨_, _, rfl, rfl, by omega, by omega, by omega, t2, t1, t3⟩
        case rest =>
          obtain ⟨g8, g9, rfl, rfl, hg8, hg9, hne, k8, k9, hbc⟩ := hcut
          have hcx := hbc.cell (p := ⟨wr.heap.size, 0, none⟩) (by simp)
          have hcy := hbc.cell (p := ⟨wr.heap.size, 1, none⟩) (by simp)
          obtain ⟨hx0', hx1', _, hbw⟩ := box2 (hbc.mono (by simp) : Below (wr.alloc (.cells #[.int .i64 m[k].1, .int .i64 m[k].2] 27)).heap.size _ wc)
          have y0 : wc.cell? ⟨w.heap.size, 0, none⟩ = some (.int .i64 a) := (hbw.cell (p := ⟨w.heap.size, 0, none⟩) (by simp only; omega)).trans q0
          have y1 : wc.cell? ⟨w.heap.size, 1, none⟩ = some (.int .i64 b) := (hbw.cell (p := ⟨w.heap.size, 1, none⟩) (by simp only; omega)).trans q1
          have c80 := k8.cell 0
          have c81 := k8.cell 1
          have c90 := k9.cell 0
          have c91 := k9.cell 1
          have f81 := k8.frozen 1
          have f90 := k9.frozen 0
          simp at c80 c81 c90 c91
          have n1 : g9 ≠ g8 := fun h => hne h.symm
          have n2 : wr.heap.size ≠ g8 := by omega
          have n3 : g8 ≠ wr.heap.size := by omega
          have n4 : w.heap.size ≠ g8 := by omega
          have n5 : g8 ≠ w.heap.size := by omega
          have hBW : ∀ x y, Below wr.heap.size wr ((wc.setCell ⟨g8, 1, none⟩ x).setCell ⟨g9, 0, none⟩ y) := fun x y => (hbw.setCell (p := ⟨g8, 1, none⟩) (by simp only; omega) x).setCell (p := ⟨g9, 0, none⟩) (by simp only; omega) y
          have hBW2 := Lib.hid hBW
          have hrowW : ∀ x y, ((wc.setCell ⟨g8, 1, none⟩ x).setCell ⟨g9, 0, none⟩ y).ownsRow w2.heap.size 27 2 _ (k * 2) (flat encSp (Sp.pieces (a, b) (m.take k))) := fun x y => owns_below HR.out (hBW x y) (Nat.le_refl _)
          have hbaseW : ∀ x y, w2.heap.size ≤ ((wc.setCell ⟨g8, 1, none⟩ x).setCell ⟨g9, 0, none⟩ y).heap.size := fun x y => Nat.le_trans hbz (hBW x y).size
          have HRW := Lib.hid hrowW
          have HBW := Lib.hid hbaseW
          clear hrowW hbaseW
          clear hBW hbc hcx hcy q0 q1 hx0 hx1 k8 k9
          have hfin : ∀ x y (v' : Value) (w' : World), x = min m[k].2 (a - 1) → y = max m[k].1 (b + 1) → w'.ownsRow w2.heap.size 27 2 v' (k * 2 + 2) (flat encSp (Sp.pieces (a, b) (m.take k)) ++ [.int .i64 m[k].1, .int .i64 x, .int .i64 y, .int .i64 m[k].2]) → w'.ownsRow w2.heap.size 27 2 v' ((k + 1) * 2) (flat encSp (Sp.pieces (a, b) (m.take (k + 1)))) := by
            rintro x y v' w' rfl rfl h
            rw [HT.out, flat_append, show (k + 1) * 2 = k * 2 + 2 by omega]
            exact h
          have HN := Lib.hid hfin
          clear hfin
          go_wp2_with (at_builtin; refine wpList_app' elemSp rfl (.tmp 38) (.tmp 41) rfl w2.heap.size _ _ _ rfl (HRW.out _ _) 2 2 _ (by simp) _ rfl rfl (by simp [Value.oneCell']) (by omega) (HBW.out _ _) ?_; intro v' w' hown' _ _ hb')
          exact ⟨⟨k + 1, by omega, by go_num, HN.out _ _ _ _ rfl rfl hown', hbl.trans (((hBW2.out _ _).mono hbz).trans hb')⟩, by simp [intOf]; omega⟩
      · go_wp2_with fail
        rw [List.take_of_length_le (by omega)] at hrow
        have hkk : k = m.length := by omega
        rw [show k * 2 = (Sp.pieces (a, b) m).length by rw [Sp.pieces_len, hkk]] at hrow
        have hbw := hb3.out
        refine (HC2.out _ wr (SlR.of_owns encSp_len hrow)).mono ?_
        rintro e w4 ⟨v4, rfl, hown4, hb4⟩
        go_wp2
        go_ret
        have hb5 := hbw.trans (hbl.mono hbw.size)
        exact ⟨v4, rfl, owns_base hown4 hb5.size, hb5.trans (hb4.mono hb5.size)⟩
end Go.Proofs.Ytbeombmblifohaa
