/- The walks of footplateref11: each returns what the plain rows' functions say. -/
import Derived.Test.YtilahcnpjbnjiaaGreatDoorMBase
import Derived.Test.YtilahcnpjbnjiaaGreatDoorMSpanP
namespace Go.Proofs.YtilahcnpjbnjiaaGreatDoor
set_option linter.unusedVariables false
set_option linter.unusedSimpArgs false
open Go.RowKit

def encSp (s : Sp.S) : List Value := [.int .i64 s.1, .int .i64 s.2]
theorem encSp_len (s : Sp.S) : (encSp s).length = 2 := rfl

theorem RdP.at2 {w : World} {p : Option Addr} {xs : List Sp.S} (h : RdP w 2 encSp p xs) {i : Nat} (hi : i < xs.length) :
    ∃ b off, p = some ⟨b, off, none⟩ ∧ b < w.heap.size ∧ w.cell? ⟨b, off + i * 2, none⟩ = some (.int .i64 xs[i].1) ∧ w.cell? ⟨b, off + i * 2 + 1, none⟩ = some (.int .i64 xs[i].2) := by
  obtain ⟨b, off, h1, h2, h3⟩ := h.at hi
  exact ⟨b, off, h1, h2, h3 0 _ rfl, h3 1 _ rfl⟩

set_option maxHeartbeats 400000 in
theorem ref_may_yes (s : Sp.S) (w : World) (h : Sp.mayB s = true) :
    Calls Tryz.prog 79 #[.agg #[.int .i64 s.1, .int .i64 s.2]] w fun e w' => e = .returned (.bool true) ∧ Below w.heap.size w w' := by
  obtain ⟨a, b⟩ := s
  have hm := Sp.mayB_iff.1 h
  simp only at hm
  obtain ⟨h1, h2, h3⟩ := hm
  have hb : ∀ o : Obj, Below w.heap.size w (w.alloc o) := fun o => (Below.refl _ _).alloc (Nat.le_refl _) _
  clear h
  go_enter Tryz.func79, Tryz.ntmps79
  go_wp2
  go_ret
  exact ⟨rfl, hb _⟩

set_option maxHeartbeats 400000 in
theorem ref_may_no (s : Sp.S) (w : World) (h : Sp.mayB s = false) :
    Calls Tryz.prog 79 #[.agg #[.int .i64 s.1, .int .i64 s.2]] w fun e w' => e = .returned (.bool false) ∧ Below w.heap.size w w' := by
  obtain ⟨a, b⟩ := s
  have hm : ¬ (0 ≤ a ∧ a ≤ b ∧ b ≤ 1048575) := fun hn => by rw [Sp.mayB_iff.2 hn] at h; cases h
  have hb : ∀ o : Obj, Below w.heap.size w (w.alloc o) := fun o => (Below.refl _ _).alloc (Nat.le_refl _) _
  clear h
  have HM := Lib.hid hm
  clear hm
  go_enter Tryz.func79, Tryz.ntmps79
  go_wp2
  all_goals go_ret
  all_goals refine ⟨ret_bool ?_, hb _⟩
  all_goals have := HM.out
  all_goals simp
  all_goals omega

set_option maxHeartbeats 1000000 in
theorem ref_last (l : List Sp.S) (v : Value) (n : Int) (w : World) (hl : l.length ≤ 1073741824) (hv : SlR w 2 encSp v l) (hn : 0 ≤ n) (hn' : n ≤ 1048575) :
    Calls Tryz.prog 96 #[v, .int .i64 n] w (RetInt (fun m => Sp.LastAt l n m false) w) := by
  obtain ⟨p, cap, rfl, hc1, hc2, hR⟩ := hv
  go_enter Tryz.func96, Tryz.ntmps96
  go_wp2
  go_loopw [1, 5] (fun q b wr => ∃ (m : Int) (bb : Bool), q = .int .i64 m ∧ b = .bool bb ∧ Sp.LastAt l n m bb ∧ Below w.heap.size w wr) (fun q b _ => 2 * (1048576 - (intOf q).toNat) + boolOf b)
  case atStart => exact ⟨n, true, rfl, rfl, Sp.LastAt.first l hn', Below.refl _ _⟩
  case round =>
    obtain ⟨m, bb, rfl, rfl, H, hbl⟩ := hrel
    have hm1 := H.1
    have hm2 := H.2.1
    cases bb
    · go_wp2
      go_ret
      exact ⟨m, rfl, H, hbl⟩
    · obtain ⟨wo, rfl⟩ : ∃ wo : World, wo = wr := ⟨_, rfl⟩
      go_wp2
      go_loopw [1, 5, 6] (fun q b i wr => ∃ (m' : Int) (b' : Bool) (k : Nat), q = .int .i64 m' ∧ b = .bool b' ∧ i = .int .i64 k ∧ k ≤ l.length ∧ Sp.LastIn l n m m' b' k ∧ Below w.heap.size w wr) (fun _ _ i _ => l.length - (intOf i).toNat)
      case atStart => exact ⟨m, false, 0, rfl, rfl, rfl, Nat.zero_le _, H.start, hbl⟩
      case round =>
        obtain ⟨m', b', k, rfl, rfl, rfl, hk, G, hbl'⟩ := hrel
        have hm3 := G.1
        have hm4 := G.2.1
        by_cases hlt : k < l.length
        · obtain ⟨b, off, rfl, hbs, hx0, hx1⟩ := (hR.below hbl' (Nat.le_refl _)).at2 hlt
          cases hm : Sp.mayB l[k]
          · go_wp2_with (go_at_call 79; refine (ref_may_no _ _ hm).mono ?_; rintro e w1 ⟨rfl, hb1⟩; obtain ⟨hc, hf⟩ := bcell hb1)
            exact ⟨⟨m', b', k + 1, rfl, rfl, by go_num, by omega, G.skip hlt (by rw [hm]; intro h; cases h), hbl'.trans (hb1.mono hbl'.size)⟩, by simp [intOf]; omega⟩
          · have hmm2 := Sp.mayB_iff.1 hm
            go_wp2_with (go_at_call 79; refine (ref_may_yes _ _ hm).mono ?_; rintro e w1 ⟨rfl, hb1⟩; obtain ⟨hc, hf⟩ := bcell hb1)
            · exact ⟨⟨_, true, k + 1, rfl, rfl, by go_num, by omega, G.grow hlt hm (by assumption) (by assumption), hbl'.trans (hb1.mono hbl'.size)⟩, by simp [intOf]; omega⟩
            · exact ⟨⟨m', b', k + 1, rfl, rfl, by go_num, by omega, G.skip hlt (fun _ _ => by assumption), hbl'.trans (hb1.mono hbl'.size)⟩, by simp [intOf]; omega⟩
            · exact ⟨⟨m', b', k + 1, rfl, rfl, by go_num, by omega, G.skip hlt (fun _ h => absurd h (by assumption)), hbl'.trans (hb1.mono hbl'.size)⟩, by simp [intOf]; omega⟩
        · go_wp2
          have hls := G.less hn hm1
          exact ⟨⟨m', b', rfl, rfl, G.done hm1 hlt, hbl'⟩, by cases b' <;> simpa [intOf, boolOf] using hls⟩

theorem elemSp : ElemOk Tryz.prog 36 35 2 16 := .mk Tryz.underlying36 (z := .agg #[.int .i64 0, .int .i64 0]) (by kernel_rfl) (by omega) (by omega) rfl
theorem encSp_one (s : Sp.S) : ∀ u ∈ encSp s, u.oneCell' = true := by intro u hu; simp [encSp] at hu; rcases hu with rfl | rfl <;> rfl

/-- rows that a call owns: their cells -/
theorem owns_sp {w : World} {B : Nat} {o : Value} {m : List Sp.S} (h : w.ownsRow B 35 2 o m.length (flat encSp m)) : ∃ p cap, o = .slice p m.length cap ∧ m.length ≤ cap ∧ cap ≤ 9223372036854775807 ∧ RdP w 2 encSp p m := SlR.of_owns encSp_len h

set_option maxRecDepth 100000 in
set_option maxHeartbeats 2000000 in
theorem ref_Norm (l : List Sp.S) (v : Value) (w : World) (hl : l.length ≤ 1073741824) (hv : SlR w 2 encSp v l) :
    Calls Tryz.prog 78 #[v] w (RetRow w.heap.size 35 2 (Sp.norm l).length (flat encSp (Sp.norm l)) w) := by
  obtain ⟨p, cap, rfl, hc1, hc2, hR⟩ := hv
  go_enter Tryz.func78, Tryz.ntmps78
  go_wp2
  go_loopw [3] (fun o wr => ∃ m, wr.ownsRow w.heap.size 35 2 o m.length (flat encSp m) ∧ Sp.NormAt l m ∧ Below w.heap.size w wr) (fun o _ => 1048578 - lenOf o)
  case atStart => exact ⟨[], World.ownsRow_nil _ _ _ _, Sp.NormAt.nil l, Below.refl _ _⟩
  case round =>
    obtain ⟨m, hrow, HN, hbl⟩ := hrel
    obtain ⟨wo, rfl⟩ : ∃ wo : World, wo = wr := ⟨_, rfl⟩
    obtain ⟨po, co, rfl, ho1, ho2, hRo⟩ := owns_sp hrow
    have hlen1 := HN.2.2.2.1
    have hlen2 := HN.2.2.2.2.1
    have HR := Lib.hid hrow
    clear hrow
    go_wp2
    go_loopw [4, 5] (fun a i wr => ∃ (x : Int) (k : Nat), a = .int .i64 x ∧ i = .int .i64 k ∧ k ≤ l.length ∧ Sp.LowAt l m x k ∧ Below wo.heap.size wo wr) (fun _ i _ => l.length - (intOf i).toNat)
    case atStart => exact ⟨-1, 0, rfl, rfl, Nat.zero_le _, Sp.LowAt.start l m, Below.refl _ _⟩
    case round =>
      obtain ⟨x, k, rfl, rfl, hk, G, hbl'⟩ := hrel
      by_cases hlt : k < l.length
      · obtain ⟨b, off, rfl, hbs, hx0, hx1⟩ := ((hR.below hbl (Nat.le_refl _)).below hbl' (Nat.le_refl _)).at2 hlt
        have hend : ∀ w1 (n : Nat), Below wr.heap.size wr w1 → Below wo.heap.size wo (w1.drewN n) := fun w1 n hb1 => hbl'.trans ((below_drewN hb1 _).mono hbl'.size)
        by_cases hm0 : m.length = 0
        · have hbd : Sp.bound m = -1 := by rw [List.eq_nil_of_length_eq_zero hm0]; rfl
          have HB := Lib.hid hbd
          have e2 : ((m.length : Int) == 0) = true := by simp; exact List.eq_nil_of_length_eq_zero hm0
          clear hbd hm0
          cases hm : Sp.mayB l[k]
          · go_wp2_with (go_at_call 79; refine (ref_may_no _ _ hm).mono ?_; rintro e w1 ⟨rfl, hb1⟩; obtain ⟨hc, hf⟩ := bcell hb1)
            go_quiet (fail)
            go_wp2
            go_roundw
            case rel => exact ⟨x, k + 1, rfl, by go_num, by omega, G.skip hlt (by rw [hm]; intro h; cases h), hend _ _ hb1⟩
            case measure => simp [intOf]; omega
          · have hmm := Sp.mayB_iff.1 hm
            go_wp2_with (go_at_call 79; refine (ref_may_yes _ _ hm).mono ?_; rintro e w1 ⟨rfl, hb1⟩; obtain ⟨hc, hf⟩ := bcell hb1)
            go_quiet (fail)
            go_wp2
            all_goals go_roundw
            all_goals first | (simp [intOf]; omega) | exact ⟨_, k + 1, rfl, by go_num, by omega, G.take hlt hm (by rw [HB.out]; omega) (by omega), hend _ _ hb1⟩ | exact ⟨x, k + 1, rfl, by go_num, by omega, G.skip hlt (fun _ hb => by rw [HB.out] at hb; omega), hend _ _ hb1⟩
        · obtain ⟨q, hq⟩ : ∃ q, q = m.length - 1 := ⟨_, rfl⟩
          have hqm : q < m.length := by omega
          have hbd : Sp.bound m = (m[q]).2 := by subst hq; exact Sp.bound_last (m := m) (by omega)
          have HB := Lib.hid hbd
          have e1 : IntKind.i64.wrap (↑m.length - 1) = (q : Int) := by rw [IntWalk.i64_in ((m.length : Int) - 1) (by omega)]; omega
          have e2 : ((m.length : Int) == 0) = false := by simp; intro h; rw [h] at hm0; exact hm0 rfl
          have HQ := Lib.hid hq
          obtain ⟨g, og, rfl, hgs, hy0, hy1⟩ := (hRo.below hbl' (Nat.le_refl _)).at2 hqm
          clear hbd hq hm0
          cases hm : Sp.mayB l[k]
          · go_wp2_with (go_at_call 79; refine (ref_may_no _ _ hm).mono ?_; rintro e w1 ⟨rfl, hb1⟩; obtain ⟨hc, hf⟩ := bcell hb1)
            go_quiet (fail)
            go_wp2
            go_roundw
            case rel => exact ⟨x, k + 1, rfl, by go_num, by omega, G.skip hlt (by rw [hm]; intro h; cases h), hend _ _ hb1⟩
            case measure => simp [intOf]; omega
          · have hmm := Sp.mayB_iff.1 hm
            go_wp2_with (go_at_call 79; refine (ref_may_yes _ _ hm).mono ?_; rintro e w1 ⟨rfl, hb1⟩; obtain ⟨hc, hf⟩ := bcell hb1)
            go_quiet (fail)
            go_wp2
            all_goals go_roundw
            all_goals first | (simp [intOf]; omega) | exact ⟨_, k + 1, rfl, by go_num, by omega, G.take hlt hm (by rw [HB.out]; omega) (by omega), hend _ _ hb1⟩ | exact ⟨x, k + 1, rfl, by go_num, by omega, G.skip hlt (fun _ hb => by rw [HB.out] at hb; omega), hend _ _ hb1⟩
      · have hRx := (hR.below hbl (Nat.le_refl _)).below hbl' (Nat.le_refl _)
        by_cases hx : x < 0
        · go_wp2
          go_ret
          have e : m = Sp.norm l := G.none HN hlt hx
          exact ⟨_, rfl, by rw [← e]; exact owns_below HR.out hbl' (Nat.le_refl _), hbl.trans (hbl'.mono hbl.size)⟩
        · obtain ⟨hx1, hx2, hx3⟩ := G.some hx
          go_wp2_with (go_at_call 96; fail)
          refine (ref_last l _ x _ hl ⟨p, cap, rfl, hc1, hc2, hRx⟩ hx1 hx2).mono ?_
          rintro e w1 ⟨e1, rfl, HL, hb1⟩
          have hrow1 := owns_below (owns_below HR.out hbl' (Nat.le_refl _)) hb1 (Nat.le_refl _)
          have hbw := (hbl.trans (hbl'.mono hbl.size)).trans (hb1.mono (Nat.le_trans hbl.size hbl'.size))
          have HRW := Lib.hid hrow1
          have hsz := hbw.size
          clear hrow1
          go_wp2_with (at_builtin; refine wpList_app elemSp rfl _ _ rfl w.heap.size (.slice po m.length co) _ _ rfl HRW.out 1 1 [.int .i64 x, .int .i64 e1] rfl rfl (by simp [Value.oneCell']) (by omega) hsz ?_; intro v' w2 hown' _ _ hb2'; have hb2 := hbw.trans hb2'; clear hb2')
          have hsn := G.snoc HN hlt (by omega) HL.1 HL.2.1 HL.2.2.1 (HL.2.2.2 rfl)
          exact ⟨⟨m ++ [(x, e1)], by simpa [flat_append, flat, encSp] using hown', hsn, hb2⟩, by rw [owns_len hown']; simp [lenOf]; omega⟩
end Go.Proofs.YtilahcnpjbnjiaaGreatDoor
