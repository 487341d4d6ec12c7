/- segment.Short: slices.Clone, slices.Compact at segments. -/
import Derived.Test.YtilahcnpjbnjiaaGreatDoorMSegD
import Derived.Test.YtilahcnpjbnjiaaGreatDoorMSegA
import Derived.Test.YtilahcnpjbnjiaaGreatDoorMSpan
import Derived.Test.YtilahcnpjbnjiaaGreatDoorMBase
namespace Go.Proofs.YtilahcnpjbnjiaaGreatDoor
set_option linter.unusedVariables false
set_option linter.unusedSimpArgs false
open Go.RowKit Go.Shelf Go.Proofs Go.OctetPlain

theorem encG_one (x : Sg.Seg) : ∀ u ∈ encG x, u.oneCell' = true := by intro u hu; simp [encG] at hu; rcases hu with rfl | rfl <;> rfl
theorem cloneSeg_any (l : List Sg.Seg) (hl : l.length ≤ 1073741824) (v : Value) (w : World) (hv : SlR w 2 encG v l) :
    Calls Tryz.prog 44 #[v] w (RetRow w.heap.size 65 2 l.length (flat encG l) w) := by
  obtain ⟨p, cap, rfl, hc1, hc2, hR⟩ := hv
  cases p with
  | none =>
    have h0 := hR.1 rfl
    have hl0 : l = [] := List.eq_nil_of_length_eq_zero h0
    subst hl0
    have hcon := AnyE.slices_Clone_nil Tryz.cloneSeg 0 cap w
    change Calls Tryz.prog 44 _ _ _ at hcon
    refine hcon.mono ?_
    rintro e w' ⟨rfl, rfl⟩
    exact ⟨_, rfl, World.ownsRow_nil _ _ _ _, Below.refl _ _⟩
  | some a =>
    obtain ⟨hsp, _, _⟩ := hR.2 a rfl
    obtain ⟨_, _, _, i0, z, hi, hz, hsz, hby, hzs⟩ := elemSg
    have hcon := AnyE.slices_Clone Tryz.cloneSeg i0 z 2 16 hi hz hsz hby hzs (by omega) Tryz.sizeOf65 a.block a.off l.length cap (flat encG l) w (flat_length encG_len l) (by unfold maxLen; omega) (by omega) (hR.cells encG_len (by omega)) (flat_one encG_one l)
    change Calls Tryz.prog 44 _ _ _ at hcon
    have ha : a = ⟨a.block, a.off, none⟩ := by cases a; simp_all
    rw [ha]
    refine hcon.mono ?_
    rintro e w' ⟨v', rfl, ho, _, hb⟩
    exact ⟨v', rfl, ho, hb⟩

/-- a row of segments, all of its block -/
structure CpS (B g c : Nat) (w : World) (A : List Sg.Seg) (W : World) : Prop where
  ex : ∃ cur : Array Value, Blk W g 65 cur ∧ cur.size = c * 2 ∧ cur.toList.take (A.length * 2) = flat encG A
  bel : Below B w W
  hg : B ≤ g
  le : A.length ≤ c
section
variable {B g c : Nat} {w W : World} {A : List Sg.Seg}
theorem CpS.drewN (h : CpS B g c w A W) (n : Nat) : CpS B g c w A (W.drewN n) := by
  obtain ⟨cur, h1, h2, h3⟩ := h.ex
  exact ⟨⟨cur, h1.drewN n, h2, h3⟩, below_drewN h.bel n, h.hg, h.le⟩
theorem CpS.at (h : CpS B g c w A W) {i : Nat} (hi : i < A.length) : W.cell? ⟨g, i * 2, none⟩ = some (.bool A[i].link) ∧ W.cell? ⟨g, i * 2 + 1, none⟩ = some (.int .i64 A[i].n) := by
  obtain ⟨cur, h1, h2, h3⟩ := h.ex
  have key : ∀ j u, (encG A[i])[j]? = some u → W.cell? ⟨g, i * 2 + j, none⟩ = some u := fun j u hu => by
    have hf := flat_at encG_len (List.getElem?_eq_getElem hi) hu
    rw [h1.cell, ← hf, ← h3, List.getElem?_take, if_pos (by have := (List.getElem?_eq_some_iff.1 hu).1; rw [encG_len] at this; omega), Array.getElem?_toList]
  exact ⟨key 0 _ rfl, key 1 _ rfl⟩
theorem CpS.frozen (h : CpS B g c w A W) (o : Nat) : W.frozen? ⟨g, o, none⟩ = false := by
  obtain ⟨cur, h1, -⟩ := h.ex
  exact h1.frozen' o
theorem flat_set2 (x : Sg.Seg) : ∀ (A : List Sg.Seg) (i : Nat), i < A.length → flat encG (A.set i x) = ((flat encG A).set (i * 2) (.bool x.link)).set (i * 2 + 1) (.int .i64 x.n)
  | a :: A, 0, _ => by simp [flat, encG]
  | a :: A, i + 1, h => by
    have ih := flat_set2 x A i (by simpa using h)
    have e1 : ∀ (y : Sg.Seg) (Y : List Sg.Seg), flat encG (y :: Y) = .bool y.link :: .int .i64 y.n :: flat encG Y := fun y Y => rfl
    rw [List.set_cons_succ, e1, e1, ih, show (i + 1) * 2 = (i * 2 + 1) + 1 by omega, show (i * 2 + 1) + 1 + 1 = ((i * 2 + 1) + 1) + 1 from rfl]
    simp only [List.set_cons_succ]
theorem CpS.set (h : CpS B g c w A W) {i : Nat} (hi : i < A.length) (x : Sg.Seg) : CpS B g c w (A.set i x) ((W.setCell ⟨g, i * 2, none⟩ (.bool x.link)).setCell ⟨g, i * 2 + 1, none⟩ (.int .i64 x.n)) := by
  obtain ⟨cur, h1, h2, h3⟩ := h.ex
  refine ⟨⟨_, (h1.set (i * 2) _).set (i * 2 + 1) _, by simp [h2], ?_⟩, (h.bel.setCell h.hg _).setCell h.hg _, h.hg, by simpa using h.le⟩
  rw [flat_set2 x A i hi, ← h3, List.length_set]
  simp [List.take_set]
end
theorem drop_at {A l : List Sg.Seg} {p i : Nat} (h : A.drop p = l.drop p) (hi : p ≤ i) : A[i]? = l[i]? := by
  have := congrArg (fun z => z[i - p]?) h
  simp only [List.getElem?_drop] at this
  rw [show p + (i - p) = i by omega] at this
  exact this
theorem sg_zero {i : TypeInfo} {z : Value} (hi : Tryz.prog.info? 65 = some i) (hz : i.zero = some z) : z = .agg #[.bool false, .int .i64 0] := by
  have h : (Tryz.prog.info? 65).map (·.zero) = some (some (.agg #[.bool false, .int .i64 0])) := by kernel_rfl
  rw [hi] at h
  simp only [Option.map_some, Option.some.injEq, hz] at h
  exact h
theorem zero_ones {z : Value} (hz : ∀ u ∈ z.cells.toList, u.oneCell' = true) (n : Nat) : ∀ u ∈ (Builtin.zeroCells z.cells n).toList, u.oneCell' = true := by
  intro u hu
  simp only [Builtin.zeroCells, Array.toList_map, List.mem_map, Array.mem_toList_iff, Array.mem_range] at hu
  obtain ⟨i, hi, rfl⟩ := hu
  have h0 : 0 < z.cells.size := by
    rcases Nat.eq_zero_or_pos z.cells.size with h | h
    · rw [h] at hi; omega
    · exact h
  have hm := Nat.mod_lt i h0
  refine hz _ ?_
  rw [getElem!_pos z.cells (i % z.cells.size) hm]
  simp
set_option maxRecDepth 100000 in
set_option maxHeartbeats 4000000 in
theorem compact_any (l : List Sg.Seg) (hl : l.length ≤ 1000000) (B : Nat) (v : Value) (w : World) (ho : w.ownsRow B 65 2 v l.length (flat encG l)) :
    Calls Tryz.prog 43 #[v] w fun e w' => ∃ v', e = .returned v' ∧ w'.ownsRow B 65 2 v' (Sg.shortR l).length (flat encG (Sg.shortR l)) ∧ Below B w w' := by
  by_cases h2 : l.length < 2
  · have hs : Sg.shortR l = l := by
      rcases l with _ | ⟨a, _ | ⟨b, r⟩⟩
      · rfl
      · rfl
      · simp at h2; omega
    rw [hs]
    obtain ⟨p, c, rfl⟩ := owns_form ho
    have HO := Lib.hid ho
    clear ho
    go_enter Tryz.func43, Tryz.ntmps43
    go_wp2_with fail
    go_ret
    exact ⟨_, rfl, HO.out, Below.refl _ _⟩
  · rcases ho.2 with ⟨-, h0⟩ | ⟨g, cap, cur, rfl, hg1, hg2, hg3, hg4, hg5, hg6⟩
    · omega
    · have H0 : Hid (CpS B g cap w l w) := Lib.hid ⟨⟨cur, hg2, hg5, hg6⟩, Below.refl _ _, hg1, hg3⟩
      have hcm : cap ≤ 9223372036854775807 := by unfold maxLen at hg4; omega
      have HM := Lib.hid hg4
      clear ho hg2 hg5 hg6 hg4
      go_enter Tryz.func43, Tryz.ntmps43
      go_wp2_with fail
      go_loopw [3] (fun vi wr => ∃ k : Nat, vi = .int .i64 k ∧ 1 ≤ k ∧ k ≤ l.length ∧ Hid (Sg.shortR (l.take k) = l.take k) ∧ Hid (CpS B g cap w l wr)) (fun vi _ => l.length - (intOf vi).toNat)
      case atStart => exact ⟨1, rfl, Nat.le_refl _, by omega, Lib.hid (by rcases l with _ | ⟨a, r⟩ <;> simp [Sg.shortR, Sg.shortF]), H0⟩
      case round =>
        obtain ⟨k, rfl, hk1, hk, HS, HC⟩ := hrel
        by_cases hlt : k < l.length
        · have htl : (l.take k).length = k := by rw [List.length_take]; omega
          have HTA := Lib.hid (shortR_snoc' hlt)
          have hm : ((k : Int) - 1).toNat = k - 1 := by omega
          have hm0 : (0 : Int) ≤ (k : Int) - 1 := by omega
          have hm1 : (k : Int) - 1 < (l.length : Int) := by omega
          have hlast : Hid ((l.take k).getLast? = some l[k - 1]) := Lib.hid (by
            rw [List.getLast?_eq_getElem?, htl, List.getElem?_take_of_lt (by omega), List.getElem?_eq_getElem (by omega)])
          obtain ⟨hx0, hx1⟩ := HC.out.at hlt
          obtain ⟨hy0, hy1⟩ := HC.out.at (i := k - 1) (by omega)
          have heql := run_eql_sm l[k] l[k - 1]
          rw [hlast.out] at HTA
          clear hlast
          by_cases hab : l[k] = l[k - 1]
          · have HE : Hid (Sg.shortR (l.take (k + 1)) = l.take k) := Lib.hid (by rw [HTA.out, if_pos (by rw [hab]), HS.out]; simp)
            simp only [hab, decide_true] at heql
            rw [← hab] at heql hy0 hy1
            clear hab HTA
            generalize hq : l[k] = q at *
            clear hq
            obtain ⟨lk, n⟩ := q
            simp only at hx0 hx1 hy0 hy1 heql
            go_wp2_with fail
            go_quiet (fail)
            go_wp2_with fail
            have HC1 := Lib.hid (HC.out.drewN nq)
            generalize World.drewN wr nq = W1 at *
            clear hx0 hx1 hy0 hy1 heql HC hm hm0 hm1 htl
            generalize hM : l.length - k = M
            go_loopw [3, 5] (fun vk vj W => ∃ (q j : Nat) (A : List Sg.Seg), vk = .int .i64 q ∧ vj = .int .i64 j ∧ 1 ≤ j ∧ j ≤ M ∧ 1 ≤ q ∧ q + 1 ≤ k + j ∧ A.length = l.length ∧ Hid (A.take q = Sg.shortR (l.take (k + j))) ∧ Hid (A.drop (k + j - 1) = l.drop (k + j - 1)) ∧ Hid (CpS B g cap w A W)) (fun _ vj _ => M - (intOf vj).toNat)
            case atStart => exact ⟨k, 1, l, rfl, rfl, Nat.le_refl _, by omega, hk1, Nat.le_refl _, rfl, Lib.hid HE.out.symm, Lib.hid rfl, HC1⟩
            case round =>
              clear HC1 HE
              obtain ⟨q, j, A, rfl, rfl, hj1, hj, hq1, hqj, hAl, HT, HD, HC⟩ := hrel
              by_cases hlj : j < M
              · have hkj : k + j < l.length := by omega
                have hAx : A[k + j]'(by omega) = l[k + j] := by
                  have h := drop_at HD.out (i := k + j) (by omega)
                  rw [List.getElem?_eq_getElem (by omega), List.getElem?_eq_getElem hkj] at h
                  exact Option.some.inj h
                have hAy : A[k + (j - 1)]'(by omega) = l[k + (j - 1)] := by
                  have h := drop_at HD.out (i := k + (j - 1)) (by omega)
                  rw [List.getElem?_eq_getElem (by omega), List.getElem?_eq_getElem (by omega)] at h
                  exact Option.some.inj h
                obtain ⟨hx0, hx1⟩ := HC.out.at (i := k + j) (by omega)
                obtain ⟨hy0, hy1⟩ := HC.out.at (i := k + (j - 1)) (by omega)
                rw [hAx, Nat.add_mul] at hx0 hx1
                rw [hAy, Nat.add_mul] at hy0 hy1
                have HTA := Lib.hid (shortR_snoc' hkj)
                have hlast : (l.take (k + j)).getLast? = some l[k + (j - 1)] := by
                  rw [List.getLast?_eq_getElem?, List.length_take, List.getElem?_take_of_lt (by omega), show min (k + j) l.length - 1 = k + (j - 1) by omega, List.getElem?_eq_getElem (by omega)]
                rw [hlast] at HTA
                have hneq := run_neq_sm l[k + j] l[k + (j - 1)]
                have hm : ((j : Int) - 1).toNat = j - 1 := by omega
                have hm0 : (0 : Int) ≤ (j : Int) - 1 := by omega
                have hm1 : (j : Int) - 1 < (M : Int) := by omega
                clear hlast hAx hAy
                have HDN : Hid (A.drop (k + (j + 1) - 1) = l.drop (k + (j + 1) - 1)) := Lib.hid (by
                  have h := congrArg (List.drop 1) HD.out
                  rw [List.drop_drop, List.drop_drop, show k + j - 1 + 1 = k + (j + 1) - 1 by omega] at h
                  exact h)
                by_cases hab : l[k + j] = l[k + (j - 1)]
                · have HE : Hid (A.take q = Sg.shortR (l.take (k + (j + 1)))) := Lib.hid (by rw [show k + (j + 1) = k + j + 1 by omega, HTA.out, if_pos (by rw [hab]), HT.out]; simp)
                  simp only [hab, decide_true, Bool.not_true] at hneq
                  rw [← hab] at hneq hy0 hy1
                  clear hab HTA
                  generalize hqq : l[k + j] = x at *
                  clear hqq
                  obtain ⟨lk, n⟩ := x
                  simp only at hx0 hx1 hy0 hy1 hneq
                  go_wp2_with fail
                  go_quiet (fail)
                  go_wp2_with fail
                  exact ⟨⟨q, j + 1, A, rfl, by go_num, by omega, by omega, hq1, by omega, hAl, HE, HDN, Lib.hid (HC.out.drewN _)⟩, by simp [intOf]; omega⟩
                · have HE : Hid (A.take q ++ [l[k + j]] = Sg.shortR (l.take (k + (j + 1)))) := Lib.hid (by rw [show k + (j + 1) = k + j + 1 by omega, HTA.out, if_neg (by simpa using fun e => hab e.symm), HT.out])
                  simp only [hab, decide_false, Bool.not_false] at hneq
                  clear hab HTA
                  generalize hqq : l[k + (j - 1)] = y at *
                  clear hqq
                  generalize hqx : l[k + j] = x at *
                  clear hqx
                  have HQ := Lib.hid fun n => (HC.out.drewN n).set (i := q) (by omega) x
                  have hqA : q < A.length := by omega
                  have cq0 := fun n => ((HC.out.drewN n).at hqA).1
                  have cq1 := fun n => ((HC.out.drewN n).at hqA).2
                  have fq := fun n o => (HC.out.drewN n).frozen o
                  obtain ⟨lk, n⟩ := x
                  obtain ⟨lk', n'⟩ := y
                  simp only at hx0 hx1 hy0 hy1 hneq HQ
                  go_wp2_with fail
                  go_quiet (fail)
                  go_wp2_with fail
                  refine ⟨⟨q + 1, j + 1, A.set q ⟨lk, n⟩, by go_num, by go_num, by omega, by omega, by omega, by omega, by simpa using hAl, Lib.hid ?_, Lib.hid ?_, Lib.hid (HQ.out nq)⟩, by simp [intOf]; omega⟩
                  · rw [← HE.out, List.take_succ_eq_append_getElem (by simpa using hqA), List.getElem_set_self, List.take_set, List.set_eq_of_length_le (by simp; omega)]
                  · rw [List.drop_set_of_lt (by omega)]
                    exact HDN.out
              · obtain rfl : j = M := by omega
                have hkj : k + j = l.length := by omega
                have HE : Hid (A.take q = Sg.shortR l) := Lib.hid (by rw [HT.out, hkj, List.take_length])
                have hql : (Sg.shortR l).length = q := by rw [← HE.out, List.length_take]; omega
                obtain ⟨_, _, _, i0, z, hi0, hz0, hzs, hzb, hzc⟩ := elemSg
                obtain ⟨cur, h1, h2, h3⟩ := HC.out.ex
                have hz4 : (Builtin.zeroCells z.cells (l.length - q)).toList.length = (l.length - q) * 2 := by rw [Array.length_toList, Builtin.zeroCells]; simp [hzc]
                have hzero : ∀ w, (zeroValue 65).run Tryz.prog w = .ok z w := fun w => by simp [zeroValue, typeInfo, hi0, hz0]
                have hz1 : ∀ u ∈ (Builtin.zeroCells z.cells (l.length - q)).toList, u.oneCell' = true := zero_ones (by rw [sg_zero hi0 hz0]; simp [Value.cells, Value.oneCell']) _
                have hcl : ∀ ty cc, (Builtin.clear_ #[22] ty #[.slice (some ⟨g, q * 2, none⟩) (l.length - q) cc]).run Tryz.prog wr = .ok (.tuple #[]) (wr.setRow g (cur.toList.take (q * 2) ++ (Builtin.zeroCells z.cells (l.length - q)).toList ++ cur.toList.drop (q * 2 + (Builtin.zeroCells z.cells (l.length - q)).toList.length)).toArray) := fun ty cc =>
                  run_clearK wr 22 ty 65 g (q * 2) (l.length - q) cc cur _ _ (by omega) Tryz.underlying22 z hzero rfl h1 (by rw [hz4]; omega) hz1
                have HK := Lib.hid (And.intro h1 (And.intro h2 (And.intro h3 hz4)))
                clear h1 h2 h3 hz4 hz1 HT HD
                generalize hzz : (Builtin.zeroCells z.cells (l.length - q)).toList = zs at hcl HK
                clear hzz hzero hi0 hz0 hzs hzb hzc
                go_wp2_with (refine wpList_clear_run1 _ rfl _ 22 rfl _ rfl (hcl _ _) ?_)
                go_ret
                obtain ⟨h1, h2, h3, h4⟩ := HK.out
                refine ⟨_, rfl, ?_, below_setRow HC.out.bel hg1 _⟩
                rw [hql]
                refine ⟨by rw [flat_length encG_len, hql], Or.inr ⟨g, cap, _, rfl, hg1, h1.setRow _, by omega, HM.out, ?_, ?_⟩⟩
                · have h5 : cur.toList.length = cap * 2 := by simpa using h2
                  simp only [List.size_toArray, List.length_append, List.length_take, List.length_drop, h4, h5]
                  omega
                · rw [← HE.out, ← flat_take encG_len A q (by omega), ← h3, List.take_take, Nat.min_eq_left (by omega)]
                  exact List.take_left' (by rw [List.length_take]; simp; omega)
          · have HE : Hid (Sg.shortR (l.take (k + 1)) = l.take (k + 1)) := Lib.hid (by rw [HTA.out, if_neg (by simpa using fun e => hab e.symm), HS.out, List.take_succ_eq_append_getElem hlt])
            simp only [hab, decide_false] at heql
            clear hab HTA
            generalize hq' : l[k - 1] = q' at *
            clear hq'
            generalize hq : l[k] = q at *
            clear hq
            obtain ⟨lk, n⟩ := q
            obtain ⟨lk', n'⟩ := q'
            simp only at hx0 hx1 hy0 hy1 heql
            go_wp2_with fail
            go_quiet (fail)
            go_wp2_with fail
            exact ⟨⟨k + 1, by go_num, by omega, by omega, HE, Lib.hid (HC.out.drewN _)⟩, by simp [intOf]; omega⟩
        · obtain rfl : k = l.length := by omega
          have HE : Hid (Sg.shortR l = l) := Lib.hid (by have h := HS.out; rw [List.take_length] at h; exact h)
          go_wp2_with fail
          go_ret
          obtain ⟨cur, h1, h2, h3⟩ := HC.out.ex
          exact ⟨_, rfl, by rw [HE.out]; exact ⟨by rw [flat_length encG_len], Or.inr ⟨g, cap, cur, rfl, hg1, h1, hg3, HM.out, h2, h3⟩⟩, HC.out.bel⟩
/-- segment.Short -/
theorem seg_Short (l : List Sg.Seg) (hl : l.length ≤ 1000000) (v : Value) (w : World) (hv : SlR w 2 encG v l) :
    Calls Tryz.prog 20 #[v] w fun e w' => ∃ v', e = .returned v' ∧ SlR w' 2 encG v' (Sg.shortR l) ∧ Below w.heap.size w w' := by
  have HC := Lib.hid (cloneSeg_any l (by omega) v w hv)
  have HK := Lib.hid fun B v W h => compact_any l hl B v W h
  obtain ⟨p, cap, rfl, -⟩ := hv
  go_enter Tryz.func20, Tryz.ntmps20
  go_wp2_with fail
  refine HC.out.mono ?_
  rintro e w2 ⟨v2, rfl, h2, b2⟩
  have HC2 := Lib.hid (HK.out _ v2 w2 h2)
  obtain ⟨p2, c2, rfl⟩ := owns_form h2
  clear h2
  go_wp2_with fail
  refine HC2.out.mono ?_
  rintro e w3 ⟨v3, rfl, h3, b3⟩
  obtain ⟨p3, c3, rfl⟩ := owns_form h3
  have H3 := Lib.hid (And.intro h3 (b2.trans b3))
  clear h3 b2 b3
  go_wp2_with fail
  go_ret
  exact ⟨_, rfl, SlR.of_owns encG_len H3.out.1, H3.out.2⟩
end Go.Proofs.YtilahcnpjbnjiaaGreatDoor
