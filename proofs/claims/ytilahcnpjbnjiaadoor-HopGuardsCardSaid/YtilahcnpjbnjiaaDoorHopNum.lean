/- The reader of words: numbers, number. -/
import Derived.Test.YtilahcnpjbnjiaaDoorHopSame
import Derived.Deep.QuietTactic
import Derived.BigQuiet
import Derived.WalkSpells
namespace Go.Proofs.YtilahcnpjbnjiaaDoor
set_option linter.unusedVariables false
set_option linter.unusedSimpArgs false
open Go.RowKit Go.Shelf Go.Proofs Go.OctetPlain

theorem Rdr.parts {g A : Nat} {w : World} {ws : List Hp.Wd} {bad : Bool} (h : Rdr g A w ws bad) : ∃ p cap, w.cell? ⟨g, 0, none⟩ = some (.slice p ws.length cap) ∧ w.cell? ⟨g, 1, none⟩ = some (.bool bad) ∧ w.frozen? ⟨g, 0, none⟩ = false ∧ w.frozen? ⟨g, 1, none⟩ = false ∧ ws.length ≤ cap ∧ cap ≤ 9223372036854775807 ∧ RdP w 1 encS p ws ∧ (∀ a, p = some a → a.block = A) ∧ g < w.heap.size := by
  obtain ⟨v, hb, p, cap, rfl, h1, h2, h3, h4⟩ := h.ex
  exact ⟨p, cap, hb.cell 0, hb.cell 1, hb.frozen' 0, hb.frozen' 1, h1, h2, h3, h4, hb.lt⟩
theorem Rdr.tail {g A : Nat} {w : World} {x : Hp.Wd} {xs : List Hp.Wd} {bad : Bool} (h : Rdr g A w (x :: xs) bad) {b off cap : Nat} (hc : w.cell? ⟨g, 0, none⟩ = some (.slice (some ⟨b, off, none⟩) (xs.length + 1) cap)) :
    (cap = 1 → Rdr g A (w.setCell ⟨g, 0, none⟩ (.slice (some ⟨b, off, none⟩) 0 0)) xs bad) ∧ Rdr g A (w.setCell ⟨g, 0, none⟩ (.slice (some ⟨b, off + 1, none⟩) xs.length (cap - 1))) xs bad := by
  obtain ⟨p, cap', c0, _, _, _, h1, h2, h3, h4, _⟩ := h.parts
  rw [hc] at c0
  simp only [List.length_cons, Option.some.injEq, Value.slice.injEq, true_and] at c0
  obtain ⟨rfl, rfl⟩ := c0
  have hA : b = A := h4 _ rfl
  refine ⟨fun hcap => ?_, ?_⟩
  · subst hcap
    exact h.setW (SlP.tailA (by simpa using h1) h3 hA)
  · exact h.setW (SlP.tailB (by simpa using h1) h2 h3 hA)
theorem owns_set {w : World} {base : Nat} {e : TypeId} {size : Nat} {v : Value} {n : Nat} {xs : List Value} (h : w.ownsRow base e size v n xs) {g : Nat} (hg : g < base) (i : Nat) (x : Value) : (w.setCell ⟨g, i, none⟩ x).ownsRow base e size v n xs :=
  h.kept (grown_set w g i x) (by
    cases hv : v.ownBlock with
    | none => exact .inl rfl
    | some k => refine .inr (fun e => ?_); have := (h.lt k hv).1; cases e; omega)
theorem cell_set {w : World} {g i : Nat} {u : Value} (v : Value) (h : w.cell? ⟨g, i, none⟩ = some u) : (w.setCell ⟨g, i, none⟩ v).cell? ⟨g, i, none⟩ = some v := World.cell?_setCell_same' _ _ _ (by rw [h]; rfl)
/-- words short enough -/
def Short (ws : List Hp.Wd) : Prop := ∀ x ∈ ws, x.length ≤ 1073741824
/-- the words there, and numbers so far -/
structure NumS (g A : Nat) (ws : List Hp.Wd) (bad : Bool) (w wr : World) (out : List Int) (rest : List Hp.Wd) (vo : Value) : Prop where
  own : wr.ownsRow w.heap.size 3 1 vo out.length (flat encI out)
  rd : Rdr g A wr rest bad
  gr : w.grownBy wr (some g)
  eq : Hp.nums ws = (out ++ (Hp.nums rest).1, (Hp.nums rest).2)
  len : out.length + rest.length = ws.length
  tab : Tabs wr
  sh : Short rest
theorem nums_cons_some {x : Hp.Wd} {xs : List Hp.Wd} {n : Int} (h : number x 1048575 = some n) : Hp.nums (x :: xs) = (n :: (Hp.nums xs).1, (Hp.nums xs).2) := by rw [Hp.nums, h]
theorem nums_cons_none {x : Hp.Wd} {xs : List Hp.Wd} (h : number x 1048575 = none) : Hp.nums (x :: xs) = ([], x :: xs) := by rw [Hp.nums, h]
set_option maxRecDepth 100000 in
set_option maxHeartbeats 2000000 in
theorem hop_numbers (g A : Nat) (ws : List Hp.Wd) (hl : ws.length ≤ 1048576) (hsh : Short ws) (bad : Bool) (w : World) (ht : Tabs w) (hA : A < w.heap.size) (hg : ∀ W, w.grownBy W (some g) → Tabs W) (h : Rdr g A w ws bad) :
    Calls Tryd.prog 29 #[.pointer (some ⟨g, 0, none⟩)] w fun e w' => ∃ v, e = .returned v ∧ w'.ownsRow w.heap.size 3 1 v (Hp.nums ws).1.length (flat encI (Hp.nums ws).1) ∧ Rdr g A w' (Hp.nums ws).2 bad ∧ w.grownBy w' (some g) := by
  have HT := Lib.hid hg
  have HAL := Lib.hid hA
  have H0 := Lib.hid (NumS.mk (w := w) (World.ownsRow_nil _ _ _ _) h (grown_refl _ _) (out := []) (by simp) (by simp) ht hsh : NumS g A ws bad w w [] ws (.slice none 0 0))
  have hgl : g < w.heap.size := by obtain ⟨_, _, _, _, _, _, _, _, _, _, hx⟩ := h.parts; exact hx
  clear ht hg hsh h hA
  go_enter Tryd.func29, Tryd.ntmps29
  go_wp2_with fail
  go_loopw [3, 4, 5] (fun vo _ _ wr => ∃ (out : List Int) (rest : List Hp.Wd), Hid (NumS g A ws bad w wr out rest vo)) (fun _ _ _ wr => lenOf ((wr.cell? ⟨g, 0, none⟩).getD (.int .i64 0)))
  case atStart => exact ⟨[], ws, H0⟩
  case round =>
    obtain ⟨out, rest, HN⟩ := hrel
    have hlen := HN.out.len
    obtain ⟨p, cap, c0, -, f0, -, h1, h2, h3, h4, hgr⟩ := HN.out.rd.parts
    cases rest with
    | nil =>
      have HE : Hid (Hp.nums ws = (out, [])) := by rw [HN.out.eq]; exact Lib.hid (by simp [Hp.nums])
      simp only [List.length_nil] at c0
      go_wp2_with fail
      go_ret
      refine ⟨_, rfl, ?_, ?_, HN.out.gr⟩
      · rw [HE.out]; exact HN.out.own
      · rw [HE.out]; exact HN.out.rd
    | cons x xs =>
      obtain ⟨b, off, rfl, hbl, hc⟩ := h3.at (i := 0) (by simp)
      have hx := hc 0 (.string (str x)) rfl
      simp only [Nat.zero_mul, Nat.add_zero] at hx
      have hxl : x.length ≤ 1073741824 := HN.out.sh x List.mem_cons_self
      have HNum := Lib.hid (octet_Number x hxl 1048575 wr HN.out.tab)
      simp only [List.length_cons] at c0 h1 hlen
      have hAg := HN.out.rd.ne
      clear hc h3 h4 hxl
      have hlen1 : 0 < xs.length + 1 := by omega
      cases hn : number x 1048575 with
      | none =>
        rw [hn] at HNum
        have HE : Hid (Hp.nums ws = (out, x :: xs)) := by rw [HN.out.eq, nums_cons_none hn]; exact Lib.hid (by simp)
        clear hn
        go_wp2_with fail
        refine HNum.out.mono ?_
        rintro e w1 ⟨rfl, hb1⟩
        go_wp2_with fail
        go_ret
        refine ⟨_, rfl, ?_, ?_, grown_trans HN.out.gr (grown_below hb1 _)⟩
        · rw [HE.out]; exact owns_below HN.out.own hb1 (Nat.le_refl _)
        · rw [HE.out]; exact HN.out.rd.below hb1 (Nat.le_refl _)
      | some n =>
        rw [hn] at HNum
        have HE : Hid (Hp.nums ws = ((out ++ [n]) ++ (Hp.nums xs).1, (Hp.nums xs).2)) := by rw [HN.out.eq, nums_cons_some hn]; exact Lib.hid (by simp)
        clear hn
        have hge : ∀ W, Below wr.heap.size wr W → Hid (w.grownBy W (some g)) := fun W hW => Lib.hid (grown_trans HN.out.gr (grown_below hW _))
        have hws := HN.out.gr.size
        have HSH : Hid (Short xs) := Lib.hid fun y hy => HN.out.sh y (List.mem_cons_of_mem _ hy)
        go_wp2_with fail
        refine HNum.out.mono ?_
        rintro e w1 ⟨rfl, hb1⟩
        have HG1 := hge w1 hb1
        have HO1 := Lib.hid (owns_below HN.out.own hb1 (Nat.le_refl _))
        have hz1 := hb1.size
        have c01 : Hid (w1.cell? ⟨g, 0, none⟩ = some (.slice (some ⟨b, off, none⟩) (xs.length + 1) cap)) := Lib.hid ((hb1.cell (p := ⟨g, 0, none⟩) (by show g < _; omega)).trans c0)
        have f01 : Hid (w1.frozen? ⟨g, 0, none⟩ = false) := Lib.hid ((hb1.frozen (p := ⟨g, 0, none⟩) (by show g < _; omega)).trans f0)
        have HR1 := Lib.hid (HN.out.rd.below hb1 (Nat.le_refl _))
        clear hb1 hge
        have HGR : Hid (∀ W i v, Below w.heap.size w1 W → w.grownBy (W.setCell ⟨g, i, none⟩ v) (some g)) := Lib.hid fun W i v hW => grown_trans ⟨hW.os.trans HG1.out.os, hW.tape.trans HG1.out.tape, hW.output.trans HG1.out.output, Nat.le_trans HG1.out.size hW.size, fun k hk hne => (hW.block k hk).trans (HG1.out.block k hk hne)⟩ (grown_set W g i v)
        have HC0 := Lib.hid c0
        by_cases hcap : cap = 1
        · subst hcap
          go_wp2_with (at_builtin; go_loud (refine wpList_app elemI rfl (.tmp 24) (.tmp 26) rfl w.heap.size u3 _ _ rfl HO1.out 1 1 [.int .i64 _] rfl rfl (by simp [Value.oneCell']) (by omega) (by omega) ?_; intro v4 w4 hown4 hgr4 hob4 hb4; have c04 := (hb4.cell (p := ⟨g, 0, none⟩) hgl).trans c01.out; have f04 := (hb4.frozen (p := ⟨g, 0, none⟩) hgl).trans f01.out; have HB4 := Lib.hid hb4; have HW4 := Lib.hid hown4; clear hown4 hgr4 hb4 hob4))
          have HC4 := Lib.hid c04
          have HR4 := Lib.hid (HR1.out.belowAt HB4.out hgl HAL.out)
          refine ⟨⟨out ++ [n], xs, Lib.hid ⟨?_, (HR4.out.tail HC4.out).1 rfl, ?_, HE.out, by simp; omega, ?_, HSH.out⟩⟩, ?_⟩
          · rw [flat_append, List.length_append]
            exact owns_set HW4.out hgl 0 _
          · exact HGR.out _ _ _ HB4.out
          · exact HT.out _ (HGR.out _ _ _ HB4.out)
          · rw [cell_set _ HC4.out, HC0.out]; simp [lenOf]
        · skip
          go_wp2_with (at_builtin; go_loud (refine wpList_app elemI rfl (.tmp 24) (.tmp 26) rfl w.heap.size u3 _ _ rfl HO1.out 1 1 [.int .i64 _] rfl rfl (by simp [Value.oneCell']) (by omega) (by omega) ?_; intro v4 w4 hown4 hgr4 hob4 hb4; have c04 := (hb4.cell (p := ⟨g, 0, none⟩) hgl).trans c01.out; have f04 := (hb4.frozen (p := ⟨g, 0, none⟩) hgl).trans f01.out; have HB4 := Lib.hid hb4; have HW4 := Lib.hid hown4; clear hown4 hgr4 hb4 hob4))
          have HC4 := Lib.hid c04
          have HR4 := Lib.hid (HR1.out.belowAt HB4.out hgl HAL.out)
          refine ⟨⟨out ++ [n], xs, Lib.hid ⟨?_, (HR4.out.tail HC4.out).2, ?_, HE.out, by simp; omega, ?_, HSH.out⟩⟩, ?_⟩
          · rw [flat_append, List.length_append]
            exact owns_set HW4.out hgl 0 _
          · exact HGR.out _ _ _ HB4.out
          · exact HT.out _ (HGR.out _ _ _ HB4.out)
          · rw [cell_set _ HC4.out, HC0.out]; simp [lenOf]
end Go.Proofs.YtilahcnpjbnjiaaDoor
namespace Go.Proofs.YtilahcnpjbnjiaaDoor
set_option linter.unusedVariables false
set_option linter.unusedSimpArgs false
open Go.RowKit Go.Shelf Go.Proofs Go.OctetPlain
/-- one number that must come next; those behind it; is there none? -/
def numP : List Int → Int × List Int × Bool
  | [] => (-1, [], true)
  | n :: more => (n, more, false)
set_option maxRecDepth 100000 in
set_option maxHeartbeats 2000000 in
theorem hop_number (g A : Nat) (ws : List Hp.Wd) (hl : ws.length ≤ 1048576) (hsh : Short ws) (bad : Bool) (w : World) (ht : Tabs w) (hA : A < w.heap.size) (hg : ∀ W, w.grownBy W (some g) → Tabs W) (h : Rdr g A w ws bad) :
    Calls Tryd.prog 32 #[.pointer (some ⟨g, 0, none⟩)] w fun e w' => ∃ v, e = .returned (.tuple #[.int .i64 (numP (Hp.nums ws).1).1, v]) ∧ SlP (w.heap.size ≤ ·) w' 1 encI v (numP (Hp.nums ws).1).2.1 ∧ Rdr g A w' (Hp.nums ws).2 (bad || (numP (Hp.nums ws).1).2.2) ∧ w.grownBy w' (some g) := by
  have HC := Lib.hid (hop_numbers g A ws hl hsh bad w ht hA hg h)
  have hgl : g < w.heap.size := by obtain ⟨_, _, _, _, _, _, _, _, _, _, hx⟩ := h.parts; exact hx
  clear ht hg hsh h hA
  generalize Hp.nums ws = q at *
  obtain ⟨l, rest⟩ := q
  simp only at *
  cases l with
  | nil =>
    go_enter Tryd.func32, Tryd.ntmps32
    go_wp2_with fail
    refine HC.out.mono ?_
    rintro e w1 ⟨v, rfl, ho, hr, hg⟩
    have HR := Lib.hid hr
    have HG := Lib.hid hg
    obtain ⟨p, cap, c0, c1, f0, f1, -, -, -, -, -⟩ := hr.parts
    have hv : ∃ p cap, v = .slice p 0 cap := by
      obtain ⟨p, cap, hv, -⟩ := SlR.of_owns encI_len ho
      exact ⟨p, cap, hv⟩
    obtain ⟨p2, cap2, rfl⟩ := hv
    clear ho hr hg
    go_wp2_with fail
    refine bodyPost_ret (v := .tuple #[.int .i64 (-1), .slice none 0 0]) (by simp [results, Tryd.results32, go_sem]) rfl ⟨_, rfl, SlP.nil _ _ _, ?_, grown_trans HG.out (grown_set _ _ _ _)⟩
    have := HR.out.setB true
    simpa [numP] using this
  | cons n more =>
    go_enter Tryd.func32, Tryd.ntmps32
    go_wp2_with fail
    refine HC.out.mono ?_
    rintro e w1 ⟨v, rfl, ho, hr, hg⟩
    obtain ⟨p, cap, rfl, h1, h2, h3, h4⟩ := SlP.of_owns encI_len ho
    obtain ⟨b, off, rfl, hbl, hc⟩ := h3.at (i := 0) (by simp)
    have hx : ∀ k, (w1.drewN k).cell? ⟨b, off, none⟩ = some (.int .i64 n) := fun k => by
      have := hc 0 (.int .i64 n) rfl
      simpa using this
    have hx0 := hx 0
    have HA := Lib.hid (fun h : more.length + 1 ≤ 1 => SlP.tailA (Pr := (w.heap.size ≤ ·)) h h3 (h4 _ rfl))
    have HB := Lib.hid (SlP.tailB (Pr := (w.heap.size ≤ ·)) h1 h2 h3 (h4 _ rfl))
    have HR := Lib.hid hr
    have HG := Lib.hid hg
    simp only [List.length_cons] at h1
    clear ho hr hg hc h3 h4
    have hp0 : 0 < more.length + 1 := by omega
    have hp1 : 1 ≤ more.length + 1 := by omega
    simp only [List.length_cons]
    by_cases hcap : cap = 1
    · subst hcap
      have hm0 : more.length = 0 := by omega
      go_wp2_with fail
      go_quiet (fail)
      go_wp2_with fail
      refine bodyPost_ret (v := .tuple #[.int .i64 n, .slice (some ⟨b, off, none⟩) 0 0]) (by simp [results, Tryd.results32, go_sem]) rfl ?_
      have hbd := below_drewN (Below.refl w1.heap.size w1) nq
      exact ⟨_, rfl, (HA.out h1).below hbd (Nat.le_refl _), by simpa [numP] using HR.out.below hbd (Nat.le_refl _), grown_trans HG.out (grown_below hbd _)⟩
    · skip
      go_wp2_with fail
      go_quiet (fail)
      go_wp2_with fail
      refine bodyPost_ret (v := .tuple #[.int .i64 n, .slice (some ⟨b, off + 1, none⟩) more.length (cap - 1)]) (by simp [results, Tryd.results32, go_sem]) rfl ?_
      have hbd := below_drewN (Below.refl w1.heap.size w1) nq
      exact ⟨_, rfl, HB.out.below hbd (Nat.le_refl _), by simpa [numP] using HR.out.below hbd (Nat.le_refl _), grown_trans HG.out (grown_below hbd _)⟩
end Go.Proofs.YtilahcnpjbnjiaaDoor
