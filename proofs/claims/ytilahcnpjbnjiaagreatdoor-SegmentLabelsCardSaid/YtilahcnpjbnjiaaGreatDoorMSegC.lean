import Derived.Test.YtilahcnpjbnjiaaGreatDoorMBase
import Derived.Test.YtilahcnpjbnjiaaGreatDoorShelfC
import Derived.Test.YtilahcnpjbnjiaaGreatDoorMSegP
import Derived.Lib.OwnBridge
import Derived.Deep.QuietTactic
import Derived.BigQuiet
/- A range over an iterator that gives N things, in order: its law, out of the statement's and a round's own laws; what the iterator reads again is kept by the rounds. -/
namespace Go.Proofs.YtilahcnpjbnjiaaGreatDoor
set_option linter.unusedVariables false
set_option linter.unusedSimpArgs false
open Go.RowKit Go.Shelf Go.Proofs

/-- the iterator gives f 0, f 1, .. f (N - 1) to yield, or ends where yield says no; J k holds ahead of number k, and keeps what the iterator reads -/
def SeqTo (n : Nat) (P : Program) (gf : Nat) (lb : Array Value) (f : Nat → Array Value) (N : Nat) (Keep : World → Prop) (w : World) : Prop :=
  ∀ (l : Nat) (J : Nat → World → Prop) (Jx : World → Prop) (W : World), Below w.heap.size w W → (∀ k W1, J k W1 → Keep W1) →
    (∀ k W1, k < N → J k W1 → YieldAt FW (n - 1) P l (f k) W1 fun e W' => (e = .returned (.bool true) ∧ J (k + 1) W') ∨ (e = .returned (.bool false) ∧ Jx W')) →
    J 0 W → CallsIn FW n P gf (#[.func (.yield l) #[] #[]] ++ lb) W fun e W' => (∃ v, e = .returned v) ∧ (J N W' ∨ Jx W')

/-- how a round is left -/
def toPost (B : Nat) (I : Nat → World → Prop) (Ix : Code → World → Prop) (k : Nat) (W : World) : Exit → Act → World → Prop
  | .normal, _, W' => KeepsFrom B W W' ∧ I (k + 1) W'
  | .ret, _, W' => KeepsFrom B W W' ∧ Ix .ret W'
  | .exit id, _, W' => KeepsFrom B W W' ∧ Ix (.exit id) W'
  | .goto t, _, W' => KeepsFrom B W W' ∧ Ix (.goto t) W'
  | .panic _, _, _ => False
  | .outgrown, _, _ => False

theorem wpIn_rangeFunc_to {n : Nat} {P : Program} {g : Operand} {ps : Array Tmp} {assign body : Code} {Q : Exit → Act → World → Prop} {a : Act} {w : World}
    (h1 : 1 ≤ n) {gf : Nat} {lb : Array Value} (hg : a.eval g = .func (.func gf) #[] lb) (eg : ∀ args w, (callFunc gf args).run P w = .ok (.enter gf args) w)
    {f : Nat → Array Value} {N : Nat} {Keep : World → Prop} {w0 : World} (hseq : SeqTo (n - 1) P gf lb f N Keep w0) (hb0 : Below w0.heap.size w0 w) (hps : ∀ k, (f k).size = ps.size)
    (I : Nat → World → Prop) (Ix : Code → World → Prop) (hI : OwnFrom w.heap.size I) (hIx : OwnFrom w.heap.size Ix) (hkeep : ∀ k W, I k W → Keep W) (h0 : I 0 w) (a₁ : Nat → Act)
    (hassign : ∀ (l k : Nat) (W : World) (K : Act → World → Prop), k < N → I k W → K (a₁ k) W →
      assign.wpIn (FW.inRound l) (n - 1 - 1) P (Exit.then K (fun _ _ _ => False)) { tmps := (ps.zip (f k)).foldl (fun t (p, v) => t.setIfInBounds p v) a.tmps, defers := [] } W)
    (hbody : ∀ (l k : Nat) (W : World), w.heap.size ≤ l → k < N → I k W → body.wpIn (FW.inRound l) (n - 1 - 1) P (toPost w.heap.size I Ix k W) (a₁ k) W)
    (hdone : ∀ (D : Nat) (W : World), w.heap.size ≤ D → I N W → W.heap[D]? = some (.deferred (some [])) → Q .normal { a with defers := { target := .collected D, args := #[] } :: a.defers } W)
    (hstop : ∀ (D : Nat) (c : Code) (W : World), w.heap.size ≤ D → Ix c W → W.heap[D]? = some (.deferred (some [])) → c.wpIn FW n P Q { a with defers := { target := .collected D, args := #[] } :: a.defers } W) :
    (Code.rangeFunc g ps assign body).wpIn FW n P Q a w := by
  refine wpIn_rangeFunc ?_
  intro fn hfn
  obtain ⟨rec, hrec⟩ : ∃ rec : LoopState → Option Code → Loop, rec = fun st pe => { state := st, pending := pe, fn, tmps := a.tmps, params := ps, assign, body, defers := w.heap.size } := ⟨_, rfl⟩
  obtain ⟨W1, hW1⟩ : ∃ W1, (w.alloc (.deferred (some []))).alloc (.loop (rec .ready none)) = W1 := ⟨_, rfl⟩
  have hL1 : W1.heap[w.heap.size + 1]? = some (.loop (rec .ready none)) := by
    rw [← hW1]; have := World.alloc_heap_new (w.alloc (.deferred (some []))) (.loop (rec .ready none)); rwa [World.size_alloc] at this
  have hK1 : W1.heap[w.heap.size]? = some (.deferred (some [])) := by
    rw [← hW1]; exact (Below.heap_alloc _ _ _ (by simp)).trans (World.alloc_heap_new w _)
  have hI1 : I 0 W1 := by rw [← hW1]; exact hI.alloc _ (hI.alloc _ h0)
  have hb1 : Below w0.heap.size w0 W1 := by
    rw [← hW1]; exact hb0.trans ((((Below.refl _ w).alloc (Nat.le_refl _) _).alloc (by simp) _).mono hb0.size)
  refine ⟨w.heap.size + 1, [{ target := .collected w.heap.size, args := #[] }], W1, { target := .fn (.func gf) lb, args := #[.func (.yield (w.heap.size + 1)) #[] #[]] }, W1, gf,
    #[.func (.yield (w.heap.size + 1)) #[] #[]] ++ lb, W1, ?_, ?_, ?_, ?_, fun _ => h1, ?_⟩
  · rw [← hW1, hrec]; exact run_enterLoop_outer _ _ _ _ _
  · simp only [resolve, hg]
    simp [go_sem]
  · intro f' hf'; trivial
  · simp [invoke, go_sem, eg]
  · refine (hseq (w.heap.size + 1)
      (fun k W => I k W ∧ W.heap[w.heap.size + 1]? = some (.loop (rec .ready none)) ∧ W.heap[w.heap.size]? = some (.deferred (some [])))
      (fun W => ∃ c, Ix c W ∧ W.heap[w.heap.size + 1]? = some (.loop (rec .done (some c))) ∧ W.heap[w.heap.size]? = some (.deferred (some [])))
      W1 hb1 (fun k W h => hkeep k W h.1) ?_ ⟨hI1, hL1, hK1⟩).mono ?_
    · rintro k W hkN ⟨hi, hl, hk⟩
      have hlt : w.heap.size + 1 < W.heap.size := (Array.getElem?_eq_some_iff.1 hl).1
      have hy := run_yield (P := P) (args := f k) hl (by rw [hrec]; exact hps k)
      rw [hrec] at hy
      refine ⟨fn, _, assign, body, hy, roundIn_of_wpIn hfn (hassign _ k W _ hkN hi ?_)⟩
      refine ⟨_, run_beginRound hl (by rw [hrec]), ?_⟩
      have hl2 : (W.putObj (w.heap.size + 1) (.loop { rec .ready none with state := .busy })).heap[w.heap.size + 1]? = some (.loop { rec .ready none with state := .busy }) := World.putObj_heap_same hlt
      have hk2 : (W.putObj (w.heap.size + 1) (.loop { rec .ready none with state := .busy })).heap[w.heap.size]? = some (.deferred (some [])) := (World.putObj_heap_other (by omega)).trans hk
      refine wpIn_mono (hbody _ k _ (by omega) hkN (hI.putObj _ hi (by omega) hl rfl)) ?_
      have fin : ∀ (jump : Option Code) (W3 : World), KeepsFrom w.heap.size (W.putObj (w.heap.size + 1) (.loop { rec .ready none with state := .busy })) W3 →
          (Instr.endRound (w.heap.size + 1) jump).run P W3 = .ok (.bool jump.isNone) (W3.putObj (w.heap.size + 1) (.loop (rec (if jump.isNone then .ready else .done) jump))) ∧
          W3.heap[w.heap.size + 1]? = some (.loop { rec .ready none with state := .busy }) ∧
          (W3.putObj (w.heap.size + 1) (.loop (rec (if jump.isNone then .ready else .done) jump))).heap[w.heap.size + 1]? = some (.loop (rec (if jump.isNone then .ready else .done) jump)) ∧
          (W3.putObj (w.heap.size + 1) (.loop (rec (if jump.isNone then .ready else .done) jump))).heap[w.heap.size]? = some (.deferred (some [])) := fun jump W3 hk3 => by
        have hl3 := hk3.same _ _ (by omega) hl2 rfl
        have := run_endRound (P := P) jump hl3
        rw [hrec] at this ⊢
        exact ⟨this, by rw [hrec] at hl3; exact hl3, World.putObj_heap_same (Array.getElem?_eq_some_iff.1 hl3).1, (World.putObj_heap_other (by omega)).trans (hk3.same _ _ (Nat.le_refl _) hk2 rfl)⟩
      rintro e a3 W3 hp
      cases e with
      | normal =>
        obtain ⟨hk3, hi3⟩ := hp
        obtain ⟨hr, hl3, hl4, hk4⟩ := fin none W3 hk3
        exact ⟨_, _, hr, .inl ⟨rfl, hI.putObj _ hi3 (by omega) hl3 rfl, hl4, hk4⟩⟩
      | ret =>
        obtain ⟨hk3, hi3⟩ := hp
        obtain ⟨hr, hl3, hl4, hk4⟩ := fin (some .ret) W3 hk3
        exact ⟨_, _, hr, .inr ⟨rfl, .ret, hIx.putObj _ hi3 (by omega) hl3 rfl, hl4, hk4⟩⟩
      | exit id =>
        obtain ⟨hk3, hi3⟩ := hp
        obtain ⟨hr, hl3, hl4, hk4⟩ := fin (some (.exit id)) W3 hk3
        exact ⟨_, _, hr, .inr ⟨rfl, .exit id, hIx.putObj _ hi3 (by omega) hl3 rfl, hl4, hk4⟩⟩
      | goto t =>
        obtain ⟨hk3, hi3⟩ := hp
        obtain ⟨hr, hl3, hl4, hk4⟩ := fin (some (.goto t)) W3 hk3
        exact ⟨_, _, hr, .inr ⟨rfl, .goto t, hIx.putObj _ hi3 (by omega) hl3 rfl, hl4, hk4⟩⟩
      | panic ch => exact hp.elim
      | outgrown => exact hp.elim
    · rintro e W2 ⟨⟨v, rfl⟩, (⟨hi, hl, hk⟩ | ⟨c, hi, hl, hk⟩)⟩
      · exact ⟨none, _, by have := run_endLoop (P := P) hl (by rw [hrec]; simp); rw [hrec] at this; exact this, hdone _ _ (Nat.le_refl _) (hI.putObj _ hi (by omega) hl rfl) ((World.putObj_heap_other (by omega)).trans hk)⟩
      · exact ⟨some c, _, by have := run_endLoop (P := P) hl (by rw [hrec]; simp); rw [hrec] at this; exact this, hstop _ c _ (Nat.le_refl _) (hIx.putObj _ hi (by omega) hl rfl) ((World.putObj_heap_other (by omega)).trans hk)⟩
end Go.Proofs.YtilahcnpjbnjiaaGreatDoor

/- Rows of ints; slices.Reverse; the document's same hops. -/
namespace Go.Proofs.YtilahcnpjbnjiaaGreatDoor
set_option linter.unusedVariables false
set_option linter.unusedSimpArgs false
open Go.RowKit Go.Shelf Go.Proofs Go.OctetPlain

def encI (n : Int) : List Value := [.int .i64 n]
theorem encI_len (n : Int) : (encI n).length = 1 := rfl
theorem elemI : ElemOk Tryz.prog 39 3 1 8 := .mk Tryz.underlying39 (z := .int .i64 0) (by kernel_rfl) (by omega) (by omega) rfl
def hopA (h : Hp.Hop) (l r : Value) : Array Value := #[.int .i64 h.op, l, .int .i64 h.port, .int .i64 h.backup, r, .bool h.pipe]
theorem infoHop : (Tryz.prog.info? 55).map (·.size) = some 6 := by kernel_rfl
structure HopIs (w : World) (h : Hp.Hop) (l r : Value) : Prop where
  n1 : h.labels.length ≤ 1073741824
  n2 : h.repair.length ≤ 1073741824
  sl : SlR w 1 encI l h.labels
  sr : SlR w 1 encI r h.repair
theorem HopIs.below {w w' : World} {h : Hp.Hop} {l r : Value} (H : HopIs w h l r) {B : Nat} (hb : Below B w w') (hB : w.heap.size ≤ B) : HopIs w' h l r := ⟨H.n1, H.n2, H.sl.below hb hB, H.sr.below hb hB⟩
theorem hop_eq (a b : Hp.Hop) : decide (a = b) = (decide (a.op = b.op) && decide (a.port = b.port) && decide (a.backup = b.backup) && decide (a.pipe = b.pipe) && decide (a.labels = b.labels) && decide (a.repair = b.repair)) := by
  obtain ⟨a1, a2, a3, a4, a5, a6⟩ := a
  obtain ⟨b1, b2, b3, b4, b5, b6⟩ := b
  rw [Bool.eq_iff_iff]
  simp only [decide_eq_true_eq, Bool.and_eq_true, Hp.Hop.mk.injEq]
  constructor
  · rintro ⟨h1, h2, h3, h4, h5, h6⟩; exact ⟨⟨⟨⟨⟨h1, h3⟩, h4⟩, h6⟩, h2⟩, h5⟩
  · rintro ⟨⟨⟨⟨⟨h1, h3⟩, h4⟩, h6⟩, h2⟩, h5⟩; exact ⟨h1, h2, h3, h4, h5, h6⟩
theorem rd_int {w : World} {p : Option Addr} {L : List Int} (h : RdP w 1 encI p L) {k : Nat} (hk : k < L.length) : ∃ b off, p = some ⟨b, off, none⟩ ∧ ∀ n, (w.drewN n).cell? ⟨b, off + k, none⟩ = some (.int .i64 L[k]) := by
  obtain ⟨b, off, rfl, _, hc⟩ := h.at hk
  refine ⟨b, off, rfl, fun n => ?_⟩
  have := hc 0 (.int .i64 L[k]) rfl
  simpa using this
set_option maxRecDepth 100000 in
set_option maxHeartbeats 1000000 in
theorem ref_ints (a b : List Int) (ha : a.length ≤ 1073741824) (hb : b.length ≤ 1073741824) (va vb : Value) (w : World) (hva : SlR w 1 encI va a) (hvb : SlR w 1 encI vb b) :
    Calls Tryz.prog 42 #[va, vb] w fun e w' => e = .returned (.bool (decide (a = b))) ∧ Below w.heap.size w w' := by
  obtain ⟨p1, c1, rfl, g1, g2, R1⟩ := hva
  obtain ⟨p2, c2, rfl, g3, g4, R2⟩ := hvb
  by_cases hl : a.length = b.length
  · go_enter Tryz.func42, Tryz.ntmps42
    rw [← hl]
    have HL := Lib.hid hl
    clear hl g1 g3
    go_wp2_with fail
    go_loopw [5] (fun vi wr => ∃ k : Nat, vi = .int .i64 k ∧ k ≤ a.length ∧ Hid (a.take k = b.take k) ∧ Hid (Below w.heap.size w wr)) (fun vi _ => a.length - (intOf vi).toNat)
    case atStart => exact ⟨0, rfl, Nat.zero_le _, Lib.hid rfl, Lib.hid (Below.refl _ _)⟩
    case round =>
      obtain ⟨k, rfl, hk, HT, HB⟩ := hrel
      by_cases hlt : k < a.length
      · have hltb : k < b.length := by rw [← HL.out]; exact hlt
        obtain ⟨b1, o1, rfl, hc1⟩ := rd_int (R1.below HB.out (Nat.le_refl _)) hlt
        obtain ⟨b2, o2, rfl, hc2⟩ := rd_int (R2.below HB.out (Nat.le_refl _)) hltb
        have hka : a[k]? = some a[k] := List.getElem?_eq_getElem hlt
        have hkb : b[k]? = some b[k] := List.getElem?_eq_getElem hltb
        have HKA := Lib.hid hka
        have HKB := Lib.hid hkb
        have HTA := Lib.hid (List.take_succ_eq_append_getElem hlt)
        have HTB := Lib.hid (List.take_succ_eq_append_getElem hltb)
        generalize a[k] = x at *
        generalize b[k] = y at *
        clear hka hkb
        by_cases hxy : x = y
        · subst hxy
          go_wp2_with fail
          go_quiet (fail)
          go_wp2_with fail
          exact ⟨⟨k + 1, by go_num, by omega, Lib.hid (by rw [HTA.out, HTB.out, HT.out]), Lib.hid (below_drewN HB.out nq)⟩, by simp [intOf]; omega⟩
        · have hne : (x != y) = true := by simpa using hxy
          have HN : Hid (decide (a = b) = false) := Lib.hid (decide_eq_false fun e => hxy (by
            have h1 := HKA.out
            rw [e, HKB.out] at h1
            exact (Option.some.inj h1).symm))
          clear hxy
          go_wp2_with fail
          go_quiet (fail)
          go_wp2_with fail
          go_ret
          exact ⟨by rw [HN.out]; first | done | rfl, below_drewN HB.out nq⟩
      · obtain rfl : k = a.length := by omega
        have HE : Hid (decide (a = b) = true) := Lib.hid (decide_eq_true (by
          have h := HT.out
          rw [List.take_length] at h
          rw [h, HL.out, List.take_length]))
        go_wp2_with fail
        go_ret
        exact ⟨by rw [HE.out]; first | done | rfl, HB.out⟩
  · have hne : ¬ (a.length : Int) = (b.length : Int) := by omega
    rw [decide_eq_false (fun e => hl (by rw [e]))]
    clear hl
    go_enter Tryz.func42, Tryz.ntmps42
    go_wp2_with fail
    go_ret
    exact ⟨rfl, Below.refl _ _⟩
theorem hop_eq2 (a b : Hp.Hop) : decide (a = b) = (decide (a.labels = b.labels) && decide (a.repair = b.repair) && decide (a.op = b.op) && decide (a.port = b.port) && decide (a.backup = b.backup) && decide (a.pipe = b.pipe)) := by
  rw [hop_eq]
  cases decide (a.labels = b.labels) <;> cases decide (a.repair = b.repair) <;> cases decide (a.op = b.op) <;> cases decide (a.port = b.port) <;> cases decide (a.backup = b.backup) <;> cases decide (a.pipe = b.pipe) <;> rfl
set_option maxRecDepth 100000 in
set_option maxHeartbeats 4000000 in
theorem ref_SameHop (a b : Hp.Hop) (l1 r1 l2 r2 : Value) (w : World) (A : HopIs w a l1 r1) (B : HopIs w b l2 r2) :
    Calls Tryz.prog 19 #[.agg (hopA a l1 r1), .agg (hopA b l2 r2)] w fun e w' => e = .returned (.bool (decide (a = b))) ∧ Below w.heap.size w w' := by
  rw [hop_eq2]
  have H1 : Hid (∀ W, Below w.heap.size w W → Calls Tryz.prog 42 #[l1, l2] W fun e w' => e = .returned (.bool (decide (a.labels = b.labels))) ∧ Below W.heap.size W w') := Lib.hid fun W hW => ref_ints _ _ A.n1 B.n1 l1 l2 W (A.sl.below hW (Nat.le_refl _)) (B.sl.below hW (Nat.le_refl _))
  have H2 : Hid (∀ W, Below w.heap.size w W → Calls Tryz.prog 42 #[r1, r2] W fun e w' => e = .returned (.bool (decide (a.repair = b.repair))) ∧ Below W.heap.size W w') := Lib.hid fun W hW => ref_ints _ _ A.n2 B.n2 r1 r2 W (A.sr.below hW (Nat.le_refl _)) (B.sr.below hW (Nat.le_refl _))
  obtain ⟨-, -, ⟨p1, c1, rfl, -, -, -⟩, ⟨p2, c2, rfl, -, -, -⟩⟩ := A
  obtain ⟨-, -, ⟨p3, c3, rfl, -, -, -⟩, ⟨p4, c4, rfl, -, -, -⟩⟩ := B
  obtain ⟨o1, L1, q1, k1, R1, s1⟩ := a
  obtain ⟨o2, L2, q2, k2, R2, s2⟩ := b
  unfold hopA
  simp only at *
  have hb0 : ∀ o o', Below w.heap.size w ((w.alloc o).alloc o') := fun o o' => (belowA w o).alloc (by simp) _
  have HB0 := Lib.hid hb0
  clear hb0
  generalize decide (L1 = L2) = e1 at *
  generalize decide (R1 = R2) = e2 at *
  go_enter Tryz.func19, Tryz.ntmps19
  go_wp2_with fail
  refine (H1.out _ (HB0.out _ _)).mono ?_
  rintro e w1 ⟨rfl, hb1⟩
  obtain ⟨hcc, hcf⟩ := bcell hb1
  have hz1 : w.heap.size + 1 < w1.heap.size := by have := hb1.size; simp at this; omega
  have hz1' : w.heap.size < w1.heap.size := by omega
  have B1 := Lib.hid ((HB0.out (.cells #[.int .i64 o1, .slice p1 L1.length c1, .int .i64 q1, .int .i64 k1, .slice p2 R1.length c2, .bool s1] 55) (.cells #[.int .i64 o2, .slice p3 L2.length c3, .int .i64 q2, .int .i64 k2, .slice p4 R2.length c4, .bool s2] 55)).trans (hb1.mono (by simp; omega)))
  go_wp2_with fail
  refine (H2.out _ B1.out).mono ?_
  rintro e w2 ⟨rfl, hb2⟩
  obtain ⟨hcc2, hcf2⟩ := bcell hb2
  have hz2 : w.heap.size + 1 < w2.heap.size := by have := hb2.size; omega
  have B2 := Lib.hid (B1.out.trans (hb2.mono B1.out.size))
  clear hb1 hb2
  cases e1
  · go_wp2_with fail
    go_ret
    exact ⟨by simp, B2.out⟩
  cases e2
  · go_wp2_with fail
    go_ret
    exact ⟨by simp, B2.out⟩
  by_cases x1 : o1 = o2
  rotate_left
  · have d : (o1 == o2) = false := by simpa using x1
    have HX := Lib.hid (decide_eq_false x1)
    clear x1
    go_wp2_with fail
    go_ret
    exact ⟨by rw [HX.out]; simp, B2.out⟩
  subst x1
  by_cases x2 : q1 = q2
  rotate_left
  · have d : (q1 == q2) = false := by simpa using x2
    have HX := Lib.hid (decide_eq_false x2)
    clear x2
    go_wp2_with fail
    go_ret
    exact ⟨by rw [HX.out]; simp, B2.out⟩
  subst x2
  by_cases x3 : k1 = k2
  rotate_left
  · have d : (k1 == k2) = false := by simpa using x3
    have HX := Lib.hid (decide_eq_false x3)
    clear x3
    go_wp2_with fail
    go_ret
    exact ⟨by rw [HX.out]; simp, B2.out⟩
  subst x3
  by_cases x4 : s1 = s2
  rotate_left
  · have d : (s1 == s2) = false := by simpa using x4
    have HX := Lib.hid (decide_eq_false x4)
    clear x4
    go_wp2_with fail
    go_ret
    exact ⟨by rw [HX.out]; simp, B2.out⟩
  subst x4
  go_wp2_with fail
  go_ret
  exact ⟨by simp, B2.out⟩
theorem encI_one (n : Int) : ∀ u ∈ encI n, u.oneCell' = true := by simp [encI, Value.oneCell']
theorem owns_lit (W : World) (e : TypeId) (cs : Array Value) (n : Nat) (hn : cs.size = n) (hm : n ≤ 1048576) : (W.alloc (.cells cs e)).ownsRow W.heap.size e 1 (.slice (some ⟨W.heap.size, 0, none⟩) n n) n cs.toList := by
  subst hn
  exact ⟨by simp, .inr ⟨W.heap.size, cs.size, cs, rfl, Nat.le_refl _, heap_alloc_new W _, Nat.le_refl _, by unfold maxLen; omega, by simp, List.take_of_length_le (by simp)⟩⟩
theorem flat_ints : ∀ ns : List Int, flat encI ns = ns.map (Value.int .i64)
  | [] => rfl
  | n :: ns => by rw [flat, List.flatMap_cons, ← flat, flat_ints ns]; rfl
theorem owns_form {w : World} {base : Nat} {e : TypeId} {size : Nat} {v : Value} {n : Nat} {xs : List Value} (h : w.ownsRow base e size v n xs) : ∃ p c, v = .slice p n c := by
  rcases h.2 with ⟨rfl, rfl⟩ | ⟨g, cap, cur, rfl, _⟩
  · exact ⟨_, _, rfl⟩
  · exact ⟨_, _, rfl⟩
/-- slices.Reverse of an own row -/
theorem revI_any (ns : List Int) (hl : ns.length ≤ 1000000) (B : Nat) (v : Value) (w : World) (ho : w.ownsRow B 3 1 v ns.length (flat encI ns)) :
    Calls Tryz.prog 38 #[v] w fun e w' => e = .returned (.tuple #[]) ∧ w'.ownsRow B 3 1 v ns.length (flat encI ns.reverse) ∧ Below B w w' := by
  rw [flat_ints] at ho
  rw [flat_ints]
  by_cases h0 : ns = []
  · subst h0
    obtain ⟨p, c, rfl⟩ := owns_form ho
    have hcon := Any.slices_Reverse_int_empty Tryz.reverseI p c w
    change Calls Tryz.prog 38 _ _ _ at hcon
    refine hcon.mono ?_
    rintro e w' ⟨rfl, rfl⟩
    exact ⟨rfl, ho, Below.refl _ _⟩
  · have hv : v ≠ .slice none 0 0 := by
      obtain ⟨p, c, rfl⟩ := owns_form ho
      intro e
      injection e with _ e2
      exact h0 (List.eq_nil_of_length_eq_zero e2)
    obtain ⟨g, cap, rfl, hg, -, -, -, -, hH⟩ := Lib.holds_of_ownsRow (zs := ns) ho hv
    have hcon := Any.slices_Reverse_int Tryz.reverseI g 0 cap ns w hH (by omega)
    change Calls Tryz.prog 38 _ _ _ at hcon
    refine hcon.mono ?_
    rintro e w' ⟨rfl, q, rfl⟩
    have h := Lib.ownsRow_putRow (q := q) (ys := ns.reverse) ho (by simp) (Nat.le_refl _)
    rw [List.take_of_length_le (by simp)] at h
    exact ⟨rfl, h, Lib.below_putRow (Below.refl _ _) hg⟩
end Go.Proofs.YtilahcnpjbnjiaaGreatDoor

/- slices.Backward at ints. -/
namespace Go.Proofs.YtilahcnpjbnjiaaGreatDoor
set_option linter.unusedVariables false
set_option linter.unusedSimpArgs false
open Go.RowKit Go.Shelf Go.Proofs
attribute [local go_sem] Oper.semAt_some

/-- slices.Backward(s): the slice value is boxed; the function value captures the box. -/
theorem backward_in (n : Nat) (p : Option Addr) (k c : Nat) (w : World) :
    CallsIn FW n Tryz.prog 40 #[.slice p k c] w fun e w' => e = .returned (.func (.func 65) #[] #[.pointer (some ⟨w.heap.size, 0, none⟩)]) ∧ w' = w.alloc (.cells #[.slice p k c] 39) := by
  refine callsIn_of_wp Tryz.func40 rfl trivial ?_ rfl
  simp only [Tryz.ntmps40, List.size_toArray, List.length_cons, List.length_nil, Nat.reduceAdd, Nat.reduceSub, Array.replicate_succ, Array.replicate_zero, List.push_toArray, List.append_toArray, List.nil_append, List.cons_append]
  gi_wp2
  go_ret
  exact ⟨rfl, rfl⟩
theorem rev_at {ls : List Int} {k i : Nat} (h : i + k + 1 = ls.length) : ls.reverse.getD k 0 = ls[i]'(by omega) := by
  rw [List.getD_eq_getElem?_getD, List.getElem?_reverse (by omega), show ls.length - 1 - k = i by omega, List.getElem?_eq_getElem (by omega)]
  rfl
set_option maxRecDepth 100000 in
set_option maxHeartbeats 2000000 in
theorem backward1_to (n : Nat) (hn : 1 ≤ n) (Bs : Nat) (p : Option Addr) (cap : Nat) (ls : List Int) (hl : ls.length ≤ 1000000) (w : World) :
    SeqTo n Tryz.prog 65 #[.pointer (some ⟨Bs, 0, none⟩)] (fun k => #[.int .i64 ((ls.length : Int) - 1 - k), .int .i64 (ls.reverse.getD k 0)]) ls.length
      (fun W => W.cell? ⟨Bs, 0, none⟩ = some (.slice p ls.length cap) ∧ RdP W 1 encI p ls) w := by
  intro l J Jx W hW hK hY hJ
  have hfn : ∀ k, FW.fn k := fun _ => trivial
  have hc := (hK 0 W hJ).1
  have HK := Lib.hid hK
  have HY := Lib.hid hY
  clear hK hY hW
  refine callsIn_of_wp Tryz.func65 rfl trivial ?_ rfl
  simp only [Tryz.ntmps65, List.size_toArray, List.length_cons, List.length_nil, Nat.reduceAdd, Nat.reduceSub, Array.replicate_succ, Array.replicate_zero, List.push_toArray, List.append_toArray, List.nil_append, List.cons_append]
  gi_wp2
  clear hc
  gi_loopw [3] (fun i wr => ∃ k : Nat, k ≤ ls.length ∧ i = .int .i64 ((ls.length : Int) - 1 - k) ∧ J k wr) (fun i _ => (intOf i + 1).toNat)
  case atStart => exact ⟨0, Nat.zero_le _, by simp, hJ⟩
  case round =>
    obtain ⟨k, hk, rfl, hJk⟩ := hrel
    obtain ⟨hc, hR⟩ := HK.out k _ hJk
    by_cases hlt : k < ls.length
    · obtain ⟨i, hi⟩ : ∃ i, i + k + 1 = ls.length := ⟨ls.length - 1 - k, by omega⟩
      have e1 : ((ls.length : Int) - 1 - k) = (i : Int) := by omega
      have hil : i < ls.length := by omega
      obtain ⟨b, off, rfl, hbs, hcl⟩ := hR.at hil
      have hx := hcl 0 (.int .i64 ls[i]) rfl
      simp only [Nat.mul_one, Nat.add_zero] at hx
      obtain ⟨fn, tmps, assign, body, hy, hRo⟩ := HY.out k _ hlt hJk
      rw [rev_at hi, e1] at hy
      rw [e1]
      clear hcl
      generalize ls[i] = x at *
      gi_wp2
      refine hRo.mono ?_
      rintro e W3 (⟨rfl, hJ3⟩ | ⟨rfl, hJx3⟩)
      · clear hy hc hx
        gi_wp2
        go_roundw
        case rel => exact ⟨k + 1, hlt, (by first | (congr 1; done) | (congr 1; omega)), hJ3⟩
        case measure => simp [intOf]
      · clear hy hc hx
        gi_wp2
        refine bodyPost_ret (results_none rfl _ _ _) rfl ?_
        exact ⟨⟨_, rfl⟩, .inr hJx3⟩
    · obtain rfl : k = ls.length := by omega
      have e1 : ((ls.length : Int) - 1 - (ls.length : Int)) = -1 := by omega
      rw [e1]
      gi_wp2
      go_end0
      exact ⟨⟨_, rfl⟩, .inl hJk⟩
end Go.Proofs.YtilahcnpjbnjiaaGreatDoor
