/- The space package: Free. -/
import Derived.Test.YtbeombmblifohaaSpcDraw
namespace Go.Proofs.Ytbeombmblifohaa
set_option linter.unusedVariables false
set_option linter.unusedSimpArgs false
open Go.RowKit Go.Shelf Go.Proofs

/-- Free, between two calls -/
structure FU (w W : World) (g : Nat) (r : Option Nat) (F : Int → List Sp.S) (V : Int → Value) (a1 a2 : Sp.S) (L : List Sp.Bk) (vb : Value) (o a b : Int) : Prop where
  G : SpcG W g r F V a1 a2 L vb
  bo : Blk W w.heap.size 3 #[.int .i64 o]
  bs : Blk W (w.heap.size + 1) 27 #[.int .i64 a, .int .i64 b]
  frm : Frm g r w W
section
variable {w W : World} {g : Nat} {r : Option Nat} {F : Int → List Sp.S} {V : Int → Value} {a1 a2 : Sp.S} {L : List Sp.Bk} {vb : Value} {o a b : Int}
theorem FU.next (h : FU w W g r F V a1 a2 L vb o a b) {W' : World} (hb : Below W.heap.size W W') : FU w W' g r F V a1 a2 L vb o a b :=
  ⟨h.G.below hb, h.bo.below hb h.bo.lt, h.bs.below hb h.bs.lt, h.frm.trans (Frm.of_below hb) (NewRow.refl _ _)⟩
theorem FU.drew (h : FU w W g r F V a1 a2 L vb o a b) : FU w W.drew g r F V a1 a2 L vb o a b := h.next (Below.refl _ _).drew
theorem FU.init (h : SpcG w g r F V a1 a2 L vb) : FU w ((w.alloc (.cells #[.int .i64 o] 3)).alloc (.cells #[.int .i64 a, .int .i64 b] 27)) g r F V a1 a2 L vb o a b := by
  have hb : Below w.heap.size w ((w.alloc (.cells #[.int .i64 o] 3)).alloc (.cells #[.int .i64 a, .int .i64 b] 27)) := (belowA w _).alloc (by simp) _
  refine ⟨h.below hb, (Blk.new _ _ _).alloc _, ?_, Frm.of_below hb⟩
  have h2 := Blk.new (w.alloc (.cells #[.int .i64 o] 3)) 27 #[.int .i64 a, .int .i64 b]
  rw [World.size_alloc] at h2
  exact h2
theorem FU.put (h : FU w W g r F V a1 a2 L vb o a b) {k : Int} (h0 : 0 ≤ k) (h2 : k ≤ 2) {l : List Sp.S} {W1 : World} {v : Value} (ho : W1.ownsRow W.heap.size 27 2 v l.length (flat encSp l)) (hb : Below W.heap.size W W1) (hg : g < w.heap.size) :
    FU w (W1.setCell ⟨g, k.toNat, none⟩ v) g r (upd F k l) (upd V k v) a1 a2 L vb o a b := by
  have hn := h.next hb
  exact ⟨hn.G.put h0 h2 ho (Nat.lt_of_lt_of_le hg h.frm.size) (fun b hb => (h.G.rowlt b hb).2), hn.bo.other _ _ (show w.heap.size ≠ g by omega), hn.bs.other _ _ (show w.heap.size + 1 ≠ g by omega), hn.frm.trans (Frm.setCell g r W1 _ _) (NewRow.refl _ _)⟩
end
abbrev SFU (w : World) (g gb i : Nat) (vb : Value) (ar a b : Int) (W : World) : Prop :=
  W.cell? ⟨w.heap.size + 1, 0, none⟩ = some (.int .i64 a) ∧ W.cell? ⟨w.heap.size + 1, 1, none⟩ = some (.int .i64 b) ∧ W.cell? ⟨g, 9, none⟩ = some vb ∧ W.cell? ⟨gb, i * 4 + 3, none⟩ = some (.int .i64 ar)
theorem FU.sfu {w W : World} {g : Nat} {r : Option Nat} {F : Int → List Sp.S} {V : Int → Value} {a1 a2 : Sp.S} {L : List Sp.Bk} {gb n cap : Nat} {o a b : Int} (h : FU w W g r F V a1 a2 L (.slice (some ⟨gb, 0, none⟩) n cap) o a b) {i : Nat} {c : Sp.Bk} (hc : L[i]? = some c) : SFU w g gb i (.slice (some ⟨gb, 0, none⟩) n cap) c.area a b W := by
  obtain ⟨p, cp, hv, _, _, hR⟩ := SlR.of_owns encBk_len h.G.own
  cases hv
  obtain ⟨h1, h2⟩ := List.getElem?_eq_some_iff.1 hc
  have h3 := hR.in h1 3 (.int .i64 c.area) (by rw [h2]; rfl)
  rw [Nat.zero_add] at h3
  exact ⟨h.bs.cell 0, h.bs.cell 1, h.G.blk.cell 9, h3⟩
set_option maxRecDepth 100000 in
set_option maxHeartbeats 4000000 in
theorem spc_Free (g : Nat) (r : Option Nat) (m : Sp.Spc) (hm : Sp.WF m) (hl : m.L.length ≤ 1000) (o : Int) (a b : Int) (w : World) (h : SpcR w g r m) :
    Calls Try.prog 22 #[.pointer (some ⟨g, 0, none⟩), .int .i64 o, .agg #[.int .i64 a, .int .i64 b]] w (RetE g r (Sp.freeR m o (a, b)) w) := by
  obtain ⟨V, vb, hG⟩ := SpcG.of h
  have HS := Lib.hid h
  have hgl := h.lt
  have hVc : ∀ j : Int, 0 ≤ j → j ≤ 2 → w.cell? ⟨g, j.toNat, none⟩ = some (V j) := fun j j0 j2 => hG.cell j0 j2
  have HVC := Lib.hid hVc
  clear hVc
  have P0 := Lib.hid (FU.init (o := o) (a := a) (b := b) hG)
  have IX : Hid (∀ W, FU w W g r (Sp.leftR m) V m.a1 m.a2 m.L vb o a b → Calls Try.prog 43 #[vb, .func (.func 44) #[] #[.pointer (some ⟨w.heap.size + 1, 0, none⟩), .pointer (some ⟨w.heap.size, 0, none⟩)]] W fun e w' => e = .returned (.int .i64 (findN (Sp.isB (a, b) o) m.L)) ∧ Below W.heap.size W w') := Lib.hid fun W hP =>
    indexBk_any 44 _ (Sp.isB (a, b) o) m.L (by omega) vb W (SlR.of_owns encBk_len hP.G.own) (enters_of Try.func44 (by kernel_rfl) rfl) fun W2 x hW2 =>
      free_closure a b o (w.heap.size + 1) w.heap.size x W2 ((hP.next hW2).bs.cell 0) ((hP.next hW2).bs.cell 1) ((hP.next hW2).bo.cell 0)
  have f9 : w.cell? ⟨g, 9, none⟩ = some vb := hG.blk.cell 9
  have hgl1 : g < w.heap.size + 1 := by omega
  have hrv : vb.ownBlock = r := hG.row
  have HRV := Lib.hid hrv
  clear hrv h
  cases hfi : m.L.findIdx? (Sp.isB (a, b) o) with
  | none =>
    have hr : Sp.freeR m o (a, b) = (m, 31) := by unfold Sp.freeR; rw [hfi]
    have hn : findN (Sp.isB (a, b) o) m.L = -1 := by unfold findN; rw [hfi]
    rw [hn] at IX
    rw [hr]
    clear hr hn hfi hG
    go_enter Try.func22, Try.ntmps22
    go_wp2_with fail
    refine (IX.out _ P0.out).mono ?_
    rintro e w1 ⟨rfl, hb1⟩
    have HB := Lib.hid (((belowA w (.cells #[.int .i64 o] 3)).alloc (by simp) (.cells #[.int .i64 a, .int .i64 b] 27)).trans (hb1.mono (by simp; omega)))
    clear hb1
    go_wp2_with fail
    go_ret
    exact ⟨rfl, Left.same HS.out HB.out⟩
  | some i =>
    have hr : Sp.freeR m o (a, b) = ({ m with L := m.L.eraseIdx i }, 0) := by unfold Sp.freeR; rw [hfi]
    have hn : findN (Sp.isB (a, b) o) m.L = (i : Int) := by unfold findN; rw [hfi]
    rw [hn] at IX
    rw [hr]
    obtain ⟨hil, hq, -⟩ := List.findIdx?_eq_some_iff_getElem.1 hfi
    obtain ⟨c, hc⟩ : ∃ c, m.L[i]? = some c := ⟨_, List.getElem?_eq_getElem hil⟩
    have hcc : m.L[i] = c := (List.getElem?_eq_some_iff.1 hc).2
    rw [hcc] at hq
    have hcs : c.sp = (a, b) := by unfold Sp.isB at hq; simp at hq; exact hq.1
    obtain ⟨fk1, fk2, fk3⟩ := Sp.free_ok hm hc
    obtain ⟨-, -, ha0, ha2⟩ := hm.ok c (List.mem_of_getElem? hc)
    rw [hcs] at fk2
    have hll := Sp.left_len hm c.area
    have FA := Lib.hid fun (W : World) (hP : FU w W g r (Sp.leftR m) V m.a1 m.a2 m.L vb o a b) => free_add g c.area ha0 ha2 (V c.area) (Sp.leftR m c.area) a b W (hP.G.cell ha0 ha2) (hP.G.blk.frozen' _) (hP.G.left c.area ha0 ha2).1 (by omega)
    have DE := Lib.hid fun (W : World) (ho : W.ownsRow (g + 1) 47 4 vb m.L.length (flat encBk m.L)) => delete_bk (g + 1) vb m.L i W ho hil (by omega)
    rcases hG.own.2 with ⟨-, h0⟩ | ⟨gb, cap, cur, hvb, hg1, hg2, hg3, hg4, hg5, hg6⟩
    · omega
    subst hvb
    unfold maxLen at hg4
    have HC := Lib.hid hc
    have hiI : (i : Int) < (m.L.length : Int) := by omega
    have HK := Lib.hid (And.intro fk2 fk3)
    clear hr hn hfi hG hq hcs hc hcc fk1 fk2 fk3 hg2 hg5 hg6
    go_enter Try.func22, Try.ntmps22
    go_wp2_with fail
    refine (IX.out _ P0.out).mono ?_
    rintro e w1 ⟨rfl, hb1⟩
    have P1 := Lib.hid (P0.out.next hb1)
    clear hb1 IX f9 P0
    go_wp2_with fail
    have hst := P1.out
    go_region_held3 (fun W => SFU w g gb i (.slice (some ⟨gb, 0, none⟩) m.L.length cap) c.area a b W)
      (first
        | exact FU.sfu (by assumption) HC.out
        | (go_split_ands; exact FU.sfu (by assumption) HC.out)
        | (go_split_ands; exact FU.sfu (FU.drew (by assumption)) HC.out))
      (first
        | (go_at_call 27; refine (FA.out _ (by first | exact P1.out.drew | exact P1.out)).mono ?_; rintro e w2 ⟨rfl, v1, W1, ho1, hb2, hw2⟩; have P2 := (by first | exact FU.put (k := c.area) (l := Sp.add (Sp.leftR m c.area) (a, b)) P1.out.drew ha0 ha2 ho1 hb2 hgl | exact FU.put (k := c.area) (l := Sp.add (Sp.leftR m c.area) (a, b)) P1.out ha0 ha2 ho1 hb2 hgl); rw [← hw2] at P2; clear hw2))
    have P2 := Lib.hid P2
    have hv1 : ∀ a n c, v1 = .slice (some a) n c → w.heap.size ≤ a.block := fun q n c e => by
      have h1 := (ho1.lt q.block (by rw [e]; rfl)).1
      have h2 := P1.out.frm.size
      simp at h1
      omega
    have HV1 := Lib.hid hv1
    have f9 : w2.cell? ⟨g, 9, none⟩ = some (.slice (some ⟨gb, 0, none⟩) m.L.length cap) := P2.out.G.blk.cell 9
    clear ho1 hb2 hst P1 FA hv1
    go_wp2_with fail
    refine (DE.out _ P2.out.G.own).mono ?_
    rintro e w3 ⟨v', rfl, ho3, hg3', hn3⟩
    obtain ⟨pp, cc, rfl, -⟩ := SlR.of_owns encBk_len ho3
    have hgne : some g ≠ (Value.slice (some (⟨gb, 0, none⟩ : Addr)) m.L.length cap).ownBlock := fun e => by have := Option.some.inj e; simp at this; omega
    have hB3 : Blk w3 g 67 _ := (hg3'.block g P2.out.G.blk.lt hgne).trans P2.out.G.blk
    have u1 : w3.cell? ⟨g, 9, none⟩ = some (.slice (some ⟨gb, 0, none⟩) m.L.length cap) := hB3.cell 9
    have u2 := hB3.frozen' 9
    have G5 := P2.out.G.blocks ho3 hg3' (Or.inl hn3)
    have hF : Frm g r w2 w3 := ⟨hg3'.os, hg3'.tape, hg3'.output, hg3'.size, fun x hx _ hr => hg3'.block x hx (by rw [HRV.out]; exact hr)⟩
    have HG5 := Lib.hid G5
    have HF := Lib.hid ((P2.out.frm.trans hF (NewRow.refl _ _)).trans (Frm.setCell g r w3 9 (.slice pp (m.L.eraseIdx i).length cc)) (NewRow.refl _ _))
    have HN := Lib.hid hn3
    clear G5 hF hB3 ho3 hg3' hn3
    go_wp2_with fail
    go_ret
    refine ⟨rfl, _, SpcG.spcR (m := { m with L := m.L.eraseIdx i }) HG5.out fun j j0 j2 => ?_, Or.inl (HN.out.trans HRV.out), HF.out, ?_⟩
    · by_cases hjk : j = c.area
      · subst hjk; rw [upd_same]; exact HK.out.1.symm
      · rw [upd_other _ _ hjk]; exact (HK.out.2 j j0 j2 hjk).symm
    · intro j hj q n d hd
      have hcj := HG5.out.cell (k := (j : Int)) (by omega) (by omega)
      rw [Int.toNat_natCast, hd] at hcj
      by_cases hjk : (j : Int) = c.area
      · rw [hjk, upd_same] at hcj
        exact Or.inl (HV1.out q n d (Option.some.inj hcj).symm)
      · rw [upd_other _ _ hjk] at hcj
        refine Or.inr ⟨j, q, n, d, hj, ?_, rfl⟩
        have := HVC.out j (by omega) (by omega)
        rw [Int.toNat_natCast, ← Option.some.inj hcj] at this
        exact this
end Go.Proofs.Ytbeombmblifohaa
