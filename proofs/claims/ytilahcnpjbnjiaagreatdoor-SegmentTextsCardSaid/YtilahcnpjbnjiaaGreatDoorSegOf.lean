/- segment.Of: a range over slices.Backward. -/
import Derived.Test.YtilahcnpjbnjiaaGreatDoorSegRefOf
import Derived.Test.YtilahcnpjbnjiaaGreatDoorMSegC
import Derived.Test.YtilahcnpjbnjiaaGreatDoorMSegD
namespace Go.Proofs.YtilahcnpjbnjiaaGreatDoor
set_option linter.unusedVariables false
set_option linter.unusedSimpArgs false
open Go.RowKit Go.Shelf Go.Proofs Go.OctetPlain
attribute [local go_sem] Oper.semAt_some

theorem ofF_snoc (m : Sp.Spc) (n : Int) : ∀ a : List Int, Sg.ofF m (a ++ [n]) = match Sg.ofF m a, Sg.segR m n with
    | some l, some x => some (l ++ [x])
    | _, _ => none
  | [] => by
    show Sg.ofF m [n] = _
    unfold Sg.ofF Sg.ofF
    cases Sg.segR m n <;> rfl
  | c :: a => by
    rw [List.cons_append, Sg.ofF, ofF_snoc m n a, Sg.ofF]
    cases Sg.segR m c <;> cases Sg.ofF m a <;> cases Sg.segR m n <;> rfl
theorem ofF_none (m : Sp.Spc) : ∀ (a b : List Int), Sg.ofF m a = none → Sg.ofF m (a ++ b) = none
  | [], b, h => by cases h
  | c :: a, b, h => by
    rw [Sg.ofF] at h
    rw [List.cons_append, Sg.ofF]
    cases hs : Sg.segR m c with
    | none => rfl
    | some x =>
      cases ha : Sg.ofF m a with
      | none => rw [ofF_none m a b ha]
      | some l => rw [hs, ha] at h; cases h
theorem keeps_app {W w1 : World} {base : Nat} {e : TypeId} {size : Nat} {v : Value} {k : Nat} {xs : List Value} {tmp : Obj} (hrow : W.ownsRow base e size v k xs) (hgrow : (W.alloc tmp).grownBy w1 v.ownBlock) : KeepsOthers W w1 := by
  refine (KeepsOthers.alloc W tmp).trans (KeepsOthers.of_grownBy hgrow fun j o ej hj => ?_)
  rcases (hrow.alloc tmp).2 with ⟨rfl, _⟩ | ⟨g, cap, cur, rfl, _, hgb, _⟩
  · simp [Value.ownBlock] at ej
  · obtain rfl : g = j := by simpa [Value.ownBlock] using ej
    rw [hgb] at hj; cases hj; rfl
theorem keeps_below {W w1 : World} (hb : Below W.heap.size W w1) : KeepsOthers W w1 :=
  ⟨hb.size, fun k o hk ho => by rw [hb.block k (Array.getElem?_eq_some_iff.1 hk).1]; exact hk⟩
/-- Of's boxes: the space's pointer, both results, what was told, the area, whether it is one, the labels; rows lie above -/
structure OfS (w : World) (g Z : Nat) (a b : Int) (is : Bool) (vl : Value) (out : List Sg.Seg) (W : World) : Prop where
  bp : Blk W w.heap.size 40 #[.pointer (some ⟨g, 0, none⟩)]
  b4 : Blk W (w.heap.size + 1) 22 #[.slice none 0 0]
  b5 : Blk W (w.heap.size + 1 + 1) 4 #[.bool false]
  bo : ∃ v, Blk W (w.heap.size + 1 + 1 + 1) 22 #[v] ∧ W.ownsRow (Z + 3) 65 2 v out.length (flat encG out)
  bg : Blk W Z 35 #[.int .i64 a, .int .i64 b]
  bi : Blk W (Z + 1) 4 #[.bool is]
  bl : Blk W (Z + 1 + 1) 39 #[vl]
  bel : Below w.heap.size w W
  hz : w.heap.size + 4 ≤ Z
section
variable {w W W' : World} {g Z : Nat} {a b : Int} {is : Bool} {vl : Value} {out : List Sg.Seg}
theorem OfS.own {row : Option Nat} {B : Nat} (h : OfS w g Z a b is vl out W) (hB : w.heap.size ≤ B) (hg : W.grownBy W' row) (hr : ∀ r, row = some r → B ≤ r ∧ ∃ o : Obj, W.heap[r]? = some o ∧ o.isCells = false) : OfS w g Z a b is vl out W' := by
  obtain ⟨v, h1, h2⟩ := h.bo
  have hr' := fun r e => (hr r e).2
  refine ⟨h.bp.own hg hr', h.b4.own hg hr', h.b5.own hg hr', ⟨v, h1.own hg hr', h2.kept hg ?_⟩, h.bg.own hg hr', h.bi.own hg hr', h.bl.own hg hr', h.bel.grown hg h.bel.size fun k e => Nat.le_trans hB (hr k e).1, h.hz⟩
  rcases h2.2 with ⟨rfl, _⟩ | ⟨g, cap, cur, rfl, _, hgb, _⟩
  · exact .inl rfl
  · refine .inr fun e' => ?_
    obtain ⟨o, ho, hc⟩ := hr' g (by simpa [Value.ownBlock] using e'.symm)
    rw [hgb] at ho; cases ho; cases hc
theorem OfS.next (h : OfS w g Z a b is vl out W) (hb : Below W.heap.size W W') : OfS w g Z a b is vl out W' := by
  obtain ⟨v, h1, h2⟩ := h.bo
  exact ⟨h.bp.below hb h.bp.lt, h.b4.below hb h.b4.lt, h.b5.below hb h.b5.lt, ⟨v, h1.below hb h1.lt, owns_below h2 hb (Nat.le_refl _)⟩, h.bg.below hb h.bg.lt, h.bi.below hb h.bi.lt, h.bl.below hb h.bl.lt, h.bel.trans (hb.mono h.bel.size), h.hz⟩
theorem OfS.push (h : OfS w g Z a b is vl out W) (hb : Below (Z + 3) W W') {v : Value} {x : Sg.Seg} (hv : W'.ownsRow (Z + 3) 65 2 v (out.length + 1) (flat encG out ++ encG x)) : OfS w g Z a b is vl (out ++ [x]) (W'.setCell ⟨w.heap.size + 1 + 1 + 1, 0, none⟩ v) := by
  obtain ⟨v0, h1, -⟩ := h.bo
  have hz := h.hz
  refine ⟨(blk_above h.bp hb (by omega)).other _ _ (by simp; omega), (blk_above h.b4 hb (by omega)).other _ _ (by simp), (blk_above h.b5 hb (by omega)).other _ _ (by simp), ⟨v, (blk_above h1 hb (by omega)).set 0 v, ?_⟩, (blk_above h.bg hb (by omega)).other _ _ (by simp; omega), (blk_above h.bi hb (by omega)).other _ _ (by simp; omega), (blk_above h.bl hb (by omega)).other _ _ (by simp; omega), (h.bel.trans (hb.mono (by omega))).setCell (by simp <;> omega) _, h.hz⟩
  rw [flat_append, List.length_append]
  exact ownsRow_setCell_below (by simpa [flat] using hv) (by simp <;> omega) _
end
set_option maxRecDepth 100000 in
set_option maxHeartbeats 4000000 in
theorem seg_Of_in (n : Nat) (hn : 8 ≤ n) (m : Sp.Spc) (hm : Sp.WF m) (hml : m.L.length ≤ 1000000) (ls : List Int) (hl : ls.length ≤ 1000000) (v : Value) (g : Nat) (r : Option Nat) (w : World) (h : SpcR w g r m) (hv : SlR w 1 encI v ls) :
    CallsIn FW n Tryz.prog 17 #[.pointer (some ⟨g, 0, none⟩), v] w fun e w' => ∃ v', e = .returned (.tuple #[v', .bool (Sg.ofR m ls).isSome]) ∧ SlR w' 2 encG v' ((Sg.ofR m ls).getD []) ∧ Below w.heap.size w w' := by
  obtain ⟨p, cap, rfl, hd1, hd2, hR⟩ := hv
  have HR := Lib.hid hR
  have HAR := Lib.hid fun W h => spc_Area' g 1 m hm r W h
  have HSW := Lib.hid fun W (hW : Below w.heap.size w W) => h.below hW
  have hfn : ∀ k, FW.fn k := fun _ => trivial
  have hn1 : 1 ≤ n := by omega
  clear hR
  refine callsIn_of_wp_marks Tryz.func17 rfl trivial ?_ rfl
  simp only [Tryz.ntmps17, List.size_toArray, List.length_cons, List.length_nil, Nat.reduceAdd, Nat.reduceSub, Array.replicate_succ, Array.replicate_zero, List.push_toArray, List.append_toArray, List.nil_append, List.cons_append]
  have HB0 : Hid (Below w.heap.size w ((((w.alloc (.cells #[.pointer (some ⟨g, 0, none⟩)] 40)).alloc (.cells #[.slice none 0 0] 22)).alloc (.cells #[.bool false] 4)).alloc (.cells #[.slice none 0 0] 22))) := Lib.hid ((((belowA w _).alloc (by simp) _).alloc (by simp <;> omega) _).alloc (by simp <;> omega) _)
  gi_wp2
  refine (callsIn_wide.2 (HAR.out _ (HSW.out _ HB0.out))).mono ?_
  rintro e W2 ⟨rfl, b2⟩
  gi_wp2
  refine (backward_in (n - 1) _ _ _ _).mono ?_
  rintro e W3 ⟨rfl, rfl⟩
  gi_wp2
  have hz0 : w.heap.size + 4 ≤ W2.heap.size := by have := b2.size; simp at this; omega
  obtain ⟨W0, hW0⟩ : ∃ W0, (((W2.alloc (.cells #[.int .i64 (Sp.areaR m 1).1.1, .int .i64 (Sp.areaR m 1).1.2] 35)).alloc (.cells #[.bool (Sp.areaR m 1).2] 4)).alloc (.cells #[.slice p ls.length cap] 39)) = W0 := ⟨_, rfl⟩
  have HS0 : OfS w g W2.heap.size (Sp.areaR m 1).1.1 (Sp.areaR m 1).1.2 (Sp.areaR m 1).2 (.slice p ls.length cap) [] W0 := by
    have hb3 : Below W2.heap.size W2 W0 := by rw [← hW0]; exact ((belowA W2 _).alloc (by simp) _).alloc (by simp <;> omega) _
    have hb2 : Below (w.heap.size + 4) ((((w.alloc (.cells #[.pointer (some ⟨g, 0, none⟩)] 40)).alloc (.cells #[.slice none 0 0] 22)).alloc (.cells #[.bool false] 4)).alloc (.cells #[.slice none 0 0] 22)) W0 := (b2.mono (by simp)).trans (hb3.mono (by omega))
    have k1 := Blk.new (w.alloc (.cells #[.pointer (some ⟨g, 0, none⟩)] 40)) 22 #[.slice none 0 0]
    have k2 := Blk.new ((w.alloc (.cells #[.pointer (some ⟨g, 0, none⟩)] 40)).alloc (.cells #[.slice none 0 0] 22)) 4 #[.bool false]
    have k3 := Blk.new (((w.alloc (.cells #[.pointer (some ⟨g, 0, none⟩)] 40)).alloc (.cells #[.slice none 0 0] 22)).alloc (.cells #[.bool false] 4)) 22 #[.slice none 0 0]
    have k5 := Blk.new (W2.alloc (.cells #[.int .i64 (Sp.areaR m 1).1.1, .int .i64 (Sp.areaR m 1).1.2] 35)) 4 #[.bool (Sp.areaR m 1).2]
    have k6 := Blk.new ((W2.alloc (.cells #[.int .i64 (Sp.areaR m 1).1.1, .int .i64 (Sp.areaR m 1).1.2] 35)).alloc (.cells #[.bool (Sp.areaR m 1).2] 4)) 39 #[.slice p ls.length cap]
    simp only [World.size_alloc] at k1 k2 k3 k5 k6
    refine ⟨blk_above ((((Blk.new w _ _).alloc _).alloc _).alloc _) hb2 (by omega), blk_above ((k1.alloc _).alloc _) hb2 (by omega), blk_above (k2.alloc _) hb2 (by omega), ⟨_, blk_above k3 hb2 (by omega), World.ownsRow_nil _ _ _ _⟩, ?_, ?_, ?_, HB0.out.trans (hb2.mono (by omega)), hz0⟩
    · rw [← hW0]; exact ((Blk.new W2 _ _).alloc _).alloc _
    · rw [← hW0]; exact k5.alloc _
    · rw [← hW0]; exact k6
  have hz : W2.heap.size + 3 ≤ W0.heap.size := by rw [← hW0]; simp
  rw [hW0]
  clear hW0 b2
  generalize W2.heap.size = Z at *
  have hseq := backward1_to (n - 1) (by omega) (Z + 1 + 1) p cap ls hl W0
  have hbz : w.heap.size ≤ W0.heap.size := by omega
  have HSG := Lib.hid (segR_gOf m)
  have HAB := Lib.hid (area_bounds hm)
  have HPS := Lib.hid (owner_pos hm)
  have HOW := Lib.hid fun x W (hW : Below w.heap.size w W) => seg_owned g x m hml r W (HSW.out W hW)
  generalize hqa : Sp.areaR m 1 = qa at *
  obtain ⟨⟨a, b⟩, is⟩ := qa
  simp only at HS0 HSG HAB ⊢
  refine wpIn_rangeFunc_to hn1 (gf := 65) (lb := #[.pointer (some ⟨Z + 1 + 1, 0, none⟩)]) rfl (enters_of Tryz.func65 (by kernel_rfl) rfl) hseq (Below.refl _ _) (fun _ => rfl)
    (fun k W => ∃ out, Sg.ofF m (ls.reverse.take k) = some out ∧ out.length = k ∧ OfS w g Z a b is (.slice p ls.length cap) out W)
    (fun c W => c = .ret ∧ Sg.ofR m ls = none ∧ Blk W (w.heap.size + 1) 22 #[.slice none 0 0] ∧ Blk W (w.heap.size + 1 + 1) 4 #[.bool false] ∧ Below w.heap.size w W)
    (fun k X Y row hx hg hr => by obtain ⟨out, h1, h2, h3⟩ := hx; exact ⟨out, h1, h2, h3.own hbz hg hr⟩)
    (fun c X Y row hx hg hr => by obtain ⟨h1, h2, h3, h4, h5⟩ := hx; exact ⟨h1, h2, h3.own hg (fun r e => (hr r e).2), h4.own hg (fun r e => (hr r e).2), h5.grown hg h5.size fun k e => Nat.le_trans hbz (hr k e).1⟩)
    (fun k W hx => by obtain ⟨out, h1, h2, h3⟩ := hx; exact ⟨h3.bl.cell 0, HR.out.below h3.bel (Nat.le_refl _)⟩)
    ⟨[], by simp [Sg.ofF], rfl, HS0⟩
    (fun k => { tmps := #[.pointer (some ⟨g, 0, none⟩), .slice p ls.length cap, .pointer (some ⟨w.heap.size, 0, none⟩), undef, .pointer (some ⟨w.heap.size + 1, 0, none⟩), .pointer (some ⟨w.heap.size + 1 + 1, 0, none⟩), .pointer (some ⟨w.heap.size + 1 + 1 + 1, 0, none⟩), .pointer (some ⟨Z, 0, none⟩), .pointer (some ⟨Z + 1, 0, none⟩), undef,
      .int .i64 (ls.reverse.getD k 0), .tuple #[.agg #[.int .i64 a, .int .i64 b], .bool is], .pointer (some ⟨g, 0, none⟩), .tuple #[.agg #[.int .i64 a, .int .i64 b], .bool is], .agg #[.int .i64 a, .int .i64 b], .bool is, .slice p ls.length cap, .func (.func 65) #[] #[.pointer (some ⟨Z + 1 + 1, 0, none⟩)],
      .int .i64 ((ls.length : Int) - 1 - k), .int .i64 (ls.reverse.getD k 0), undef, undef, undef, undef, undef, undef, undef, undef, undef, undef, undef, undef, undef, undef, undef, undef, undef, undef, undef, undef, undef, undef, undef, undef, undef, undef, undef, undef, undef, undef, undef, undef], defers := [] })
    ?assign ?body ?done ?stop
  case assign =>
    intro l k W K hk hI hK
    generalize ls.reverse.getD k 0 = x at hK ⊢
    gi_wp2
    exact hK
  case body =>
    rintro l k W hl' hk ⟨out, ho, hol, hS⟩
    subst hol
    have hkt : ls.reverse.take (out.length + 1) = ls.reverse.take out.length ++ [ls.reverse.getD out.length 0] := by
      have hkr : out.length < ls.reverse.length := by simpa using hk
      rw [List.take_succ_eq_append_getElem hkr, List.getD_eq_getElem?_getD, List.getElem?_eq_getElem hkr]
      rfl
    generalize ls.reverse.getD out.length 0 = x at *
    have HN := Lib.hid (ofF_snoc m x (ls.reverse.take out.length))
    rw [ho, ← hkt] at HN
    have HNO : Hid (Sg.segR m x = none → Sg.ofR m ls = none) := Lib.hid fun hs => by
      unfold Sg.ofR
      rw [← List.take_append_drop (out.length + 1) ls.reverse]
      refine ofF_none m _ _ ?_
      rw [HN.out, hs]
    have HSI : Hid (is = true ∧ a ≤ x ∧ x ≤ b → Sg.segR m x = some ⟨false, x - a⟩) := Lib.hid fun h => by
      unfold Sg.segR
      rw [hqa]
      exact if_pos h
    have HSO : Hid (¬ (is = true ∧ a ≤ x ∧ x ≤ b) → Sg.segR m x = if 0 < (Sp.ownerR m x).1 ∧ (Sp.ownerR m x).2 = 2 then some ⟨true, x⟩ else none) := Lib.hid fun h => by
      unfold Sg.segR
      rw [hqa, if_neg h]
      have hp := HPS.out x
      by_cases hc : 0 < (Sp.ownerR m x).1 ∧ (Sp.ownerR m x).2 = 2
      · rw [if_pos hc, if_neg (by omega)]
      · rw [if_neg hc, if_pos (by omega)]
    have HO := HOW.out x
    generalize Sp.ownerR m x = oq at HO HSO
    obtain ⟨o1, o2⟩ := oq
    simp only at HO HSO
    have HO := Lib.hid HO
    clear hqa hkt ho
    obtain ⟨v, hbo, hown⟩ := hS.bo
    have ci := hS.bi.cell 0
    have ca := hS.bg.cell 0
    have cb := hS.bg.cell 1
    have cv := hbo.cell 0
    have cp := hS.bp.cell 0
    simp only [List.getElem?_toArray, List.getElem?_cons_zero, List.getElem?_cons_succ] at ci ca cb cv cp
    have hzz := hS.hz
    have hbl := hS.bl.lt
    have HS := Lib.hid hS
    clear hS
    by_cases hin : is = true ∧ a ≤ x ∧ x ≤ b
    · have HX := Lib.hid (HSI.out hin)
      obtain ⟨rfl, ha, hb⟩ := hin
      obtain ⟨q1, q2, q3⟩ := HAB.out rfl
      have hwr : IntKind.i64.wrap (x - a) = x - a := IntWalk.i64_in _ (by omega)
      have HBO := Lib.hid hbo
      clear hbo
      gi_wp2_with (gi_at_builtin; refine wpListIn_app elemSg rfl _ _ rfl (Z + 3) v _ _ rfl hown 1 1 [.bool false, .int .i64 (x - a)] rfl rfl (by simp [Value.oneCell']) (by omega) (by omega) ?_; intro v' w1 hown' hgrow hb' _; obtain ⟨p4, k4, rfl⟩ := owns_form hown'; have hv1 := blk_above HBO.out hb' (by omega); have c4 := hv1.cell 0; have f4 := hv1.frozen' 0; have HW4 := Lib.hid hown'; have HG4 := Lib.hid hgrow; have HB4 := Lib.hid hb'; clear hv1 hown' hgrow hb')
      exact ⟨((keeps_app hown HG4.out).trans (KeepsOthers.setCell _ _ _)).from _, out ++ [⟨false, x - a⟩], by rw [HN.out, HX.out], by simp, HS.out.push (x := ⟨false, x - a⟩) HB4.out HW4.out⟩
    · have HX := Lib.hid (HSO.out hin)
      have HBO := Lib.hid hbo
      clear hbo
      cases is with
      | false =>
        clear hin
        gi_wp2
        refine ⟨fun _ => by omega, (CallsIn.inRound l (callsIn_wide.2 (HO.out _ HS.out.bel))).mono ?_⟩
        rintro e w4 ⟨rfl, b4⟩
        have HS4 := Lib.hid (HS.out.next b4)
        have hown4 := owns_below hown b4 (Nat.le_refl _)
        have HK4 := Lib.hid (keeps_below b4)
        have HBO4 := Lib.hid (HBO.out.below b4 HBO.out.lt)
        have hbl4 := HS4.out.bl.lt
        have cv4 := HBO4.out.cell 0
        have e4 := HS4.out.b4.cell 0
        have g4 := HS4.out.b4.frozen' 0
        have e5 := fun u => (HS4.out.b5.other ⟨w.heap.size + 1, 0, none⟩ u (by simp)).cell 0
        have g5 := fun u => (HS4.out.b5.other ⟨w.heap.size + 1, 0, none⟩ u (by simp)).frozen' 0
        simp only [List.getElem?_toArray, List.getElem?_cons_zero] at cv4 e4 e5
        clear b4
        by_cases ho2 : 0 < o1 ∧ o2 = 2
        · have hd : (decide (0 < o1) && decide (o2 = 2)) = true := by simp [ho2]
          rw [hd]
          gi_wp2_with (gi_at_builtin; refine wpListIn_app elemSg rfl _ _ rfl (Z + 3) v _ _ rfl hown4 1 1 [.bool true, .int .i64 x] rfl rfl (by simp [Value.oneCell']) (by omega) (by omega) ?_; intro v' w1 hown' hgrow hb' _; obtain ⟨p4, k4, rfl⟩ := owns_form hown'; have hv1 := blk_above HBO4.out hb' (by omega); have c4 := hv1.cell 0; have f4 := hv1.frozen' 0; have HW4 := Lib.hid hown'; have HG4 := Lib.hid hgrow; have HB4 := Lib.hid hb'; clear hv1 hown' hgrow hb')
          exact ⟨(HK4.out.trans ((keeps_app hown4 HG4.out).trans (KeepsOthers.setCell _ _ _))).from _, out ++ [⟨true, x⟩], by rw [HN.out, HX.out, if_pos ho2], by simp, HS4.out.push (x := ⟨true, x⟩) HB4.out HW4.out⟩
        · have hd : (decide (0 < o1) && decide (o2 = 2)) = false := by
            by_cases h1 : 0 < o1
            · have : ¬ o2 = 2 := fun h2 => ho2 ⟨h1, h2⟩
              simp [this]
            · simp [h1]
          rw [hd]
          gi_wp2
          exact ⟨(HK4.out.trans ((KeepsOthers.setCell _ _ _).trans (KeepsOthers.setCell _ _ _))).from _, rfl, HNO.out (by rw [HX.out, if_neg ho2]), (HS4.out.b4.set 0 _).other _ _ (by simp), (HS4.out.b5.other _ _ (by simp)).set 0 _, (HS4.out.bel.setCell (by simp <;> omega) _).setCell (by simp <;> omega) _⟩
      | true =>
        by_cases ha : a ≤ x
        · have hb : ¬ x ≤ b := fun h => hin ⟨rfl, ha, h⟩
          clear hin
          gi_wp2
          refine ⟨fun _ => by omega, (CallsIn.inRound l (callsIn_wide.2 (HO.out _ HS.out.bel))).mono ?_⟩
          rintro e w4 ⟨rfl, b4⟩
          have HS4 := Lib.hid (HS.out.next b4)
          have hown4 := owns_below hown b4 (Nat.le_refl _)
          have HK4 := Lib.hid (keeps_below b4)
          have HBO4 := Lib.hid (HBO.out.below b4 HBO.out.lt)
          have hbl4 := HS4.out.bl.lt
          have cv4 := HBO4.out.cell 0
          have e4 := HS4.out.b4.cell 0
          have g4 := HS4.out.b4.frozen' 0
          have e5 := fun u => (HS4.out.b5.other ⟨w.heap.size + 1, 0, none⟩ u (by simp)).cell 0
          have g5 := fun u => (HS4.out.b5.other ⟨w.heap.size + 1, 0, none⟩ u (by simp)).frozen' 0
          simp only [List.getElem?_toArray, List.getElem?_cons_zero] at cv4 e4 e5
          clear b4
          by_cases ho2 : 0 < o1 ∧ o2 = 2
          · have hd : (decide (0 < o1) && decide (o2 = 2)) = true := by simp [ho2]
            rw [hd]
            gi_wp2_with (gi_at_builtin; refine wpListIn_app elemSg rfl _ _ rfl (Z + 3) v _ _ rfl hown4 1 1 [.bool true, .int .i64 x] rfl rfl (by simp [Value.oneCell']) (by omega) (by omega) ?_; intro v' w1 hown' hgrow hb' _; obtain ⟨p4, k4, rfl⟩ := owns_form hown'; have hv1 := blk_above HBO4.out hb' (by omega); have c4 := hv1.cell 0; have f4 := hv1.frozen' 0; have HW4 := Lib.hid hown'; have HG4 := Lib.hid hgrow; have HB4 := Lib.hid hb'; clear hv1 hown' hgrow hb')
            exact ⟨(HK4.out.trans ((keeps_app hown4 HG4.out).trans (KeepsOthers.setCell _ _ _))).from _, out ++ [⟨true, x⟩], by rw [HN.out, HX.out, if_pos ho2], by simp, HS4.out.push (x := ⟨true, x⟩) HB4.out HW4.out⟩
          · have hd : (decide (0 < o1) && decide (o2 = 2)) = false := by
              by_cases h1 : 0 < o1
              · have : ¬ o2 = 2 := fun h2 => ho2 ⟨h1, h2⟩
                simp [this]
              · simp [h1]
            rw [hd]
            gi_wp2
            exact ⟨(HK4.out.trans ((KeepsOthers.setCell _ _ _).trans (KeepsOthers.setCell _ _ _))).from _, rfl, HNO.out (by rw [HX.out, if_neg ho2]), (HS4.out.b4.set 0 _).other _ _ (by simp), (HS4.out.b5.other _ _ (by simp)).set 0 _, (HS4.out.bel.setCell (by simp <;> omega) _).setCell (by simp <;> omega) _⟩
        · clear hin
          gi_wp2
          refine ⟨fun _ => by omega, (CallsIn.inRound l (callsIn_wide.2 (HO.out _ HS.out.bel))).mono ?_⟩
          rintro e w4 ⟨rfl, b4⟩
          have HS4 := Lib.hid (HS.out.next b4)
          have hown4 := owns_below hown b4 (Nat.le_refl _)
          have HK4 := Lib.hid (keeps_below b4)
          have HBO4 := Lib.hid (HBO.out.below b4 HBO.out.lt)
          have hbl4 := HS4.out.bl.lt
          have cv4 := HBO4.out.cell 0
          have e4 := HS4.out.b4.cell 0
          have g4 := HS4.out.b4.frozen' 0
          have e5 := fun u => (HS4.out.b5.other ⟨w.heap.size + 1, 0, none⟩ u (by simp)).cell 0
          have g5 := fun u => (HS4.out.b5.other ⟨w.heap.size + 1, 0, none⟩ u (by simp)).frozen' 0
          simp only [List.getElem?_toArray, List.getElem?_cons_zero] at cv4 e4 e5
          clear b4
          by_cases ho2 : 0 < o1 ∧ o2 = 2
          · have hd : (decide (0 < o1) && decide (o2 = 2)) = true := by simp [ho2]
            rw [hd]
            gi_wp2_with (gi_at_builtin; refine wpListIn_app elemSg rfl _ _ rfl (Z + 3) v _ _ rfl hown4 1 1 [.bool true, .int .i64 x] rfl rfl (by simp [Value.oneCell']) (by omega) (by omega) ?_; intro v' w1 hown' hgrow hb' _; obtain ⟨p4, k4, rfl⟩ := owns_form hown'; have hv1 := blk_above HBO4.out hb' (by omega); have c4 := hv1.cell 0; have f4 := hv1.frozen' 0; have HW4 := Lib.hid hown'; have HG4 := Lib.hid hgrow; have HB4 := Lib.hid hb'; clear hv1 hown' hgrow hb')
            exact ⟨(HK4.out.trans ((keeps_app hown4 HG4.out).trans (KeepsOthers.setCell _ _ _))).from _, out ++ [⟨true, x⟩], by rw [HN.out, HX.out, if_pos ho2], by simp, HS4.out.push (x := ⟨true, x⟩) HB4.out HW4.out⟩
          · have hd : (decide (0 < o1) && decide (o2 = 2)) = false := by
              by_cases h1 : 0 < o1
              · have : ¬ o2 = 2 := fun h2 => ho2 ⟨h1, h2⟩
                simp [this]
              · simp [h1]
            rw [hd]
            gi_wp2
            exact ⟨(HK4.out.trans ((KeepsOthers.setCell _ _ _).trans (KeepsOthers.setCell _ _ _))).from _, rfl, HNO.out (by rw [HX.out, if_neg ho2]), (HS4.out.b4.set 0 _).other _ _ (by simp), (HS4.out.b5.other _ _ (by simp)).set 0 _, (HS4.out.bel.setCell (by simp <;> omega) _).setCell (by simp <;> omega) _⟩
  case done =>
    rintro D W hD ⟨out, ho, hol, hS⟩ hK
    have HE : Hid (Sg.ofR m ls = some out) := Lib.hid (by unfold Sg.ofR; rw [← ho, List.take_of_length_le (by simp)])
    obtain ⟨v, hbo, hown⟩ := hS.bo
    obtain ⟨pv, kv, rfl⟩ := owns_form hown
    have hzz := hS.hz
    have cv := hbo.cell 0
    have e4 := hS.b4.cell 0
    have g4 := hS.b4.frozen' 0
    have e5 := fun u => (hS.b5.other ⟨w.heap.size + 1, 0, none⟩ u (by simp)).cell 0
    have g5 := fun u => (hS.b5.other ⟨w.heap.size + 1, 0, none⟩ u (by simp)).frozen' 0
    simp only [List.getElem?_toArray, List.getElem?_cons_zero] at cv e4 e5
    have HS := Lib.hid hS
    have HO := Lib.hid hown
    clear hbo hS hown
    gi_wp2
    have hK' : ((W.setCell ⟨w.heap.size + 1, 0, none⟩ (.slice pv out.length kv)).setCell ⟨w.heap.size + 1 + 1, 0, none⟩ (.bool true)).heap[D]? = some (.deferred (some [])) := by
      rw [Below.heap_setCell _ _ _ _ (by simp only; omega), Below.heap_setCell _ _ _ _ (by simp only; omega)]; exact hK
    have x4 : Blk ((W.setCell ⟨w.heap.size + 1, 0, none⟩ (.slice pv out.length kv)).setCell ⟨w.heap.size + 1 + 1, 0, none⟩ (.bool true)) (w.heap.size + 1) 22 #[.slice pv out.length kv] := (HS.out.b4.set 0 _).other _ _ (by simp)
    have x5 : Blk ((W.setCell ⟨w.heap.size + 1, 0, none⟩ (.slice pv out.length kv)).setCell ⟨w.heap.size + 1 + 1, 0, none⟩ (.bool true)) (w.heap.size + 1 + 1) 4 #[.bool true] := (HS.out.b5.other _ _ (by simp)).set 0 _
    have hoV : ((W.setCell ⟨w.heap.size + 1, 0, none⟩ (.slice pv out.length kv)).setCell ⟨w.heap.size + 1 + 1, 0, none⟩ (.bool true)).ownsRow (Z + 3) 65 2 (.slice pv out.length kv) out.length (flat encG out) := ownsRow_setCell_below (ownsRow_setCell_below HO.out (by simp <;> omega) _) (by simp <;> omega) _
    have hbV : Below w.heap.size w ((W.setCell ⟨w.heap.size + 1, 0, none⟩ (.slice pv out.length kv)).setCell ⟨w.heap.size + 1 + 1, 0, none⟩ (.bool true)) := (HS.out.bel.setCell (by simp <;> omega) _).setCell (by simp <;> omega) _
    rw [hol] at x4 x5 hoV hbV hK'
    refine ⟨by simp, .inl ⟨_, _, rfl, run_takeDeferred hK', ?_⟩⟩
    generalize ((W.setCell ⟨w.heap.size + 1, 0, none⟩ (.slice pv ls.length kv)).setCell ⟨w.heap.size + 1 + 1, 0, none⟩ (.bool true)) = V at *
    have y4 : Blk (V.putObj D (.deferred none)) _ _ _ := x4.kept (grownBy_putObj' V D _) (fun e => by cases e; rw [show V.heap[_]? = _ from x4] at hK'; cases hK')
    have y5 : Blk (V.putObj D (.deferred none)) _ _ _ := x5.kept (grownBy_putObj' V D _) (fun e => by cases e; rw [show V.heap[_]? = _ from x5] at hK'; cases hK')
    have d4 := y4.cell 0
    have d5 := y5.cell 0
    simp only [List.getElem?_toArray, List.getElem?_cons_zero] at d4 d5
    refine ⟨.tuple #[.slice pv ls.length kv, .bool true], ?_, .slice pv ls.length kv, by rw [HE.out]; rfl, ?_, hbV.trans (belowK_b (w := w) (Nat.le_refl _) V D _ _ (by omega) hK' rfl rfl)⟩
    · simp [results, Tryz.results17, go_sem, d4, d5]
    · rw [HE.out]
      have h := ownsRow_putObj hoV (.deferred none) hK' rfl
      rw [← hol] at h ⊢
      exact SlR.of_owns encG_len h
  case stop =>
    rintro D c W hD ⟨rfl, hno, h4, h5, hbl⟩ hK
    gi_wp2
    refine ⟨by simp, .inl ⟨_, _, rfl, run_takeDeferred hK, ?_⟩⟩
    have y4 : Blk (W.putObj D (.deferred none)) _ _ _ := h4.kept (grownBy_putObj' W D _) (fun e => by cases e; rw [show W.heap[_]? = _ from h4] at hK; cases hK)
    have y5 : Blk (W.putObj D (.deferred none)) _ _ _ := h5.kept (grownBy_putObj' W D _) (fun e => by cases e; rw [show W.heap[_]? = _ from h5] at hK; cases hK)
    have d4 := y4.cell 0
    have d5 := y5.cell 0
    simp only [List.getElem?_toArray, List.getElem?_cons_zero] at d4 d5
    refine ⟨.tuple #[.slice none 0 0, .bool false], ?_, .slice none 0 0, by rw [hno]; rfl, by rw [hno]; exact slr_nilG _, hbl.trans (belowK_b (w := w) (Nat.le_refl _) W D _ _ (by omega) hK rfl rfl)⟩
    simp [results, Tryz.results17, go_sem, d4, d5]
theorem seg_Of (m : Sp.Spc) (hm : Sp.WF m) (hml : m.L.length ≤ 1000000) (ls : List Int) (hl : ls.length ≤ 1000000) (v : Value) (g : Nat) (r : Option Nat) (w : World) (h : SpcR w g r m) (hv : SlR w 1 encI v ls) :
    Calls Tryz.prog 17 #[.pointer (some ⟨g, 0, none⟩), v] w fun e w' => ∃ v', e = .returned (.tuple #[v', .bool (Sg.ofR m ls).isSome]) ∧ SlR w' 2 encG v' ((Sg.ofR m ls).getD []) ∧ Below w.heap.size w w' :=
  callsIn_wide.1 (seg_Of_in 8 (Nat.le_refl _) m hm hml ls hl v g r w h hv)
end Go.Proofs.YtilahcnpjbnjiaaGreatDoor
