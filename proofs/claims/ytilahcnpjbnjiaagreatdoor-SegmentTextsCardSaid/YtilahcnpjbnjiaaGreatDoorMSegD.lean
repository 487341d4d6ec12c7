import Derived.Test.YtilahcnpjbnjiaaGreatDoorMSegA
import Derived.Test.YtilahcnpjbnjiaaGreatDoorMSegP
import Derived.Test.YtilahcnpjbnjiaaGreatDoorMSegC
import Derived.Lib.OthersKept
/- segment.Parse's closure: one part. -/
namespace Go.Proofs.YtilahcnpjbnjiaaGreatDoor
set_option linter.unusedVariables false
set_option linter.unusedSimpArgs false
open Go.RowKit Go.Shelf Go.Proofs Go.OctetPlain

theorem elemSg : ElemOk Tryz.prog 22 65 2 16 := .mk Tryz.underlying22 (z := .agg #[.bool false, .int .i64 0]) (by kernel_rfl) (by omega) (by omega) rfl
/-- Parse's boxes: the text, what was told, where the part under way begins; an iterator; rows above -/
structure PaS (w0 : World) (l : List UInt8) (out : List Sg.Seg) (fr : Nat) (o : Obj) (w : World) : Prop where
  sb : Blk w w0.heap.size 9 #[.string (str l)]
  vb : ∃ v, Blk w (w0.heap.size + 1) 22 #[v] ∧ w.ownsRow (w0.heap.size + 4) 65 2 v out.length (flat encG out)
  fb : Blk w (w0.heap.size + 2) 3 #[.int .i64 fr]
  it : w.heap[w0.heap.size + 3]? = some o
  bel : Below w0.heap.size w0 w
theorem PaS.sz {w0 w : World} {l : List UInt8} {out : List Sg.Seg} {fr : Nat} {o : Obj} (h : PaS w0 l out fr o w) : w0.heap.size + 4 ≤ w.heap.size := (Array.getElem?_eq_some_iff.1 h.it).1
theorem PaS.below {w0 w w' : World} {l : List UInt8} {out : List Sg.Seg} {fr : Nat} {o : Obj} (h : PaS w0 l out fr o w) (hb : Below w.heap.size w w') : PaS w0 l out fr o w' := by
  obtain ⟨v, h1, h2⟩ := h.vb
  have hz := h.sz
  exact ⟨h.sb.below hb h.sb.lt, ⟨v, h1.below hb h1.lt, owns_below h2 hb (Nat.le_refl _)⟩, h.fb.below hb h.fb.lt, (hb.block _ (by omega)).trans h.it, h.bel.trans (hb.mono h.bel.size)⟩
theorem below_setCellG {B : Nat} {w w' : World} (h : Below B w w') {a : Addr} (ha : B ≤ a.block) (v : Value) : Below B w (w'.setCell a v) :=
  h.trans ⟨rfl, rfl, rfl, by simp [World.setCell], fun k hk => Below.heap_setCell w' a v k (by omega)⟩
theorem blk_above {w w' : World} {B k : Nat} {t : TypeId} {cs : Array Value} (h : Blk w k t cs) (hb : Below B w w') (hk : k < B) : Blk w' k t cs := (hb.block k hk).trans h
/-- one more, written behind; the next part begins -/
theorem PaS.push {w0 w w' : World} {l : List UInt8} {out : List Sg.Seg} {fr te : Nat} {o : Obj} {v : Value} {x : Sg.Seg} (h : PaS w0 l out fr o w) (hb : Below (w0.heap.size + 4) w w') (hv : w'.ownsRow (w0.heap.size + 4) 65 2 v (out.length + 1) (flat encG out ++ encG x)) :
    PaS w0 l (out ++ [x]) te o ((w'.setCell ⟨w0.heap.size + 1, 0, none⟩ v).setCell ⟨w0.heap.size + 2, 0, none⟩ (.int .i64 te)) := by
  have hz := h.sz
  obtain ⟨v0, h1, -⟩ := h.vb
  have hz' := hb.size
  refine ⟨?_, ⟨v, ?_, ?_⟩, ?_, ?_, ?_⟩
  · exact ((blk_above h.sb hb (by omega)).other _ _ (by simp)).other _ _ (by simp)
  · exact ((blk_above h1 hb (by omega)).set 0 v).other _ _ (by simp)
  · rw [flat_append, List.length_append]
    exact ownsRow_setCell_below (ownsRow_setCell_below (by simpa [flat] using hv) (by simp) _) (by simp) _
  · exact ((blk_above h.fb hb (by omega)).other _ _ (by simp)).set 0 _
  · rw [Below.heap_setCell _ _ _ _ (by simp), Below.heap_setCell _ _ _ _ (by simp)]
    exact (hb.block _ (by omega)).trans h.it
  · exact below_setCellG (below_setCellG (h.bel.trans (hb.mono (by omega))) (by simp) _) (by simp) _
set_option maxRecDepth 100000 in
set_option maxHeartbeats 2000000 in
theorem parse_take (w0 : World) (l : List UInt8) (hl : l.length ≤ 1073741824) (ht : Tabs w0) (out : List Sg.Seg) (ho : out.length ≤ 1000000) (fr te : Nat) (h1 : fr ≤ te) (h2 : te ≤ l.length) (o : Obj) (w : World) (P : PaS w0 l out fr o w) :
    Calls Tryz.prog 24 #[.int .i64 te, .pointer (some ⟨w0.heap.size, 0, none⟩), .pointer (some ⟨w0.heap.size + 2, 0, none⟩), .pointer (some ⟨w0.heap.size + 1, 0, none⟩)] w fun e w' =>
      e = .returned (.bool (Sg.one ((l.drop fr).take (te - fr))).isSome) ∧ Below w0.heap.size w0 w' ∧ ∀ x, Sg.one ((l.drop fr).take (te - fr)) = some x → PaS w0 l (out ++ [x]) (te + 1) o w' := by
  have HP := Lib.hid P
  have hpl : ((l.drop fr).take (te - fr)).length ≤ 1073741824 := by simp; omega
  have HO := Lib.hid fun W h => seg_one ((l.drop fr).take (te - fr)) hpl W h
  have HT := Lib.hid fun W (h : Below w0.heap.size w0 W) => ht.next h (Nat.le_refl _)
  have HC := Lib.hid (one_cut ((l.drop fr).take (te - fr)))
  have hxs : (str l).extract fr te = str ((l.drop fr).take (te - fr)) := str_cut l fr te
  have hsz : (str l).size = l.length := str_size l
  have cs := P.sb.cell 0
  have cf := P.fb.cell 0
  simp only [List.getElem?_toArray, List.getElem?_cons_zero] at cs cf
  generalize (l.drop fr).take (te - fr) = part at *
  rw [HC.out]
  clear ht P HC hpl
  generalize (cutLink part).1 = d at *
  generalize (cutLink part).2 = k at *
  generalize number d 1048575 = on at *
  go_enter Tryz.func24, Tryz.ntmps24
  go_wp2_with fail
  refine (HO.out _ (HT.out _ HP.out.bel)).mono ?_
  rintro e w2 ⟨rfl, b2⟩
  have HP2 := Lib.hid (HP.out.below b2)
  clear b2 cs cf HP
  obtain ⟨v, hv, hown⟩ := HP2.out.vb
  have hz := HP2.out.sz
  have cv := fun o => (hv.alloc o).cell 0
  have cf := fun o => (HP2.out.fb.alloc o).cell 0
  simp only [List.getElem?_toArray, List.getElem?_cons_zero] at cv cf
  have hba := belowA w2 (.cells #[.bool k, .int .i64 (on.getD 0)] 65)
  have HO2 := Lib.hid (owns_below hown hba (Nat.le_refl _))
  have HP3 := Lib.hid (HP2.out.below hba)
  have HV3 := Lib.hid (hv.below hba hv.lt)
  have HF3 := Lib.hid (HP2.out.fb.below hba HP2.out.fb.lt)
  clear hv hown hba
  go_wp2_with (at_builtin; go_loud (refine wpList_app elemSg rfl (.tmp 16) (.tmp 18) rfl (w0.heap.size + 4) v _ _ rfl HO2.out 1 1 [.bool k, .int .i64 (on.getD 0)] (by simp only [World.size_alloc]; rfl) rfl (by simp [Value.oneCell']) (by omega) (by simp; omega) ?_; intro v4 w4 hown4 hgr4 hob4 hb4; obtain ⟨p4, k4, rfl⟩ := owns_form hown4; have HB4 := Lib.hid hb4; have HW4 := Lib.hid hown4; have HV4 := blk_above HV3.out hb4 (by omega); have HF4 := blk_above HF3.out hb4 (by omega); have c4 := HV4.cell 0; have g4 := HV4.frozen' 0; have c5 := fun u => (HF4.other ⟨w0.heap.size + 1, 0, none⟩ u (by simp)).cell 0; have g5 := fun u => (HF4.other ⟨w0.heap.size + 1, 0, none⟩ u (by simp)).frozen' 0; clear hgr4 hob4 hb4 hown4 HV4 HF4))
  go_ret
  refine ⟨by cases on <;> rfl, ?_, fun x hx => ?_⟩
  · exact (HP3.out.push (x := ⟨k, on.getD 0⟩) (te := te + 1) HB4.out HW4.out).bel
  · cases on with
    | none => cases hx
    | some n =>
      cases hx
      exact HP3.out.push (x := ⟨k, n⟩) HB4.out HW4.out
end Go.Proofs.YtilahcnpjbnjiaaGreatDoor

/- segment.Parse. -/
namespace Go.Proofs.YtilahcnpjbnjiaaGreatDoor
set_option linter.unusedVariables false
set_option linter.unusedSimpArgs false
open Go.RowKit Go.Shelf Go.Proofs Go.OctetPlain

def iterPos (w : World) (k : Nat) : Nat := match w.heap[k]? with | some (.stringIter _ pos) => pos | _ => 0
theorem iterAt_pos {w : World} {k : Nat} {s : ByteArray} {pos : Nat} (hk : w.heap[k]? = some (.stringIter s pos)) (pos' : Nat) : (w.iterAt k s pos').heap[k]? = some (.stringIter s pos') ∧ iterPos (w.iterAt k s pos') k = pos' := by
  have h := Lib.iterAt_heap w k s pos pos' hk
  exact ⟨h, by unfold iterPos; rw [h]⟩

theorem owns_iter {w : World} {base : Nat} {e : TypeId} {size : Nat} {v : Value} {n : Nat} {xs : List Value} (h : w.ownsRow base e size v n xs) {k : Nat} {s : ByteArray} {pos : Nat} (hk : w.heap[k]? = some (.stringIter s pos)) (pos' : Nat) :
    (w.iterAt k s pos').ownsRow base e size v n xs := by
  refine ⟨h.1, ?_⟩
  rcases h.2 with h0 | ⟨g, cap, cur, hv, hb, hg, r⟩
  · exact .inl h0
  · refine .inr ⟨g, cap, cur, hv, hb, ?_, r⟩
    rw [Lib.iterAt_other w k g s pos' (fun e => by subst e; rw [hk] at hg; cases hg)]
    exact hg
theorem get_str (l : List UInt8) (i : Nat) (h : i < l.length) : (str l).get! i = l[i] := by
  have : (str l).get! i = l.toArray[i]! := rfl
  rw [this]
  simp [h]
structure PaL (w : World) (l : List UInt8) (out : List Sg.Seg) (fr pos : Nat) (wr : World) : Prop where
  st : PaS w l out fr (.stringIter (str l) pos) wr
  fp : fr ≤ pos
  pl : pos ≤ l.length
  ol : out.length ≤ fr
  eq : Sg.parseR l = Sg.goP out ((l.drop fr).take (pos - fr)) (l.drop pos)
theorem PaS.iter {w0 w : World} {l : List UInt8} {out : List Sg.Seg} {fr pos : Nat} (h : PaS w0 l out fr (.stringIter (str l) pos) w) (pos' : Nat) : PaS w0 l out fr (.stringIter (str l) pos') (w.iterAt (w0.heap.size + 3) (str l) pos') := by
  obtain ⟨v, h1, h2⟩ := h.vb
  have hz := h.sz
  exact ⟨(Lib.iterAt_other w _ _ (str l) pos' (by omega)).trans h.sb, ⟨v, (Lib.iterAt_other w _ _ (str l) pos' (by omega)).trans h1, owns_iter h2 h.it _⟩, (Lib.iterAt_other w _ _ (str l) pos' (by omega)).trans h.fb, Lib.iterAt_heap w _ (str l) pos pos' h.it, Lib.below_iterAt h.bel (by omega) (str l) pos'⟩
theorem cut_more (l : List UInt8) {fr pos : Nat} (m : Nat) (h : fr ≤ pos) : (l.drop fr).take (pos - fr) ++ (l.drop pos).take m = (l.drop fr).take (pos + m - fr) := by
  rw [show pos + m - fr = (pos - fr) + m by omega, List.take_add, List.drop_drop, show fr + (pos - fr) = pos by omega]
theorem PaS.start (w : World) (l : List UInt8) : PaS w l [] 0 (.stringIter (str l) 0) ((((w.alloc (.cells #[.string (str l)] 9)).alloc (.cells #[.slice none 0 0] 22)).alloc (.cells #[.int .i64 0] 3)).alloc (.stringIter (str l) 0)) := by
  have e1 : (w.alloc (.cells #[.string (str l)] 9)).heap.size = w.heap.size + 1 := by simp
  have e2 : ((w.alloc (.cells #[.string (str l)] 9)).alloc (.cells #[.slice none 0 0] 22)).heap.size = w.heap.size + 2 := by simp
  have e3 : (((w.alloc (.cells #[.string (str l)] 9)).alloc (.cells #[.slice none 0 0] 22)).alloc (.cells #[.int .i64 0] 3)).heap.size = w.heap.size + 3 := by simp
  have b2 := Blk.new (w.alloc (.cells #[.string (str l)] 9)) 22 #[.slice none 0 0]
  rw [e1] at b2
  have b3 := Blk.new ((w.alloc (.cells #[.string (str l)] 9)).alloc (.cells #[.slice none 0 0] 22)) 3 #[.int .i64 0]
  rw [e2] at b3
  have b4 := heap_alloc_new (((w.alloc (.cells #[.string (str l)] 9)).alloc (.cells #[.slice none 0 0] 22)).alloc (.cells #[.int .i64 0] 3)) (.stringIter (str l) 0)
  rw [e3] at b4
  exact ⟨(((Blk.new w _ _).alloc _).alloc _).alloc _, ⟨_, (b2.alloc _).alloc _, World.ownsRow_nil _ _ _ _⟩, b3.alloc _, b4, ((((Below.refl _ _).alloc (Nat.le_refl _) _).alloc (by omega) _).alloc (by omega) _).alloc (by omega) _⟩
theorem str_emp {l : List UInt8} (h : l ≠ []) : (str l).toList.isEmpty = false := by rw [str_tl]; cases l with | nil => exact absurd rfl h | cons c r => rfl
set_option maxRecDepth 100000 in
set_option maxHeartbeats 2000000 in
theorem seg_Parse (l : List UInt8) (hl : l.length ≤ 1000000) (w : World) (ht : Tabs w) :
    Calls Tryz.prog 8 #[.string (str l)] w fun e w' => ∃ v, e = .returned (.tuple #[v, .bool (Sg.parseR l).isSome]) ∧ SlR w' 2 encG v ((Sg.parseR l).getD []) ∧ Below w.heap.size w w' := by
  have B0 := Lib.hid fun o => belowA w o
  by_cases h0 : l = []
  · subst h0
    have hp : Sg.parseR [] = some [] := rfl
    have hsb : (str []).toList.isEmpty = true := by rw [str_tl]; rfl
    rw [hp]
    go_enter Tryz.func8, Tryz.ntmps8
    go_wp2_with fail
    exact bodyPost_ret (v := .tuple #[.slice none 0 0, .bool true]) (by simp [results, Tryz.results8, go_sem]) rfl ⟨.slice none 0 0, rfl, ⟨none, 0, rfl, Nat.le_refl _, by omega, ⟨fun _ => rfl, fun a ha => by cases ha⟩⟩, (B0.out _).alloc (by simp) _⟩
  · have HG := Lib.hid (Sg.parse_goP h0)
    have HT := Lib.hid fun out ho fr te h1 h2 o W (h : PaS w l out fr o W) => parse_take w l (by omega) ht out ho fr te h1 h2 o W h
    have HS0 := Lib.hid (PaS.start w l)
    have hsb := str_emp h0
    have hsz : (str l).size = l.length := str_size l
    clear ht
    go_enter Tryz.func8, Tryz.ntmps8
    go_wp2_with fail
    go_loopw [] (fun wr => ∃ (out : List Sg.Seg) (fr pos : Nat), Hid (PaL w l out fr pos wr)) (fun wr => l.length - iterPos wr (w.heap.size + 3))
    case atStart => exact ⟨[], 0, 0, Lib.hid ⟨HS0.out, Nat.le_refl _, Nat.zero_le _, Nat.zero_le _, by rw [HG.out]; simp⟩⟩
    case round =>
      obtain ⟨out, fr, pos, HU⟩ := hrel
      have hip : Hid (iterPos wr (w.heap.size + 3) = pos) := by unfold iterPos; rw [HU.out.st.it]; exact Lib.hid rfl
      have hfp := HU.out.fp
      have hpl := HU.out.pl
      have hol := HU.out.ol
      by_cases hlt : pos < l.length
      · have hps : pos < (str l).size := by rw [str_size]; exact hlt
        obtain ⟨c, hc0⟩ : ∃ c : UInt8, l[pos]'hlt = c := ⟨_, rfl⟩
        have HDR : Hid (l.drop pos = c :: l.drop (pos + 1)) := Lib.hid (by rw [List.drop_eq_getElem_cons hlt, hc0])
        have hgs := get_str l pos hlt
        rw [hc0] at hgs
        by_cases hb : 128 ≤ c.toNat
        · have hnx := fun ty => Lib.run_next_any_at (P := Tryz.prog) wr (w.heap.size + 3) (str l) pos ty HU.out.st.it hps
          obtain ⟨d1, d2, d3, d4, d5⟩ := Sg.decode_skip (str l) pos hps (by rw [hgs]; exact hb)
          generalize Utf8.decode (str l) pos = q at d1 d2 d3 d4 d5 hnx
          obtain ⟨q1, q2⟩ := q
          simp only at d1 d2 d3 d4 d5 hnx
          have HN : Hid (PaL w l out fr (pos + q2) (wr.iterAt (w.heap.size + 3) (str l) (pos + q2))) := Lib.hid ⟨HU.out.st.iter _, by omega, by omega, hol, by
            have hd : l.drop pos = (l.drop pos).take q2 ++ l.drop (pos + q2) := by rw [← List.drop_drop, List.take_append_drop]
            rw [HU.out.eq]
            conv => lhs; rw [hd]
            rw [Sg.goP_skip _ _ _ _ fun x hx => ?_, cut_more l q2 hfp]
            obtain ⟨i, hi, rfl⟩ := List.getElem_of_mem hx
            have hi2 : i < q2 := by rw [List.length_take] at hi; omega
            have := d5 i hi2
            rw [get_str l (pos + i) (by omega)] at this
            rw [List.getElem_take, List.getElem_drop]
            intro e
            rw [e] at this
            exact absurd this (by decide)⟩
          have hme : Hid (l.length - iterPos (wr.iterAt (w.heap.size + 3) (str l) (pos + q2)) (w.heap.size + 3) < l.length - iterPos wr (w.heap.size + 3)) := by
            rw [hip.out, (iterAt_pos HU.out.st.it (pos + q2)).2]; exact Lib.hid (by omega)
          have hne : ((q1 : Int) == 62) = false := by simp only [beq_eq_false_iff_ne, ne_eq]; omega
          clear d5 hgs hc0 HDR hb
          go_wp2_with fail
          exact ⟨⟨out, fr, pos + q2, HN⟩, hme.out⟩
        · have hc1 : (str l)[pos].toNat < 128 := by rw [str_get, hc0]; omega
          have hnx := fun ty => Lib.run_next_ascii_at (P := Tryz.prog) wr (w.heap.size + 3) (str l) pos ty HU.out.st.it hps hc1
          have hcc : (str l)[pos].toNat = c.toNat := by rw [str_get, hc0]
          rw [hcc] at hnx
          have HI := Lib.hid (HU.out.st.iter (pos + 1))
          have hme : Hid (l.length - iterPos (wr.iterAt (w.heap.size + 3) (str l) (pos + 1)) (w.heap.size + 3) < l.length - iterPos wr (w.heap.size + 3)) := by
            rw [hip.out, (iterAt_pos HU.out.st.it (pos + 1)).2]; exact Lib.hid (by omega)
          clear hc1 hcc hgs hc0
          by_cases h62 : c = 62
          · subst h62
            have HE := HU.out.eq
            rw [HDR.out, Sg.goP, if_pos rfl] at HE
            have HE := Lib.hid HE
            have HC := Lib.hid (HT.out out (by omega) fr pos hfp hpl _ _ HI.out)
            generalize (l.drop fr).take (pos - fr) = part at *
            cases ho : Sg.one part with
            | none =>
              rw [ho] at HC HE
              have HN : Hid (Sg.parseR l = none) := HE
              go_wp2_with fail
              refine HC.out.mono ?_
              rintro e w2 ⟨rfl, hb2, -⟩
              go_wp2_with fail
              exact bodyPost_ret (v := .tuple #[.slice none 0 0, .bool false]) (by simp [results, Tryz.results8, go_sem]) rfl ⟨.slice none 0 0, by rw [HN.out]; rfl, by rw [HN.out]; exact ⟨none, 0, rfl, Nat.le_refl _, by omega, ⟨fun _ => rfl, fun a ha => by cases ha⟩⟩, hb2⟩
            | some x =>
              rw [ho] at HC HE
              go_wp2_with fail
              refine HC.out.mono ?_
              rintro e w2 ⟨rfl, -, h2⟩
              have HP2 := h2 x rfl
              have hme2 : Hid (l.length - iterPos w2 (w.heap.size + 3) < l.length - iterPos wr (w.heap.size + 3)) := by
                rw [hip.out]; unfold iterPos; rw [HP2.it]; exact Lib.hid (by simp only; omega)
              have HN : Hid (PaL w l (out ++ [x]) (pos + 1) (pos + 1) w2) := Lib.hid ⟨HP2, Nat.le_refl _, hlt, by simp; omega, by rw [HE.out]; simp⟩
              clear h2
              go_wp2_with fail
              exact ⟨⟨_, _, _, HN⟩, hme2.out⟩
          · have hne : ((c.toNat : Int) == 62) = false := by
              simp only [beq_eq_false_iff_ne, ne_eq]
              exact fun h => h62 (UInt8.toNat_inj.1 (by have : c.toNat = 62 := (by omega); rw [this]; rfl))
            have HN : Hid (PaL w l out fr (pos + 1) (wr.iterAt (w.heap.size + 3) (str l) (pos + 1))) := Lib.hid ⟨HI.out, by omega, hlt, hol, by
              have h1 : (l.drop pos).take 1 = [c] := by rw [HDR.out]; rfl
              rw [HU.out.eq, HDR.out, Sg.goP, if_neg h62, ← h1, cut_more l 1 hfp]⟩
            clear h62
            go_wp2_with fail
            exact ⟨⟨_, _, _, HN⟩, hme.out⟩
      · obtain rfl : pos = l.length := by omega
        have hps : ¬ l.length < (str l).size := by rw [str_size]; exact hlt
        have hnx := fun ty => Lib.run_next_end_at (P := Tryz.prog) wr (w.heap.size + 3) (str l) l.length ty HU.out.st.it hps
        have HE := HU.out.eq
        rw [List.drop_length, Sg.goP] at HE
        have HE := Lib.hid HE
        have HC := Lib.hid (HT.out out (by omega) fr l.length hfp hpl _ _ HU.out.st)
        have csb := HU.out.st.sb.cell 0
        simp only [List.getElem?_toArray, List.getElem?_cons_zero] at csb
        generalize (l.drop fr).take (l.length - fr) = part at *
        cases ho : Sg.one part with
        | none =>
          rw [ho] at HC HE
          have HN : Hid (Sg.parseR l = none) := HE
          go_wp2_with fail
          refine HC.out.mono ?_
          rintro e w2 ⟨rfl, hb2, -⟩
          go_wp2_with fail
          exact bodyPost_ret (v := .tuple #[.slice none 0 0, .bool false]) (by simp [results, Tryz.results8, go_sem]) rfl ⟨.slice none 0 0, by rw [HN.out]; rfl, by rw [HN.out]; exact ⟨none, 0, rfl, Nat.le_refl _, by omega, ⟨fun _ => rfl, fun a ha => by cases ha⟩⟩, hb2⟩
        | some x =>
          rw [ho] at HC HE
          have HN : Hid (Sg.parseR l = some (out ++ [x])) := HE
          go_wp2_with fail
          refine HC.out.mono ?_
          rintro e w2 ⟨rfl, -, h2⟩
          have HP2 := h2 x rfl
          obtain ⟨v, h3, h4⟩ := HP2.vb
          have cv := h3.cell 0
          simp only [List.getElem?_toArray, List.getElem?_cons_zero] at cv
          have HV := Lib.hid (SlR.of_owns encG_len h4)
          have HB := Lib.hid HP2.bel
          clear h2 h3 h4 HP2
          go_wp2_with fail
          exact bodyPost_ret (v := .tuple #[v, .bool true]) (by simp [results, Tryz.results8, go_sem]) rfl ⟨v, by rw [HN.out]; rfl, by rw [HN.out]; exact HV.out, HB.out⟩
end Go.Proofs.YtilahcnpjbnjiaaGreatDoor

/- footplateref26.Parse. -/
namespace Go.Proofs.YtilahcnpjbnjiaaGreatDoor
set_option linter.unusedVariables false
set_option linter.unusedSimpArgs false
open Go.RowKit Go.Shelf Go.Proofs Go.OctetPlain

/-- behind k bytes: what was told, the part under way -/
structure RpS (l : List UInt8) (w wr : World) (k : Nat) (out : List Sg.Seg) (cur : List UInt8) (vo : Value) : Prop where
  own : wr.ownsRow w.heap.size 70 2 vo out.length (flat encG out)
  bel : Below w.heap.size w wr
  ol : out.length ≤ k
  cl : cur.length ≤ k
  eq : (k ≤ l.length → Sg.parseR l = Sg.goP out cur (l.drop k)) ∧ (l.length < k → Sg.parseR l = some out)
set_option maxRecDepth 100000 in
set_option maxHeartbeats 4000000 in
theorem r26_Parse (l : List UInt8) (hl : l.length ≤ 1000000) (w : World) (ht : Tabs w) :
    Calls Tryz.prog 9 #[.string (str l)] w fun e w' => ∃ v, e = .returned (.tuple #[v, .bool (Sg.parseR l).isSome]) ∧ SlR w' 2 encG v ((Sg.parseR l).getD []) ∧ Below w.heap.size w w' := by
  have hsz : (str l).size = l.length := str_size l
  by_cases h0 : l = []
  · subst h0
    have hp : Sg.parseR [] = some [] := rfl
    have hsb : (str []).toList.isEmpty = true := by rw [str_tl]; rfl
    rw [hp]
    go_enter Tryz.func9, Tryz.ntmps9
    go_wp2_with fail
    go_loopw [4, 5, 6] (fun vo vp vi wr => vo = .slice none 0 0 ∧ vi = .int .i64 0 ∧ wr = w) (fun _ _ _ _ => 0)
    case atStart => exact ⟨rfl, rfl, rfl⟩
    case round =>
      obtain ⟨rfl, rfl, rfl⟩ := hrel
      go_wp2_with fail
      exact bodyPost_ret (v := .tuple #[.slice none 0 0, .bool true]) (by simp [results, Tryz.results9, go_sem]) rfl ⟨.slice none 0 0, rfl, ⟨none, 0, rfl, Nat.le_refl _, by omega, ⟨fun _ => rfl, fun a ha => by cases ha⟩⟩, Below.refl _ _⟩
  · have HG := Lib.hid (Sg.parse_goP h0)
    have hsb := str_emp h0
    have HN0 := Lib.hid fun (d : List UInt8) (hd : d.length ≤ 1073741824) W => ref_Number d hd 1048575 W
    have H0 := Lib.hid (RpS.mk (l := l) (w := w) (wr := w) (k := 0) (out := []) (cur := []) (vo := .slice none 0 0) (World.ownsRow_nil _ _ _ _) (Below.refl _ _) (Nat.le_refl _) (Nat.le_refl _) ⟨fun _ => by rw [HG.out]; simp, fun h => by omega⟩)
    clear ht h0
    go_enter Tryz.func9, Tryz.ntmps9
    go_wp2_with fail
    go_loopw [4, 5, 6] (fun vo vp vi wr => ∃ (k : Nat) (out : List Sg.Seg) (cur : List UInt8), vi = .int .i64 k ∧ k ≤ l.length + 1 ∧ vp = .string (str cur) ∧ Hid (RpS l w wr k out cur vo)) (fun _ _ vi _ => l.length + 1 - (intOf vi).toNat)
    case atStart => exact ⟨0, [], [], rfl, Nat.zero_le _, rfl, H0⟩
    case round =>
      clear H0
      obtain ⟨k, out, cur, rfl, hk, rfl, HP⟩ := hrel
      have hol := HP.out.ol
      have hcl := HP.out.cl
      have hz := HP.out.bel.size
      by_cases hlt : k < l.length
      · obtain ⟨c, hcg⟩ : ∃ c, l[k] = c := ⟨_, rfl⟩
        have HDR : Hid (l.drop k = c :: l.drop (k + 1)) := Lib.hid (by rw [← hcg]; exact List.drop_eq_getElem_cons hlt)
        have hg : ∀ h, (str l)[k]'h = c := fun h => by rw [str_get, hcg]
        have HX : Hid ((str l).extract k (k + 1) = str [c]) := by
          rw [str_cut, HDR.out, show k + 1 - k = 1 by omega]; exact Lib.hid rfl
        clear hcg
        by_cases hc : c = 62
        · subst hc
          have HE : Hid (Sg.parseR l = match Sg.one cur with | some x => Sg.goP (out ++ [x]) [] (l.drop (k + 1)) | none => none) := Lib.hid (by rw [HP.out.eq.1 (by omega), HDR.out, Sg.goP, if_pos rfl]; cases Sg.one cur <;> rfl)
          have HO := one_cut cur
          have HN := HN0.out (cutLink cur).1 (by have := cutLink_len cur; omega)
          have HQ : Hid (∀ x, Sg.one cur = some x → ∀ wv v', wv.ownsRow w.heap.size 70 2 v' (out ++ [x]).length (flat encG (out ++ [x])) → Below w.heap.size w wv → RpS l w wv (k + 1) (out ++ [x]) [] v') := Lib.hid fun x hx wv v' h1 h2 => ⟨h1, h2, by simp; omega, by simp, ⟨fun _ => by rw [HE.out, hx], fun h => by omega⟩⟩
          have HF : Hid (Sg.one cur = none → Sg.parseR l = none) := Lib.hid fun hx => by rw [HE.out, hx]
          have hcs : (str cur).size = cur.length := str_size cur
          rcases cur with _ | ⟨c, r⟩
          · have hem : (str []).toList.isEmpty = true := by rw [str_tl]; rfl
            have HC : Hid (cutLink [] = ([], false)) := Lib.hid rfl
            rw [HC.out] at HN HO
            simp only at HN HO
            generalize number [] 1048575 = on at HN HO
            have HO := Lib.hid HO
            go_wp2_with fail
            refine (HN _).mono ?_
            rintro e w2 ⟨rfl, rfl⟩
            clear HN
            cases on with
            | none =>
              have HE2 : Hid (Sg.parseR l = none) := Lib.hid (HF.out HO.out)
              go_wp2_with fail
              exact bodyPost_ret (v := .tuple #[.slice none 0 0, .bool false]) (by simp [results, Tryz.results9, go_sem]) rfl ⟨.slice none 0 0, by rw [HE2.out]; rfl, by rw [HE2.out]; exact ⟨none, 0, rfl, Nat.le_refl _, by omega, ⟨fun _ => rfl, fun a ha => by cases ha⟩⟩, HP.out.bel.alloc hz _⟩
            | some n =>
              go_wp2_with (at_builtin; go_loud (refine wpList_app elemG rfl (.tmp 58) (.tmp 60) rfl w.heap.size u4 _ _ rfl (owns_below HP.out.own (belowA wr _) (Nat.le_refl _)) 1 1 [.bool false, .int .i64 n] (by simp only [World.size_alloc]; rfl) rfl (by simp [Value.oneCell']) (by omega) (by simp; omega) ?_; intro v4 w4 hown4 hgr4 hob4 hb4; have HB4 := Lib.hid hb4; have HW4 := Lib.hid hown4; clear hgr4 hob4 hb4 hown4))
              have h4 := HW4.out
              have HR := Lib.hid (HQ.out ⟨false, n⟩ HO.out _ _ (by rw [flat_append, List.length_append]; exact h4) ((HP.out.bel.alloc hz _).trans HB4.out))
              exact ⟨⟨_, out ++ [⟨false, n⟩], [], by go_num, by omega, rfl, HR⟩, by first | (simp [intOf]; done) | (simp [intOf]; omega)⟩
          · have hem : (str (c :: r)).toList.isEmpty = false := by rw [str_tl]; rfl
            have hg0 : ∀ h, (str (c :: r))[0]'h = c := fun h => by rw [str_get]; rfl
            by_cases h42 : c = 42
            · subst h42
              have HC : Hid (cutLink (42 :: r) = (r, true)) := Lib.hid rfl
              have HX : (str (42 :: r)).extract 1 (r.length + 1) = str r := by rw [str_cut]; simp
              rw [HC.out] at HN HO
              simp only at HN HO
              generalize number r 1048575 = on at HN HO
              have HO := Lib.hid HO
              go_wp2_with fail
              refine (HN _).mono ?_
              rintro e w2 ⟨rfl, rfl⟩
              clear HN
              cases on with
              | none =>
                have HE2 : Hid (Sg.parseR l = none) := Lib.hid (HF.out HO.out)
                go_wp2_with fail
                exact bodyPost_ret (v := .tuple #[.slice none 0 0, .bool false]) (by simp [results, Tryz.results9, go_sem]) rfl ⟨.slice none 0 0, by rw [HE2.out]; rfl, by rw [HE2.out]; exact ⟨none, 0, rfl, Nat.le_refl _, by omega, ⟨fun _ => rfl, fun a ha => by cases ha⟩⟩, HP.out.bel.alloc hz _⟩
              | some n =>
                go_wp2_with (at_builtin; go_loud (refine wpList_app elemG rfl (.tmp 58) (.tmp 60) rfl w.heap.size u4 _ _ rfl (owns_below HP.out.own (belowA wr _) (Nat.le_refl _)) 1 1 [.bool true, .int .i64 n] (by simp only [World.size_alloc]; rfl) rfl (by simp [Value.oneCell']) (by omega) (by simp; omega) ?_; intro v4 w4 hown4 hgr4 hob4 hb4; have HB4 := Lib.hid hb4; have HW4 := Lib.hid hown4; clear hgr4 hob4 hb4 hown4))
                have h4 := HW4.out
                have HR := Lib.hid (HQ.out ⟨true, n⟩ HO.out _ _ (by rw [flat_append, List.length_append]; exact h4) ((HP.out.bel.alloc hz _).trans HB4.out))
                exact ⟨⟨_, out ++ [⟨true, n⟩], [], by go_num, by omega, rfl, HR⟩, by first | (simp [intOf]; done) | (simp [intOf]; omega)⟩
            · have hne : ((c.toNat : Int) == 42) = false := by
                simp only [beq_eq_false_iff_ne, ne_eq]
                exact fun h => h42 (UInt8.toNat_inj.1 (by have : c.toNat = 42 := (by omega); rw [this]; rfl))
              have HC : Hid (cutLink (c :: r) = (c :: r, false)) := Lib.hid (by
                unfold cutLink
                split
                · rename_i heq; cases heq; exact absurd rfl h42
                · rfl)
              rw [HC.out] at HN HO
              simp only at HN HO
              generalize number (c :: r) 1048575 = on at HN HO
              have HO := Lib.hid HO
              clear h42
              go_wp2_with fail
              refine (HN _).mono ?_
              rintro e w2 ⟨rfl, rfl⟩
              clear HN
              cases on with
              | none =>
                have HE2 : Hid (Sg.parseR l = none) := Lib.hid (HF.out HO.out)
                go_wp2_with fail
                exact bodyPost_ret (v := .tuple #[.slice none 0 0, .bool false]) (by simp [results, Tryz.results9, go_sem]) rfl ⟨.slice none 0 0, by rw [HE2.out]; rfl, by rw [HE2.out]; exact ⟨none, 0, rfl, Nat.le_refl _, by omega, ⟨fun _ => rfl, fun a ha => by cases ha⟩⟩, HP.out.bel.alloc hz _⟩
              | some n =>
                go_wp2_with (at_builtin; go_loud (refine wpList_app elemG rfl (.tmp 58) (.tmp 60) rfl w.heap.size u4 _ _ rfl (owns_below HP.out.own (belowA wr _) (Nat.le_refl _)) 1 1 [.bool false, .int .i64 n] (by simp only [World.size_alloc]; rfl) rfl (by simp [Value.oneCell']) (by omega) (by simp; omega) ?_; intro v4 w4 hown4 hgr4 hob4 hb4; have HB4 := Lib.hid hb4; have HW4 := Lib.hid hown4; clear hgr4 hob4 hb4 hown4))
                have h4 := HW4.out
                have HR := Lib.hid (HQ.out ⟨false, n⟩ HO.out _ _ (by rw [flat_append, List.length_append]; exact h4) ((HP.out.bel.alloc hz _).trans HB4.out))
                exact ⟨⟨_, out ++ [⟨false, n⟩], [], by go_num, by omega, rfl, HR⟩, by first | (simp [intOf]; done) | (simp [intOf]; omega)⟩
        · have hne : ((c.toNat : Int) == 62) = false := by
            simp only [beq_eq_false_iff_ne, ne_eq]
            exact fun h => hc (UInt8.toNat_inj.1 (by have : c.toNat = 62 := (by omega); rw [this]; rfl))
          have hns : (str cur).size = cur.length := str_size _
          have HQ : Hid (RpS l w wr (k + 1) out (cur ++ [c]) u4) := Lib.hid ⟨HP.out.own, HP.out.bel, by omega, by simp; omega, ⟨fun _ => by rw [HP.out.eq.1 (by omega), HDR.out, Sg.goP, if_neg hc], fun h => by omega⟩⟩
          clear hc
          go_wp2_with fail
          exact ⟨⟨k + 1, out, cur ++ [c], by go_num, by omega, by rw [HX.out, str_app], HQ⟩, by simp [intOf]; omega⟩
      · by_cases hkl : k = l.length
        · subst hkl
          have HE : Hid (Sg.parseR l = (Sg.one cur).map fun x => out ++ [x]) := Lib.hid (by rw [HP.out.eq.1 (Nat.le_refl _), List.drop_length, Sg.goP])
          have HO := one_cut cur
          have HN := HN0.out (cutLink cur).1 (by have := cutLink_len cur; omega)
          have HQ : Hid (∀ x, Sg.one cur = some x → ∀ wv v', wv.ownsRow w.heap.size 70 2 v' (out ++ [x]).length (flat encG (out ++ [x])) → Below w.heap.size w wv → RpS l w wv (l.length + 1) (out ++ [x]) [] v') := Lib.hid fun x hx wv v' h1 h2 => ⟨h1, h2, by simp; omega, by simp, ⟨fun h => by omega, fun _ => by rw [HE.out, hx]; rfl⟩⟩
          have HF : Hid (Sg.one cur = none → Sg.parseR l = none) := Lib.hid fun hx => by rw [HE.out, hx]; rfl
          have hcs : (str cur).size = cur.length := str_size cur
          rcases cur with _ | ⟨c, r⟩
          · have hem : (str []).toList.isEmpty = true := by rw [str_tl]; rfl
            have HC : Hid (cutLink [] = ([], false)) := Lib.hid rfl
            rw [HC.out] at HN HO
            simp only at HN HO
            generalize number [] 1048575 = on at HN HO
            have HO := Lib.hid HO
            go_wp2_with fail
            refine (HN _).mono ?_
            rintro e w2 ⟨rfl, rfl⟩
            clear HN
            cases on with
            | none =>
              have HE2 : Hid (Sg.parseR l = none) := Lib.hid (HF.out HO.out)
              go_wp2_with fail
              exact bodyPost_ret (v := .tuple #[.slice none 0 0, .bool false]) (by simp [results, Tryz.results9, go_sem]) rfl ⟨.slice none 0 0, by rw [HE2.out]; rfl, by rw [HE2.out]; exact ⟨none, 0, rfl, Nat.le_refl _, by omega, ⟨fun _ => rfl, fun a ha => by cases ha⟩⟩, HP.out.bel.alloc hz _⟩
            | some n =>
              go_wp2_with (at_builtin; go_loud (refine wpList_app elemG rfl (.tmp 58) (.tmp 60) rfl w.heap.size u4 _ _ rfl (owns_below HP.out.own (belowA wr _) (Nat.le_refl _)) 1 1 [.bool false, .int .i64 n] (by simp only [World.size_alloc]; rfl) rfl (by simp [Value.oneCell']) (by omega) (by simp; omega) ?_; intro v4 w4 hown4 hgr4 hob4 hb4; have HB4 := Lib.hid hb4; have HW4 := Lib.hid hown4; clear hgr4 hob4 hb4 hown4))
              have h4 := HW4.out
              have HR := Lib.hid (HQ.out ⟨false, n⟩ HO.out _ _ (by rw [flat_append, List.length_append]; exact h4) ((HP.out.bel.alloc hz _).trans HB4.out))
              exact ⟨⟨_, out ++ [⟨false, n⟩], [], by go_num, by omega, rfl, HR⟩, by first | (simp [intOf]; done) | (simp [intOf]; omega)⟩
          · have hem : (str (c :: r)).toList.isEmpty = false := by rw [str_tl]; rfl
            have hg0 : ∀ h, (str (c :: r))[0]'h = c := fun h => by rw [str_get]; rfl
            by_cases h42 : c = 42
            · subst h42
              have HC : Hid (cutLink (42 :: r) = (r, true)) := Lib.hid rfl
              have HX : (str (42 :: r)).extract 1 (r.length + 1) = str r := by rw [str_cut]; simp
              rw [HC.out] at HN HO
              simp only at HN HO
              generalize number r 1048575 = on at HN HO
              have HO := Lib.hid HO
              go_wp2_with fail
              refine (HN _).mono ?_
              rintro e w2 ⟨rfl, rfl⟩
              clear HN
              cases on with
              | none =>
                have HE2 : Hid (Sg.parseR l = none) := Lib.hid (HF.out HO.out)
                go_wp2_with fail
                exact bodyPost_ret (v := .tuple #[.slice none 0 0, .bool false]) (by simp [results, Tryz.results9, go_sem]) rfl ⟨.slice none 0 0, by rw [HE2.out]; rfl, by rw [HE2.out]; exact ⟨none, 0, rfl, Nat.le_refl _, by omega, ⟨fun _ => rfl, fun a ha => by cases ha⟩⟩, HP.out.bel.alloc hz _⟩
              | some n =>
                go_wp2_with (at_builtin; go_loud (refine wpList_app elemG rfl (.tmp 58) (.tmp 60) rfl w.heap.size u4 _ _ rfl (owns_below HP.out.own (belowA wr _) (Nat.le_refl _)) 1 1 [.bool true, .int .i64 n] (by simp only [World.size_alloc]; rfl) rfl (by simp [Value.oneCell']) (by omega) (by simp; omega) ?_; intro v4 w4 hown4 hgr4 hob4 hb4; have HB4 := Lib.hid hb4; have HW4 := Lib.hid hown4; clear hgr4 hob4 hb4 hown4))
                have h4 := HW4.out
                have HR := Lib.hid (HQ.out ⟨true, n⟩ HO.out _ _ (by rw [flat_append, List.length_append]; exact h4) ((HP.out.bel.alloc hz _).trans HB4.out))
                exact ⟨⟨_, out ++ [⟨true, n⟩], [], by go_num, by omega, rfl, HR⟩, by first | (simp [intOf]; done) | (simp [intOf]; omega)⟩
            · have hne : ((c.toNat : Int) == 42) = false := by
                simp only [beq_eq_false_iff_ne, ne_eq]
                exact fun h => h42 (UInt8.toNat_inj.1 (by have : c.toNat = 42 := (by omega); rw [this]; rfl))
              have HC : Hid (cutLink (c :: r) = (c :: r, false)) := Lib.hid (by
                unfold cutLink
                split
                · rename_i heq; cases heq; exact absurd rfl h42
                · rfl)
              rw [HC.out] at HN HO
              simp only at HN HO
              generalize number (c :: r) 1048575 = on at HN HO
              have HO := Lib.hid HO
              clear h42
              go_wp2_with fail
              refine (HN _).mono ?_
              rintro e w2 ⟨rfl, rfl⟩
              clear HN
              cases on with
              | none =>
                have HE2 : Hid (Sg.parseR l = none) := Lib.hid (HF.out HO.out)
                go_wp2_with fail
                exact bodyPost_ret (v := .tuple #[.slice none 0 0, .bool false]) (by simp [results, Tryz.results9, go_sem]) rfl ⟨.slice none 0 0, by rw [HE2.out]; rfl, by rw [HE2.out]; exact ⟨none, 0, rfl, Nat.le_refl _, by omega, ⟨fun _ => rfl, fun a ha => by cases ha⟩⟩, HP.out.bel.alloc hz _⟩
              | some n =>
                go_wp2_with (at_builtin; go_loud (refine wpList_app elemG rfl (.tmp 58) (.tmp 60) rfl w.heap.size u4 _ _ rfl (owns_below HP.out.own (belowA wr _) (Nat.le_refl _)) 1 1 [.bool false, .int .i64 n] (by simp only [World.size_alloc]; rfl) rfl (by simp [Value.oneCell']) (by omega) (by simp; omega) ?_; intro v4 w4 hown4 hgr4 hob4 hb4; have HB4 := Lib.hid hb4; have HW4 := Lib.hid hown4; clear hgr4 hob4 hb4 hown4))
                have h4 := HW4.out
                have HR := Lib.hid (HQ.out ⟨false, n⟩ HO.out _ _ (by rw [flat_append, List.length_append]; exact h4) ((HP.out.bel.alloc hz _).trans HB4.out))
                exact ⟨⟨_, out ++ [⟨false, n⟩], [], by go_num, by omega, rfl, HR⟩, by first | (simp [intOf]; done) | (simp [intOf]; omega)⟩
        · have HE : Hid (Sg.parseR l = some out) := Lib.hid (HP.out.eq.2 (by omega))
          have hgt : ¬ (k : Int) ≤ (l.length : Int) := by omega
          go_wp2_with fail
          exact bodyPost_ret (v := .tuple #[u4, .bool true]) (by simp [results, Tryz.results9, go_sem]) rfl ⟨_, by rw [HE.out]; rfl, by rw [HE.out]; exact SlR.of_owns encG_len HP.out.own, HP.out.bel⟩
end Go.Proofs.YtilahcnpjbnjiaaGreatDoor
