/- slots.grow. -/
import Derived.Test.YtcioiiobjfblbaaSlotsGrow
namespace Go.Proofs.Ytcioiiobjfblbaa
set_option linter.unusedVariables false
set_option linter.unusedSimpArgs false
open Go.RowKit Go.Shelf Go.Proofs

/-- behind a growth -/
def GrowRet (B Bt : Nat) (room : Int) (M : List Sl.It) (w : World) (e : Ending) (w' : World) : Prop :=
  e = .returned (.tuple #[]) ∧ ∃ Bs cap k0 s, B ≤ Bs ∧ TabS Bt room M Bs cap k0 s w' ∧ 2 * (Sl.usedN s + 1) ≤ s.length ∧ KeepT w w' ∧ Below B w w'

/-- what is put in anew, after k of the old slots -/
structure GI (w : World) (B Bt : Nat) (room : Int) (M : List Sl.It) (Bo : Nat) (s : List Sl.Slt) (Bn N k : Nat) (t : List Sl.Slt) (wr : World) : Prop where
  len : t.length = N
  mem : TabW wr Bt room (M.length : Int) (M.length : Int) Bn N t
  tbl : Sl.Tbl home t (fun x => ((2, x.1, x.2) : Sl.Slt) ∈ s.take k)
  used : Sl.usedN t = Sl.thereN (s.take k)
  there : Sl.thereN t = Sl.thereN (s.take k)
  old : Blk wr Bo 74 (flat encSlt s).toArray
  keep : KeepT w wr
  below : Below B w wr
  ne : Bo ≠ Bn
  bn : B ≤ Bn

theorem there_take {s : List Sl.Slt} {k : Nat} (hk : k < s.length) : Sl.thereN (s.take (k + 1)) = Sl.thereN (s.take k) + if s[k].1 = 2 then 1 else 0 := by
  unfold Sl.thereN
  rw [List.take_succ_eq_append_getElem hk, List.countP_append]
  by_cases h : s[k].1 = 2 <;> simp [h]
theorem there_le (s : List Sl.Slt) (k : Nat) : Sl.thereN (s.take k) ≤ Sl.thereN s := by
  unfold Sl.thereN
  conv => rhs; rw [← List.take_append_drop k s]
  rw [List.countP_append]; omega

theorem GI.skip {w : World} {B Bt : Nat} {room : Int} {M : List Sl.It} {Bo : Nat} {s : List Sl.Slt} {Bn N k : Nat} {t : List Sl.Slt} {wr w1 : World} (h : GI w B Bt room M Bo s Bn N k t wr) (hB : B ≤ w.heap.size) (hk : k < s.length) (hno : s[k].1 ≠ 2) (hb : Below wr.heap.size wr w1) : GI w B Bt room M Bo s Bn N (k + 1) t w1 := by
  refine ⟨h.len, h.mem.below hb (Nat.le_refl _), h.tbl.congr fun x => ?_, ?_, ?_, (hb.block Bo h.old.lt).trans h.old, h.keep.trans (KeepT.of_below hb), h.below.trans (hb.mono (Nat.le_trans hB h.below.size)), h.ne, h.bn⟩
  · rw [List.take_succ_eq_append_getElem hk, List.mem_append]
    constructor
    · exact .inl
    · rintro (h | h)
      · exact h
      · simp at h; rw [← h] at hno; exact absurd rfl hno
  · rw [there_take hk, if_neg hno]; exact h.used
  · rw [there_take hk, if_neg hno]; exact h.there
theorem GI.not_yes {w : World} {B Bt : Nat} {room : Int} {M : List Sl.It} {Bo : Nat} {s : List Sl.Slt} {Bn N k : Nat} {t : List Sl.Slt} {wr : World} (h : GI w B Bt room M Bo s Bn N k t wr) {H : Int → Nat → Nat} {R : Sl.It → Prop} (hs : Sl.Tbl H s R) {lab v : Int} (hx : s[k]? = some (2, lab, v)) {p : Nat} (hy : Sl.Yes t lab p) : False := by
  obtain ⟨v', hv⟩ := hy
  have hm := h.tbl.of_yes hv
  obtain ⟨i, hi, e⟩ := List.mem_iff_getElem.1 hm
  have hik : i < k := by rw [List.length_take] at hi; omega
  have hsi : s[i]? = some (2, lab, v') := by
    rw [List.getElem_take] at e
    rw [List.getElem?_eq_getElem (by rw [List.length_take] at hi; omega), e]
  have := hs.uniq i k lab v' v hsi hx
  omega
theorem GI.put {w : World} {B Bt : Nat} {room : Int} {M : List Sl.It} {Bo : Nat} {s : List Sl.Slt} {Bn N k : Nat} {t : List Sl.Slt} {wr w1 : World} (h : GI w B Bt room M Bo s Bn N k t wr) (hB : B ≤ w.heap.size) {lab v : Int} (hx : s[k]? = some (2, lab, v))
    (hb : Below wr.heap.size wr w1) {p : Nat} (hno : Sl.No t (home lab t.length) lab p) : GI w B Bt room M Bo s Bn N (k + 1) (t.set p (2, lab, v)) (set3 w1 Bn p 2 lab v) := by
  obtain ⟨hk, hsk⟩ := List.getElem?_eq_some_iff.1 hx
  have hp := hno.lt
  have hm := h.mem.below hb (Nat.le_refl _)
  have hf := hno.free _ (List.getElem?_eq_getElem hp)
  have h0 : t[p].1 ≠ 1 := by
    intro h1
    have hle := h.used
    rw [← h.there] at hle
    have : Sl.thereN t < Sl.usedN t := by
      unfold Sl.thereN Sl.usedN
      have e1 := Sl.countP_set (fun x : Sl.Slt => decide (x.1 ≠ 0)) (List.getElem?_eq_getElem hp) (0, 0, 0)
      have e2 := Sl.countP_set (fun x : Sl.Slt => decide (x.1 = 2)) (List.getElem?_eq_getElem hp) (0, 0, 0)
      have e3 := Sl.there_le_used (t.set p (0, 0, 0))
      unfold Sl.thereN Sl.usedN at e3
      simp [h1] at e1 e2 e3 ⊢
      omega
    omega
  have h00 : t[p].1 = 0 := by rcases h.tbl.kind _ (List.getElem_mem hp) with h | h | h <;> omega
  have hu := Sl.countP_set (fun x : Sl.Slt => decide (x.1 ≠ 0)) (List.getElem?_eq_getElem hp) (2, lab, v)
  have ht := Sl.countP_set (fun x : Sl.Slt => decide (x.1 = 2)) (List.getElem?_eq_getElem hp) (2, lab, v)
  simp [h00] at hu ht
  refine ⟨by rw [List.length_set]; exact h.len, hm.put hp 2 lab v, (h.tbl.put_new hno v).congr fun x => ?_, ?_, ?_, ?_, (h.keep.trans (KeepT.of_below hb)).set3 hm.rows p 2 lab v, below_set3 (h.below.trans (hb.mono (Nat.le_trans hB h.below.size))) h.bn p 2 lab v, h.ne, h.bn⟩
  · rw [List.take_succ_eq_append_getElem hk, List.mem_append, hsk]
    constructor
    · rintro (rfl | h)
      · exact .inr (by simp)
      · exact .inl h
    · rintro (h | h)
      · exact .inr h
      · simp at h; exact .inl (by rw [← h.1, ← h.2])
  · have := h.used
    rw [there_take hk, hsk, if_pos rfl, ← this]
    unfold Sl.usedN; simpa using hu
  · have := h.there
    rw [there_take hk, hsk, if_pos rfl, ← this]
    unfold Sl.thereN; simpa using ht
  · have hold : Blk w1 Bo 74 (flat encSlt s).toArray := (hb.block Bo h.old.lt).trans h.old
    exact ((hold.other ⟨Bn, _, none⟩ _ h.ne).other ⟨Bn, _, none⟩ _ h.ne).other ⟨Bn, _, none⟩ _ h.ne

theorem slot_cells {w : World} {g : Nat} {s : List Sl.Slt} (h : Blk w g 74 (flat encSlt s).toArray) {p : Nat} {x : Sl.Slt} (hx : s[p]? = some x) :
    w.cell? ⟨g, p * 3, none⟩ = some (.int .i64 x.1) ∧ w.cell? ⟨g, p * 3 + 1, none⟩ = some (.int .i64 x.2.1) ∧ w.cell? ⟨g, p * 3 + 2, none⟩ = some (.int .i64 x.2.2) := by
  have e : ∀ j u, (encSlt x)[j]? = some u → w.cell? ⟨g, p * 3 + j, none⟩ = some u := by
    intro j u hu
    rw [h.cell]
    simpa using flat_at encSlt_len hx hu
  exact ⟨e 0 _ rfl, e 1 _ rfl, e 2 _ rfl⟩

theorem GI.start {B Bt : Nat} {room : Int} {M : List Sl.It} {Bs cap k0 : Nat} {s : List Sl.Slt} {w : World} (h : TabS Bt room M Bs cap k0 s w) (h0 : B ≤ Bt) (hB : B ≤ w.heap.size) (N : Nat) (hN : N ≤ 524288) (q : Nat) :
    GI w B Bt room M Bs s w.heap.size N 0 (List.replicate N (0, 0, 0)) ((((w.drewN q).alloc (.cells (zeros N) 74)).setCell ⟨Bt, 3, none⟩ (.slice (some ⟨w.heap.size, 0, none⟩) N N)).setCell ⟨Bt, 2, none⟩ (.int .i64 (M.length : Int))) := by
  have hlt := h.mem.head.lt
  have hlt2 := h.mem.rows.lt
  have hd := (h.mem.head.drewN q).alloc (.cells (zeros N) 74)
  have hne := h.mem.ne
  have hb0 : Below B w (w.drewN q) := below_drewN (Below.refl _ _) q
  refine ⟨List.length_replicate .., ⟨?_, ?_, by rw [List.length_replicate]; omega, by omega⟩, (Sl.Tbl.fresh home N).congr (fun x => by simp), by rw [Sl.usedN_replicate]; rfl, by rw [Sl.thereN_replicate]; rfl, ?_, ?_, ?_, by omega, hB⟩
  · rw [List.length_replicate]
    exact (hd.set 3 _).set 2 _
  · exact ((Blk.new (w.drewN q) 74 (zeros N)).other ⟨Bt, 3, none⟩ _ (by show w.heap.size ≠ Bt; omega)).other ⟨Bt, 2, none⟩ _ (by show w.heap.size ≠ Bt; omega)
  · exact (((h.mem.rows.drewN q).alloc _).other ⟨Bt, 3, none⟩ _ (Ne.symm hne)).other ⟨Bt, 2, none⟩ _ (Ne.symm hne)
  · exact (((KeepT.of_below (below_drewN (Below.refl _ _) q)).alloc _).setT hd 3 _).setT (hd.set 3 _) 2 _
  · exact ((hb0.alloc hB _).setCell (p := ⟨Bt, 3, none⟩) h0 _).setCell (p := ⟨Bt, 2, none⟩) h0 _

theorem GI.done {B Bt : Nat} {room : Int} {M : List Sl.It} {Bs cap k0 : Nat} {s : List Sl.Slt} {w wr : World} (h : TabS Bt room M Bs cap k0 s w) (h0 : B ≤ Bt) {Bn N k : Nat} {t : List Sl.Slt} (g : GI w B Bt room M Bs s Bn N s.length t wr) (hN : N = 2 ^ k) (h8 : 8 ≤ N) (hm : N ≤ 524288) (hbig : 4 * (M.length + 1) ≤ N) :
    GrowRet B Bt room M w (.returned (.tuple #[])) wr := by
  have hu := g.used
  have ht := g.there
  have hc := h.cnt
  have hl := g.len
  rw [List.take_length] at hu ht
  have e : (M.length : Int) = (Sl.usedN t : Int) := by omega
  refine ⟨rfl, Bn, N, k, t, g.bn, ⟨by rw [← e]; exact g.mem, hl.trans hN, by omega, by omega, g.tbl.congr (fun x => by rw [List.take_length]; exact (h.tbl.mem x.1 x.2).symm), h.rise, h.lab, by omega, by omega, h.room1, h.room2, h.fits⟩, by omega, g.keep, g.below⟩

set_option maxRecDepth 100000 in
set_option maxHeartbeats 4000000 in
theorem slots_grow (B Bt : Nat) (room : Int) (M : List Sl.It) (Bs cap k0 : Nat) (s : List Sl.Slt) (w : World) (h : TabS Bt room M Bs cap k0 s w) (h0 : B ≤ Bt) (h1 : B ≤ Bs) (hB : B ≤ w.heap.size) (hM : (M.length : Int) < room) :
    Calls Try.prog 52 #[.pointer (some ⟨Bt, 0, none⟩)] w (GrowRet B Bt room M w) := by
  have hr := h.room2
  have hhi := h.hi
  have hlo := h.lo
  have hhf := h.half
  have cu := h.mem.head.cell 2
  have ch := h.mem.head.cell 3
  have cc := h.mem.head.cell 1
  have fh3 := h.mem.head.frozen' 3
  have fh2 := h.mem.head.frozen' 2
  simp at cu ch cc
  have H := Lib.hid h
  by_cases hearly : 2 * (Sl.usedN s + 1) ≤ s.length
  · have e1 : decide (2 * ((Sl.usedN s : Int) + 1) ≤ (s.length : Int)) = true := by simp; omega
    clear h
    go_enter Try.func52, Try.ntmps52
    go_wp2
    go_quiet (fail)
    go_wp2
    go_end0
    exact ⟨rfl, Bs, cap, k0, s, h1, { H.out with mem := H.out.mem.below (below_drewN (Below.refl _ _) nq) (Nat.le_refl _) }, hearly, KeepT.of_below (below_drewN (Below.refl _ _) nq), below_drewN (Below.refl _ _) nq⟩
  · have e1 : decide (2 * ((Sl.usedN s : Int) + 1) ≤ (s.length : Int)) = false := by simp; omega
    have hpow := h.pow
    have HP := Lib.hid hpow
    clear h hpow
    go_enter Try.func52, Try.ntmps52
    go_wp2
    go_quiet (fail)
    go_wp2
    go_loop [3] (fun n => ∃ k N : Nat, N = 2 ^ k ∧ 8 ≤ N ∧ N ≤ 524288 ∧ n = .int .i64 N) (fun n => 524288 - (intOf n).toNat)
    case atStart => exact ⟨k0, s.length, HP.out, hlo, hhi, rfl⟩
    case round =>
      obtain ⟨k, N, hN, hN8, hNm, rfl⟩ := hrel
      have HN := Lib.hid hN
      clear hN
      by_cases hbig : N < 4 * (M.length + 1)
      · have hNN : N * 2 ≤ 524288 := by
          omega
        go_wp2
        exact ⟨⟨k + 1, N * 2, by rw [Nat.pow_succ, ← HN.out], by omega, hNN, by push_cast; rfl⟩, by simp [intOf]; omega⟩
      · have hmk := fun W => make_slots N (by omega) W
        have a1 : ∀ o, ((w.drewN nq).alloc o).cell? ⟨Bt, 1, none⟩ = some (.int .i64 (M.length : Int)) := fun o => by have := ((H.out.mem.head.drewN nq).alloc o).cell 1; simpa using this
        have a2 : ∀ o, ((w.drewN nq).alloc o).cell? ⟨Bt, 2, none⟩ = some (.int .i64 (Sl.usedN s : Int)) := fun o => by have := ((H.out.mem.head.drewN nq).alloc o).cell 2; simpa using this
        have a3 : ∀ o, ((w.drewN nq).alloc o).cell? ⟨Bt, 3, none⟩ = some (.slice (some ⟨Bs, 0, none⟩) s.length cap) := fun o => by have := ((H.out.mem.head.drewN nq).alloc o).cell 3; simpa using this
        have b2 := fun o => ((H.out.mem.head.drewN nq).alloc o).frozen' 2
        have b3 := fun o => ((H.out.mem.head.drewN nq).alloc o).frozen' 3
        go_wp2
        clear hmk a1 a2 a3 b2 b3
        have hG := GI.start H.out h0 hB N hNm nq
        go_loopw [50] (fun i wr => ∃ (k : Nat) (t : List Sl.Slt), i = .int .i64 k ∧ k ≤ s.length ∧ GI w B Bt room M Bs s w.heap.size N k t wr) (fun i _ => s.length - (intOf i).toNat)
        case atStart => exact ⟨0, _, rfl, Nat.zero_le _, hG⟩
        case round =>
          clear hG cu ch cc fh3 fh2
          obtain ⟨j, t, rfl, hj, hGI⟩ := hrel
          by_cases hlt : j < s.length
          · have hx : s[j]? = some s[j] := List.getElem?_eq_getElem hlt
            have HG := Lib.hid hGI
            obtain ⟨x0, x1, x2⟩ := slot_cells hGI.old hx
            have hkind := H.out.tbl.kind _ (List.getElem_mem hlt)
            obtain ⟨⟨a, lb, v⟩, hxx⟩ : ∃ x, x = s[j] := ⟨_, rfl⟩
            rw [← hxx] at hx x0 x1 x2
            simp only at x0 x1 x2
            have HXX := Lib.hid hxx
            have HX := Lib.hid hx
            by_cases ha : a = 2
            · subst ha
              have hab : Below wr.heap.size wr (wr.alloc (.cells #[.int .i64 2, .int .i64 lb, .int .i64 v] 74)) := (Below.refl _ _).alloc (Nat.le_refl _) _
              have hlb := H.out.lab _ (H.out.tbl.of_yes hx)
              have hmem := hGI.mem.below hab (Nat.le_refl _)
              have hus : Sl.usedN t < t.length := by
                have h1 := hGI.used
                have h2 := there_le s j
                have h3 := H.out.cnt
                have h4 := hGI.len
                omega
              have HF := Lib.hid (find_any lb hlb.1 hlb.2 Bt room _ _ w.heap.size N k t (hGI.len.trans HN.out) hus _ hmem)
              have HA := Lib.hid hab
              have HM := Lib.hid hmem
              have hbx := Blk.new wr 74 #[.int .i64 2, .int .i64 lb, .int .i64 v]
              have HBX := Lib.hid hbx
              have htl : t.length ≤ 524288 := by have := hGI.len; omega
              clear hx hxx hkind hGI hab hlb hmem hus hbx
              go_wp2_with fail
              refine HF.out.mono ?_
              rintro e w2 ⟨p, b, rfl, hy, hn, hb⟩
              cases b
              · have hno := Lib.hid (hn rfl)
                clear hy hn
                have hT2 := HM.out.below hb (Nat.le_refl _)
                have hp : p < t.length := hno.out.lt
                obtain ⟨y0, y1, y2⟩ := hT2.slot (List.getElem?_eq_getElem hp)
                have ch := hT2.head.cell 3
                simp at ch
                have f0 := hT2.rows.frozen' (p * 3)
                have f1 := hT2.rows.frozen' (p * 3 + 1)
                have f2 := hT2.rows.frozen' (p * 3 + 2)
                have hb2 : Blk w2 wr.heap.size _ _ := (hb.block _ HBX.out.lt).trans HBX.out
                have q0 := hb2.cell 0
                have q1 := hb2.cell 1
                have q2 := hb2.cell 2
                simp at q0 q1 q2
                have HBw : Hid (Below wr.heap.size wr w2.drew) := Lib.hid ((HA.out.trans (hb.mono (by simp))).trans (Below.refl _ _).drew)
                clear hT2 hb2 hb
                go_wp2_with fail
                go_still_tail 7, (by kernel_rfl)
                change wpList _ _ _ _ _ w2.drew
                go_wp2
                exact ⟨⟨j + 1, t.set p (2, lb, v), by simp, by omega, HG.out.put hB HX.out HBw.out hno.out⟩, by simp [intOf]; omega⟩
              · exact absurd (hy rfl) (fun h => HG.out.not_yes H.out.tbl HX.out h)
            · have ea : (a == 2) = false := by simpa using ha
              clear hx hxx hkind hGI
              go_wp2
              exact ⟨⟨j + 1, t, by simp, by omega, HG.out.skip hB hlt (by rw [← HXX.out]; exact ha) ((Below.refl _ _).alloc (Nat.le_refl _) _)⟩, by simp [intOf]; omega⟩
          · have hje : j = s.length := by omega
            have HG := Lib.hid hGI
            clear hGI
            go_wp2
            go_end0
            have := HG.out
            rw [hje] at this
            exact this.done H.out h0 HN.out hN8 hNm (by omega)
end Go.Proofs.Ytcioiiobjfblbaa
