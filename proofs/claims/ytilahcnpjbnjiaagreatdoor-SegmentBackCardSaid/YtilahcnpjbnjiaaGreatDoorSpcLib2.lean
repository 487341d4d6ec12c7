/- slices.BinarySearchFunc over blocks; slices.IndexFunc over three slices. -/
import Derived.Test.YtilahcnpjbnjiaaGreatDoorSpcLib
namespace Go.Proofs.YtilahcnpjbnjiaaGreatDoor
set_option linter.unusedVariables false
set_option linter.unusedSimpArgs false
open Go.RowKit Go.Shelf Go.Proofs

/-- so many blocks begin ahead of it -/
def ahead (b : Sp.Bk) (L : List Sp.Bk) : Nat := (L.takeWhile fun c => decide (c.sp.1 < b.sp.1)).length
theorem ahead_le (b : Sp.Bk) (L : List Sp.Bk) : ahead b L ≤ L.length := (List.takeWhile_sublist _).length_le
theorem ahead_lt {b : Sp.Bk} : ∀ {L : List Sp.Bk} {k : Nat} {c : Sp.Bk}, L[k]? = some c → k < ahead b L → c.sp.1 < b.sp.1
  | [], k, c, h, _ => by simp at h
  | d :: r, k, c, h, hk => by
    unfold ahead at hk
    rw [List.takeWhile_cons] at hk
    split at hk
    · rename_i hd
      cases k with
      | zero => cases h; simpa using hd
      | succ k => exact ahead_lt (L := r) (by simpa using h) (by unfold ahead; simpa using hk)
    · simp at hk
theorem ahead_ge {b : Sp.Bk} : ∀ {L : List Sp.Bk}, L.Pairwise (fun x y => x.sp.1 < y.sp.1) → ∀ {k : Nat} {c : Sp.Bk}, L[k]? = some c → ahead b L ≤ k → ¬ c.sp.1 < b.sp.1
  | [], _, k, c, h, _ => by simp at h
  | d :: r, hp, k, c, h, hk => by
    rw [List.pairwise_cons] at hp
    unfold ahead at hk
    rw [List.takeWhile_cons] at hk
    split at hk
    · rename_i hd
      cases k with
      | zero => simp at hk
      | succ k => exact ahead_ge hp.2 (by simpa using h) (by unfold ahead; simpa using hk)
    · rename_i hd
      have hd' : ¬ d.sp.1 < b.sp.1 := by simpa using hd
      cases k with
      | zero => cases h; exact hd'
      | succ k =>
        have := hp.1 c (List.mem_of_getElem? (by simpa using h))
        omega
structure BS (w W : World) (v : Value) (L : List Sp.Bk) (b : Sp.Bk) : Prop where
  box : Blk W w.heap.size 99 (encBk b).toArray
  rd : SlR W 4 encBk v L
  below : Below w.heap.size w W
theorem BS.next {w W W' : World} {v : Value} {L : List Sp.Bk} {b : Sp.Bk} (h : BS w W v L b) (hb : Below W.heap.size W W') : BS w W' v L b := ⟨h.box.below hb h.box.lt, h.rd.below hb (Nat.le_refl _), h.below.trans (hb.mono h.below.size)⟩
theorem BS.drew {w W : World} {v : Value} {L : List Sp.Bk} {b : Sp.Bk} (h : BS w W v L b) : BS w W.drew v L b := h.next (Below.refl _ _).drew
/-- the cells that a comparison reads -/
abbrev SB (w : World) (v : Value) (L : List Sp.Bk) (b : Sp.Bk) (bb off h : Nat) (c : Sp.Bk) (W : World) : Prop :=
  W.cell? ⟨bb, off + h * 4, none⟩ = some (.int .i64 c.sp.1) ∧ W.cell? ⟨bb, off + h * 4 + 1, none⟩ = some (.int .i64 c.sp.2) ∧ W.cell? ⟨bb, off + h * 4 + 2, none⟩ = some (.int .i64 c.owner) ∧ W.cell? ⟨bb, off + h * 4 + 3, none⟩ = some (.int .i64 c.area) ∧
  W.cell? ⟨w.heap.size, 0, none⟩ = some (.int .i64 b.sp.1) ∧ W.cell? ⟨w.heap.size, 1, none⟩ = some (.int .i64 b.sp.2) ∧ W.cell? ⟨w.heap.size, 2, none⟩ = some (.int .i64 b.owner) ∧ W.cell? ⟨w.heap.size, 3, none⟩ = some (.int .i64 b.area) ∧ BS w W v L b
theorem BS.sb {w W : World} {bb off cap : Nat} {L : List Sp.Bk} {b : Sp.Bk} (h : BS w W (.slice (some ⟨bb, off, none⟩) L.length cap) L b) {k : Nat} {c : Sp.Bk} (hc : L[k]? = some c) : SB w (.slice (some ⟨bb, off, none⟩) L.length cap) L b bb off k c W := by
  obtain ⟨q1, cap1, hq1, _, _, hR⟩ := h.rd
  cases hq1
  obtain ⟨h1, h2⟩ := List.getElem?_eq_some_iff.1 hc
  have hcl := hR.in h1
  rw [h2] at hcl
  exact ⟨hcl 0 _ rfl, hcl 1 _ rfl, hcl 2 _ rfl, hcl 3 _ rfl, h.box.cell 0, h.box.cell 1, h.box.cell 2, h.box.cell 3, h⟩
def RetAt (p : Nat) (w : World) (e : Ending) (w' : World) : Prop := ∃ bl : Bool, e = .returned (.tuple #[.int .i64 (p : Int), .bool bl]) ∧ Below w.heap.size w w'
set_option maxRecDepth 100000 in
set_option maxHeartbeats 2000000 in
theorem search_bk (L : List Sp.Bk) (hl : L.length ≤ 1000000) (b : Sp.Bk) (v : Value) (w : World) (hv : SlR w 4 encBk v L) (hs : L.Pairwise (fun x y => x.sp.1 < y.sp.1)) :
    Calls Tryz.prog 83 #[v, .agg (encBk b).toArray, .func (.func 84) #[] #[]] w (RetAt (ahead b L) w) := by
  have H0 : Hid (BS w (w.alloc (.cells (encBk b).toArray 99)) v L b) := Lib.hid ⟨Blk.new _ _ _, hv.below (belowA w _) (Nat.le_refl _), belowA w _⟩
  have hpl := ahead_le b L
  have HLT : Hid (∀ (k : Nat) (c : Sp.Bk), L[k]? = some c → k < ahead b L → c.sp.1 < b.sp.1) := Lib.hid fun k c => ahead_lt
  have HGE : Hid (∀ (k : Nat) (c : Sp.Bk), L[k]? = some c → ahead b L ≤ k → ¬ c.sp.1 < b.sp.1) := Lib.hid fun k c => ahead_ge hs
  generalize ahead b L = p at hpl HLT HGE ⊢
  have HV := Lib.hid hv
  obtain ⟨q, cap, rfl, hc1, hc2, -⟩ := hv
  clear hs
  simp only [encBk] at H0
  go_enter Tryz.func83, Tryz.ntmps83
  simp only [encBk]
  go_wp2_with fail
  go_loopw [9, 10] (fun vi vj wr => ∃ i j : Nat, vi = .int .i64 i ∧ vj = .int .i64 j ∧ i ≤ p ∧ p ≤ j ∧ j ≤ L.length ∧ Hid (BS w wr (.slice q L.length cap) L b)) (fun vi vj _ => (intOf vj - intOf vi).toNat)
  case atStart => exact ⟨0, L.length, rfl, rfl, Nat.zero_le _, hpl, Nat.le_refl _, H0⟩
  case round =>
    obtain ⟨i, j, rfl, rfl, hi, hj, hjl, HB⟩ := hrel
    by_cases hlt : i < j
    · have hlt' : (i : Int) < (j : Int) := by omega
      obtain ⟨h, hh⟩ : ∃ h : Nat, ((i : Int) + (j : Int)) / 2 = (h : Int) := ⟨(i + j) / 2, by omega⟩
      have hhl : h < L.length := by omega
      have hhi : i ≤ h := by omega
      have hhj : h < j := by omega
      have hR := HB.out.rd
      obtain ⟨q1, cap1, hq1, _, _, hR⟩ := hR
      cases hq1
      obtain ⟨bb, off, rfl, hbs, -⟩ := hR.at hhl
      obtain ⟨c, hc⟩ : ∃ c, L[h]? = some c := ⟨_, List.getElem?_eq_getElem hhl⟩
      have HC := Lib.hid hc
      have hltI : (h : Int) < (L.length : Int) := by omega
      have PC := Lib.hid fun W => put_closure c b W
      have hlt2 := HLT.out h c hc
      have hge2 := HGE.out h c hc
      simp only [encBk] at PC
      have HH := Lib.hid hh
      by_cases hcmp : c.sp.1 < b.sp.1
      · have hr : Lib.compareInt c.sp.1 b.sp.1 < 0 := by unfold Lib.compareInt; rw [if_pos hcmp]; decide
        have hph : h < p := by
          rcases Nat.lt_or_ge h p with h1 | h1
          · exact h1
          · exact (absurd hcmp (by have := hge2 h1; omega))
        generalize Lib.compareInt c.sp.1 b.sp.1 = r at PC hr
        clear hc hlt2 hge2 hR HH hcmp
        go_wp2_with fail
        have hst := HB.out
        go_region_held3 (fun W => SB w (.slice (some ⟨bb, off, none⟩) L.length cap) L b bb off h c W)
          (first
            | exact BS.sb (by assumption) HC.out
            | (go_split_ands; exact BS.sb (by assumption) HC.out)
            | (go_split_ands; exact BS.sb (BS.drew (by assumption)) HC.out))
          (first
            | (go_at_call 84; go_split_ands; refine (PC.out _).mono ?_; rintro e w1 ⟨rfl, hb1⟩; have hst1 := BS.next (w := w) (v := .slice (some ⟨bb, off, none⟩) L.length cap) (L := L) (b := b) (by assumption) hb1))
        have HB1 := Lib.hid hst1
        clear hst hst1 hb1 HB
        go_wp2_with fail
        exact ⟨⟨h + 1, j, by go_num, rfl, by omega, by omega, by omega, HB1⟩, by simp [intOf]; omega⟩
      · have hr : ¬ Lib.compareInt c.sp.1 b.sp.1 < 0 := by unfold Lib.compareInt; rw [if_neg hcmp]; split <;> decide
        have hph : p ≤ h := by
          rcases Nat.lt_or_ge h p with h1 | h1
          · exact absurd (hlt2 h1) hcmp
          · exact h1
        generalize Lib.compareInt c.sp.1 b.sp.1 = r at PC hr
        clear hc hlt2 hge2 hR HH hcmp
        go_wp2_with fail
        have hst := HB.out
        go_region_held3 (fun W => SB w (.slice (some ⟨bb, off, none⟩) L.length cap) L b bb off h c W)
          (first
            | exact BS.sb (by assumption) HC.out
            | (go_split_ands; exact BS.sb (by assumption) HC.out)
            | (go_split_ands; exact BS.sb (BS.drew (by assumption)) HC.out))
          (first
            | (go_at_call 84; go_split_ands; refine (PC.out _).mono ?_; rintro e w1 ⟨rfl, hb1⟩; have hst1 := BS.next (w := w) (v := .slice (some ⟨bb, off, none⟩) L.length cap) (L := L) (b := b) (by assumption) hb1))
        have HB1 := Lib.hid hst1
        clear hst hst1 hb1 HB
        go_wp2_with fail
        exact ⟨⟨i, h, rfl, rfl, by omega, by omega, by omega, HB1⟩, by simp [intOf]; omega⟩
    · obtain rfl : i = p := by omega
      obtain rfl : j = i := by omega
      by_cases hjn : j < L.length
      · obtain ⟨c, hc⟩ : ∃ c, L[j]? = some c := ⟨_, List.getElem?_eq_getElem hjn⟩
        have HC := Lib.hid hc
        have hR := HB.out.rd
        obtain ⟨q1, cap1, hq1, _, _, hR⟩ := hR
        cases hq1
        obtain ⟨bb, off, rfl, hbs, -⟩ := hR.at hjn
        have hltI : (j : Int) < (L.length : Int) := by omega
        have hltD : decide ((j : Int) < (L.length : Int)) = true := decide_eq_true hltI
        have PC := Lib.hid fun W => put_closure c b W
        simp only [encBk] at PC
        generalize Lib.compareInt c.sp.1 b.sp.1 = r at PC
        clear hc hR
        go_wp2_with fail
        have hst := HB.out
        go_region_held3 (fun W => SB w (.slice (some ⟨bb, off, none⟩) L.length cap) L b bb off j c W)
          (first
            | exact BS.sb (by assumption) HC.out
            | (go_split_ands; exact BS.sb (by assumption) HC.out)
            | (go_split_ands; exact BS.sb (BS.drew (by assumption)) HC.out))
          (first
            | (go_at_call 84; go_split_ands; refine (PC.out _).mono ?_; rintro e w1 ⟨rfl, hb1⟩; have hst1 := BS.next (w := w) (v := .slice (some ⟨bb, off, none⟩) L.length cap) (L := L) (b := b) (by assumption) hb1))
        have HB1 := Lib.hid hst1
        clear hst hst1 hb1 HB
        go_wp2_with fail
        exact bodyPost_ret (v := .tuple #[.int .i64 (j : Int), .bool (r == 0)]) (by simp [results, Tryz.results83, go_sem]) rfl ⟨_, rfl, HB1.out.below⟩
      · have hnj : ¬ (j : Int) < (L.length : Int) := by omega
        go_wp2_with fail
        go_quiet (fail)
        go_wp2_with fail
        exact bodyPost_ret (v := .tuple #[.int .i64 (j : Int), .bool false]) (by simp [results, Tryz.results83, go_sem]) rfl ⟨false, rfl, below_drewN HB.out.below _⟩
end Go.Proofs.YtilahcnpjbnjiaaGreatDoor
