/- slices.Insert, slices.Delete at blocks. -/
import Derived.Test.YtilahcnpjbnjiaaGreatDoorSpcBase
import Derived.Shelf.RegionOpenPlain
import Derived.Laws.Externs
import Derived.Deep.RegionLaw
namespace Go.Proofs.YtilahcnpjbnjiaaGreatDoor
set_option linter.unusedVariables false
set_option linter.unusedSimpArgs false
open Go.RowKit Go.Shelf Go.Proofs

theorem infoBk : (Tryz.prog.info? 99).map (·.size) = some 4 := by kernel_rfl
theorem setRow_twice (W : World) (g : Nat) (a b : Array Value) : (W.setRow g a).setRow g b = W.setRow g b := by
  unfold World.setRow
  congr 1
  apply Array.ext_getElem?
  intro i
  simp only [Array.getElem?_modify]
  split
  · cases W.heap[i]? with
    | none => rfl
    | some o => cases o <;> rfl
  · rfl
set_option maxRecDepth 100000 in
set_option maxHeartbeats 2000000 in
theorem insert_room (g x n c i : Nat) (cur : Array Value) (F E : List Value) (W : World) (hg : Blk W g 99 cur) (hx : Blk W x 99 E.toArray) (hgx : x ≠ g) (hE : E.length = 4) (hi : i < n) (hn : n + 1 ≤ c) (hc : c ≤ 9223372036854775807) (hnn : n ≤ 1000000)
    (hcs : cur.size = c * 4) (hF : cur.toList.take (n * 4) = F) (h1 : ∀ u ∈ F, u.oneCell' = true) (h2 : ∀ u ∈ E, u.oneCell' = true) :
    Calls Tryz.prog 86 #[.slice (some ⟨g, 0, none⟩) n c, .int .i64 i, .slice (some ⟨x, 0, none⟩) 1 1] W fun e w' =>
      e = .returned (.slice (some ⟨g, 0, none⟩) (n + 1) c) ∧ ∃ q, w' = (W.drewN q).setRow g (splice (splice cur.toList (i * 4 + 4) (F.drop (i * 4))) (i * 4) E).toArray := by
  have hz2 : ¬ ((i : Int) = (n : Int)) := by omega
  have hov : ∀ o lb cb, (callFunc 98 #[.slice (some ⟨x, 0, none⟩) 1 1, .slice (some ⟨g, o, none⟩) lb cb]).run Tryz.prog W = .ok (.value (.bool false)) W := fun o lb cb => by
    have hsh : ∀ k (cs : Array Value), Blk W k 99 cs → W.shape? k = some (99, cs.size) := fun k cs h => by simp [World.shape?, show W.heap[k]? = _ from h]
    rw [run_callFunc_extern Tryz.func98 (by kernel_rfl) (by kernel_rfl) (by kernel_rfl) (e := Extern.SlicesOverlaps.overlaps #[94, 94] #[4]) (by kernel_rfl),
      Lib.run_overlaps_apart W 94 4 99 Tryz.underlying94 4 Tryz.sizeOf99 ⟨x, 0, none⟩ ⟨g, o, none⟩ 1 1 lb cb hgx _ _ _ _ (hsh x _ hx) (hsh g _ hg) (by omega) (hx.frozen' 0) (hx.frozen' _)]
    rfl
  have hF4 : F.length = n * 4 := by rw [← hF, List.length_take]; simp; omega
  have hd4 : (F.drop (i * 4)).length = n * 4 - i * 4 := by rw [List.length_drop, hF4]
  have hl1 : (splice cur.toList (i * 4 + 4) (F.drop (i * 4))).length = c * 4 := by rw [length_splice _ _ _ (by simp; omega)]; simp [hcs]
  obtain ⟨C1, hC1⟩ : ∃ C1 : Array Value, C1 = (splice cur.toList (i * 4 + 4) (F.drop (i * 4))).toArray := ⟨_, rfl⟩
  have hC1s : C1.size = c * 4 := by rw [hC1]; simpa using hl1
  have hcp1 : ∀ ty dc sc, (Builtin.copy_ #[94, 94] ty #[.slice (some ⟨g, (i + 1) * 4, none⟩) (n - i) dc, .slice (some ⟨g, i * 4, none⟩) (n + 1 - i) sc]).run Tryz.prog W.drew = .ok (goInt ((n - i : Nat) : Int)) (W.drew.setRow g C1) := fun ty dc sc => by
    have h := run_copyK W.drew 94 94 ty 99 4 g ((i + 1) * 4) (n - i) dc ⟨g, i * 4, none⟩ (n + 1 - i) sc cur 99 (F.drop (i * 4)) Tryz.underlying94 infoBk hg.drew (by rw [hd4]; simp only [Nat.min_def]; split <;> omega)
      (fun j u hj => by
        rw [List.getElem?_drop] at hj
        have hj' := hj
        rw [← hF, List.getElem?_take] at hj
        split at hj
        · rw [Addr.add_lit, cell_of_row W.drew g (i * 4 + j) cur _ (0, 0) hg.drew, ← hj, Array.getElem?_toList]
        · cases hj) (by omega) (fun u hu => h1 u (List.mem_of_mem_drop hu))
    rw [h, hC1]
    have e1 : Nat.min (n + 1 - i) (n - i) = n - i := by simp only [Nat.min_def]; split <;> omega
    rw [e1]
    congr 2
    unfold splice
    rw [show (i + 1) * 4 = i * 4 + 4 by omega]
    simp
  have hcp2 : ∀ (W2 : World), Blk W2 g 99 C1 → Blk W2 x 99 E.toArray → ∀ ty dc, (Builtin.copy_ #[94, 94] ty #[.slice (some ⟨g, i * 4, none⟩) (n + 1 - i) dc, .slice (some ⟨x, 0, none⟩) 1 1]).run Tryz.prog W2 = .ok (goInt ((1 : Nat) : Int)) (W2.setRow g (splice C1.toList (i * 4) E).toArray) := fun W2 hw1 hw2 ty dc => by
    have h := run_copyK W2 94 94 ty 99 4 g (i * 4) (n + 1 - i) dc ⟨x, 0, none⟩ 1 1 C1 99 E Tryz.underlying94 infoBk hw1 (by rw [hE]; simp only [Nat.min_def]; split <;> omega)
      (fun j u hj => by rw [Addr.add_lit, cell_of_row W2 x (0 + j) _ _ (0, 0) hw2]; simpa using hj) (by omega) h2
    rw [h]
    have e1 : Nat.min 1 (n + 1 - i) = 1 := by simp only [Nat.min_def]; split <;> omega
    rw [e1]
    congr 2
    unfold splice
    simp
  have hb1 : Blk (W.drew.setRow g C1) g 99 C1 := hg.drew.setRow C1
  have hx1 : Blk (W.drew.setRow g C1) x 99 E.toArray := hx.drew.otherRow g C1 hgx
  have hw1 : IntKind.i64.wrap ((i : Int) + 1) = (i : Int) + 1 := IntWalk.i64_in _ (by omega)
  have hb0 : (0 : Int) ≤ (i : Int) + 1 := by omega
  have htn : ((i : Int) + 1).toNat = i + 1 := by omega
  have hin : i ≤ n := by omega
  have hb3 : (i : Int) ≤ (n : Int) + 1 := by omega
  have hb5 : (i : Int) + 1 ≤ (n : Int) + 1 := by omega
  have hb2 : ¬ (c = i + 1) := by omega
  have hb4 : ¬ (c = i) := by omega
  have mixed : Tryz.prog.follows .mixedOrders = true := by kernel_rfl
  have HC1 := Lib.hid hC1
  clear hC1 hl1 hd4 hF4
  go_enter Tryz.func86, Tryz.ntmps86
  go_wp2_with (simp only [hov])
  go_region_law_o (refine step_copy_run1 rfl _ _ 94 94 rfl _ _ (by simp [Act.eval, Act.put]) (by simp [Act.eval, Act.put]) (hcp1 _ _ _) ?_)
  go_wp2_with (refine wpList_copy_run1 _ rfl _ _ 94 94 rfl _ _ rfl rfl (hcp2 _ hb1 hx1 _ _) ?_)
  go_ret
  refine ⟨rfl, 1, ?_⟩
  have e : (splice cur.toList (i * 4 + 4) (F.drop (i * 4))) = C1.toList := by rw [HC1.out]
  rw [e]
  exact setRow_twice W.drew g C1 _
theorem elemBk : ElemOk Tryz.prog 94 99 4 32 := .mk Tryz.underlying94 (z := .agg #[.int .i64 0, .int .i64 0, .int .i64 0, .int .i64 0]) (by kernel_rfl) (by omega) (by omega) rfl
/-- a slice comes back that holds so many cells, made of a row or of a new one -/
def RetIns (base n : Nat) (cells : List Value) (r : Option Nat) (W : World) (e : Ending) (w' : World) : Prop := ∃ v', e = .returned v' ∧ w'.ownsRow base 99 4 v' n cells ∧ W.grownBy w' r ∧ (v'.ownBlock = r ∨ v'.ownBlock = some W.heap.size)
theorem rd_one {W : World} {x : Nat} {b : Sp.Bk} (hx : Blk W x 99 (encBk b).toArray) : RdP W 4 encBk (some ⟨x, 0, none⟩) [b] :=
  ⟨(fun h => by cases h), fun a ha => by
    cases ha
    refine ⟨rfl, hx.lt, fun i y hy j u hu => ?_⟩
    have hi : i < 1 := (List.getElem?_eq_some_iff.1 hy).1
    obtain rfl : i = 0 := by omega
    cases hy
    rw [cell_of_row W x _ _ _ (0, 0) hx]
    simpa using hu⟩
set_option maxRecDepth 100000 in
set_option maxHeartbeats 2000000 in
theorem insert_end (base x n : Nat) (v : Value) (L : List Value) (b : Sp.Bk) (W : World) (ho : W.ownsRow base 99 4 v n L) (hx : Blk W x 99 (encBk b).toArray) (hb : base ≤ W.heap.size) (hn : n ≤ 1000000) :
    Calls Tryz.prog 86 #[v, .int .i64 n, .slice (some ⟨x, 0, none⟩) 1 1] W (RetIns base (n + 1) (L ++ encBk b) v.ownBlock W) := by
  have hr := rd_one hx
  have hfl : flat encBk [b] = encBk b := by simp [flat]
  rcases ho.2 with ⟨rfl, rfl⟩ | ⟨g, cap, cur, rfl, hg1, hg2, hg3, hg4, hg5, hg6⟩
  · go_enter Tryz.func86, Tryz.ntmps86
    go_wp2_with (at_builtin; refine wpList_app_sl elemBk rfl _ _ rfl base _ 0 L rfl ho encBk encBk_len (some ⟨x, 0, none⟩) 1 [b] rfl hr encBk_one (by simp) hb ?_; intro v' w' h1 h2 h3 h4)
    go_ret
    exact ⟨_, rfl, by rw [← hfl]; exact h1, h2, h3⟩
  · unfold maxLen at hg4
    have hin : (n : Int) ≤ (cap : Int) := by omega
    have HO := Lib.hid ho
    go_enter Tryz.func86, Tryz.ntmps86
    go_wp2_with (at_builtin; refine wpList_app_sl elemBk rfl _ _ rfl base _ n L rfl HO.out encBk encBk_len (some ⟨x, 0, none⟩) 1 [b] rfl hr encBk_one (by simp; omega) hb ?_; intro v' w' h1 h2 h3 h4)
    all_goals go_ret
    all_goals exact ⟨_, rfl, by rw [← hfl]; exact h1, h2, h3⟩
theorem bk_info : ∃ i z, Tryz.prog.info? 99 = some i ∧ i.zero = some z ∧ i.size = 4 ∧ i.bytes = 32 ∧ z.cells.size = 4 := by
  obtain ⟨_, _, _, h⟩ := elemBk
  exact h
theorem zero_cells (zc : Array Value) (n : Nat) : (Builtin.zeroCells zc n).size = n * zc.size := by simp [Builtin.zeroCells]
theorem grow_cells {α : Type} (ROW F E : List α) (i k n : Nat) (hi : i ≤ n) (hF : F.length = n * k) (hR : ROW.take (i * k) = F.take (i * k)) (hl : n * k + k ≤ ROW.length) (hE : E.length = k) :
    (splice (splice ROW (i * k) E) (i * k + k) (F.drop (i * k))).take (n * k + k) = F.take (i * k) ++ (E ++ F.drop (i * k)) := by
  have hik : i * k ≤ n * k := Nat.mul_le_mul_right k hi
  have hd : (F.drop (i * k)).length = n * k - i * k := by simp [hF]
  have hl1 : (splice ROW (i * k) E).length = ROW.length := length_splice _ _ _ (by omega)
  have h1 := splice_take (splice ROW (i * k) E) (F.drop (i * k)) (i * k + k) (by omega)
  rw [hd, show i * k + k + (n * k - i * k) = n * k + k by omega] at h1
  have h2 := splice_take ROW E (i * k) (by omega)
  rw [hE] at h2
  rw [h1, h2, hR]
  simp
set_option maxRecDepth 100000 in
set_option maxHeartbeats 2000000 in
theorem insert_grow (g x n c i : Nat) (cur : Array Value) (F E : List Value) (W : World) (hg : Blk W g 99 cur) (hx : Blk W x 99 E.toArray) (hE : E.length = 4) (hi : i < n) (hnc : n ≤ c) (hn : c < n + 1) (hc : n ≤ 1000000)
    (hcs : cur.size = c * 4) (hF : cur.toList.take (n * 4) = F) (h1 : ∀ u ∈ F, u.oneCell' = true) (h2 : ∀ u ∈ E, u.oneCell' = true) (base : Nat) (hb : base ≤ W.heap.size) :
    Calls Tryz.prog 86 #[.slice (some ⟨g, 0, none⟩) n c, .int .i64 i, .slice (some ⟨x, 0, none⟩) 1 1] W (RetIns base (n + 1) (F.take (i * 4) ++ (E ++ F.drop (i * 4))) (some g) W) := by
  obtain ⟨i0, z, hi0, hz0, hzs, hzb, hzc⟩ := bk_info
  have hz2 : ¬ ((i : Int) = (n : Int)) := by omega
  have hz3 : (c : Int) < (n : Int) + 1 := by omega
  have hF4 : F.length = n * 4 := by rw [← hF, List.length_take]; simp; omega
  have hd4 : (F.drop (i * 4)).length = n * 4 - i * 4 := by rw [List.length_drop, hF4]
  have hcell : ∀ (W2 : World), Blk W2 g 99 cur → ∀ j u, F[j]? = some u → W2.cell? ⟨g, j, none⟩ = some u := fun W2 h j u hj => by
    rw [cell_of_row W2 g j cur _ (0, 0) h]
    rw [← hF, List.getElem?_take] at hj
    split at hj
    · rw [← hj, Array.getElem?_toList]
    · cases hj
  have hkk : (n : Int) + 1 - (i : Int) = ((n + 1 - i : Nat) : Int) := by omega
  have hik : i + (n + 1 - i) = n + 1 := by omega
  have hold : (Builtin.firstCells i0.size i (.slice (some ⟨g, 0, none⟩) i c)).run Tryz.prog W.drew = .ok (F.take (i * 4)).toArray W.drew := by
    rw [hzs]
    exact run_firstCells_some W.drew 4 i ⟨g, 0, none⟩ i c (F.take (i * 4)) (by rw [List.length_take]; omega) (fun j v hj => by
      rw [Addr.add_lit, Nat.zero_add]
      rw [List.getElem?_take] at hj
      split at hj
      · exact hcell W.drew hg.drew j v hj
      · cases hj)
  obtain ⟨G, hG⟩ : ∃ G, G = grownCap W (n + 1) c 99 := ⟨_, rfl⟩
  obtain ⟨ROW, hROW⟩ : ∃ ROW : Array Value, ROW = (F.take (i * 4)).toArray ++ Builtin.zeroCells z.cells (n + 1 - i) ++ Builtin.zeroCells z.cells (G - (n + 1)) := ⟨_, rfl⟩
  have hGn : n + 1 ≤ G := by rw [hG]; exact grownCap_ge W _ _ _
  have hG63 : G ≤ maxLen := by rw [hG]; exact grownCap_le_maxLen W (n + 1) c _ (by unfold maxLen; omega)
  have hrz : ∀ ty, (Builtin.append_ #[94, 3] ty #[.slice (some ⟨g, 0, none⟩) i c, .int .i64 ((n : Int) + 1 - (i : Int))]).run Tryz.prog W = .ok (.slice (some ⟨W.heap.size, 0, none⟩) (n + 1) G) (W.drew.alloc (.cells ROW 99)) := fun ty => by
    have h := Lib.run_append_grow_zeros W 94 3 ty 99 i0 z .i64 .i64 Tryz.underlying94 Tryz.underlying3 hi0 hz0 (some ⟨g, 0, none⟩) i c (F.take (i * 4)) hold (n + 1 - i) (by omega) (by omega) (by omega) (by omega) (by rw [hzb]; omega) (by rw [hzb, hik]; exact growslice_fits hn (by omega))
    rw [hik, ← hG, ← hROW] at h
    rw [hkk]
    exact h
  have hRs : ROW.size = G * 4 := by
    rw [hROW]
    simp only [Array.size_append, zero_cells, hzc, List.size_toArray, List.length_take, hF4]
    omega
  have hRt : ROW.toList.take (i * 4) = F.take (i * 4) := by
    rw [hROW]
    simp only [Array.toList_append, List.append_assoc]
    exact List.take_left' (by rw [List.length_take]; omega)
  have hlt : g < W.heap.size := hg.lt
  have hltx : x < W.heap.size := hx.lt
  obtain ⟨N, hN⟩ : ∃ N, N = W.heap.size := ⟨_, rfl⟩
  have HN := Lib.hid hN
  rw [← hN] at hrz
  obtain ⟨W1, hW1⟩ : ∃ W1, W1 = W.drew.alloc (.cells ROW 99) := ⟨_, rfl⟩
  rw [← hW1] at hrz
  have B1 : Blk W1 N 99 ROW := by rw [hW1, hN]; exact Blk.new W.drew _ _
  have G1 : Blk W1 g 99 cur := by rw [hW1]; exact hg.drew.alloc _
  have X1 : Blk W1 x 99 E.toArray := by rw [hW1]; exact hx.drew.alloc _
  have L1 : W.grownBy W1 (some g) := by
    rw [hW1]
    exact ⟨rfl, rfl, rfl, by simp, fun k hk _ => Below.heap_alloc W.drew _ k hk⟩
  obtain ⟨C1, hC1⟩ : ∃ C1 : Array Value, C1 = (splice ROW.toList (i * 4) E).toArray := ⟨_, rfl⟩
  have hC1s : C1.size = G * 4 := by rw [hC1]; simp only [List.size_toArray]; rw [length_splice _ _ _ (by simp; omega)]; simpa using hRs
  have hcp1 : ∀ ty dc, (Builtin.copy_ #[94, 94] ty #[.slice (some ⟨N, i * 4, none⟩) (n + 1 - i) dc, .slice (some ⟨x, 0, none⟩) 1 1]).run Tryz.prog W1 = .ok (goInt ((1 : Nat) : Int)) (W1.setRow N C1) := fun ty dc => by
    have h := run_copyK W1 94 94 ty 99 4 N (i * 4) (n + 1 - i) dc ⟨x, 0, none⟩ 1 1 ROW 99 E Tryz.underlying94 infoBk B1 (by rw [hE]; simp only [Nat.min_def]; split <;> omega)
      (fun j u hj => by rw [Addr.add_lit, cell_of_row W1 x (0 + j) _ _ (0, 0) X1]; simpa using hj) (by omega) h2
    have e1 : Nat.min 1 (n + 1 - i) = 1 := by simp only [Nat.min_def]; split <;> omega
    rw [h, e1, hC1]
    congr 2
    unfold splice
    simp
  have hgN : g ≠ N := by omega
  have hxN : x ≠ N := by omega
  obtain ⟨W2, hW2⟩ : ∃ W2, W2 = W1.setRow N C1 := ⟨_, rfl⟩
  rw [← hW2] at hcp1
  have B2 : Blk W2 N 99 C1 := by rw [hW2]; exact B1.setRow C1
  have G2 : Blk W2 g 99 cur := by rw [hW2]; exact G1.otherRow N C1 hgN
  have L2 : W.grownBy W2 (some g) := by
    rw [hW2]
    exact ⟨L1.os, L1.tape, L1.output, by simpa [World.setRow] using L1.size, fun k hk hr => (setRow_other W1 N k C1 (by omega)).trans (L1.block k hk hr)⟩
  have hcp2 : ∀ ty dc sc, (Builtin.copy_ #[94, 94] ty #[.slice (some ⟨N, (i + 1) * 4, none⟩) (n - i) dc, .slice (some ⟨g, i * 4, none⟩) (n - i) sc]).run Tryz.prog W2.drew = .ok (goInt ((n - i : Nat) : Int)) (W2.drew.setRow N (splice C1.toList (i * 4 + 4) (F.drop (i * 4))).toArray) := fun ty dc sc => by
    have h := run_copyK W2.drew 94 94 ty 99 4 N ((i + 1) * 4) (n - i) dc ⟨g, i * 4, none⟩ (n - i) sc C1 99 (F.drop (i * 4)) Tryz.underlying94 infoBk B2.drew (by rw [hd4]; simp only [Nat.min_def]; split <;> omega)
      (fun j u hj => by rw [Addr.add_lit]; exact hcell W2.drew G2.drew _ u (by rwa [List.getElem?_drop] at hj)) (by omega) (fun u hu => h1 u (List.mem_of_mem_drop hu))
    have e1 : Nat.min (n - i) (n - i) = n - i := by simp only [Nat.min_def]; split <;> omega
    rw [h, e1]
    congr 2
    unfold splice
    rw [show (i + 1) * 4 = i * 4 + 4 by omega]
    simp
  have hfin := grow_cells ROW.toList F E i 4 n (by omega) hF4 hRt (by simp; omega) hE
  have e1 : splice ROW.toList (i * 4) E = C1.toList := by rw [hC1]
  rw [e1] at hfin
  have hlen : (splice C1.toList (i * 4 + 4) (F.drop (i * 4))).length = G * 4 := by rw [length_splice _ _ _ (by simp; omega)]; simpa using hC1s
  have HFin := Lib.hid hfin
  have mixed : Tryz.prog.follows .mixedOrders = true := by kernel_rfl
  have hw1 : IntKind.i64.wrap ((i : Int) + 1) = (i : Int) + 1 := IntWalk.i64_in _ (by omega)
  have hb0 : (0 : Int) ≤ (i : Int) + 1 := by omega
  have htn : ((i : Int) + 1).toNat = i + 1 := by omega
  have hin : i ≤ n := by omega
  have hb3 : (i : Int) ≤ (n : Int) + 1 := by omega
  have hb5 : (i : Int) + 1 ≤ (n : Int) + 1 := by omega
  have hb6 : (i : Int) ≤ (n : Int) := by omega
  have hb7 : (n : Int) ≤ (c : Int) := by omega
  have hb2 : ¬ (G = i + 1) := by omega
  have hb4 : ¬ (c = i) := by omega
  have hb8 : ¬ (G = i) := by omega
  have hG63' : G ≤ 9223372036854775807 := by unfold maxLen at hG63; omega
  have HW := Lib.hid (And.intro hW1 hW2)
  clear hkk hik hold hROW hG hN hW1 hW2 hC1 e1 hfin hRs hRt hF hcs hF4 hd4 hi0 hz0 hzs hzb hzc hcell
  go_enter Tryz.func86, Tryz.ntmps86
  go_wp2_with (first
    | (refine Lib.wpList_append_run _ rfl _ _ _ _ rfl _ _ rfl rfl _ _ (hrz _) ?_)
    | (refine wpList_copy_run1 _ rfl _ _ 94 94 rfl _ _ rfl rfl (hcp1 _ _) ?_))
  go_region_law_o (refine step_copy_run1 rfl _ _ 94 94 rfl _ _ (by simp [Act.eval, Act.put]) (by simp [Act.eval, Act.put]) (hcp2 _ _ _) ?_)
  go_wp2
  go_ret
  refine ⟨_, rfl, ⟨?_, Or.inr ⟨N, G, (splice C1.toList (i * 4 + 4) (F.drop (i * 4))).toArray, rfl, by rw [HN.out]; exact hb, B2.drew.setRow _, hGn, hG63, by simpa using hlen, ?_⟩⟩, ?_, Or.inr (by rw [← HN.out]; rfl)⟩
  · rw [← HFin.out, List.length_take, hlen]; omega
  · have := HFin.out
    rw [show (n + 1) * 4 = n * 4 + 4 by omega]
    exact this
  · exact ⟨L2.os, L2.tape, L2.output, by simpa [World.setRow] using L2.size, fun k hk hr => (setRow_other W2.drew N k _ (by have := HN.out; omega)).trans (L2.block k hk hr)⟩
/-- slices.Insert of one block -/
theorem insert_bk (base x : Nat) (v : Value) (L : List Sp.Bk) (i : Nat) (b : Sp.Bk) (W : World) (ho : W.ownsRow base 99 4 v L.length (flat encBk L)) (hx : Blk W x 99 (encBk b).toArray) (hxv : v.ownBlock ≠ some x) (hb : base ≤ W.heap.size) (hi : i ≤ L.length) (hn : L.length ≤ 1000000) :
    Calls Tryz.prog 86 #[v, .int .i64 i, .slice (some ⟨x, 0, none⟩) 1 1] W (RetIns base (L.length + 1) (flat encBk (L.take i ++ b :: L.drop i)) v.ownBlock W) := by
  rw [flat_insert encBk_len L i hi b]
  have h1 := flat_one encBk_one L
  have hFl : (flat encBk L).length = L.length * 4 := flat_length encBk_len L
  by_cases he : i = L.length
  · subst he
    rw [List.take_of_length_le (by omega), List.drop_of_length_le (by omega), List.append_nil]
    exact insert_end base x L.length v (flat encBk L) b W ho hx hb hn
  · rcases ho.2 with ⟨rfl, h0⟩ | ⟨g, cap, cur, rfl, hg1, hg2, hg3, hg4, hg5, hg6⟩
    · omega
    · have hgx : x ≠ g := fun e => hxv (by rw [e]; rfl)
      have hc : cap ≤ 9223372036854775807 := by unfold maxLen at hg4; omega
      by_cases hr : L.length + 1 ≤ cap
      · refine (insert_room g x L.length cap i cur (flat encBk L) (encBk b) W hg2 hx hgx rfl (by omega) hr hc hn hg5 hg6 h1 (encBk_one b)).mono ?_
        rintro e w' ⟨rfl, q, rfl⟩
        have hl : (splice (splice cur.toList (i * 4 + 4) ((flat encBk L).drop (i * 4))) (i * 4) (encBk b)).length = cap * 4 := by
          rw [length_splice _ _ _ (by rw [length_splice _ _ _ (by simp [hFl]; omega)]; simp [encBk_len]; omega), length_splice _ _ _ (by simp [hFl]; omega)]
          simpa using hg5
        refine ⟨_, rfl, ⟨by simp [hFl, encBk_len]; omega, Or.inr ⟨g, cap, _, rfl, hg1, (show Blk (W.drewN q) g 99 cur from hg2).setRow _, hr, hg4, by simpa using hl, ?_⟩⟩, ?_, Or.inl rfl⟩
        · rw [show (L.length + 1) * 4 = L.length * 4 + 4 by omega]
          exact insert_cells cur.toList (flat encBk L) (encBk b) i 4 L.length hg6 (by simp; omega) (by omega) rfl
        · exact ⟨rfl, rfl, rfl, by simp [World.setRow], fun k hk hr => setRow_other (W.drewN q) g k _ (fun e => hr (by rw [e]; rfl))⟩
      · exact insert_grow g x L.length cap i cur (flat encBk L) (encBk b) W hg2 hx rfl (by omega) hg3 (by omega) hn hg5 hg6 h1 (encBk_one b) base hb
end Go.Proofs.YtilahcnpjbnjiaaGreatDoor
