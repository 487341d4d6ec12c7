/- Part of the proof: contracts of the functions that the statements of layer 32 reach. -/
import Derived.Test.YtdbgeobolongmaaGreatDoorV12
import Derived.Test.YtdbgeobolongmaaGreatDoorV16
import Derived.Test.YtdbgeobolongmaaGreatDoorV30
import Derived.Test.YtdbgeobolongmaaGreatDoorV32
import Derived.Test.YtdbgeobolongmaaGreatDoorV35
import Derived.Test.YtdbgeobolongmaaGreatDoorV36
set_option linter.unusedVariables false
set_option linter.unusedSimpArgs false
set_option maxRecDepth 100000
set_option maxHeartbeats 4000000
namespace Go.Proofs.YtdbgeobolongmaaGreatDoor
open Go.RowKit Go.Shelf Go.Proofs Go.OctetPlain Go.PrefixPlain Go.ColonPlain
theorem split10 (l : List UInt8) (hl : l.length ≤ 1000000) (m : Int) (w : World) (hm : w.cell? ⟨1, 0, none⟩ = some (.int .i64 m)) :
  Calls Tryz.prog 37 #[.string (str l), .string ⟨#[10]⟩] w fun e w' => e = .returned (.slice (some ⟨w.heap.size, 0, none⟩) (splitC 10 l).length (splitC 10 l).length) ∧ w' = w.alloc (.cells (flat encS (splitC 10 l)).toArray 9) := by
 have hcon := Any.strings_Split { Tryz.split with } Tryz.split.i9 (str l) ⟨#[10]⟩ m w (by rw [str_size]; omega) hm (by decide)
 change Calls Tryz.prog 37 _ _ _ at hcon
 rw [flat_encS, ← pieces_count, ← pieces_eq]
 exact hcon
theorem zeroSc (w : World) : (zeroValue 61).run Tryz.prog w = .ok (.agg (scA scrZ (.slice none 0 0))) w := by kernel_rfl
theorem infoSc : (Tryz.prog.info? 61).map (·.size) = some 24 := by kernel_rfl
theorem scA_one {x : Sc.Scr} {v : Value} (h : v.oneCell' = true) : (scA x v).all (·.oneCell') = true := by
 refine all_oneCell_toArray fun u hu => ?_
 simp only [scL, rmA, slA, List.mem_append, List.mem_map, List.mem_cons, List.not_mem_nil, or_false] at hu
 rcases hu with hu | hu | rfl
 ·rcases hu with rfl | rfl | rfl <;> rfl
 ·obtain ⟨c, -, rfl⟩ := hu; rfl
 ·exact h
theorem take_n {x y : Sc.Scr} {s : List UInt8} (h : Sc.takeR x s = some y) (hn : x.steps.length ≤ 1000) : y.steps.length ≤ 1000 := by
 unfold Sc.takeR at h
 split at h
 ·cases h; exact hn
 ·split at h
  ·cases h; exact hn
  ·split at h
   ·split at h
    ·cases h
    ·cases h; simp; omega
   ·cases h
structure PrS (WB : World) (X : Nat) (L : List Hp.Wd) (Z : Except Nat Sc.Scr) (k : Nat) (x : Sc.Scr) (sts : List StV) (v : Value) (wr : World) : Prop where
 S : ScS 61 37 Inner (fun b => WB.heap.size ≤ b) WB X x sts v wr
 eq : Z = Sc.linesR x k (L.drop k)
 n : sts.length ≤ 1000
theorem scr_Parse (l : List UInt8) (hl : l.length ≤ 1000000) (w : World) (ht : ST w) :
  Calls Tryz.prog 16 #[.string (str l)] w (RetScr Inner (Sc.parseX l) w) := by
 have hsz : (str l).size = l.length := str_size l
 have HZZ : Hid ((Tryz.prog.info? 61).map (·.size) = some (scA scrZ (.slice none 0 0)).size) := qh (by rw [scA_size scrZ_z]; exact infoSc)
 by_cases hbig : 65536 < l.length
 ·have HO : Hid (Sc.parseX l = .error (2, 0)) := qh (by unfold Sc.parseX; rw [if_pos hbig])
  have hd : decide ((65536 : Int) < (l.length : Int)) = true := by simp; omega
  go_enter Tryz.func16, Tryz.ntmps16
  go_wp2_with (first
   | (refine wpList_alloc_as rfl 61 (by rfl) _ zeroSc ?_; intro w1 hw1; have HR1 : Hid (Blk w1 w.heap.size 61 (scA scrZ (.slice none 0 0))) := (by rw [hw1]; exact qh (Blk.new _ _ _)); have HB1 : Hid (Below w.heap.size w w1) := (by rw [hw1]; exact qh (belowA w _)); clear hw1)
   | (refine wpList_store_row_as rfl 61 (.tmp 2) (.tmp 11) (by rfl) w.heap.size (scA scrZ (.slice none 0 0)) (by rfl) (by rfl) _ _ HR1.out HZZ.out rfl (scA_one rfl) ?_; intro w2 hw2; have HR2 : Hid (Blk w2 w.heap.size 61 (scA scrZ (.slice none 0 0))) := (by rw [hw2]; exact qh (HR1.out.setRow _)); have HB2 : Hid (Below w.heap.size w w2) := (by rw [hw2]; exact qh (below_setRow HB1.out (Nat.le_refl _) _)); clear hw2))
  exact bodyPost_ret (results_cell_tmp2 rfl _ _ _ _ _ _ _ rfl HR2.out Tryz.underlying61 rfl HZZ.out) rfl ⟨scrZ, [], _, 2, 0, rfl, ScIn.nil scrZ_z rfl, HB2.out, (fun y hy => by rw [HO.out] at hy; cases hy), (fun k hk => by rw [HO.out] at hk; cases hk; exact ⟨rfl, rfl, rfl⟩)⟩
 ·have HO : Hid (Sc.parseX l = match Sc.linesR Sc.scr0 0 (splitC 10 l) with | .ok x => .ok x | .error i => .error (20, i)) := qh (Sc.parse_small (by omega))
  have hd : decide ((65536 : Int) < (l.length : Int)) = false := by simp; omega
  have hl6 : l.length ≤ 65536 := by omega
  have HT := qh ht
  have HLN := qh (splitC_count 10 l)
  have HLL := qh (splitC_le 10 l)
  have HSPL := qh fun (W : World) (hb : Below w.heap.size w W) => (ht.below hb).p.ct.ml.elim fun m hm => split10 l hl m W hm
  have HZ0 : Hid ((Tryz.prog.info? 61).map (·.size) = some (scA Sc.scr0 (.slice none 0 0)).size) := qh (by rw [scA_size scr0_z]; exact infoSc)
  obtain ⟨Z, HZ⟩ : ∃ Z, Hid (Z = Sc.linesR Sc.scr0 0 (splitC 10 l)) := ⟨_, qh rfl⟩
  rw [← HZ.out] at HO
  generalize Sc.parseX l = o at *
  generalize splitC 10 l = L at *
  clear hbig hl ht
  go_enter Tryz.func16, Tryz.ntmps16
  go_wp2_with (first
   | (refine wpList_alloc_as (w := w) rfl 61 (by rfl) _ zeroSc ?_; intro w1 hw1; have HR1 : Hid (Blk w1 w.heap.size 61 (scA scrZ (.slice none 0 0))) := (by rw [hw1]; exact qh (Blk.new _ _ _)); have HB1 : Hid (Below w.heap.size w w1) := (by rw [hw1]; exact qh (belowA w _)); have hz1 := HR1.out.lt; clear hw1)
   | (refine wpList_alloc_as (w := w1) rfl 61 (by rfl) _ zeroSc ?_; intro w2 hw2; have HX2 : Hid (Blk w2 w1.heap.size 61 (scA scrZ (.slice none 0 0))) := (by rw [hw2]; exact qh (Blk.new _ _ _)); have HB2 : Hid (Below w1.heap.size w1 w2) := (by rw [hw2]; exact qh (belowA w1 _)); clear hw2)
   | (refine wpList_store_row_as rfl 61 (.tmp 5) (.tmp 13) (by rfl) w1.heap.size (scA Sc.scr0 (.slice none 0 0)) (by rfl) (by rfl) _ _ HX2.out HZ0.out rfl (scA_one rfl) ?_; intro w3 hw3; have HX3 : Hid (Blk w3 w1.heap.size 61 (scA Sc.scr0 (.slice none 0 0))) := (by rw [hw3]; exact qh (HX2.out.setRow _)); have HB3 : Hid (Below w1.heap.size w1 w3) := (by rw [hw3]; exact qh (below_setRow HB2.out (Nat.le_refl _) _)); clear hw3))
  have HB4 : Hid (Below w.heap.size w w3) := qh (HB1.out.trans (HB3.out.mono (Nat.le_of_lt hz1)))
  refine (HSPL.out _ HB4.out).mono ?_
  rintro e w4 ⟨rfl, hw4⟩
  have hz3 := HX3.out.lt
  have hb5 : Below w3.heap.size w3 w4 := by rw [hw4]; exact belowA w3 _
  have HB5 : Hid (Below w.heap.size w w4) := qh (HB4.out.trans (hb5.mono HB4.out.size))
  have hz4 := hb5.size
  have HLB : Hid (∀ W, w4.grownBy W (some w1.heap.size) → RdP W 1 encS (some ⟨w3.heap.size, 0, none⟩) L) := qh fun W hg => by
   have h := lit_rd encS_len w3 9 L (by have := HLN.out; omega) _ rfl
   rw [← hw4] at h
   exact h.grownS hg fun a e => by cases e; simp; omega
  have HRB : Hid (∀ W, w4.grownBy W (some w1.heap.size) → Blk W w.heap.size 61 (scA scrZ (.slice none 0 0))) := qh fun W hg => ((HR1.out.below HB3.out hz1).below hb5 (by omega)).grownO hg (by simp; omega)
  have HBB : Hid (∀ W, w4.grownBy W (some w1.heap.size) → Below w.heap.size w W) := qh fun W hg => HB5.out.trans (grown_Below hg HB5.out.size (Nat.le_of_lt hz1))
  have HSX : Hid (SX w1.heap.size w4) := qh ⟨w, HT.out, HB5.out, Nat.le_of_lt hz1⟩
  have HP0 : Hid (PrS w4 w1.heap.size L Z 0 Sc.scr0 [] (.slice none 0 0) w4) := qh ⟨⟨⟨HX3.out.below hb5 HX3.out.lt, scr0_z⟩, World.ownsRow_nil _ _ _ _, rfl, (fun s hs => by cases hs), (fun s hs => by cases hs), grown_refl _ _, by omega, by omega⟩, by rw [List.drop_zero]; exact HZ.out, by simp⟩
  have hLz : L.length ≤ 65537 := by have := HLN.out; omega
  clear hw4 hb5 HR1 HB1 HX2 HB2 HX3 HB3 HB4 HSPL HT HZ
  go_wp2_with fail
  go_loopw [6, 7, 17] (fun _ _ vi wr => ∃ (k : Nat) (x : Sc.Scr) (sts : List StV) (v : Value), vi = .int .i64 k ∧ k ≤ L.length ∧ Hid (PrS w4 w1.heap.size L Z k x sts v wr)) (fun _ _ vi _ => L.length - (intOf vi).toNat)
  case atStart => exact ⟨0, Sc.scr0, [], _, rfl, Nat.zero_le _, HP0⟩
  case round =>
   obtain ⟨k, x, sts, v, rfl, hk, HU⟩ := hrel
   by_cases hlt : k < L.length
   ·obtain ⟨b, off, hbo, hbl, hcell⟩ := (HLB.out wr HU.out.S.gr).at hlt
    cases hbo
    have hc := hcell 0 (.string (str L[k])) rfl
    simp only [Nat.mul_one, Nat.zero_add, Nat.add_zero] at hc
    have HYL : Hid (L[k].length ≤ 65536) := qh (by have := HLL.out _ (List.getElem_mem hlt); omega)
    have HEQ : Hid (Z = if Sc.skipped L[k] = true then Sc.linesR x (k + 1) (L.drop (k + 1)) else match Sc.takeR x L[k] with | some y => Sc.linesR y (k + 1) (L.drop (k + 1)) | none => .error (k + 1)) := qh (by rw [HU.out.eq, List.drop_eq_getElem_cons hlt]; rfl)
    generalize L[k] = y at *
    clear hcell
    by_cases hy0 : y = []
    ·subst hy0
     have HN : Hid (PrS w4 w1.heap.size L Z (k + 1) x sts v wr) := qh ⟨HU.out.S, HEQ.out, HU.out.n⟩
     have htl0 := str_tl ([] : List UInt8)
     clear HEQ HYL
     go_wp2_with fail
     exact ⟨⟨k + 1, x, sts, v, by go_num, by omega, HN⟩, by simp [intOf]; omega⟩
    ·obtain ⟨c, r, hcr⟩ : ∃ c r, y = c :: r := by
      cases y with
      | nil => exact absurd rfl hy0
      | cons c r => exact ⟨c, r, rfl⟩
     have hpos : 0 < y.length := by rw [hcr]; simp
     have hem : y.isEmpty = false := by rw [hcr]; rfl
     have hg : ∀ h, (str y)[0]'h = c := fun h => by rw [str_get]; simp [hcr]
     have hsy : (str y).size = y.length := str_size y
     have hty := str_tl y
     have HSK : Hid (Sc.skipped y = decide (c = 35)) := qh (by rw [hcr]; unfold Sc.skipped; simp)
     clear hcr hy0
     by_cases h35 : c = 35
     ·have HN : Hid (PrS w4 w1.heap.size L Z (k + 1) x sts v wr) := qh ⟨HU.out.S, by rw [HEQ.out, HSK.out, if_pos (by simpa using h35)], HU.out.n⟩
      have hcd : ((c.toNat : Int) != 35) = false := by rw [h35]; rfl
      clear HEQ HYL h35 HSK
      go_wp2_with fail
      exact ⟨⟨k + 1, x, sts, v, by go_num, by omega, HN⟩, by simp [intOf]; omega⟩
     ·have HEQ2 : Hid (Z = match Sc.takeR x y with | some y => Sc.linesR y (k + 1) (L.drop (k + 1)) | none => .error (k + 1)) := qh (by rw [HEQ.out, HSK.out, if_neg (by simpa using h35)])
      have hcd : ((c.toNat : Int) != 35) = true := by
       simp only [bne_iff_ne, ne_eq]
       exact fun e => h35 (UInt8.toNat_inj.1 (by show c.toNat = 35; omega))
      have HTK := qh (scr_take (fun b => w4.heap.size ≤ b) w4 w1.heap.size x sts v wr y HYL.out HU.out.S HSX.out HU.out.n (fun b hb => hb))
      have HTN := qh fun y' (h : Sc.takeR x y = some y') => take_n h (by rw [← HU.out.S.st, List.length_map]; exact HU.out.n)
      obtain ⟨o2, HO2⟩ : ∃ o2, Hid (Sc.takeR x y = o2) := ⟨_, qh rfl⟩
      rw [HO2.out] at HTK HEQ2 HTN
      clear HEQ HYL h35 HSK HO2
      go_wp2_with fail
      refine HTK.out.mono ?_
      rintro e w5 ⟨rfl, hg5, hs5⟩
      have HG5 := qh hg5
      have HS5 := qh hs5
      clear hg5 hs5
      cases o2 with
      | none =>
       have HER : Hid (o = .error (20, k + 1)) := qh (by rw [HO.out, HEQ2.out])
       have HRB5 := qh (HRB.out w5 HG5.out)
       have HBB5 := qh (HBB.out w5 HG5.out)
       go_wp2_with (refine wpList_store_row_as rfl 61 (.tmp 2) (.tmp 34) (by rfl) w.heap.size (scA scrZ (.slice none 0 0)) (by rfl) (by rfl) _ _ HRB5.out HZZ.out rfl (scA_one rfl) ?_; intro w6 hw6; have HR6 : Hid (Blk w6 w.heap.size 61 (scA scrZ (.slice none 0 0))) := (by rw [hw6]; exact qh (HRB5.out.setRow _)); have HB6 : Hid (Below w.heap.size w w6) := (by rw [hw6]; exact qh (below_setRow HBB5.out (Nat.le_refl _) _)); clear hw6)
       exact bodyPost_ret (results_cell_tmp2 rfl _ _ _ _ _ _ _ rfl HR6.out Tryz.underlying61 rfl HZZ.out) rfl ⟨scrZ, [], _, 20, k + 1, rfl, ScIn.nil scrZ_z rfl, HB6.out, (fun y hy => by rw [HER.out] at hy; cases hy), (fun k hk => by rw [HER.out] at hk; cases hk; exact ⟨rfl, rfl, rfl⟩)⟩
      | some x' =>
       obtain ⟨sts', v', hS'⟩ := HS5.out x' rfl
       have HN : Hid (PrS w4 w1.heap.size L Z (k + 1) x' sts' v' w5) := qh ⟨hS', HEQ2.out, by have := HTN.out x' rfl; rw [← hS'.st, List.length_map] at this; exact this⟩
       clear hS' HEQ2 HTN HS5 HG5 HTK
       go_wp2_with fail
       exact ⟨⟨k + 1, x', sts', v', by go_num, by omega, HN⟩, by simp [intOf]; omega⟩
   ·obtain rfl : k = L.length := by omega
    have HOK : Hid (o = .ok x) := qh (by rw [HO.out, HU.out.eq, List.drop_length]; rfl)
    have HRB5 := qh (HRB.out wr HU.out.S.gr)
    have HBB5 := qh (HBB.out wr HU.out.S.gr)
    have HZX : Hid ((Tryz.prog.info? 61).map (·.size) = some (scA x v).size) := qh (by rw [scA_size HU.out.S.at_.z]; exact infoSc)
    have HZE : Hid ((scA scrZ (.slice none 0 0)).size = (scA x v).size) := qh (by rw [scA_size HU.out.S.at_.z]; rfl)
    have HVO : Hid (v.oneCell' = true) := qh (by obtain ⟨p, c, rfl⟩ := owns_form HU.out.S.own; rfl)
    go_wp2_with (first
     | (refine wpList_load_want (by rfl) 61 (.tmp 5) (by rfl) w1.heap.size (by rfl) _ (scA x v) (0, 0) _ HU.out.S.at_.b Tryz.underlying61 rfl HZX.out ?_)
     | (refine wpList_store_row_as rfl 61 (.tmp 2) (.tmp 38) (by rfl) w.heap.size (scA x v) (by rfl) (by rfl) _ _ HRB5.out HZX.out HZE.out (scA_one HVO.out) ?_; intro w6 hw6; have HR6 : Hid (Blk w6 w.heap.size 61 (scA x v)) := (by rw [hw6]; exact qh (HRB5.out.setRow _)); have HB6 : Hid (Below w.heap.size w w6) := (by rw [hw6]; exact qh (below_setRow HBB5.out (Nat.le_refl _) _)); have HG6 : Hid (wr.grownBy w6 (some w.heap.size)) := (by rw [hw6]; exact qh (grown_setRow _ _ _)); clear hw6))
    have HIN : Hid (ScIn Inner w6 x sts v) := qh ⟨HU.out.S.at_.z, HU.out.S.st, SlR.of_owns stepL_len (owns_grown HU.out.S.own HG6.out (fun k e => by cases e; omega)), (fun s hs => (goodI.grown (HU.out.S.inn s hs) HG6.out (fun b hb e => by cases e; have := hb.1; omega)).imp fun _ _ => trivial), HU.out.S.p16⟩
    exact bodyPost_ret (results_cell_tmp2 rfl _ _ _ _ _ _ _ rfl HR6.out Tryz.underlying61 rfl HZX.out) rfl ⟨x, sts, v, 0, 0, rfl, HIN.out, HB6.out, (fun y hy => by rw [HOK.out] at hy; cases hy; exact ⟨rfl, rfl, rfl⟩), (fun k hk => by rw [HOK.out] at hk; cases hk)⟩
theorem elemT : ElemBig Tryz.prog 67 46 36 240 := .mk Tryz.underlying67 (z := .agg (stepA (svD Sc.z))) (by kernel_rfl) (by omega) (by omega) (stepA_size _)
theorem zeroX (w : World) : (zeroValue 69).run Tryz.prog w = .ok (.agg (scA scrZ (.slice none 0 0))) w := by kernel_rfl
theorem infoX : (Tryz.prog.info? 69).map (·.size) = some 24 := by kernel_rfl
end Go.Proofs.YtdbgeobolongmaaGreatDoor
namespace Go.Proofs.YtdbgeobolongmaaGreatDoor
open Go.RowKit Go.Shelf Go.Proofs Go.OctetPlain Go.PrefixPlain
def SzD (s : StV) : Prop := s.t.hop.labels.length ≤ 1073741824 ∧ s.t.hop.repair.length ≤ 1073741824 ∧ s.t.ways.length ≤ 1073741824
structure SmX (w : World) (x y : Sc.Scr) (sa sb : List StV) (va vb : Value) (W : World) : Prop where
 A : ScAt 69 W w.heap.size x va
 B : ScAt 69 W (w.heap.size + 1) y vb
 bel : Below w.heap.size w W
 IA : ScIn InnerD W x sa va
 IB : ScIn InnerD W y sb vb
theorem SmX.next {w W W' : World} {x y : Sc.Scr} {sa sb : List StV} {va vb : Value} (h : SmX w x y sa sb va vb W) (hb : Below W.heap.size W W') : SmX w x y sa sb va vb W' := ⟨h.A.next hb, h.B.next hb, h.bel.trans (hb.mono h.bel.size), h.IA.below goodD hb, h.IB.below goodD hb⟩
theorem RdP.range {α : Type} {w : World} {k : Nat} {enc : α → List Value} {p : Option Addr} {xs : List α} (h : RdP w k enc p xs) {i : Nat} (hi : i < xs.length) : ∃ b off, p = some ⟨b, off, none⟩ ∧ w.rangeAt b (off + i * k) (enc xs[i]) := by
 obtain ⟨b, off, h1, -, h2⟩ := h.at hi
 exact ⟨b, off, h1, fun j v hv => h2 j v hv⟩
theorem SmX.ra {w W : World} {x y : Sc.Scr} {sa sb : List StV} {va vb : Value} (h : SmX w x y sa sb va vb W) {p : Option Addr} {n c : Nat} (hv : va = .slice p n c) : RdP W 36 stepL p sa := by
 obtain ⟨q, d, e, -, -, hp⟩ := h.IA.sl
 rw [hv] at e; cases e; exact hp
theorem SmX.rb {w W : World} {x y : Sc.Scr} {sa sb : List StV} {va vb : Value} (h : SmX w x y sa sb va vb W) {p : Option Addr} {n c : Nat} (hv : vb = .slice p n c) : RdP W 36 stepL p sb := by
 obtain ⟨q, d, e, -, -, hp⟩ := h.IB.sl
 rw [hv] at e; cases e; exact hp
theorem infoTL (s : StV) : (Tryz.prog.info? 46).map (·.size) = some (stepL s).length := by rw [stepL_len]; exact infoT
theorem scr_eq {x y : Sc.Scr} {sa sb : List StV} (ha : sa.map (·.t) = x.steps) (hb : sb.map (·.t) = y.steps) : x = y ↔ ((x.r1, x.r2, x.r3) = (y.r1, y.r2, y.r3) ∧ (x.four, x.six) = (y.four, y.six)) ∧ sa.map (·.t) = sb.map (·.t) := by
 rw [ha, hb]
 cases x; cases y
 simp only [Sc.Scr.mk.injEq, Prod.mk.injEq]
 constructor
 ·rintro ⟨h1, h2, h3, h4, h5, h6⟩; exact ⟨⟨⟨h1, h2, h3⟩, h4, h5⟩, h6⟩
 ·rintro ⟨⟨⟨h1, h2, h3⟩, h4, h5⟩, h6⟩; exact ⟨h1, h2, h3, h4, h5, h6⟩
theorem infoSlM {a b : List UInt8} (ha : a.length = 4) (hb : b.length = 16) : (Tryz.prog.info? 66).map (·.size) = some (slA a b).toList.length := by rw [Array.length_toList, slA_size ha hb]; exact infoM
theorem wpList_load_midW {P : Program} {ops : Array Oper} {rest : List Oper} {op : Oper} {a : Act} {w : World} {Q : Exit → Act → World → Prop} (ty : TypeId) (x : Operand) (ho : op.op = .load ty x) (hw : Region.wanted op (yielded ops a.tmps) = true)
  (b o : Nat) (hx : a.eval x = .pointer (some ⟨b, o, none⟩)) (cs : List Value) (d : TypeDesc) (hc : w.rangeAt b o cs)
  (hu : P.underlying ty = some d) (hd : d.isRow = true) (hi : (P.info? ty).map (·.size) = some cs.length)
  (h : wpList P ops Q rest (a.put op.dst (.agg cs.toArray)) w) : wpList P ops Q (op :: rest) a w :=
 BigFrame.wpList_want hw fun _ hK => wp_load_mid ty x ho b o hx cs d hc hu hd hi (hK _ _ h)
theorem r32_Same (x y : Sc.Scr) (sa sb : List StV) (va vb : Value) (w : World) (A : ScIn InnerD w x sa va) (B : ScIn InnerD w y sb vb) (ha : ∀ s ∈ sa, SzD s) (hb : ∀ s ∈ sb, SzD s) (na : sa.length ≤ 1073741824) (nb : sb.length ≤ 1073741824) :
  Calls Tryz.prog 18 #[.agg (scA x va), .agg (scA y vb)] w fun e w' => e = .returned (.bool (decide (x = y))) ∧ Below w.heap.size w w' := by
 have HS0 : Hid (∀ w1 w2, w1 = w.alloc (.cells (scA x va) 69) → w2 = w1.alloc (.cells (scA y vb) 69) → SmX w x y sa sb va vb w2) := qh fun w1 w2 h1 h2 => by
  subst h2
  subst h1
  have hB : Below w.heap.size w ((w.alloc (.cells (scA x va) 69)).alloc (.cells (scA y vb) 69)) := (belowA w _).alloc (by simp) _
  refine ⟨⟨(Blk.new w _ _).alloc _, A.z⟩, ⟨?_, B.z⟩, hB, A.below goodD hB, B.below goodD hB⟩
  have := Blk.new (w.alloc (.cells (scA x va) 69)) 69 (scA y vb)
  rw [World.size_alloc] at this
  exact this
 obtain ⟨v, HV⟩ : ∃ v, Hid (v = decide (x = y)) := ⟨_, qh rfl⟩
 have HEQ := qh (scr_eq A.st B.st)
 obtain ⟨pa, ca, hva, -⟩ := A.sl
 obtain ⟨pb, cb, hvb, -⟩ := B.sl
 have HVA := qh hva
 have HVB := qh hvb
 rw [← HV.out]
 have HRA := qh fun W (h : SmX w x y sa sb va vb W) => h.A.rm
 have HRB := qh fun W (h : SmX w x y sa sb va vb W) => h.B.rm
 have HSA := qh fun W (h : SmX w x y sa sb va vb W) => h.A.sl
 have HSB := qh fun W (h : SmX w x y sa sb va vb W) => h.B.sl
 have hq := fun w => run_rmM (x.r1, x.r2, x.r3) (y.r1, y.r2, y.r3) w
 have hg := fun w op a b => GuardAt.agg (P := Tryz.prog) (T := 65) (fun c : Array Value => c) (by kernel_rfl) op a b (rmA (x.r1, x.r2, x.r3)) (rmA (y.r1, y.r2, y.r3)) w
 have hqs := fun w => eq_slM A.z.four A.z.six B.z.four B.z.six w
 have hgs := fun w op a b => GuardAt.agg (P := Tryz.prog) (T := 66) (fun c : Array Value => c) (by kernel_rfl) op a b (slA x.four x.six) (slA y.four y.six) w
 have HIA : Hid ((Tryz.prog.info? 65).map (·.size) = some (rmA (x.r1, x.r2, x.r3)).toList.length) := qh infoM3
 have HIB : Hid ((Tryz.prog.info? 65).map (·.size) = some (rmA (y.r1, y.r2, y.r3)).toList.length) := qh infoM3
 have HJA := qh (infoSlM A.z.four A.z.six)
 have HJB := qh (infoSlM B.z.four B.z.six)
 generalize rmA (x.r1, x.r2, x.r3) = RA at *
 generalize rmA (y.r1, y.r2, y.r3) = RB at *
 generalize slA x.four x.six = SA at *
 generalize slA y.four y.six = SB at *
 clear A B hva hvb
 by_cases e1 : (x.r1, x.r2, x.r3) = (y.r1, y.r2, y.r3)
 ·rw [decide_eq_true e1] at hq
  have E1 := qh e1
  clear e1
  by_cases e2 : (x.four, x.six) = (y.four, y.six)
  ·rw [decide_eq_true e2] at hqs
   have E2 := qh e2
   clear e2
   by_cases e3 : sa.length = sb.length
   ·have hd : ((sa.length : Int) != (sb.length : Int)) = false := by simp only [bne_eq_false_iff_eq]; omega
    have HLE := qh e3
    clear e3
    go_enter Tryz.func18, Tryz.ntmps18
    go_upto_region 1 with (first
     | (refine wpList_box_as (w := w) rfl _ (.tmp 0) (by rfl) (scA x va) (by rfl) ?_; intro w1 E1; have HE1 := qh E1; clear E1)
     | (refine wpList_box_as (w := w1) rfl _ (.tmp 1) (by rfl) (scA y vb) (by rfl) ?_; intro w2 E2; have HS := qh (HS0.out w1 w2 HE1.out E2); clear E2; have c1 := HS.out.A.c23; have c2 := HS.out.B.c23; rw [HVA.out] at c1; rw [HVB.out] at c2; have HZ1 : w1.heap.size = w.heap.size + 1 := (by rw [HE1.out]; simp)))
    refine wp_region_lit ?_
    iterate 3 go_step
    refine wpList_load_mid rfl 65 (.tmp 7) (by rfl) w.heap.size 0 (by rfl) RA.toList _ (HRA.out _ HS.out) Tryz.underlying65 rfl HIA.out ?_
    simp only [qA, qB, qC, qD, qE, qF, qG]
    iterate 3 go_step
    refine wpList_load_mid rfl 65 (.tmp 9) (by rfl) (w.heap.size + 1) 0 (by rfl) RB.toList _ (HRB.out _ HS.out) Tryz.underlying65 rfl HIB.out ?_
    simp only [qA, qB, qC, qD, qE, qF, qG]
    iterate 5 go_step
    iterate 3 go_step
    refine wpList_load_midW 66 (.tmp 13) (by rfl) (by rfl) w.heap.size 3 (by rfl) SA.toList _ (HSA.out _ HS.out) Tryz.underlying66 rfl HJA.out ?_
    simp only [qA, qB, qC, qD, qE, qF, qG]
    iterate 2 go_step
    refine wpList_load_midW 66 (.tmp 15) (by rfl) (by rfl) (w.heap.size + 1) 3 (by rfl) SB.toList _ (HSB.out _ HS.out) Tryz.underlying66 rfl HJB.out ?_
    simp only [qA, qB, qC, qD, qE, qF, qG]
    iterate 7 go_step
    go_step
    go_wp2_with fail
    go_loopw [5] (fun vi wr => ∃ k : Nat, vi = .int .i64 k ∧ k ≤ sa.length ∧ Hid ((sa.take k).map (·.t) = (sb.take k).map (·.t)) ∧ Hid (SmX w x y sa sb va vb wr)) (fun vi _ => sa.length - (intOf vi).toNat)
    case atStart => exact ⟨0, rfl, Nat.zero_le _, qh rfl, qh HS.out⟩
    case round =>
     clear HS
     obtain ⟨k, rfl, hk, HE, HS⟩ := hrel
     have c1 := HS.out.A.c23
     rw [HVA.out] at c1
     by_cases hlt : k < sa.length
     ·have hlt2 : k < sb.length := by rw [← HLE.out]; exact hlt
      obtain ⟨b1, o1, hb1, x0⟩ := (HS.out.ra HVA.out).range hlt
      obtain ⟨b2, o2, hb2, y0⟩ := (HS.out.rb HVB.out).range hlt2
      subst hb1 hb2
      have HC : Hid (∀ W, SmX w x y sa sb va vb W → W.rangeAt b1 (o1 + k * 36) (stepL sa[k]) ∧ W.rangeAt b2 (o2 + k * 36) (stepL sb[k])) := qh fun W h => by
       obtain ⟨g1, f1, e1, u0⟩ := (h.ra HVA.out).range hlt
       obtain ⟨g2, f2, e2, v0⟩ := (h.rb HVB.out).range hlt2
       cases e1; cases e2
       exact ⟨u0, v0⟩
      have HCALL : Hid (∀ W, SmX w x y sa sb va vb W → Calls Tryz.prog 12 #[.agg (stepL sa[k]).toArray, .agg (stepL sb[k]).toArray] W fun e w' => e = .returned (.bool (decide (sa[k].t = sb[k].t))) ∧ Below W.heap.size W w') := qh fun W h =>
       r32_SameStep sa[k] sb[k] W (h.IA.inn _ (List.getElem_mem _)) (h.IB.inn _ (List.getElem_mem _)) (h.IA.p16 _ (List.getElem_mem _)) (h.IB.p16 _ (List.getElem_mem _)) (ha _ (List.getElem_mem _)).1 (ha _ (List.getElem_mem _)).2.1 (ha _ (List.getElem_mem _)).2.2 (hb _ (List.getElem_mem _)).1 (hb _ (List.getElem_mem _)).2.1 (hb _ (List.getElem_mem _)).2.2
      have HTA : Hid ((sa.take (k + 1)).map (·.t) = (sa.take k).map (·.t) ++ [sa[k].t]) := qh (by rw [List.take_succ_eq_append_getElem hlt, List.map_append]; rfl)
      have HTB : Hid ((sb.take (k + 1)).map (·.t) = (sb.take k).map (·.t) ++ [sb[k].t]) := qh (by rw [List.take_succ_eq_append_getElem hlt2, List.map_append]; rfl)
      have HGA : Hid ((sa.map (·.t))[k]? = some sa[k].t) := qh (by rw [List.getElem?_map, List.getElem?_eq_getElem hlt]; rfl)
      have HGB : Hid ((sb.map (·.t))[k]? = some sb[k].t) := qh (by rw [List.getElem?_map, List.getElem?_eq_getElem hlt2]; rfl)
      have HI1 := qh (infoTL sa[k])
      have HI2 := qh (infoTL sb[k])
      clear x0 y0
      generalize sa[k] = p at *
      generalize sb[k] = q at *
      generalize hv : decide (p.t = q.t) = b at *
      have HVV := qh hv
      clear hv
      generalize hL1 : stepL p = L1 at *
      generalize hL2 : stepL q = L2 at *
      clear hL1 hL2
      have HD : Hid (SmX w x y sa sb va vb wr.drew) := qh (HS.out.next ((Below.refl _ _).drew))
      go_upto_region 6 with fail
      refine wp_region_held_drew (S := SmX w x y sa sb va vb) (by kernel_rfl) HD.out (fun hHeld => ?_)
      refine kq 0 ?_
      refine kq 1 ?_ (hy := by intro w h; have c := h.A.c23; rw [HVA.out] at c; go_simp; try with_reducible rfl)
      refine kq 2 ?_; refine kq 3 ?_
      refine kY 4 rfl (yieldsIf_load_mid (by rfl) _ _ rfl (b1) (o1 + k * 36) rfl (L1) _ (fun w h => (HC.out w h).1) Tryz.underlying46 rfl (HI1.out)) ?_
      refine kq 5 ?_
      refine kq 6 ?_ (hy := by intro w h; have c := h.B.c23; rw [HVB.out] at c; go_simp; try with_reducible rfl)
      refine kq 7 ?_; refine kq 8 ?_
      refine kY 9 rfl (yieldsIf_load_mid (by rfl) _ _ rfl (b2) (o2 + k * 36) rfl (L2) _ (fun w h => (HC.out w h).2) Tryz.underlying46 rfl (HI2.out)) ?_
      refine zS 10 fun K hK => ?_
      go_simp
      refine (HCALL.out _ hHeld).mono ?_; rintro e w9 ⟨rfl, hb9⟩; have HV9 := hHeld.next hb9
      go_wp2_with fail
      refine hK.out _ _ (HV9) (fun hHeld => ?_)
      clear hK K
      try simp only [qA, qB, qC, qD, qE, qF, qG]
      refine kq 11 ?_
      refine zD ?_
      cases b with
      | true =>
       have HE2 : Hid ((sa.take (k + 1)).map (·.t) = (sb.take (k + 1)).map (·.t)) := qh (by rw [HTA.out, HTB.out, HE.out, of_decide_eq_true HVV.out])
       have HS2 := qh hHeld
       go_wp2_with fail
       exact ⟨⟨k + 1, by go_num, by omega, HE2, HS2⟩, by simp [intOf]; omega⟩
      | false =>
       have HF : Hid (v = false) := qh (by
        rw [HV.out]
        refine decide_eq_false fun e => ?_
        have e9 := (HEQ.out.1 e).2
        have := HGA.out.symm.trans ((congrArg (·[k]?) e9).trans HGB.out)
        exact of_decide_eq_false HVV.out (Option.some.inj this))
       have HS2 := qh hHeld
       go_wp2_with fail
       go_ret
       exact ⟨by rw [HF.out]; rfl, HS2.out.bel⟩
     ·obtain rfl : k = sa.length := by omega
      have HT : Hid (v = true) := qh (by
       rw [HV.out]
       have h9 := HE.out
       rw [List.take_length, HLE.out, List.take_length] at h9
       exact decide_eq_true (HEQ.out.2 ⟨⟨E1.out, E2.out⟩, h9⟩))
      go_wp2_with fail
      go_ret
      exact ⟨by rw [HT.out]; rfl, HS.out.bel⟩
   ·have hd : ((sa.length : Int) != (sb.length : Int)) = true := by simp only [bne_iff_ne, ne_eq]; omega
    have HF : Hid (v = false) := qh (by rw [HV.out]; exact decide_eq_false fun h => e3 (by have := congrArg List.length (HEQ.out.1 h).2; simpa using this))
    clear e3
    go_enter Tryz.func18, Tryz.ntmps18
    go_upto_region 1 with (first
     | (refine wpList_box_as (w := w) rfl _ (.tmp 0) (by rfl) (scA x va) (by rfl) ?_; intro w1 E1; have HE1 := qh E1; clear E1)
     | (refine wpList_box_as (w := w1) rfl _ (.tmp 1) (by rfl) (scA y vb) (by rfl) ?_; intro w2 E2; have HS := qh (HS0.out w1 w2 HE1.out E2); clear E2; have c1 := HS.out.A.c23; have c2 := HS.out.B.c23; rw [HVA.out] at c1; rw [HVB.out] at c2; have HZ1 : w1.heap.size = w.heap.size + 1 := (by rw [HE1.out]; simp)))
    refine wp_region_lit ?_
    iterate 3 go_step
    refine wpList_load_mid rfl 65 (.tmp 7) (by rfl) w.heap.size 0 (by rfl) RA.toList _ (HRA.out _ HS.out) Tryz.underlying65 rfl HIA.out ?_
    simp only [qA, qB, qC, qD, qE, qF, qG]
    iterate 3 go_step
    refine wpList_load_mid rfl 65 (.tmp 9) (by rfl) (w.heap.size + 1) 0 (by rfl) RB.toList _ (HRB.out _ HS.out) Tryz.underlying65 rfl HIB.out ?_
    simp only [qA, qB, qC, qD, qE, qF, qG]
    iterate 5 go_step
    iterate 3 go_step
    refine wpList_load_midW 66 (.tmp 13) (by rfl) (by rfl) w.heap.size 3 (by rfl) SA.toList _ (HSA.out _ HS.out) Tryz.underlying66 rfl HJA.out ?_
    simp only [qA, qB, qC, qD, qE, qF, qG]
    iterate 2 go_step
    refine wpList_load_midW 66 (.tmp 15) (by rfl) (by rfl) (w.heap.size + 1) 3 (by rfl) SB.toList _ (HSB.out _ HS.out) Tryz.underlying66 rfl HJB.out ?_
    simp only [qA, qB, qC, qD, qE, qF, qG]
    iterate 7 go_step
    go_step
    go_wp2_with fail
    go_ret
    exact ⟨by rw [HF.out]; rfl, HS.out.bel⟩
  ·rw [decide_eq_false e2] at hqs
   have HF : Hid (v = false) := qh (by rw [HV.out]; exact decide_eq_false fun h => e2 (HEQ.out.1 h).1.2)
   clear e2
   go_enter Tryz.func18, Tryz.ntmps18
   go_upto_region 1 with (first
    | (refine wpList_box_as (w := w) rfl _ (.tmp 0) (by rfl) (scA x va) (by rfl) ?_; intro w1 E1; have HE1 := qh E1; clear E1)
    | (refine wpList_box_as (w := w1) rfl _ (.tmp 1) (by rfl) (scA y vb) (by rfl) ?_; intro w2 E2; have HS := qh (HS0.out w1 w2 HE1.out E2); clear E2; have c1 := HS.out.A.c23; have c2 := HS.out.B.c23; rw [HVA.out] at c1; rw [HVB.out] at c2; have HZ1 : w1.heap.size = w.heap.size + 1 := (by rw [HE1.out]; simp)))
   refine wp_region_lit ?_
   iterate 3 go_step
   refine wpList_load_mid rfl 65 (.tmp 7) (by rfl) w.heap.size 0 (by rfl) RA.toList _ (HRA.out _ HS.out) Tryz.underlying65 rfl HIA.out ?_
   simp only [qA, qB, qC, qD, qE, qF, qG]
   iterate 3 go_step
   refine wpList_load_mid rfl 65 (.tmp 9) (by rfl) (w.heap.size + 1) 0 (by rfl) RB.toList _ (HRB.out _ HS.out) Tryz.underlying65 rfl HIB.out ?_
   simp only [qA, qB, qC, qD, qE, qF, qG]
   iterate 5 go_step
   iterate 3 go_step
   refine wpList_load_midW 66 (.tmp 13) (by rfl) (by rfl) w.heap.size 3 (by rfl) SA.toList _ (HSA.out _ HS.out) Tryz.underlying66 rfl HJA.out ?_
   simp only [qA, qB, qC, qD, qE, qF, qG]
   iterate 2 go_step
   refine wpList_load_midW 66 (.tmp 15) (by rfl) (by rfl) (w.heap.size + 1) 3 (by rfl) SB.toList _ (HSB.out _ HS.out) Tryz.underlying66 rfl HJB.out ?_
   simp only [qA, qB, qC, qD, qE, qF, qG]
   iterate 7 go_step
   generalize hA : (Act.mk _ _ : Act) = A
   rename_i K hK
   refine hK A _ ?_
   clear hK K
   iterate 7 (refine wpList_offS (by rw [← hA]; kernel_rfl) (by rw [← hA]; kernel_rfl) ?_)
   subst hA
   go_wp2_with fail
   go_ret
   exact ⟨by rw [HF.out]; rfl, HS.out.bel⟩
 ·rw [decide_eq_false e1] at hq
  have HF : Hid (v = false) := qh (by rw [HV.out]; exact decide_eq_false fun h => e1 (HEQ.out.1 h).1.1)
  clear e1
  go_enter Tryz.func18, Tryz.ntmps18
  go_upto_region 1 with (first
   | (refine wpList_box_as (w := w) rfl _ (.tmp 0) (by rfl) (scA x va) (by rfl) ?_; intro w1 E1; have HE1 := qh E1; clear E1)
   | (refine wpList_box_as (w := w1) rfl _ (.tmp 1) (by rfl) (scA y vb) (by rfl) ?_; intro w2 E2; have HS := qh (HS0.out w1 w2 HE1.out E2); clear E2; have c1 := HS.out.A.c23; have c2 := HS.out.B.c23; rw [HVA.out] at c1; rw [HVB.out] at c2; have HZ1 : w1.heap.size = w.heap.size + 1 := (by rw [HE1.out]; simp)))
  refine wp_region_lit ?_
  iterate 3 go_step
  refine wpList_load_mid rfl 65 (.tmp 7) (by rfl) w.heap.size 0 (by rfl) RA.toList _ (HRA.out _ HS.out) Tryz.underlying65 rfl HIA.out ?_
  simp only [qA, qB, qC, qD, qE, qF, qG]
  iterate 3 go_step
  refine wpList_load_mid rfl 65 (.tmp 9) (by rfl) (w.heap.size + 1) 0 (by rfl) RB.toList _ (HRB.out _ HS.out) Tryz.underlying65 rfl HIB.out ?_
  simp only [qA, qB, qC, qD, qE, qF, qG]
  iterate 5 go_step
  generalize hA : (Act.mk _ _ : Act) = A
  rename_i K hK
  refine hK A _ ?_
  clear hK K
  iterate 5 (refine wpList_offS (by rw [← hA]; kernel_rfl) (by rw [← hA]; kernel_rfl) ?_)
  subst hA
  iterate 5 go_step
  generalize hA : (Act.mk _ _ : Act) = A
  rename_i K hK
  refine hK A _ ?_
  clear hK K
  iterate 7 (refine wpList_offS (by rw [← hA]; kernel_rfl) (by rw [← hA]; kernel_rfl) ?_)
  subst hA
  go_wp2_with fail
  go_ret
  exact ⟨by rw [HF.out]; rfl, HS.out.bel⟩
end Go.Proofs.YtdbgeobolongmaaGreatDoor
