/- Part of the proof: contracts of the functions that the statements of layer 32 reach. -/
import Derived.Deep.RegionWith
import Derived.Test.YtdbgeobolongmaaGreatDoorV03
import Derived.Test.YtdbgeobolongmaaGreatDoorV04
import Derived.Test.YtdbgeobolongmaaGreatDoorV05
import Derived.Test.YtdbgeobolongmaaGreatDoorV06
import Derived.Test.YtdbgeobolongmaaGreatDoorV10
set_option linter.unusedVariables false
set_option linter.unusedSimpArgs false
set_option maxRecDepth 100000
set_option maxHeartbeats 4000000
namespace Go.Proofs.YtdbgeobolongmaaGreatDoor
open Go.RowKit Go.Shelf Go.Proofs Go.OctetPlain Go.ColonPlain
theorem info4 : (Tryz.prog.info? 56).map (·.size) = some 4 := by kernel_rfl
def pad4 (out : List UInt8) : List UInt8 := out ++ List.replicate (4 - out.length) 0
theorem pad4_set {out : List UInt8} (h : out.length < 4) (c : UInt8) : (pad4 out).set out.length c = pad4 (out ++ [c]) := by
 unfold pad4
 rw [List.set_append_right _ _ (Nat.le_refl _), Nat.sub_self, show 4 - out.length = (4 - (out ++ [c]).length) + 1 by simp; omega, List.replicate_succ, List.set_cons_zero]
 simp
theorem pad4_len {out : List UInt8} (h : out.length ≤ 4) : (pad4 out).length = 4 := by unfold pad4; simp; omega
theorem pad4_full {out : List UInt8} (h : out.length = 4) : pad4 out = out := by unfold pad4; simp [h]
theorem dot_end_no (A K N S : Nat) (out : List UInt8) (n signs : Nat) (hol : out.length ≤ 4) (hn : n ≤ 255) (W : World)
  (hA : Blk W A 56 (arrB (pad4 out))) (hK : Blk W K 3 #[.int .i64 (out.length : Nat)]) (hN : Blk W N 3 #[.int .i64 n]) (hS : Blk W S 3 #[.int .i64 signs])
  (d1 : A ≠ K) (d2 : A ≠ N) (d3 : A ≠ S) (d4 : K ≠ N) (d5 : K ≠ S) (d6 : N ≠ S) (hno : signs = 0 ∨ out.length = 4) :
  Calls Tryz.prog 158 #[.pointer (some ⟨S, 0, none⟩), .pointer (some ⟨K, 0, none⟩), .pointer (some ⟨N, 0, none⟩), .pointer (some ⟨A, 0, none⟩)] W fun e w' =>
   e = .returned (.bool false) ∧ w' = W := by
 have k0 := hK.cell 0
 have n0 := hN.cell 0
 have s0 := hS.cell 0
 simp only [List.getElem?_toArray, List.getElem?_cons_zero] at k0 n0 s0
 by_cases hs : signs = 0
 ·subst hs
  go_enter Tryz.func158, Tryz.ntmps158
  go_wp2_with fail
  go_ret
  exact ⟨rfl, rfl⟩
 ·have h4 : out.length = 4 := by omega
  have hs' : ¬ (signs : Int) = 0 := by omega
  rw [h4] at k0
  go_enter Tryz.func158, Tryz.ntmps158
  go_wp2_with fail
  go_ret
  exact ⟨rfl, rfl⟩
theorem dot_end_yes (A K N S : Nat) (out : List UInt8) (n signs : Nat) (hol : out.length ≤ 4) (hn : n ≤ 255) (W : World)
  (hA : Blk W A 56 (arrB (pad4 out))) (hK : Blk W K 3 #[.int .i64 (out.length : Nat)]) (hN : Blk W N 3 #[.int .i64 n]) (hS : Blk W S 3 #[.int .i64 signs])
  (d1 : A ≠ K) (d2 : A ≠ N) (d3 : A ≠ S) (d4 : K ≠ N) (d5 : K ≠ S) (d6 : N ≠ S) (hs : 0 < signs) (h4 : out.length < 4) :
  Calls Tryz.prog 158 #[.pointer (some ⟨S, 0, none⟩), .pointer (some ⟨K, 0, none⟩), .pointer (some ⟨N, 0, none⟩), .pointer (some ⟨A, 0, none⟩)] W fun e w' =>
   e = .returned (.bool true) ∧ w' = (((W.setCell ⟨A, out.length, none⟩ (.int .u8 n)).setCell ⟨K, 0, none⟩ (.int .i64 ((out.length : Int) + 1))).setCell ⟨N, 0, none⟩ (.int .i64 0)).setCell ⟨S, 0, none⟩ (.int .i64 0) := by
 have k0 := hK.cell 0
 have n0 := hN.cell 0
 have s0 := hS.cell 0
 simp only [List.getElem?_toArray, List.getElem?_cons_zero] at k0 n0 s0
 have fA := hA.frozen'
 have fK := hK.frozen' 0
 have fN := hN.frozen' 0
 have fS := hS.frozen' 0
 have hs' : ((signs : Int) == 0) = false := by rw [beq_eq_false_iff_ne]; omega
 have h4' : ((out.length : Int) == 4) = false := by rw [beq_eq_false_iff_ne]; omega
 have hlt : (out.length : Int) < 4 := by omega
 obtain ⟨z, hz⟩ : ∃ z, (pad4 out)[out.length]? = some z := ⟨_, List.getElem?_eq_getElem (by rw [pad4_len hol]; exact h4)⟩
 have a0 : W.cell? ⟨A, out.length, none⟩ = some (.int .u8 (z.toNat : Int)) := (hA.cell _).trans (arrB_get hz)
 clear hs h4 hz
 go_enter Tryz.func158, Tryz.ntmps158
 go_wp2_with fail
 go_ret
 exact ⟨rfl, rfl⟩
end Go.Proofs.YtdbgeobolongmaaGreatDoor
namespace Go.Proofs.YtdbgeobolongmaaGreatDoor
open Go.RowKit Go.Shelf Go.Proofs Go.OctetPlain Go.ColonPlain
structure DotB (w W : World) (out : List UInt8) (n signs : Nat) : Prop where
 res : Blk W w.heap.size 56 (arrB [0, 0, 0, 0])
 arr : Blk W (w.heap.size + 1) 56 (arrB (pad4 out))
 bk : Blk W (w.heap.size + 1 + 1) 3 #[.int .i64 (out.length : Nat)]
 bn : Blk W (w.heap.size + 1 + 1 + 1) 3 #[.int .i64 n]
 bs : Blk W (w.heap.size + 1 + 1 + 1 + 1) 3 #[.int .i64 signs]
 below : Below w.heap.size w W
structure DotS (w : World) (l : List UInt8) (W : World) (pos : Nat) (out : List UInt8) (n signs : Nat) : Prop where
 le : pos ≤ l.length
 ol : out.length ≤ 4
 sl : signs ≤ pos
 nl : n ≤ 255
 b : DotB w W out n signs
 iter : W.heap[w.heap.size + 1 + 1 + 1 + 1 + 1]? = some (.stringIter (str l) pos)
 eq : dotted l = dotScan out n signs (l.drop pos)
theorem DotB.iterAt {w W : World} {out : List UInt8} {n signs : Nat} (h : DotB w W out n signs) {s : ByteArray} {pos : Nat} (hk : W.heap[w.heap.size + 1 + 1 + 1 + 1 + 1]? = some (.stringIter s pos)) (pos' : Nat) : DotB w (W.iterAt (w.heap.size + 1 + 1 + 1 + 1 + 1) s pos') out n signs :=
 ⟨h.res.iterAt hk _, h.arr.iterAt hk _, h.bk.iterAt hk _, h.bn.iterAt hk _, h.bs.iterAt hk _, Lib.below_iterAt h.below (by omega) _ _⟩
theorem Blk.one {w : World} {g : Nat} {t : TypeId} {x : Value} (h : Blk w g t #[x]) (y : Value) : Blk (w.setCell ⟨g, 0, none⟩ y) g t #[y] := by simpa using h.set 0 y
theorem DotB.yes {w W : World} {out : List UInt8} {n signs : Nat} (h : DotB w W out n signs) (h4 : out.length < 4) (hn : n ≤ 255) :
  DotB w ((((W.setCell ⟨w.heap.size + 1, out.length, none⟩ (.int .u8 n)).setCell ⟨w.heap.size + 1 + 1, 0, none⟩ (.int .i64 ((out.length : Int) + 1))).setCell ⟨w.heap.size + 1 + 1 + 1, 0, none⟩ (.int .i64 0)).setCell ⟨w.heap.size + 1 + 1 + 1 + 1, 0, none⟩ (.int .i64 0)) (out ++ [UInt8.ofNat n]) 0 0 := by
 have e : ((UInt8.ofNat n).toNat : Int) = n := by rw [UInt8.toNat_ofNat']; omega
 have ha := h.arr.set out.length (.int .u8 ((UInt8.ofNat n).toNat : Int))
 rw [arrB_set, pad4_set h4, e] at ha
 have hk := h.bk.one (.int .i64 ((out.length : Int) + 1))
 have ek : ((out.length : Int) + 1) = (((out ++ [UInt8.ofNat n]).length : Nat) : Int) := by simp
 refine ⟨(((h.res.other _ _ (by simp)).other _ _ (by simp <;> omega)).other _ _ (by simp <;> omega)).other _ _ (by simp <;> omega), ((ha.other _ _ (by simp)).other _ _ (by simp <;> omega)).other _ _ (by simp <;> omega), ?_, ((((h.bn.other _ _ (by simp <;> omega)).other _ _ (by simp))).one _).other _ _ (by simp), (((h.bs.other _ _ (by simp <;> omega)).other _ _ (by simp <;> omega)).other _ _ (by simp)).one _, (((h.below.setCell (by simp <;> omega) _).setCell (by simp <;> omega) _).setCell (by simp <;> omega) _).setCell (by simp <;> omega) _⟩
 have := (((h.bk.other ⟨w.heap.size + 1, out.length, none⟩ (.int .u8 n) (by simp)).one (.int .i64 ((out.length : Int) + 1))).other ⟨w.heap.size + 1 + 1 + 1, 0, none⟩ (.int .i64 0) (by simp)).other ⟨w.heap.size + 1 + 1 + 1 + 1, 0, none⟩ (.int .i64 0) (by simp <;> omega)
 rw [← ek]
 exact this
theorem DotB.dig {w W : World} {out : List UInt8} {n signs : Nat} (h : DotB w W out n signs) (n' s' : Nat) :
  DotB w ((W.setCell ⟨w.heap.size + 1 + 1 + 1, 0, none⟩ (.int .i64 n')).setCell ⟨w.heap.size + 1 + 1 + 1 + 1, 0, none⟩ (.int .i64 s')) out n' s' :=
 ⟨(h.res.other _ _ (by simp <;> omega)).other _ _ (by simp <;> omega), (h.arr.other _ _ (by simp <;> omega)).other _ _ (by simp <;> omega), (h.bk.other _ _ (by simp)).other _ _ (by simp <;> omega), (h.bn.one _).other _ _ (by simp), (h.bs.other _ _ (by simp)).one _, (h.below.setCell (by simp <;> omega) _).setCell (by simp <;> omega) _⟩
theorem iterPos_of {W : World} {k : Nat} {s : ByteArray} {pos : Nat} (h : W.heap[k]? = some (.stringIter s pos)) : iterPos W k = pos := by unfold iterPos; rw [h]
theorem iter_other {W : World} {k : Nat} {o : Obj} (h : W.heap[k]? = some o) (a : Addr) (v : Value) (hne : k ≠ a.block) : (W.setCell a v).heap[k]? = some o := (Below.heap_setCell W a v k hne).trans h
theorem dotted_Parse (l : List UInt8) (hl : l.length ≤ 1073741824) (w : World) :
  Calls Tryz.prog 127 #[.string (str l)] w fun e w' => e = .returned (.tuple #[.agg (arrB ((dotted l).getD [0, 0, 0, 0])), .bool (dotted l).isSome]) ∧ Below w.heap.size w w' := by
 have hmf : ∀ (fn : Fn) (first cap : Array Value) (w : World), (Instr.makeFunc fn first cap).run Tryz.prog w = .ok (.func fn first cap) w := fun _ _ _ _ => rfl
 go_enter Tryz.func127, Tryz.ntmps127
 go_wp2_with fail
 go_loopw [10] (fun vc wr => ∃ (pos : Nat) (out : List UInt8) (n signs : Nat), Hid (DotS w l wr pos out n signs)) (fun _ wr => l.length - iterPos wr (w.heap.size + 1 + 1 + 1 + 1 + 1))
 case atStart =>
  have z4 : arrB [0, 0, 0, 0] = #[.int .u8 0, .int .u8 0, .int .u8 0, .int .u8 0] := rfl
  let w1 := w.alloc (.cells #[.int .u8 0, .int .u8 0, .int .u8 0, .int .u8 0] 56)
  let w2 := w1.alloc (.cells #[.int .u8 0, .int .u8 0, .int .u8 0, .int .u8 0] 56)
  let w3 := w2.alloc (.cells #[.int .i64 0] 3)
  let w4 := w3.alloc (.cells #[.int .i64 0] 3)
  let w5 := w4.alloc (.cells #[.int .i64 0] 3)
  have s1 : w1.heap.size = w.heap.size + 1 := World.size_alloc _ _
  have s2 : w2.heap.size = w.heap.size + 1 + 1 := (World.size_alloc _ _).trans (by rw [s1])
  have s3 : w3.heap.size = w.heap.size + 1 + 1 + 1 := (World.size_alloc _ _).trans (by rw [s2])
  have s4 : w4.heap.size = w.heap.size + 1 + 1 + 1 + 1 := (World.size_alloc _ _).trans (by rw [s3])
  have s5 : w5.heap.size = w.heap.size + 1 + 1 + 1 + 1 + 1 := (World.size_alloc _ _).trans (by rw [s4])
  have b0 : Blk w1 w.heap.size 56 (arrB [0, 0, 0, 0]) := Blk.new _ _ _
  have b1 : Blk w2 (w.heap.size + 1) 56 (arrB (pad4 [])) := by rw [← s1]; exact Blk.new _ _ _
  have b2 : Blk w3 (w.heap.size + 1 + 1) 3 #[.int .i64 0] := by rw [← s2]; exact Blk.new _ _ _
  have b3 : Blk w4 (w.heap.size + 1 + 1 + 1) 3 #[.int .i64 0] := by rw [← s3]; exact Blk.new _ _ _
  have b4 : Blk w5 (w.heap.size + 1 + 1 + 1 + 1) 3 #[.int .i64 0] := by rw [← s4]; exact Blk.new _ _ _
  have hit := heap_alloc_new w5 (.stringIter (str l) 0)
  rw [s5] at hit
  refine ⟨0, [], 0, 0, qh ⟨Nat.zero_le _, by simp, Nat.le_refl _, by omega, ⟨((((b0.alloc _).alloc _).alloc _).alloc _).alloc _, (((b1.alloc _).alloc _).alloc _).alloc _, ((b2.alloc _).alloc _).alloc _, (b3.alloc _).alloc _, b4.alloc _, ?_⟩, hit, by rw [List.drop_zero]; exact (dotScan_dotted l).symm⟩⟩
  exact (((((belowA w _).alloc (by simp) _).alloc (by simp <;> omega) _).alloc (by simp <;> omega) _).alloc (by simp <;> omega) _).alloc (by simp <;> omega) _
 case round =>
  obtain ⟨pos, out, n, signs, HU⟩ := hrel
  have hip : Hid (iterPos wr (w.heap.size + 1 + 1 + 1 + 1 + 1) = pos) := by unfold iterPos; rw [HU.out.iter]; exact qh rfl
  by_cases hlt : pos < l.length
  ·have hps : pos < (str l).size := by rw [str_size]; exact hlt
   obtain ⟨c, hc0⟩ : ∃ c : UInt8, l[pos]'hlt = c := ⟨_, rfl⟩
   have hdr : l.drop pos = c :: l.drop (pos + 1) := by rw [List.drop_eq_getElem_cons hlt, hc0]
   have hgs := get_str l pos hlt
   rw [hc0] at hgs
   by_cases hb : 128 ≤ c.toNat
   ·have hnx := fun ty => Lib.run_next_any_at (P := Tryz.prog) wr (w.heap.size + 1 + 1 + 1 + 1 + 1) (str l) pos ty HU.out.iter hps
    obtain ⟨d1, d2⟩ := decode_big (str l) pos (by rw [hgs]; exact hb)
    have HN : Hid (dotted l = none) := by
     rw [HU.out.eq, hdr, dotScan, if_neg (by omega), if_pos (by omega)]; exact qh rfl
    have HB := qh (HU.out.b.iterAt HU.out.iter (pos + (Utf8.decode (str l) pos).2))
    generalize Utf8.decode (str l) pos = q at d1 d2 hnx HB
    obtain ⟨q1, q2⟩ := q
    simp only at d1 d2 hnx HB
    obtain ⟨r0, r1, r2, r3⟩ := HB.out.res.cells4
    have fr := HB.out.res.frozen'
    clear hc0 hdr hgs
    go_wp2_with fail
    have hr := Blk.setV4 (x0 := .int .u8 0) (x1 := .int .u8 0) (x2 := .int .u8 0) (x3 := .int .u8 0) (show Blk _ w.heap.size _ #[.int .u8 0, .int .u8 0, .int .u8 0, .int .u8 0] from HB.out.res)
    refine bodyPost_ret (results_cell_tmp rfl _ _ _ _ _ _ _ rfl hr Tryz.underlying56 rfl info4) rfl ⟨by rw [HN.out]; rfl, below_setV4 HB.out.below (Nat.le_refl _)⟩
   ·have hc1 : (str l)[pos].toNat < 128 := by rw [str_get, hc0]; omega
    have hnx := fun ty => Lib.run_next_ascii_at (P := Tryz.prog) wr (w.heap.size + 1 + 1 + 1 + 1 + 1) (str l) pos ty HU.out.iter hps hc1
    have hcc : (str l)[pos].toNat = c.toNat := by rw [str_get, hc0]
    rw [hcc] at hnx
    have HB := qh (HU.out.b.iterAt HU.out.iter (pos + 1))
    have HI := qh (iterAt_pos HU.out.iter (pos + 1))
    have HE : Hid (dotted l = if c.toNat = 46 then (if signs = 0 ∨ out.length = 4 then none else dotScan (out ++ [UInt8.ofNat n]) 0 0 (l.drop (pos + 1)))
      else if c.toNat < 48 ∨ 57 < c.toNat ∨ (0 < signs ∧ n = 0) then none
      else if 255 < 10 * n + (c.toNat - 48) then none else dotScan out (10 * n + (c.toNat - 48)) (signs + 1) (l.drop (pos + 1))) := by
     rw [HU.out.eq, hdr, dotScan]; exact qh rfl
    have hc2 : c.toNat < 128 := by omega
    clear hc0 hdr hgs hb hc1 hcc
    generalize c.toNat = cn at hnx hc2 HE
    obtain ⟨r0, r1, r2, r3⟩ := HB.out.res.cells4
    have fr := HB.out.res.frozen'
    have cS := HB.out.bs.cell 0
    have cN := HB.out.bn.cell 0
    simp only [List.getElem?_toArray, List.getElem?_cons_zero] at cS cN
    have fS := HB.out.bs.frozen' 0
    have fN := HB.out.bn.frozen' 0
    by_cases h46 : cn = 46
    ·subst h46
     by_cases hno : signs = 0 ∨ out.length = 4
     ·have HN : Hid (dotted l = none) := by rw [HE.out, if_pos rfl, if_pos hno]; exact qh rfl
      have HC := qh (dot_end_no (w.heap.size + 1) (w.heap.size + 1 + 1) (w.heap.size + 1 + 1 + 1) (w.heap.size + 1 + 1 + 1 + 1) out n signs HU.out.ol HU.out.nl _ HB.out.arr HB.out.bk HB.out.bn HB.out.bs (by omega) (by omega) (by omega) (by omega) (by omega) (by omega) hno)
      clear hno
      go_wp2_with fail
      refine HC.out.mono ?_
      rintro e w1 ⟨rfl, rfl⟩
      go_wp2_with fail
      have hr := Blk.setV4 (x0 := .int .u8 0) (x1 := .int .u8 0) (x2 := .int .u8 0) (x3 := .int .u8 0) (show Blk _ w.heap.size _ #[.int .u8 0, .int .u8 0, .int .u8 0, .int .u8 0] from HB.out.res)
      refine bodyPost_ret (results_cell_tmp rfl _ _ _ _ _ _ _ rfl hr Tryz.underlying56 rfl info4) rfl ⟨by rw [HN.out]; rfl, below_setV4 HB.out.below (Nat.le_refl _)⟩
     ·have HN : Hid (dotted l = dotScan (out ++ [UInt8.ofNat n]) 0 0 (l.drop (pos + 1))) := by rw [HE.out, if_pos rfl, if_neg hno]; exact qh rfl
      have h4 : out.length < 4 := by have := HU.out.ol; omega
      have HC := qh (dot_end_yes (w.heap.size + 1) (w.heap.size + 1 + 1) (w.heap.size + 1 + 1 + 1) (w.heap.size + 1 + 1 + 1 + 1) out n signs HU.out.ol HU.out.nl _ HB.out.arr HB.out.bk HB.out.bn HB.out.bs (by omega) (by omega) (by omega) (by omega) (by omega) (by omega) (by omega) h4)
      clear hno
      go_wp2_with fail
      refine HC.out.mono ?_
      rintro e w1 ⟨rfl, rfl⟩
      go_wp2_with fail
      have hit := iter_other (iter_other (iter_other (iter_other HI.out.1 ⟨w.heap.size + 1, out.length, none⟩ (.int .u8 n) (by simp <;> omega)) ⟨w.heap.size + 1 + 1, 0, none⟩ (.int .i64 ((out.length : Int) + 1)) (by simp <;> omega)) ⟨w.heap.size + 1 + 1 + 1, 0, none⟩ (.int .i64 0) (by simp <;> omega)) ⟨w.heap.size + 1 + 1 + 1 + 1, 0, none⟩ (.int .i64 0) (by simp)
      refine ⟨⟨pos + 1, out ++ [UInt8.ofNat n], 0, 0, qh ⟨hlt, by simp; omega, Nat.zero_le _, by omega, HB.out.yes h4 HU.out.nl, hit, HN.out⟩⟩, ?_⟩
      rw [hip.out, iterPos_of hit]
      omega
    ·by_cases hbad : cn < 48 ∨ 57 < cn ∨ (0 < signs ∧ n = 0)
     ·have HN : Hid (dotted l = none) := by rw [HE.out, if_neg h46, if_pos hbad]; exact qh rfl
      have h46' : ((cn : Int) == 46) = false := by rw [beq_eq_false_iff_ne]; omega
      clear h46
      rcases hbad with h | h | ⟨h, h0⟩
      ·go_wp2_with fail
       have hr := Blk.setV4 (x0 := .int .u8 0) (x1 := .int .u8 0) (x2 := .int .u8 0) (x3 := .int .u8 0) (show Blk _ w.heap.size _ #[.int .u8 0, .int .u8 0, .int .u8 0, .int .u8 0] from HB.out.res)
       refine bodyPost_ret (results_cell_tmp rfl _ _ _ _ _ _ _ rfl hr Tryz.underlying56 rfl info4) rfl ⟨by rw [HN.out]; rfl, below_setV4 HB.out.below (Nat.le_refl _)⟩
      ·go_wp2_with fail
       have hr := Blk.setV4 (x0 := .int .u8 0) (x1 := .int .u8 0) (x2 := .int .u8 0) (x3 := .int .u8 0) (show Blk _ w.heap.size _ #[.int .u8 0, .int .u8 0, .int .u8 0, .int .u8 0] from HB.out.res)
       refine bodyPost_ret (results_cell_tmp rfl _ _ _ _ _ _ _ rfl hr Tryz.underlying56 rfl info4) rfl ⟨by rw [HN.out]; rfl, below_setV4 HB.out.below (Nat.le_refl _)⟩
      ·subst h0
       have hs1 : (0 : Int) < signs := by omega
       by_cases h5 : cn < 48
       ·go_wp2_with fail
        have hr := Blk.setV4 (x0 := .int .u8 0) (x1 := .int .u8 0) (x2 := .int .u8 0) (x3 := .int .u8 0) (show Blk _ w.heap.size _ #[.int .u8 0, .int .u8 0, .int .u8 0, .int .u8 0] from HB.out.res)
        refine bodyPost_ret (results_cell_tmp rfl _ _ _ _ _ _ _ rfl hr Tryz.underlying56 rfl info4) rfl ⟨by rw [HN.out]; rfl, below_setV4 HB.out.below (Nat.le_refl _)⟩
       ·by_cases h6 : 57 < cn
        ·go_wp2_with fail
         have hr := Blk.setV4 (x0 := .int .u8 0) (x1 := .int .u8 0) (x2 := .int .u8 0) (x3 := .int .u8 0) (show Blk _ w.heap.size _ #[.int .u8 0, .int .u8 0, .int .u8 0, .int .u8 0] from HB.out.res)
         refine bodyPost_ret (results_cell_tmp rfl _ _ _ _ _ _ _ rfl hr Tryz.underlying56 rfl info4) rfl ⟨by rw [HN.out]; rfl, below_setV4 HB.out.below (Nat.le_refl _)⟩
        ·go_wp2_with fail
         have hr := Blk.setV4 (x0 := .int .u8 0) (x1 := .int .u8 0) (x2 := .int .u8 0) (x3 := .int .u8 0) (show Blk _ w.heap.size _ #[.int .u8 0, .int .u8 0, .int .u8 0, .int .u8 0] from HB.out.res)
         refine bodyPost_ret (results_cell_tmp rfl _ _ _ _ _ _ _ rfl hr Tryz.underlying56 rfl info4) rfl ⟨by rw [HN.out]; rfl, below_setV4 HB.out.below (Nat.le_refl _)⟩
     ·have h46' : ((cn : Int) == 46) = false := by rw [beq_eq_false_iff_ne]; omega
      obtain ⟨q, hq⟩ : ∃ q : Nat, cn = q + 48 := ⟨cn - 48, by omega⟩
      have hq9 : q ≤ 9 := by omega
      have hE2 : Hid (dotted l = if 255 < 10 * n + q then none else dotScan out (10 * n + q) (signs + 1) (l.drop (pos + 1))) := by
       rw [HE.out, if_neg h46, if_neg hbad, show cn - 48 = q by omega]; exact qh rfl
      have hx : (0 : Int) < signs → ((n : Int) == 0) = false := fun h => by rw [beq_eq_false_iff_ne]; omega
      have hnl := HU.out.nl
      have hsl : signs ≤ l.length := Nat.le_trans HU.out.sl HU.out.le
      have hsl2 := HU.out.sl
      subst hq
      have c46 : (((q + 48 : Nat) : Int) == 46) = false := h46'
      have v1 : IntKind.i32.wrap (((q + 48 : Nat) : Int) - 48) = (q : Int) := by rw [show ((q + 48 : Nat) : Int) - 48 = (q : Int) by omega]; exact IntWalk.i32_in _ (by omega)
      have v2 : IntKind.i64.wrap (10 * (n : Int)) = 10 * (n : Int) := IntWalk.i64_in _ (by omega)
      have v3 : IntKind.i64.wrap (10 * (n : Int) + q) = ((10 * n + q : Nat) : Int) := by rw [IntWalk.i64_in _ (by omega)]; omega
      have v4 : IntKind.i64.wrap ((signs : Int) + 1) = ((signs + 1 : Nat) : Int) := by rw [IntWalk.i64_in _ (by omega)]; omega
      have u1 : ¬ ((q + 48 : Nat) : Int) < 48 := by omega
      have u2 : ¬ (57 : Int) < ((q + 48 : Nat) : Int) := by omega
      clear h46 h46' hbad
      generalize (q + 48 : Nat) = cn at hnx v1 u1 u2 c46 hc2 HE
      have cR : ∀ z : Nat, 255 < z → decide ((255 : Int) < (z : Int)) = true := fun z h => decide_eq_true (by omega)
      by_cases hz : (0 : Int) < signs
      ·have hnz := hx hz
       clear hx
       by_cases hg : 255 < 10 * n + q
       ·have HN : Hid (dotted l = none) := by rw [hE2.out, if_pos hg]; exact qh rfl
        have hgi : (255 : Int) < ((10 * n + q : Nat) : Int) := by omega
        go_wp2_with fail
        have hD := HB.out.dig (10 * n + q) (signs + 1)
        have hr := Blk.setV4 (x0 := .int .u8 0) (x1 := .int .u8 0) (x2 := .int .u8 0) (x3 := .int .u8 0) (show Blk _ w.heap.size _ #[.int .u8 0, .int .u8 0, .int .u8 0, .int .u8 0] from hD.res)
        refine bodyPost_ret (results_cell_tmp rfl _ _ _ _ _ _ _ rfl hr Tryz.underlying56 rfl info4) rfl ⟨by rw [HN.out]; rfl, below_setV4 hD.below (Nat.le_refl _)⟩
       ·have HN : Hid (dotted l = dotScan out (10 * n + q) (signs + 1) (l.drop (pos + 1))) := by rw [hE2.out, if_neg hg]; exact qh rfl
        have hgi : ¬ (255 : Int) < ((10 * n + q : Nat) : Int) := by omega
        go_wp2_with fail
        have hD := HB.out.dig (10 * n + q) (signs + 1)
        have hit := iter_other (iter_other HI.out.1 ⟨w.heap.size + 1 + 1 + 1, 0, none⟩ (.int .i64 ((10 * n + q : Nat) : Int)) (by simp <;> omega)) ⟨w.heap.size + 1 + 1 + 1 + 1, 0, none⟩ (.int .i64 ((signs + 1 : Nat) : Int)) (by simp)
        refine ⟨⟨pos + 1, out, 10 * n + q, signs + 1, qh ⟨hlt, HU.out.ol, by omega, by omega, hD, hit, HN.out⟩⟩, ?_⟩
        rw [hip.out]
        exact (show ∀ x : Nat, x = pos + 1 → l.length - x < l.length - pos from fun x hx => by omega) _ (iterPos_of hit)
      ·clear hx
       by_cases hg : 255 < 10 * n + q
       ·have HN : Hid (dotted l = none) := by rw [hE2.out, if_pos hg]; exact qh rfl
        have hgi : (255 : Int) < ((10 * n + q : Nat) : Int) := by omega
        go_wp2_with fail
        have hD := HB.out.dig (10 * n + q) (signs + 1)
        have hr := Blk.setV4 (x0 := .int .u8 0) (x1 := .int .u8 0) (x2 := .int .u8 0) (x3 := .int .u8 0) (show Blk _ w.heap.size _ #[.int .u8 0, .int .u8 0, .int .u8 0, .int .u8 0] from hD.res)
        refine bodyPost_ret (results_cell_tmp rfl _ _ _ _ _ _ _ rfl hr Tryz.underlying56 rfl info4) rfl ⟨by rw [HN.out]; rfl, below_setV4 hD.below (Nat.le_refl _)⟩
       ·have HN : Hid (dotted l = dotScan out (10 * n + q) (signs + 1) (l.drop (pos + 1))) := by rw [hE2.out, if_neg hg]; exact qh rfl
        have hgi : ¬ (255 : Int) < ((10 * n + q : Nat) : Int) := by omega
        go_wp2_with fail
        have hD := HB.out.dig (10 * n + q) (signs + 1)
        have hit := iter_other (iter_other HI.out.1 ⟨w.heap.size + 1 + 1 + 1, 0, none⟩ (.int .i64 ((10 * n + q : Nat) : Int)) (by simp <;> omega)) ⟨w.heap.size + 1 + 1 + 1 + 1, 0, none⟩ (.int .i64 ((signs + 1 : Nat) : Int)) (by simp)
        refine ⟨⟨pos + 1, out, 10 * n + q, signs + 1, qh ⟨hlt, HU.out.ol, by omega, by omega, hD, hit, HN.out⟩⟩, ?_⟩
        rw [hip.out]
        exact (show ∀ x : Nat, x = pos + 1 → l.length - x < l.length - pos from fun x hx => by omega) _ (iterPos_of hit)
  ·have hps : ¬ pos < (str l).size := by rw [str_size]; exact hlt
   have hnx := fun ty => Lib.run_next_end_at (P := Tryz.prog) wr (w.heap.size + 1 + 1 + 1 + 1 + 1) (str l) pos ty HU.out.iter hps
   have HE : Hid (dotted l = if signs = 0 ∨ out.length = 4 then none else if out.length + 1 = 4 then some (out ++ [UInt8.ofNat n]) else none) := by
    rw [HU.out.eq, List.drop_eq_nil_of_le (by omega)]; exact qh rfl
   have HB := qh HU.out.b
   obtain ⟨r0, r1, r2, r3⟩ := HB.out.res.cells4
   have fr := HB.out.res.frozen'
   by_cases hno : signs = 0 ∨ out.length = 4
   ·have HN : Hid (dotted l = none) := by rw [HE.out, if_pos hno]; exact qh rfl
    have HC := qh (dot_end_no (w.heap.size + 1) (w.heap.size + 1 + 1) (w.heap.size + 1 + 1 + 1) (w.heap.size + 1 + 1 + 1 + 1) out n signs HU.out.ol HU.out.nl _ HB.out.arr HB.out.bk HB.out.bn HB.out.bs (by omega) (by omega) (by omega) (by omega) (by omega) (by omega) hno)
    clear hno
    go_wp2_with fail
    refine HC.out.mono ?_
    rintro e w1 ⟨rfl, rfl⟩
    go_wp2_with fail
    have hr := Blk.setV4 (x0 := .int .u8 0) (x1 := .int .u8 0) (x2 := .int .u8 0) (x3 := .int .u8 0) (show Blk _ w.heap.size _ #[.int .u8 0, .int .u8 0, .int .u8 0, .int .u8 0] from HB.out.res)
    refine bodyPost_ret (results_cell_tmp rfl _ _ _ _ _ _ _ rfl hr Tryz.underlying56 rfl info4) rfl ⟨by rw [HN.out]; rfl, below_setV4 HB.out.below (Nat.le_refl _)⟩
   ·have h4 : out.length < 4 := by have := HU.out.ol; omega
    have HC := qh (dot_end_yes (w.heap.size + 1) (w.heap.size + 1 + 1) (w.heap.size + 1 + 1 + 1) (w.heap.size + 1 + 1 + 1 + 1) out n signs HU.out.ol HU.out.nl _ HB.out.arr HB.out.bk HB.out.bn HB.out.bs (by omega) (by omega) (by omega) (by omega) (by omega) (by omega) (by omega) h4)
    by_cases h3 : out.length + 1 = 4
    ·have HN : Hid (dotted l = some (out ++ [UInt8.ofNat n])) := by rw [HE.out, if_neg hno, if_pos h3]; exact qh rfl
     clear hno r0 r1 r2 r3 fr
     go_wp2_with fail
     refine HC.out.mono ?_
     rintro e w1 ⟨rfl, hw1⟩
     have hY := HB.out.yes h4 HU.out.nl
     rw [← hw1] at hY
     clear hw1
     obtain ⟨y0, y1, y2, y3⟩ := hY.res.cells4
     have fy := hY.res.frozen'
     have ck := hY.bk.cell 0
     simp only [List.getElem?_toArray, List.getElem?_cons_zero] at ck
     have hlen : (out ++ [UInt8.ofNat n]).length = 4 := by simp; omega
     have hpf := pad4_full hlen
     have harr := hY.arr
     rw [hpf] at harr
     obtain ⟨z0, z1, z2, z3, hz⟩ := list4 hlen
     rw [hlen] at ck
     rw [hz] at harr
     obtain ⟨q0, q1, q2, q3⟩ := harr.cells4
     have HY := qh hY
     have HZ := qh hz
     clear hz hpf harr hlen hY
     go_wp2_with fail
     have hr := Blk.setV4 (x0 := .int .u8 (z0.toNat : Int)) (x1 := .int .u8 (z1.toNat : Int)) (x2 := .int .u8 (z2.toNat : Int)) (x3 := .int .u8 (z3.toNat : Int)) (show Blk _ w.heap.size _ #[.int .u8 0, .int .u8 0, .int .u8 0, .int .u8 0] from HY.out.res)
     refine bodyPost_ret (results_cell_tmp rfl _ _ _ _ _ _ _ rfl hr Tryz.underlying56 rfl info4) rfl ⟨by rw [HN.out, HZ.out]; rfl, below_setV4 HY.out.below (Nat.le_refl _)⟩
    ·have HN : Hid (dotted l = none) := by rw [HE.out, if_neg hno, if_neg h3]; exact qh rfl
     clear hno r0 r1 r2 r3 fr
     go_wp2_with fail
     refine HC.out.mono ?_
     rintro e w1 ⟨rfl, hw1⟩
     have hY := HB.out.yes h4 HU.out.nl
     rw [← hw1] at hY
     clear hw1
     obtain ⟨y0, y1, y2, y3⟩ := hY.res.cells4
     have fy := hY.res.frozen'
     have ck := hY.bk.cell 0
     simp only [List.getElem?_toArray, List.getElem?_cons_zero] at ck
     have hlen : (out ++ [UInt8.ofNat n]).length = out.length + 1 := by simp
     rw [hlen] at ck
     have hne : (((out.length + 1 : Nat) : Int) == 4) = false := by rw [beq_eq_false_iff_ne]; omega
     generalize out.length + 1 = q at ck hne
     have HY := qh hY
     clear hY hlen
     go_wp2_with fail
     have hr := Blk.setV4 (x0 := .int .u8 0) (x1 := .int .u8 0) (x2 := .int .u8 0) (x3 := .int .u8 0) (show Blk _ w.heap.size _ #[.int .u8 0, .int .u8 0, .int .u8 0, .int .u8 0] from HY.out.res)
     refine bodyPost_ret (results_cell_tmp rfl _ _ _ _ _ _ _ rfl hr Tryz.underlying56 rfl info4) rfl ⟨by rw [HN.out]; rfl, below_setV4 HY.out.below (Nat.le_refl _)⟩
end Go.Proofs.YtdbgeobolongmaaGreatDoor
namespace Go.Proofs.YtdbgeobolongmaaGreatDoor
open Go.RowKit Go.Shelf Go.Proofs Go.OctetPlain Go.ColonPlain
theorem slr_win {W : World} {g : Nat} {t : TypeId} {G : List Nat} (h : Blk W g t (arrI (ints G))) (k n cap : Nat) (hn : k + n ≤ G.length) (hc : n ≤ cap) (hc2 : cap ≤ 9223372036854775807) : SlR W 1 encN (.slice (some ⟨g, k, none⟩) n cap) ((G.drop k).take n) := by
 have hl : ((G.drop k).take n).length = n := by rw [List.length_take, List.length_drop]; omega
 refine ⟨_, cap, by rw [hl], by omega, hc2, (fun e => by cases e), fun a ha _ => ?_⟩
 cases ha
 refine ⟨rfl, h.lt, fun i x hx j u hu => ?_⟩
 have hj : j = 0 := by have := (List.getElem?_eq_some_iff.1 hu).1; simpa [encN] using this
 subst hj
 simp only [encN, List.getElem?_cons_zero, Option.some.injEq] at hu
 subst hu
 simp only [Nat.mul_one, Nat.add_zero]
 rw [h.cell (k + i)]
 apply arrI_get
 apply ints_get
 rw [List.getElem?_take] at hx
 split at hx
 ·rw [List.getElem?_drop] at hx; exact hx
 ·cases hx
structure TJ (w : World) (B : Nat) (G : List Nat) (W : World) : Prop where
 ct : CT W
 blk : Blk W B 155 (arrI (ints G))
 below : Below w.heap.size w W
theorem TJ.next {w : World} {B : Nat} {G : List Nat} {W W' : World} (h : TJ w B G W) (hb : Below W.heap.size W W') : TJ w B G W' :=
 ⟨h.ct.below hb, h.blk.below hb h.blk.lt, h.below.trans (hb.mono h.below.size)⟩
theorem TJ.drew {w : World} {B : Nat} {G : List Nat} {W : World} (h : TJ w B G W) : TJ w B G W.drew := h.next (Below.refl _ _).drew
theorem colon_Show (l : List UInt8) (hl : l.length = 16) (w : World) (ht : CT w) :
  Calls Tryz.prog 43 #[.agg (arrB l)] w fun e w' => e = .returned (.string (str (show_ l))) ∧ Below w.heap.size w w' := by
 obtain ⟨y0, y1, y2, y3, y4, y5, y6, y7, y8, y9, y10, y11, y12, y13, y14, y15, hy⟩ := list16 hl
 have hgl : (groupsOf l).length = 8 := groups_length 8 l (by omega)
 obtain ⟨g0, g1, g2, g3, g4, g5, g6, g7, hg⟩ := list8 hgl
 have hX : arrB l = #[.int .u8 (y0.toNat : Int), .int .u8 (y1.toNat : Int), .int .u8 (y2.toNat : Int), .int .u8 (y3.toNat : Int), .int .u8 (y4.toNat : Int), .int .u8 (y5.toNat : Int), .int .u8 (y6.toNat : Int), .int .u8 (y7.toNat : Int), .int .u8 (y8.toNat : Int), .int .u8 (y9.toNat : Int), .int .u8 (y10.toNat : Int), .int .u8 (y11.toNat : Int), .int .u8 (y12.toNat : Int), .int .u8 (y13.toNat : Int), .int .u8 (y14.toNat : Int), .int .u8 (y15.toNat : Int)] := by rw [hy]; rfl
 have hGr := fun W => colon_Groups l hl W
 have hGI : arrI (ints (groupsOf l)) = #[.int .i64 (g0 : Int), .int .i64 (g1 : Int), .int .i64 (g2 : Int), .int .i64 (g3 : Int), .int .i64 (g4 : Int), .int .i64 (g5 : Int), .int .i64 (g6 : Int), .int .i64 (g7 : Int)] := by rw [hg]; rfl
 have hRn := fun W => colon_run (groupsOf l) hgl W
 rw [hX] at hGr ⊢
 rw [hGI] at hGr hRn
 have HGr := qh hGr
 have HRn := qh hRn
 have HX := qh hX
 have HT := qh ht
 have HG := qh hg
 clear hX hy hg hGI hGr hRn ht
 go_enter Tryz.func43, Tryz.ntmps43
 go_wp2_with fail
 refine (HGr.out _).mono ?_
 rintro e w1 ⟨rfl, hb1⟩
 go_wp2_with fail
 have T1 : Hid (TJ w w1.heap.size (groupsOf l) (w1.alloc (.cells #[.int .i64 (g0 : Int), .int .i64 (g1 : Int), .int .i64 (g2 : Int), .int .i64 (g3 : Int), .int .i64 (g4 : Int), .int .i64 (g5 : Int), .int .i64 (g6 : Int), .int .i64 (g7 : Int)] 155))) := by
  have hB := Blk.new w1 155 #[.int .i64 (g0 : Int), .int .i64 (g1 : Int), .int .i64 (g2 : Int), .int .i64 (g3 : Int), .int .i64 (g4 : Int), .int .i64 (g5 : Int), .int .i64 (g6 : Int), .int .i64 (g7 : Int)]
  refine qh ⟨(HT.out.below (belowA2 hb1)).below (belowA w1 _), by rw [HG.out]; exact hB, (belowA2 hb1).trans ((belowA w1 _).mono (by have := (belowA2 hb1).size; exact this))⟩
 refine (HRn.out _).mono ?_
 rintro e w2 ⟨rfl, hb2⟩
 have T2 := T1.out.next hb2
 have hlt := groups_lt l
 have HLT := qh hlt
 have hzl : (zs (groupsOf l)).length = 8 := by rw [zs_length, hgl]
 obtain ⟨r1, r2, r3, r4⟩ := runFrom_spec (zs (groupsOf l)) (zs (groupsOf l)) 0 0 0 0 rfl (by omega) (Nat.le_refl _) (fun j _ hj => by omega) (Nat.le_refl _) (Nat.le_refl _) (Or.inl rfl) (fun j _ hj => by omega)
 have er : runFrom 0 0 0 0 (zs (groupsOf l)) = run (groupsOf l) := rfl
 rw [er] at r1 r2
 have HS : Hid (show_ l = if (run (groupsOf l)).1 = (run (groupsOf l)).2 then joinF hexN (groupsOf l) else joinF hexN ((groupsOf l).take (run (groupsOf l)).1) ++ 58 :: 58 :: joinF hexN ((groupsOf l).drop (run (groupsOf l)).2)) := rfl
 clear hb1 hb2 r3 r4 er hlt
 generalize run (groupsOf l) = rr at r1 r2 HS ⊢
 obtain ⟨f, t⟩ := rr
 simp only at r1 r2 HS ⊢
 rw [hzl] at r2
 clear hzl T1
 have hal : Tryz.prog.arrayLen 155 = 8 := by kernel_rfl
 by_cases hft : f = t
 ·subst hft
  have HS1 : Hid (show_ l = joinF hexN (groupsOf l)) := by rw [HS.out, if_pos rfl]; exact qh rfl
  have hw := slr_win T2.blk 0 8 8 (by omega) (by omega) (by omega)
  rw [List.drop_zero, List.take_of_length_le (by omega)] at hw
  have HC := qh (colon_joined (groupsOf l) (by omega) HLT.out _ w2 T2.ct hw)
  have HB2 := qh T2.below
  clear hw T2 HS
  go_wp2_with fail
  refine HC.out.mono ?_
  rintro e w3 ⟨rfl, hb3⟩
  go_wp2_with fail
  go_ret
  exact ⟨by rw [HS1.out]; rfl, HB2.out.trans (hb3.mono HB2.out.size)⟩
 ·have HS1 : Hid (show_ l = joinF hexN ((groupsOf l).take f) ++ 58 :: 58 :: joinF hexN ((groupsOf l).drop t)) := by rw [HS.out, if_neg hft]; exact qh rfl
  have hf8 : (f : Int) ≤ 8 := by omega
  have ht8 : (t : Int) ≤ 8 := by omega
  have hfi : ¬ (f : Int) = t := by omega
  have hl1 := joinF_le hexN_length ((groupsOf l).take f)
  have hl2 := joinF_le hexN_length ((groupsOf l).drop t)
  rw [List.length_take] at hl1
  rw [List.length_drop] at hl2
  have s1 : (str (joinF hexN ((groupsOf l).take f))).size = (joinF hexN ((groupsOf l).take f)).length := str_size _
  have s2 : (str (joinF hexN ((groupsOf l).drop t))).size = (joinF hexN ((groupsOf l).drop t)).length := str_size _
  have n1 : (joinF hexN ((groupsOf l).take f)).length ≤ 1000 := by omega
  have n2 : (joinF hexN ((groupsOf l).drop t)).length ≤ 1000 := by omega
  have JA : Hid (∀ W, TJ w w1.heap.size (groupsOf l) W → Calls Tryz.prog 87 #[.slice (some ⟨w1.heap.size, 0, none⟩) f 8] W fun e w' => e = .returned (.string (str (joinF hexN ((groupsOf l).take f)))) ∧ Below W.heap.size W w') := by
   refine qh fun W h => colon_joined _ (by rw [List.length_take]; omega) (fun n hn => HLT.out n (List.mem_of_mem_take hn)) _ W h.ct ?_
   have := slr_win h.blk 0 f 8 (by omega) (by omega) (by omega)
   rw [List.drop_zero] at this
   exact this
  have T2d := T2.drew
  by_cases ht : t = 8
  ·have hd8 : (groupsOf l).drop t = [] := List.drop_eq_nil_of_le (by omega)
   have JB : Hid (∀ W, TJ w w1.heap.size (groupsOf l) W → Calls Tryz.prog 87 #[.slice (some ⟨w1.heap.size, 0, none⟩) 0 0] W fun e w' => e = .returned (.string (str (joinF hexN ((groupsOf l).drop t)))) ∧ Below W.heap.size W w') := by
    refine qh fun W h => colon_joined _ (by rw [List.length_drop]; omega) (fun n hn => HLT.out n (List.mem_of_mem_drop hn)) _ W h.ct ?_
    have := slr_win h.blk 0 0 0 (by omega) (by omega) (by omega)
    rw [hd8]
    exact this
   clear hl1 hl2 hd8
   generalize joinF hexN ((groupsOf l).take f) = A at *
   generalize joinF hexN ((groupsOf l).drop t) = Z at *
   have hz : ByteArray.size ⟨#[58, 58]⟩ = 2 := rfl
   have hcat : str A ++ ⟨#[58, 58]⟩ ++ str Z = str (A ++ 58 :: 58 :: Z) := by
    show str A ++ str [58, 58] ++ str Z = _
    rw [str_app, str_app]; simp
   have hcs : (str A ++ ⟨#[58, 58]⟩ : ByteArray).size = A.length + 2 := by rw [ByteArray.size_append, s1]; rfl
   have HCAT := qh hcat
   clear T2 hcat
   go_wp2_with fail
   go_region_with (first
    | (go_at_call_of 87 f; refine (JA.out _ (by assumption)).mono ?_; rintro e wa ⟨rfl, hba⟩; have hTa := TJ.next (w := w) (B := w1.heap.size) (G := groupsOf l) (by assumption) hba; clear hba)
    | (go_at_call 87; go_loud (refine (JB.out _ (by assumption)).mono ?_; rintro e wb ⟨rfl, hbb⟩; have hTb := TJ.next (w := w) (B := w1.heap.size) (G := groupsOf l) (by assumption) hbb; clear hbb)))
   all_goals go_wp2_with fail
   all_goals
    refine bodyPost_ret (v := .string (str A ++ ⟨#[58, 58]⟩ ++ str Z)) ?_ rfl ⟨by rw [HCAT.out, ← HS1.out], ?_⟩
    ·simp [results, Tryz.results43, go_sem]
    ·first | exact hTb.below | exact hTa.below
  ·have hne8 : ¬ 8 = t := by omega
   have JB : Hid (∀ W, TJ w w1.heap.size (groupsOf l) W → Calls Tryz.prog 87 #[.slice (some ⟨w1.heap.size, t, none⟩) (8 - t) (8 - t)] W fun e w' => e = .returned (.string (str (joinF hexN ((groupsOf l).drop t)))) ∧ Below W.heap.size W w') := by
    refine qh fun W h => colon_joined _ (by rw [List.length_drop]; omega) (fun n hn => HLT.out n (List.mem_of_mem_drop hn)) _ W h.ct ?_
    have := slr_win h.blk t (8 - t) (8 - t) (by omega) (by omega) (by omega)
    rw [List.take_of_length_le (by rw [List.length_drop]; omega)] at this
    exact this
   clear hl1 hl2
   generalize joinF hexN ((groupsOf l).take f) = A at *
   generalize joinF hexN ((groupsOf l).drop t) = Z at *
   have hz : ByteArray.size ⟨#[58, 58]⟩ = 2 := rfl
   have hcat : str A ++ ⟨#[58, 58]⟩ ++ str Z = str (A ++ 58 :: 58 :: Z) := by
    show str A ++ str [58, 58] ++ str Z = _
    rw [str_app, str_app]; simp
   have hcs : (str A ++ ⟨#[58, 58]⟩ : ByteArray).size = A.length + 2 := by rw [ByteArray.size_append, s1]; rfl
   have HCAT := qh hcat
   clear T2 hcat
   go_wp2_with fail
   go_region_with (first
    | (go_at_call_of 87 f; refine (JA.out _ (by assumption)).mono ?_; rintro e wa ⟨rfl, hba⟩; have hTa := TJ.next (w := w) (B := w1.heap.size) (G := groupsOf l) (by assumption) hba; clear hba)
    | (go_at_call 87; go_loud (refine (JB.out _ (by assumption)).mono ?_; rintro e wb ⟨rfl, hbb⟩; have hTb := TJ.next (w := w) (B := w1.heap.size) (G := groupsOf l) (by assumption) hbb; clear hbb)))
   all_goals go_wp2_with fail
   all_goals
    refine bodyPost_ret (v := .string (str A ++ ⟨#[58, 58]⟩ ++ str Z)) ?_ rfl ⟨by rw [HCAT.out, ← HS1.out], ?_⟩
    ·simp [results, Tryz.results43, go_sem]
    ·first | exact hTb.below | exact hTa.below
end Go.Proofs.YtdbgeobolongmaaGreatDoor
