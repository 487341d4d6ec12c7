/- Part of the proof: ScriptLines, ScriptParses, ScriptShows. -/
import Derived.Test.YtdbgeobolongmaaGreatDoorSA05
set_option linter.unusedVariables false
set_option linter.unusedSimpArgs false
set_option maxRecDepth 100000
set_option maxHeartbeats 4000000
namespace Go.Proofs.YtdbgeobolongmaaGreatDoor
open Go.RowKit Go.Shelf Go.Proofs Go.OctetPlain Go.ColonPlain Go.Proofs.Tryz
theorem info4 : (prog.info? 56).map (·.size) = some 4 := kf
def pad4 (out : List UInt8) : List UInt8 := out ++ List.replicate (4 - out.length) 0
theorem pad4_set {out : List UInt8} (h : out.length < 4) (c : UInt8) : (pad4 out).set out.length c = pad4 (out ++ [c]) := by
 unfold pad4; rw [tK _ _ zn, Nat.sub_self, show 4 - out.length = (4 - (out ++ [c]).length) + 1 from zo, List.replicate_succ, zDl]; simp
theorem pad4_len {out : List UInt8} (h : out.length <= 4) : (pad4 out).length = 4 := by unfold pad4; simp; omega
theorem pad4_full {out : List UInt8} (h : out.length = 4) : pad4 out = out := by unfold pad4; simp [h]
theorem dot_end_no (A K N S : Nat) (out : List UInt8) (n signs : Nat) (hol : out.length <= 4) (hn : n <= 255) (W : World)
  (hA : Blk W A 56 (arrB (pad4 out))) (hK : Blk W K 3 #[.int .i64 (out.length : Nat)]) (hN : Blk W N 3 #[.int .i64 n]) (hS : Blk W S 3 #[.int .i64 signs])
  (d1 : A ≠ K) (d2 : A ≠ N) (d3 : A ≠ S) (d4 : K ≠ N) (d5 : K ≠ S) (d6 : N ≠ S) (hno : signs = 0 ∨ out.length = 4) :
  Calls prog 158 #[.pointer (some ⟨S, 0, none⟩), .pointer (some ⟨K, 0, none⟩), .pointer (some ⟨N, 0, none⟩), .pointer (some ⟨A, 0, none⟩)] W fun e w' =>
   e = .returned (.bool false) /\ w' = W := by
 have k0 := hK.cell 0; have n0 := hN.cell 0; have s0 := hS.cell 0; simp only [xD, xA] at k0 n0 s0
 by_cases hs : signs = 0
 ·subst hs
  go_enter func158, ntmps158
  go_wp2
  go_ret
  exact ⟨rfl, rfl⟩
 ·have h4 : out.length = 4 := om
  have hs' : ¬ (signs : Int) = 0 := om; rw [h4] at k0
  go_enter func158, ntmps158
  go_wp2
  go_ret
  exact ⟨rfl, rfl⟩
theorem zFs (A K N S : Nat) (out : List UInt8) (n signs : Nat) (hol : out.length <= 4) (hn : n <= 255) (W : World)
  (hA : Blk W A 56 (arrB (pad4 out))) (hK : Blk W K 3 #[.int .i64 (out.length : Nat)]) (hN : Blk W N 3 #[.int .i64 n]) (hS : Blk W S 3 #[.int .i64 signs])
  (d1 : A ≠ K) (d2 : A ≠ N) (d3 : A ≠ S) (d4 : K ≠ N) (d5 : K ≠ S) (d6 : N ≠ S) (hs : 0 < signs) (h4 : out.length < 4) :
  Calls prog 158 #[.pointer (some ⟨S, 0, none⟩), .pointer (some ⟨K, 0, none⟩), .pointer (some ⟨N, 0, none⟩), .pointer (some ⟨A, 0, none⟩)] W fun e w' =>
   e = .returned (.bool true) /\ w' = (((W.setCell ⟨A, out.length, none⟩ (.int .u8 n)).setCell ⟨K, 0, none⟩ (.int .i64 ((out.length : Int) + 1))).setCell ⟨N, 0, none⟩ (.int .i64 0)).setCell ⟨S, 0, none⟩ (.int .i64 0) := by
 have k0 := hK.cell 0; have n0 := hN.cell 0; have s0 := hS.cell 0; simp only [xD, xA] at k0 n0 s0; have fA := hA.frozen'; have fK := hK.frozen' 0; have fN := hN.frozen' 0; have fS := hS.frozen' 0; have hs' : ((signs : Int) == 0) = false := by rw [yF]; omega
 have h4' : ((out.length : Int) == 4) = false := by rw [yF]; omega
 have hlt : (out.length : Int) < 4 := om; obtain ⟨z, hz⟩ : ∃ z, (pad4 out)[out.length]? = some z := ⟨_, zA (by rw [pad4_len hol]; exact h4)⟩; have a0 : W.cell? ⟨A, out.length, none⟩ = some (.int .u8 (z.toNat : Int)) := (hA.cell _).trans (kQ hz); clear hs h4 hz
 go_enter func158, ntmps158
 go_wp2
 go_ret
 exact ⟨rfl, rfl⟩
structure DotB (w W : World) (out : List UInt8) (n signs : Nat) : Prop where
 res : Blk W w.heap.size 56 (arrB [0, 0, 0, 0])
 arr : Blk W (w.heap.size + 1) 56 (arrB (pad4 out))
 bk : Blk W (w.heap.size + 1 + 1) 3 #[.int .i64 (out.length : Nat)]
 bn : Blk W (w.heap.size + 1 + 1 + 1) 3 #[.int .i64 n]
 bs : Blk W (w.heap.size + 1 + 1 + 1 + 1) 3 #[.int .i64 signs]
 below : zW w W
structure DotS (w : World) (l : List UInt8) (W : World) (pos : Nat) (out : List UInt8) (n signs : Nat) : Prop where
 le : pos <= l.length
 ol : out.length <= 4
 sl : signs <= pos
 nl : n <= 255
 b : DotB w W out n signs
 iter : W.heap[w.heap.size + 1 + 1 + 1 + 1 + 1]? = some (.stringIter (str l) pos)
 eq : xZ l = bF out n signs (l.drop pos)
theorem DotB.iterAt {w W : World} {out : List UInt8} {n signs : Nat} (h : DotB w W out n signs) {s : ByteArray} {pos : Nat} (hk : W.heap[w.heap.size + 1 + 1 + 1 + 1 + 1]? = some (.stringIter s pos)) (pos' : Nat) : DotB w (W.iterAt (w.heap.size + 1 + 1 + 1 + 1 + 1) s pos') out n signs :=
 ⟨h.res.iterAt hk _, h.arr.iterAt hk _, h.bk.iterAt hk _, h.bn.iterAt hk _, h.bs.iterAt hk _, Lib.below_iterAt h.below om _ _⟩
theorem Blk.one {w : World} {g : Nat} {t : TypeId} {x : Value} (h : Blk w g t #[x]) (y : Value) : Blk (w.setCell ⟨g, 0, none⟩ y) g t #[y] := by simpa using h.set 0 y
theorem DotB.yes {w W : World} {out : List UInt8} {n signs : Nat} (h : DotB w W out n signs) (h4 : out.length < 4) (hn : n <= 255) :
  DotB w ((((W.setCell ⟨w.heap.size + 1, out.length, none⟩ (.int .u8 n)).setCell ⟨w.heap.size + 1 + 1, 0, none⟩ (.int .i64 ((out.length : Int) + 1))).setCell ⟨w.heap.size + 1 + 1 + 1, 0, none⟩ (.int .i64 0)).setCell ⟨w.heap.size + 1 + 1 + 1 + 1, 0, none⟩ (.int .i64 0)) (out ++ [UInt8.ofNat n]) 0 0 := by
 have e : ((UInt8.ofNat n).toNat : Int) = n := by rw [xM]; omega
 have ha := h.arr.set out.length (.int .u8 ((UInt8.ofNat n).toNat : Int)); rw [wF, pad4_set h4, e] at ha; have hk := h.bk.one (.int .i64 ((out.length : Int) + 1)); have ek : ((out.length : Int) + 1) = (((out ++ [UInt8.ofNat n]).length : Nat) : Int) := zi; refine ⟨(((h.res.other _ _ zi).other _ _ zv).other _ _ zv).other _ _ zv, ((ha.other _ _ zi).other _ _ zv).other _ _ zv, ?_, ((((h.bn.other _ _ zv).other _ _ zi)).one _).other _ _ zi, (((h.bs.other _ _ zv).other _ _ zv).other _ _ zi).one _, (((h.below.setCell zv _).setCell zv _).setCell zv _).setCell zv _⟩; have := (((h.bk.other ⟨w.heap.size + 1, out.length, none⟩ (.int .u8 n) zi).one (.int .i64 ((out.length : Int) + 1))).other ⟨w.heap.size + 1 + 1 + 1, 0, none⟩ (.int .i64 0) zi).other ⟨w.heap.size + 1 + 1 + 1 + 1, 0, none⟩ (.int .i64 0) zv; rw [← ek]; exact this
theorem DotB.dig {w W : World} {out : List UInt8} {n signs : Nat} (h : DotB w W out n signs) (n' s' : Nat) :
  DotB w ((W.setCell ⟨w.heap.size + 1 + 1 + 1, 0, none⟩ (.int .i64 n')).setCell ⟨w.heap.size + 1 + 1 + 1 + 1, 0, none⟩ (.int .i64 s')) out n' s' :=
 ⟨(h.res.other _ _ zv).other _ _ zv, (h.arr.other _ _ zv).other _ _ zv, (h.bk.other _ _ zi).other _ _ zv, (h.bn.one _).other _ _ zi, (h.bs.other _ _ zi).one _, (h.below.setCell zv _).setCell zv _⟩
theorem iterPos_of {W : World} {k : Nat} {s : ByteArray} {pos : Nat} (h : W.heap[k]? = some (.stringIter s pos)) : iterPos W k = pos := by unfold iterPos; rw [h]
theorem aF {W : World} {k : Nat} {o : Obj} (h : W.heap[k]? = some o) (a : Addr) (v : Value) (hne : k ≠ a.block) : (W.setCell a v).heap[k]? = some o := (zBd W a v k hne).trans h
theorem oK (l : List UInt8) (hl : l.length <= 1073741824) (w : World) :
  zCB 127 #[.string (str l)] w (.tuple #[.agg (arrB ((xZ l).getD [0, 0, 0, 0])), .bool (xZ l).isSome]) := by
 have hmf : ∀ (fn : Fn) (first cap : Array Value) (w : World), (Instr.makeFunc fn first cap).run prog w = .ok (.func fn first cap) w := fun _ _ _ _ => rfl
 go_enter func127, ntmps127
 go_wp2_with fail
 go_loopw [10] (fun vc wr => ∃ (pos : Nat) (out : List UInt8) (n signs : Nat), Hid (DotS w l wr pos out n signs)) (fun _ wr => l.length - iterPos wr (w.heap.size + 1 + 1 + 1 + 1 + 1))
 case atStart =>
  have z4 : arrB [0, 0, 0, 0] = #[.int .u8 0, .int .u8 0, .int .u8 0, .int .u8 0] := rfl
  let w1 := w.alloc (.cells #[.int .u8 0, .int .u8 0, .int .u8 0, .int .u8 0] 56)
  let w2 := w1.alloc (.cells #[.int .u8 0, .int .u8 0, .int .u8 0, .int .u8 0] 56)
  let w3 := w2.alloc (.cells #[.int .i64 0] 3)
  let w4 := w3.alloc (.cells #[.int .i64 0] 3)
  let w5 := w4.alloc (.cells #[.int .i64 0] 3)
  have s1 : w1.heap.size = w.heap.size + 1 := xG _ _; have s2 : w2.heap.size = w.heap.size + 1 + 1 := (xG _ _).trans (by rw [s1]); have s3 : w3.heap.size = w.heap.size + 1 + 1 + 1 := (xG _ _).trans (by rw [s2]); have s4 : w4.heap.size = w.heap.size + 1 + 1 + 1 + 1 := (xG _ _).trans (by rw [s3]); have s5 : w5.heap.size = w.heap.size + 1 + 1 + 1 + 1 + 1 := (xG _ _).trans (by rw [s4]); have b0 : Blk w1 w.heap.size 56 (arrB [0, 0, 0, 0]) := Blk.new _ _ _; have b1 : Blk w2 (w.heap.size + 1) 56 (arrB (pad4 [])) := by rw [← s1]; exact Blk.new _ _ _
  have b2 : Blk w3 (w.heap.size + 1 + 1) 3 #[.int .i64 0] := by rw [← s2]; exact Blk.new _ _ _
  have b3 : Blk w4 (w.heap.size + 1 + 1 + 1) 3 #[.int .i64 0] := by rw [← s3]; exact Blk.new _ _ _
  have b4 : Blk w5 (w.heap.size + 1 + 1 + 1 + 1) 3 #[.int .i64 0] := by rw [← s4]; exact Blk.new _ _ _
  have hit := jW w5 (.stringIter (str l) 0); rw [s5] at hit; refine ⟨0, [], 0, 0, qh ⟨yQ _, zi, yZ _, om, ⟨((((b0.alloc _).alloc _).alloc _).alloc _).alloc _, (((b1.alloc _).alloc _).alloc _).alloc _, ((b2.alloc _).alloc _).alloc _, (b3.alloc _).alloc _, b4.alloc _, ?_⟩, hit, by rw [xU]; exact (dotScan_dotted l).symm⟩⟩; exact (((((yD w _).alloc zi _).alloc zv _).alloc zv _).alloc zv _).alloc zv _
 case round =>
  obtain ⟨pos, out, n, signs, HU⟩ := hrel; have hip : Hid (iterPos wr (w.heap.size + 1 + 1 + 1 + 1 + 1) = pos) := by unfold iterPos; rw [HU.o.iter]; exact qh rfl
  by_cases hlt : pos < l.length
  ·have hps : pos < (str l).size := by rw [zZ]; exact hlt
   obtain ⟨c, hc0⟩ : ∃ c : UInt8, l[pos]'hlt = c := ⟨_, rfl⟩; have hdr : l.drop pos = c :: l.drop (pos + 1) := by rw [yE hlt, hc0]
   have hgs := zAt l pos hlt; rw [hc0] at hgs
   by_cases hb : 128 <= c.toNat
   ·have hnx := fun ty => Lib.run_next_any_at (P := prog) wr (w.heap.size + 1 + 1 + 1 + 1 + 1) (str l) pos ty HU.o.iter hps
    obtain ⟨d1, d2⟩ := zBl (str l) pos (by rw [hgs]; exact hb)
    have HN : Hid (xZ l = none) := by
     rw [HU.o.eq, hdr, bF, zH om, zN om]; exact qh rfl
    have HB := qh (HU.o.b.iterAt HU.o.iter (pos + (Utf8.decode (str l) pos).2)); generalize Utf8.decode (str l) pos = q at d1 d2 hnx HB; obtain ⟨q1, q2⟩ := q; simp only at d1 d2 hnx HB; obtain ⟨r0, r1, r2, r3⟩ := HB.o.res.cells4; have fr := HB.o.res.frozen'; clear hc0 hdr hgs
    go_wp2
    refine zC (results_cell_tmp rfl _ _ _ _ _ _ _ rfl (Blk.setV4 (Blk.z4 (HB.o.res))) underlying56 rfl info4) rfl ⟨by rw [HN.o]; rfl, jU HB.o.below zn⟩
   ·have hc1 : (str l)[pos].toNat < 128 := by rw [jS, hc0]; omega
    have hnx := fun ty => Lib.run_next_ascii_at (P := prog) wr (w.heap.size + 1 + 1 + 1 + 1 + 1) (str l) pos ty HU.o.iter hps hc1; have hcc : (str l)[pos].toNat = c.toNat := by rw [jS, hc0]
    rw [hcc] at hnx; have HB := qh (HU.o.b.iterAt HU.o.iter (pos + 1)); have HI := qh (tX HU.o.iter (pos + 1))
    have HE : Hid (xZ l = if c.toNat = 46 then (if signs = 0 ∨ out.length = 4 then none else bF (out ++ [UInt8.ofNat n]) 0 0 (l.drop (pos + 1)))
      else if c.toNat < 48 ∨ 57 < c.toNat ∨ (0 < signs /\ n = 0) then none
      else if 255 < 10 * n + (c.toNat - 48) then none else bF out (10 * n + (c.toNat - 48)) (signs + 1) (l.drop (pos + 1))) := by
     rw [HU.o.eq, hdr, bF]; exact qh rfl
    have hc2 : c.toNat < 128 := om; clear hc0 hdr hgs hb hc1 hcc; generalize c.toNat = cn at hnx hc2 HE; obtain ⟨r0, r1, r2, r3⟩ := HB.o.res.cells4; have fr := HB.o.res.frozen'; have cS := HB.o.bs.cell 0; have cN := HB.o.bn.cell 0; simp only [xD, xA] at cS cN; have fS := HB.o.bs.frozen' 0; have fN := HB.o.bn.frozen' 0
    by_cases h46 : cn = 46
    ·subst h46
     by_cases hno : signs = 0 ∨ out.length = 4
     ·have HN : Hid (xZ l = none) := by rw [HE.o, zN rfl, zN hno]; exact qh rfl
      have HC := qh (dot_end_no (w.heap.size + 1) (w.heap.size + 1 + 1) (w.heap.size + 1 + 1 + 1) (w.heap.size + 1 + 1 + 1 + 1) out n signs HU.o.ol HU.o.nl _ HB.o.arr HB.o.bk HB.o.bn HB.o.bs om om om om om om hno); clear hno; go_wp2_with fail
      refine zU HC.o ?_
      go_wp2
      refine zC (results_cell_tmp rfl _ _ _ _ _ _ _ rfl (Blk.setV4 (Blk.z4 (HB.o.res))) underlying56 rfl info4) rfl ⟨by rw [HN.o]; rfl, jU HB.o.below zn⟩
     ·have HN : Hid (xZ l = bF (out ++ [UInt8.ofNat n]) 0 0 (l.drop (pos + 1))) := by rw [HE.o, zN rfl, zH hno]; exact qh rfl
      have h4 : out.length < 4 := by have := HU.o.ol; omega
      have HC := qh (zFs (w.heap.size + 1) (w.heap.size + 1 + 1) (w.heap.size + 1 + 1 + 1) (w.heap.size + 1 + 1 + 1 + 1) out n signs HU.o.ol HU.o.nl _ HB.o.arr HB.o.bk HB.o.bn HB.o.bs om om om om om om om h4); clear hno; go_wp2_with fail
      refine zU HC.o ?_; go_wp2_with fail
      have hit := aF (aF (aF (aF HI.o.1 ⟨w.heap.size + 1, out.length, none⟩ (.int .u8 n) zv) ⟨w.heap.size + 1 + 1, 0, none⟩ (.int .i64 ((out.length : Int) + 1)) zv) ⟨w.heap.size + 1 + 1 + 1, 0, none⟩ (.int .i64 0) zv) ⟨w.heap.size + 1 + 1 + 1 + 1, 0, none⟩ (.int .i64 0) zi; refine ⟨⟨pos + 1, out ++ [UInt8.ofNat n], 0, 0, qh ⟨hlt, zo, yQ _, om, HB.o.yes h4 HU.o.nl, hit, HN.o⟩⟩, ?_⟩; rw [hip.o, iterPos_of hit]; omega
    ·by_cases hbad : cn < 48 ∨ 57 < cn ∨ (0 < signs /\ n = 0)
     ·have HN : Hid (xZ l = none) := by rw [HE.o, zH h46, zN hbad]; exact qh rfl
      have h46' : ((cn : Int) == 46) = false := by rw [yF]; omega
      clear h46
      rcases hbad with h | h | ⟨h, h0⟩
      ·go_wp2
       refine zC (results_cell_tmp rfl _ _ _ _ _ _ _ rfl (Blk.setV4 (Blk.z4 (HB.o.res))) underlying56 rfl info4) rfl ⟨by rw [HN.o]; rfl, jU HB.o.below zn⟩
      ·go_wp2
       refine zC (results_cell_tmp rfl _ _ _ _ _ _ _ rfl (Blk.setV4 (Blk.z4 (HB.o.res))) underlying56 rfl info4) rfl ⟨by rw [HN.o]; rfl, jU HB.o.below zn⟩
      ·subst h0
       have hs1 : (0 : Int) < signs := om
       by_cases h5 : cn < 48
       ·go_wp2
        refine zC (results_cell_tmp rfl _ _ _ _ _ _ _ rfl (Blk.setV4 (Blk.z4 (HB.o.res))) underlying56 rfl info4) rfl ⟨by rw [HN.o]; rfl, jU HB.o.below zn⟩
       ·by_cases h6 : 57 < cn
        ·go_wp2
         refine zC (results_cell_tmp rfl _ _ _ _ _ _ _ rfl (Blk.setV4 (Blk.z4 (HB.o.res))) underlying56 rfl info4) rfl ⟨by rw [HN.o]; rfl, jU HB.o.below zn⟩
        ·go_wp2
         refine zC (results_cell_tmp rfl _ _ _ _ _ _ _ rfl (Blk.setV4 (Blk.z4 (HB.o.res))) underlying56 rfl info4) rfl ⟨by rw [HN.o]; rfl, jU HB.o.below zn⟩
     ·have h46' : ((cn : Int) == 46) = false := by rw [yF]; omega
      obtain ⟨q, hq⟩ : ∃ q : Nat, cn = q + 48 := ⟨cn - 48, om⟩; have hq9 : q <= 9 := om
      have hE2 : Hid (xZ l = if 255 < 10 * n + q then none else bF out (10 * n + q) (signs + 1) (l.drop (pos + 1))) := by
       rw [HE.o, zH h46, zH hbad, show cn - 48 = q from om]; exact qh rfl
      have hx : (0 : Int) < signs -> ((n : Int) == 0) = false := fun h => by rw [yF]; omega
      have hnl := HU.o.nl; have hsl : signs <= l.length := yK HU.o.sl HU.o.le; have hsl2 := HU.o.sl; subst hq; have c46 : (((q + 48 : Nat) : Int) == 46) = false := h46'; have v1 : IntKind.i32.wrap (((q + 48 : Nat) : Int) - 48) = (q : Int) := by rw [show ((q + 48 : Nat) : Int) - 48 = (q : Int) from om]; exact IntWalk.i32_in _ om
      have v2 : IntKind.i64.wrap (10 * (n : Int)) = 10 * (n : Int) := yT _ om; have v3 : IntKind.i64.wrap (10 * (n : Int) + q) = ((10 * n + q : Nat) : Int) := by rw [yT _ om]; omega
      have v4 : IntKind.i64.wrap ((signs : Int) + 1) = ((signs + 1 : Nat) : Int) := by rw [yT _ om]; omega
      have u1 : ¬ ((q + 48 : Nat) : Int) < 48 := om; have u2 : ¬ (57 : Int) < ((q + 48 : Nat) : Int) := om; clear h46 h46' hbad; generalize (q + 48 : Nat) = cn at hnx v1 u1 u2 c46 hc2 HE; have cR : ∀ z : Nat, 255 < z -> decide ((255 : Int) < (z : Int)) = true := fun z h => zV om
      by_cases hz : (0 : Int) < signs
      ·have hnz := hx hz
       clear hx
       by_cases hg : 255 < 10 * n + q
       ·have HN : Hid (xZ l = none) := by rw [hE2.o, zN hg]; exact qh rfl
        have hgi : (255 : Int) < ((10 * n + q : Nat) : Int) := om; go_wp2_with fail
        have hD := HB.o.dig (10 * n + q) (signs + 1); refine zC (results_cell_tmp rfl _ _ _ _ _ _ _ rfl (Blk.setV4 (Blk.z4 (hD.res))) underlying56 rfl info4) rfl ⟨by rw [HN.o]; rfl, jU hD.below zn⟩
       ·have HN : Hid (xZ l = bF out (10 * n + q) (signs + 1) (l.drop (pos + 1))) := by rw [hE2.o, zH hg]; exact qh rfl
        have hgi : ¬ (255 : Int) < ((10 * n + q : Nat) : Int) := om; go_wp2_with fail
        have hD := HB.o.dig (10 * n + q) (signs + 1); have hit := aF (aF HI.o.1 ⟨w.heap.size + 1 + 1 + 1, 0, none⟩ (.int .i64 ((10 * n + q : Nat) : Int)) zv) ⟨w.heap.size + 1 + 1 + 1 + 1, 0, none⟩ (.int .i64 ((signs + 1 : Nat) : Int)) zi; refine ⟨⟨pos + 1, out, 10 * n + q, signs + 1, qh ⟨hlt, HU.o.ol, om, om, hD, hit, HN.o⟩⟩, ?_⟩; rw [hip.o]; exact (show ∀ x : Nat, x = pos + 1 -> l.length - x < l.length - pos from fun x hx => om) _ (iterPos_of hit)
      ·clear hx
       by_cases hg : 255 < 10 * n + q
       ·have HN : Hid (xZ l = none) := by rw [hE2.o, zN hg]; exact qh rfl
        have hgi : (255 : Int) < ((10 * n + q : Nat) : Int) := om; go_wp2_with fail
        have hD := HB.o.dig (10 * n + q) (signs + 1); refine zC (results_cell_tmp rfl _ _ _ _ _ _ _ rfl (Blk.setV4 (Blk.z4 (hD.res))) underlying56 rfl info4) rfl ⟨by rw [HN.o]; rfl, jU hD.below zn⟩
       ·have HN : Hid (xZ l = bF out (10 * n + q) (signs + 1) (l.drop (pos + 1))) := by rw [hE2.o, zH hg]; exact qh rfl
        have hgi : ¬ (255 : Int) < ((10 * n + q : Nat) : Int) := om; go_wp2_with fail
        have hD := HB.o.dig (10 * n + q) (signs + 1); have hit := aF (aF HI.o.1 ⟨w.heap.size + 1 + 1 + 1, 0, none⟩ (.int .i64 ((10 * n + q : Nat) : Int)) zv) ⟨w.heap.size + 1 + 1 + 1 + 1, 0, none⟩ (.int .i64 ((signs + 1 : Nat) : Int)) zi; refine ⟨⟨pos + 1, out, 10 * n + q, signs + 1, qh ⟨hlt, HU.o.ol, om, om, hD, hit, HN.o⟩⟩, ?_⟩; rw [hip.o]; exact (show ∀ x : Nat, x = pos + 1 -> l.length - x < l.length - pos from fun x hx => om) _ (iterPos_of hit)
  ·have hps : ¬ pos < (str l).size := by rw [zZ]; exact hlt
   have hnx := fun ty => Lib.run_next_end_at (P := prog) wr (w.heap.size + 1 + 1 + 1 + 1 + 1) (str l) pos ty HU.o.iter hps
   have HE : Hid (xZ l = if signs = 0 ∨ out.length = 4 then none else if out.length + 1 = 4 then some (out ++ [UInt8.ofNat n]) else none) := by
    rw [HU.o.eq, yO om]; exact qh rfl
   have HB := qh HU.o.b; obtain ⟨r0, r1, r2, r3⟩ := HB.o.res.cells4; have fr := HB.o.res.frozen'
   by_cases hno : signs = 0 ∨ out.length = 4
   ·have HN : Hid (xZ l = none) := by rw [HE.o, zN hno]; exact qh rfl
    have HC := qh (dot_end_no (w.heap.size + 1) (w.heap.size + 1 + 1) (w.heap.size + 1 + 1 + 1) (w.heap.size + 1 + 1 + 1 + 1) out n signs HU.o.ol HU.o.nl _ HB.o.arr HB.o.bk HB.o.bn HB.o.bs om om om om om om hno); clear hno; go_wp2_with fail
    refine zU HC.o ?_
    go_wp2
    refine zC (results_cell_tmp rfl _ _ _ _ _ _ _ rfl (Blk.setV4 (Blk.z4 (HB.o.res))) underlying56 rfl info4) rfl ⟨by rw [HN.o]; rfl, jU HB.o.below zn⟩
   ·have h4 : out.length < 4 := by have := HU.o.ol; omega
    have HC := qh (zFs (w.heap.size + 1) (w.heap.size + 1 + 1) (w.heap.size + 1 + 1 + 1) (w.heap.size + 1 + 1 + 1 + 1) out n signs HU.o.ol HU.o.nl _ HB.o.arr HB.o.bk HB.o.bn HB.o.bs om om om om om om om h4)
    by_cases h3 : out.length + 1 = 4
    ·have HN : Hid (xZ l = some (out ++ [UInt8.ofNat n])) := by rw [HE.o, zH hno, zN h3]; exact qh rfl
     clear hno r0 r1 r2 r3 fr; go_wp2_with fail
     refine zT HC.o fun w1 hw1 => ?_; have hY := HB.o.yes h4 HU.o.nl; rw [← hw1] at hY; clear hw1; obtain ⟨y0, y1, y2, y3⟩ := hY.res.cells4; have fy := hY.res.frozen'; have ck := hY.bk.cell 0; simp only [xD, xA] at ck; have hlen : (out ++ [UInt8.ofNat n]).length = 4 := zo; have hpf := pad4_full hlen; have harr := hY.arr; rw [hpf] at harr; obtain ⟨z0, z1, z2, z3, hz⟩ := zBg hlen; rw [hlen] at ck; rw [hz] at harr; obtain ⟨q0, q1, q2, q3⟩ := harr.cells4; have HY := qh hY; have HZ := qh hz; clear hz hpf harr hlen hY
     go_wp2
     refine zC (results_cell_tmp rfl _ _ _ _ _ _ _ rfl (Blk.setV4 (Blk.z4 (HY.o.res))) underlying56 rfl info4) rfl ⟨by rw [HN.o, HZ.o]; rfl, jU HY.o.below zn⟩
    ·have HN : Hid (xZ l = none) := by rw [HE.o, zH hno, zH h3]; exact qh rfl
     clear hno r0 r1 r2 r3 fr; go_wp2_with fail
     refine zT HC.o fun w1 hw1 => ?_; have hY := HB.o.yes h4 HU.o.nl; rw [← hw1] at hY; clear hw1; obtain ⟨y0, y1, y2, y3⟩ := hY.res.cells4; have fy := hY.res.frozen'; have ck := hY.bk.cell 0; simp only [xD, xA] at ck; have hlen : (out ++ [UInt8.ofNat n]).length = out.length + 1 := zi; rw [hlen] at ck; have hne : (((out.length + 1 : Nat) : Int) == 4) = false := by rw [yF]; omega
     generalize out.length + 1 = q at ck hne; have HY := qh hY; clear hY hlen
     go_wp2
     refine zC (results_cell_tmp rfl _ _ _ _ _ _ _ rfl (Blk.setV4 (Blk.z4 (HY.o.res))) underlying56 rfl info4) rfl ⟨by rw [HN.o]; rfl, jU HY.o.below zn⟩
end Go.Proofs.YtdbgeobolongmaaGreatDoor
