/- Part of the proof: ScriptLines, ScriptParses, ScriptShows. -/
import Derived.Test.YtdbgeobolongmaaGreatDoorSA06
import Derived.Test.YtdbgeobolongmaaGreatDoorSA08
set_option linter.unusedVariables false
set_option linter.unusedSimpArgs false
set_option maxRecDepth 100000
set_option maxHeartbeats 2000000
namespace Go.Proofs.YtdbgeobolongmaaGreatDoor
open Go.RowKit Go.Shelf Go.Proofs Go.OctetPlain Go.ColonPlain Go.Proofs.Tryz
theorem lS {P : Program} {w : World} {ops : Array Oper} {rest : List Oper} {o : Oper} {a : Act} {Q : Exit -> Act -> World -> Prop} {t e : TypeId} {size bytes : Nat} (hE : tY P t e size bytes) (hgd : o.guard = none) (s x : Operand)
  (ho : o.op = .call { callee := .builtin .append, args := #[s, x], argTypes := #[t, t] })
  (base : Nat) (v : Value) (n : Nat) (xs : List Value) (hs : a.eval s = v) (hown : w.ownsRow base e size v n xs)
  (m c B : Nat) (hBe : B = w.heap.size) (news : List Value) (hx : a.eval x = .slice (some ⟨B, 0, none⟩) m c) (hl : news.length = m * size) (h1 : ∀ u ∈ news, u.oneCell' = true)
  (hsm : n + m <= 1099511627776) (hbase : base <= w.heap.size)
  (h : ∀ v' w', w'.ownsRow base e size v' (n + m) (xs ++ news) -> w.grownBy w' v.ownBlock -> (v'.ownBlock = v.ownBlock ∨ v'.ownBlock = some (w.heap.size + 1)) -> Below base w w' -> wpList P ops Q rest (a.put o.dst v') w') :
  wpList P ops Q (o :: rest) a (w.alloc (.cells news.toArray e)) := by
 subst hBe; exact uR hE hgd s x ho base v n xs hs hown m c news hx hl h1 hsm hbase h
theorem elemN : tY prog 27 3 1 8 := .mk underlying27 (z := .int .i64 0) kf om om rfl
theorem pieces_eq (d : UInt8) (l : List UInt8) : Lib.splitB (str [d]) 0 (Lib.countB (str l) (str [d])) (str l) = (yY d l).map str := by
 have h := Lib.splitB_data (str [d]) 0 (Lib.countB (str l) (str [d])) (str l); have hc : Lib.countB (str l) (str [d]) = Lib.count l [d] := by unfold Lib.countB; rw [kM, kM]
 rw [kM, kM, hc, split_eq] at h; have h2 := yG (List.map str) h; rw [kJ] at h2; have : str ∘ (fun s : ByteArray => s.data.toList) = id := by funext s; exact lG s
 rw [this, zGg] at h2; rw [hc]; exact h2
theorem zCh (d : UInt8) (l : List UInt8) : Lib.countB (str l) (str [d]) + 1 = (yY d l).length := by
 have hc : Lib.countB (str l) (str [d]) = Lib.count l [d] := by unfold Lib.countB; rw [kM, kM]
 rw [hc]; exact lM d l
theorem belowA2' {B : Nat} {W : World} (o : Obj) (h : B <= W.heap.size) : Below B W (W.alloc o) := (yD W o).mono h
structure RowS (w : World) (l : List UInt8) (last : Bool) (B : Nat) (wr : World) (k : Nat) (out : List Nat) (vo : Value) : Prop where
 own : wr.ownsRow (w.heap.size + 1) 3 1 vo out.length (flat encN out)
 parts : Blk wr w.heap.size 9 (((yY 58 l).map str).map Value.string).toArray
 below : zW w wr
 eq : row last l = uL last out ((yY 58 l).drop k)
 len : out.length <= 2 * k
theorem colon_row (l : List UInt8) (hl : l.length <= 1000000) (last : Bool) (w : World) (ht : CT w) :
  Calls prog 159 #[.string (str l), .bool last] w fun e w' => ∃ v, e = .returned (.tuple #[v, .bool (row last l).isSome]) /\ w'.ownsRow w.heap.size 3 1 v ((row last l).getD []).length (flat encN ((row last l).getD [])) /\ zW w w' := by
 obtain ⟨m, hm⟩ := ht.ml; have htl := vX
 by_cases hnil : l = []
 ·subst hnil
  go_enter func159, ntmps159
  go_wp2
  refine zC (v := .tuple #[.slice none 0 0, .bool true]) ?_ rfl ⟨_, rfl, xL _ _ _ _, xE _ _⟩; simp [results, results159, go_sem]
 ·have hne : (l == []) = false := by simpa using hnil
  have hrow : Hid (row last l = uL last [] (yY 58 l)) := by unfold row; rw [zH hnil]; exact qh rfl
  have hcon := Any.strings_Split { Tryz.split with } Tryz.split.i9 (str l) ⟨#[58]⟩ m w (by rw [zZ]; omega) hm zd; change Calls prog 37 _ _ _ at hcon; have hp := pieces_eq 58 l; have hpc := zCh 58 l
  have HC : Hid (Calls prog 37 #[.string (str l), .string ⟨#[58]⟩] w fun e w' => e = .returned (.slice (some ⟨w.heap.size, 0, none⟩) (yY 58 l).length (yY 58 l).length) /\ w' = w.alloc (.cells (((yY 58 l).map str).map Value.string).toArray 9)) := by
   rw [← hpc, ← hp]; exact qh hcon
  clear hcon hp hpc hm hnil
  go_enter func159, ntmps159
  go_wp2_with fail
  refine zT HC.o fun w1 hw1 => ?_
  have hnl : (yY 58 l).length <= l.length + 1 := by
   have h1 := lM 58 l; rw [Lib.count_one] at h1; have := aK (a := (58 : UInt8)) (l := l); omega
  have hpl := aT 58 l; have HPL := qh hpl; clear hpl; go_wp2_with fail
  go_loopw [6, 20] (fun vo vi wr => ∃ (k : Nat) (out : List Nat), vi = .int .i64 k /\ k <= (yY 58 l).length /\ Hid (RowS w l last w.heap.size wr k out vo)) (fun _ vi _ => (yY 58 l).length - (intOf vi).toNat)
  case atStart =>
   refine ⟨0, [], rfl, yQ _, qh ⟨xL _ _ _ _, ?_, ?_, by rw [xU]; exact hrow.o, zi⟩⟩
   ·rw [kJ]; exact Blk.new _ _ _
   ·exact yD w _
  case round =>
   obtain ⟨k, out, rfl, hk, HR⟩ := hrel; have hlen := HR.o.len
   by_cases hlt : k < (yY 58 l).length
   ·obtain ⟨p, hp⟩ : ∃ p, (yY 58 l)[k]? = some p := ⟨(yY 58 l)[k], zA hlt⟩
    have hdr : (yY 58 l).drop k = p :: (yY 58 l).drop (k + 1) := by
     obtain ⟨h1, h2⟩ := zL.1 hp; rw [yE h1, h2]
    have hc : wr.cell? ⟨w.heap.size, k, none⟩ = some (.string (str p)) := (HR.o.parts.cell k).trans (by simp [hp]); have hpl : p.length <= l.length := HPL.o p (uA hp); have HG := qh fun W => colon_group p om W; have HD := qh fun W => oK p om W; have HE : Hid (row last l = uL last out (p :: (yY 58 l).drop (k + 1))) := by rw [HR.o.eq, hdr]; exact qh rfl
    have hz := HR.o.parts.lt; clear hp hdr; go_wp2_with fail
    refine zT (HG.o _) fun w2 hb2 => ?_
    cases hg : group p with
    |some n =>
     have HE2 : Hid (row last l = uL last (out ++ [n]) ((yY 58 l).drop (k + 1))) := by rw [HE.o, uL, hg]; exact qh rfl
     have HO2 := qh (vL HR.o.own hb2 zn); have HP2 := qh (HR.o.parts.below hb2 hz); have HB2 := qh (HR.o.below.trans (hb2.mono HR.o.below.size)); have hz2 := hb2.size; clear hb2
     go_wp2_with (at_builtin; go_loud (refine uR elemN rfl (.tmp 31) (.tmp 33) rfl (w.heap.size + 1) u6 _ _ rfl HO2.o 1 1 [.int .i64 _] rfl rfl (by simp [Value.oneCell']) om om ?_; intro v4 w4 hown4 _ _ hb4))
     refine ⟨⟨k + 1, out ++ [n], by go_num, om, qh ⟨?_, HP2.o.below hb4 (sJ _), HB2.o.trans (hb4.mono (wH _)), HE2.o, zo⟩⟩, by simp [intOf]; omega⟩; rw [vK, zG]; exact hown4
    |none =>
     have HP2 := qh (HR.o.parts.below hb2 hz); have HO2 := qh (vL HR.o.own hb2 zn); have HB2 := qh (HR.o.below.trans (hb2.mono HR.o.below.size)); have hz2 := hb2.size; have hN1 : IntKind.i64.wrap (((yY 58 l).length : Int) - 1) = ((yY 58 l).length : Int) - 1 := yT _ om; clear hb2
     cases hd : xZ p with
     |none =>
      have HN : Hid (row last l = none) := by rw [HE.o, uL, hg, hd]; exact qh rfl
      rw [hd] at HD; have HD2 : Hid (∀ W, zCB 127 #[.string (str p)] W (.tuple #[.agg #[.int .u8 0, .int .u8 0, .int .u8 0, .int .u8 0], .bool false])) := HD; clear HD hg hd; go_wp2_with fail
      refine zT (HD2.o _) fun w3 hb3 => ?_; have HB3 := qh (HB2.o.trans (hb3.mono HB2.o.size)); clear hb3
      go_wp2
      refine zC (v := .tuple #[.slice none 0 0, .bool false]) ?_ rfl ⟨.slice none 0 0, by rw [HN.o]; rfl, by rw [HN.o]; exact xL _ _ _ _, HB3.o.trans (belowA2' _ HB3.o.size)⟩; simp [results, results159, go_sem, HN.o]
     |some a =>
      obtain ⟨a0, a1, a2, a3, ha⟩ := zBg (kE _ _ a hd); subst ha; rw [hd] at HD; have HD2 : Hid (∀ W, zCB 127 #[.string (str p)] W (.tuple #[.agg #[.int .u8 (a0.toNat : Int), .int .u8 (a1.toNat : Int), .int .u8 (a2.toNat : Int), .int .u8 (a3.toNat : Int)], .bool true])) := HD
      have HE3 : Hid (row last l = if last = true /\ (yY 58 l).drop (k + 1) = [] then some (out ++ [256 * a0.toNat + a1.toNat, 256 * a2.toNat + a3.toNat]) else none) := by
       rw [HE.o, uL, hg, hd]; exact qh rfl
      clear HD hg hd
      cases last with
      |false =>
       have HN : Hid (row false l = none) := by rw [HE3.o, zH zi]; exact qh rfl
       go_wp2_with fail
       refine zT (HD2.o _) fun w3 hb3 => ?_; have HB3 := qh (HB2.o.trans (hb3.mono HB2.o.size)); clear hb3
       go_wp2
       refine zC (v := .tuple #[.slice none 0 0, .bool false]) ?_ rfl ⟨.slice none 0 0, by rw [HN.o]; rfl, by rw [HN.o]; exact xL _ _ _ _, HB3.o.trans (belowA2' _ HB3.o.size)⟩; simp [results, results159, go_sem, HN.o]
      |true =>
       by_cases hlast : k + 1 = (yY 58 l).length
       ·have hnl2 : ¬ (k : Int) < ((yY 58 l).length : Int) - 1 := om
        have hdn : (yY 58 l).drop (k + 1) = [] := yO om
        have HE2 : Hid (row true l = uL true (out ++ [256 * a0.toNat + a1.toNat, 256 * a2.toNat + a3.toNat]) ((yY 58 l).drop (k + 1))) := by
         rw [HE3.o, hdn, zN ⟨rfl, rfl⟩]; exact qh rfl
        have q0 : a0.toNat < 256 := a0.toNat_lt; have q1 : a1.toNat < 256 := a1.toNat_lt; have q2 : a2.toNat < 256 := a2.toNat_lt; have q3 : a3.toNat < 256 := a3.toNat_lt; clear HE3 hdn; generalize a0.toNat = b0 at *; generalize a1.toNat = b1 at *; generalize a2.toNat = b2 at *; generalize a3.toNat = b3 at *; have o1 := or_256 b0 b1 om q1; have o2 := or_256 b2 b3 om q3; go_wp2_with fail
        refine zT (HD2.o _) fun w3 hb3 => ?_; have HO3 := qh (((vL HO2.o hb3 zn)).alloc (.cells #[.int .u8 (b0 : Int), .int .u8 (b1 : Int), .int .u8 (b2 : Int), .int .u8 (b3 : Int)] 56)); have HP3 := qh (((HP2.o.below hb3 HP2.o.lt)).alloc (.cells #[.int .u8 (b0 : Int), .int .u8 (b1 : Int), .int .u8 (b2 : Int), .int .u8 (b3 : Int)] 56)); have HB3 := qh (HB2.o.trans (hb3.mono HB2.o.size)); have hz3 := hb3.size; have HB4 := qh (HB3.o.trans (belowA2' (.cells #[.int .u8 (b0 : Int), .int .u8 (b1 : Int), .int .u8 (b2 : Int), .int .u8 (b3 : Int)] 56) HB3.o.size)); clear hb3
        go_wp2_with (at_builtin; go_loud (refine lS elemN rfl (.tmp 53) (.tmp 70) rfl (w.heap.size + 1) u6 _ _ rfl HO3.o 2 2 (w3.heap.size + 1) zi [.int .i64 _, .int .i64 _] rfl rfl (by simp [Value.oneCell']) om zo ?_; intro v4 w4 hown4 _ _ hb4))
        refine ⟨⟨k + 1, out ++ [256 * b0 + b1, 256 * b2 + b3], by go_num, om, qh ⟨?_, HP3.o.below hb4 (sJ _), HB4.o.trans (hb4.mono (wH _)), HE2.o, zo⟩⟩, by simp [intOf]; omega⟩; rw [vK, zG]; exact hown4
       ·have hnl2 : (k : Int) < ((yY 58 l).length : Int) - 1 := om
        have hdn : (yY 58 l).drop (k + 1) ≠ [] := fun e => by
         have := yG List.length e; rw [vZ] at this; simp at this; omega
        have HN : Hid (row true l = none) := by rw [HE3.o, zH (fun h => hdn h.2)]; exact qh rfl
        clear hdn; go_wp2_with fail
        refine zT (HD2.o _) fun w3 hb3 => ?_; have HB3 := qh (HB2.o.trans (hb3.mono HB2.o.size)); clear hb3
        go_wp2
        refine zC (v := .tuple #[.slice none 0 0, .bool false]) ?_ rfl ⟨.slice none 0 0, by rw [HN.o]; rfl, by rw [HN.o]; exact xL _ _ _ _, HB3.o.trans (belowA2' _ HB3.o.size)⟩; simp [results, results159, go_sem, HN.o]
   ·have hdn : (yY 58 l).drop k = [] := yO om
    have HN : Hid (row last l = some out) := by rw [HR.o.eq, hdn]; exact qh rfl
    clear hdn
    go_wp2
    refine zC (v := .tuple #[u6, .bool true]) ?_ rfl ⟨u6, by rw [HN.o]; rfl, by rw [HN.o]; exact zAq HR.o.own (wH _), HR.o.below⟩; simp [results, results159, go_sem]
end Go.Proofs.YtdbgeobolongmaaGreatDoor
