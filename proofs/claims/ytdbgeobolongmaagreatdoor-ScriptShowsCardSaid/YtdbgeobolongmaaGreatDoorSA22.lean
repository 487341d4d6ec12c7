/- Part of the proof: ScriptLines, ScriptParses, ScriptShows. -/
import Derived.Lib.Bytealg
import Derived.Lib.BytesEntry
import Derived.Laws.Externs
import Derived.Test.YtdbgeobolongmaaGreatDoorSA07
import Derived.Test.YtdbgeobolongmaaGreatDoorSA09
import Derived.Test.YtdbgeobolongmaaGreatDoorSA15
set_option linter.unusedVariables false
set_option linter.unusedSimpArgs false
set_option maxRecDepth 100000
set_option maxHeartbeats 4000000
namespace Go.Proofs.YtdbgeobolongmaaGreatDoor
open Go.RowKit Go.Shelf Go.Proofs Go.OctetPlain Go.ColonPlain Go.PrefixPlain Go.Proofs.Tryz
theorem join_dot : ∀ L : List (List UInt8), Lib.join L [46] = dotJ L
 | [] => rfl
 | [p] => by simp [Lib.join_one, dotJ]
 |p :: q :: r => by
  have ih := join_dot (q :: r); rw [dotJ, ← ih]; simp [Lib.join]
theorem itoa_nat (n : Nat) : Lib.itoa (n : Int) = Lib.decDigits n := by unfold Lib.itoa; rw [zH om]; simp
theorem aC (c : UInt8) : (Lib.decDigits c.toNat).length <= 3 := by
 have h := c.toNat_lt; have : ∀ n : Fin 256, (Lib.decDigits n).length <= 3 := by decide +kernel
 exact this ⟨c.toNat, h⟩
theorem run_index_b4 {w : World} (cs : Array Value) (i : Nat) (n : Int) (hi : i < 4) (hc : cs[i]? = some (.int .u8 n)) :
  (Instr.index 56 (.agg cs) (.int .i64 (i : Int))).run prog w = .ok (.int .u8 n) w := by
 have h1 : (i : Int) < 4 := om; simp [Instr.index, run_underlying underlying56, asIntOf, h1, hc, go_sem, sizeOf5, isAgg5, part]; intro h; omega
def decs (a : List UInt8) : List (List UInt8) := a.map fun c => Lib.decDigits c.toNat
theorem zFp (c0 c1 c2 c3 : UInt8) (w : World) (ht : Tabs w) :
  zCB 42 #[.agg #[.int .u8 (c0.toNat : Int), .int .u8 (c1.toNat : Int), .int .u8 (c2.toNat : Int), .int .u8 (c3.toNat : Int)]] w (.string (str (qP [c0, c1, c2, c3]))) := by
 have HT := qh ht; clear ht
 go_enter func42, ntmps42
 go_wp2_with fail
 go_loopw [3, 5, 7] (fun vo _ vi wr => ∃ k : Nat, vi = .int .i64 k /\ k <= 4 /\ Hid (wr.ownsRow (w.heap.size + 1) 9 1 vo k (flat encS (decs ([c0, c1, c2, c3].take k)))) /\ Hid (zW w wr) /\ Hid (w.heap.size + 1 <= wr.heap.size)) (fun _ _ vi _ => 4 - (intOf vi).toNat)
 case atStart => exact ⟨0, rfl, yQ _, qh (xL _ _ _ _), qh (yD w _), qh zi⟩
 case round =>
  obtain ⟨k, rfl, hk, HO, HB, HZ⟩ := hrel
  by_cases hlt : k < 4
  ·obtain ⟨c, hc⟩ : ∃ c, [c0, c1, c2, c3][k]? = some c := ⟨_, zA (by simpa using hlt)⟩
   have hix := fun w : World => run_index_b4 (w := w) #[.int .u8 (c0.toNat : Int), .int .u8 (c1.toNat : Int), .int .u8 (c2.toNat : Int), .int .u8 (c3.toNat : Int)] k (c.toNat : Int) hlt (kQ (l := [c0, c1, c2, c3]) hc)
   have HTK : Hid (decs ([c0, c1, c2, c3].take (k + 1)) = decs ([c0, c1, c2, c3].take k) ++ [Lib.decDigits c.toNat]) := by
    rw [List.take_add_one, hc]; unfold decs; rw [jT]; exact qh rfl
   have HD := qh fun W h => jJ (c.toNat : Int) (by have := c.toNat_lt; omega) W h; rw [itoa_nat] at HD; have w4 : IntKind.i64.wrap (c.toNat : Int) = c.toNat := yT _ (by have := c.toNat_lt; omega); clear hc; go_wp2_with fail
   refine (HD.o _ (HT.o.next HB.o zn)).mono ?_; rintro e w1 ⟨rfl, hb1⟩; have HB1 := qh (HB.o.trans (hb1.mono HB.o.size)); have HO1 := qh (vL HO.o hb1 zn); have hz1 := yK HZ.o hb1.size; clear hb1
   go_wp2_with (at_builtin; go_loud (refine uR rT rfl (.tmp 10) (.tmp 14) rfl (w.heap.size + 1) u3 _ _ rfl HO1.o 1 1 [.string _] rfl rfl (by simp [Value.oneCell']) om hz1 ?_; intro v4 w4 hown4 _ _ hb4))
   exact ⟨⟨k + 1, by go_num, om, qh (by rw [HTK.o, vK]; exact hown4), qh (HB1.o.trans (hb4.mono (wH _))), qh (yK hz1 hb4.size)⟩, by simp [intOf]; omega⟩
  ·obtain rfl : k = 4 := om
   have hO := HO.o; have hz := HB.o.size; have hO2 : wr.ownsRow (w.heap.size + 1) 9 1 u3 (decs [c0, c1, c2, c3]).length (flat encS (decs [c0, c1, c2, c3])) := hO; obtain ⟨p', cap', rfl, hd1, hd2, hR'⟩ := SlR.of_owns vU hO2; have l0 := aC c0; have l1 := aC c1; have l2 := aC c2; have l3 := aC c3
   have hjs : Lib.join (((decs [c0, c1, c2, c3]).map str).map (·.data.toList)) (⟨#[46]⟩ : ByteArray).data.toList = qP [c0, c1, c2, c3] := by
    rw [kJ]; have : (fun s : ByteArray => s.data.toList) ∘ str = id := by funext l; exact kM l
    rw [this, zGg]; exact join_dot _
   have hll : (qP [c0, c1, c2, c3]).length <= 140737488355328 := by
    simp only [qP, yM, xH, dotJ, zG, zI]; omega
   have HC : Hid (zCB 34 #[.slice p' 4 cap', .string ⟨#[46]⟩] wr (.string (str (qP [c0, c1, c2, c3])))) := by
    cases p' with
    | none => have h0 := hR'.1 rfl; simp [decs] at h0
    |some a =>
     obtain ⟨hsp, hbk, hcl⟩ := hR'.2 a rfl (by simp [decs]); have ha : a = ⟨a.block, a.off, none⟩ := by cases a; simp_all
     have hcon := Any.strings_Join Tryz.join zAx a.block a.off cap' ((decs [c0, c1, c2, c3]).map str) ⟨#[46]⟩ wr (fun j x hx => by
      rw [jL] at hx
      cases hy : (decs [c0, c1, c2, c3])[j]? with
      | none => rw [hy] at hx; cases hx
      |some y =>
       rw [hy] at hx
       cases hx; have := hcl j y hy 0 (.string (str y)) rfl
       simpa using this) hbk (by simp [decs]) (by simpa using hd1) (by rw [hjs]; exact hll)
     rw [hjs] at hcon; rw [ha]; exact qh hcon
   clear hjs hO hO2 hR'; go_wp2_with fail
   refine zT HC.o fun w1 hb1 => ?_
   go_wp2
   go_ret
   exact ⟨rfl, HB.o.trans (hb1.mono HB.o.size)⟩
structure PT (w : World) : Prop where
 ct : CT w
 tabs : Tabs w
theorem PT.below {w w' : World} (h : PT w) (hb : zW w w') : PT w' := ⟨h.ct.below hb, h.tabs.below hb⟩
theorem itoa_len {n : Int} (h : Len64 ⟨false, [], n⟩) : (Lib.itoa n).length <= 1000 := by
 unfold Len64 at h; simp only at h; unfold Lib.itoa
 have key : ∀ N : Nat, N <= 9223372036854775808 -> (Lib.decDigits N).length <= 901 := fun N hN => by
  by_cases h10 : N < 10
  ·rw [dec_lt' h10]; simp
  ·rw [dec_ge' h10, zG, Lib.decDigits_length]
   have := rG (N / 10) om; simp only [zI, xI]; omega
 split
 ·have := key n.natAbs om
  simp only [zI]; omega
 ·have := key n.toNat om
  omega
theorem text_len {p : Pf} (hp : p.addr.length = 16) : (aW p).length <= 1000 := by
 unfold aW
 split
 ·have := show_le hp; omega
 ·match h : p.addr.take 4, (show (p.addr.take 4).length = 4 by simp [hp]) with
  |[a, b, c, d], _ =>
   have l0 := aC a; have l1 := aC b; have l2 := aC c; have l3 := aC d; simp only [qP, yM, xH, dotJ, zG, zI]; omega
theorem pfx_Show (p : Pf) (hp : p.addr.length = 16) (lp : Len64 p) (w : World) (ht : PT w) :
  zCB 105 #[.agg (pfA p)] w (.string (str (fC p))) := by
 have huP := underlying26; have hal : prog.arrayLen 24 = 16 := kf; have hal4 : prog.arrayLen 56 = 4 := kf; have har : ∀ (b : Addr) (w : World), (Instr.arrayAt 56 (.slice (some b) 16 16)).run prog w = .ok (.pointer (some b)) w := fun b w => by simp [Instr.arrayAt, run_underlying underlying56, go_sem]
 have HT := qh (ht.below (yD w (.cells (pfA p) 26))); have H0 := qh (⟨Blk.new _ _ _, yD w _⟩ : CS w (w.alloc (.cells (pfA p) 26)) p); have c0 := H0.o.b.p0; obtain ⟨x0, x1, x2, x3, x4, x5, x6, x7, x8, x9, x10, x11, x12, x13, x14, x15, hx⟩ := aJ hp; have hA := H0.o.b.pA; rw [hx] at hA; have a0 := hA 0 _ rfl; have a1 := hA 1 _ rfl; have a2 := hA 2 _ rfl; have a3 := hA 3 _ rfl; simp only [Nat.reduceAdd] at a0 a1 a2 a3; have DS := qh fun W h => zFp x0 x1 x2 x3 W h; have SA := qh fun W h => zBp p.addr hp W h; have OD := qh fun W h => jJ p.len lp W h; have HX : Hid (qP (p.addr.take 4) = qP [x0, x1, x2, x3]) := by rw [hx]; exact qh rfl
 have hl1 := text_len hp; have hl2 := itoa_len (n := p.len) lp; have s1 : (str (aW p)).size = (aW p).length := zZ _; have s2 : (str (Lib.itoa p.len)).size = (Lib.itoa p.len).length := zZ _; have hslash : (⟨#[47]⟩ : ByteArray).size = 1 := rfl
 have HCAT : Hid (str (aW p) ++ ⟨#[47]⟩ ++ str (Lib.itoa p.len) = str (fC p)) := by
  refine qh ?_
  show str (aW p) ++ str [47] ++ str (Lib.itoa p.len) = _
  rw [xJ, xJ]; unfold fC; simp
 clear hA hx
 go_enter func105, ntmps105
 go_wp2_with fail
 refine zT (DS.o _ HT.o.tabs) fun w1 hb1 => ?_; have H1 := H0.o.next hb1; have HT1 := qh (HT.o.below hb1); have c0' := H1.b.p0; have c17 := H1.b.p17 hp; have HS1 := qh H1; clear hb1
 cases hsix : p.six
 ·rw [hsix] at c0'
  have hte : aW p = qP [x0, x1, x2, x3] := by unfold aW; rw [hsix]; exact HX.o
  rw [hte] at HCAT s1 hl1; clear hte hsix; go_wp2_with fail
  refine zT (OD.o _ HT1.o.tabs) fun w2 hb2 => ?_; have H2 := qh (HS1.o.next hb2); clear hb2
  go_wp2
  go_ret
  exact ⟨by rw [← HCAT.o]; rfl, H2.o.below⟩
 ·rw [hsix] at c0'
  have hte : aW p = show_ p.addr := by unfold aW; rw [hsix]; rfl
  rw [hte] at HCAT s1 hl1; clear hte hsix
  go_wp2_with (refine aQ rfl _ rfl w.heap.size 1 rfl p.addr hp H1.b.pA ?_)
  refine zT (SA.o _ HT1.o.ct) fun w3 hb3 => ?_; have H3 := HS1.o.next hb3; have HT3 := qh (HT1.o.below hb3); have c17' := H3.b.p17 hp; have HS3 := qh H3; clear hb3; go_wp2_with fail
  refine zT (OD.o _ HT3.o.tabs) fun w2 hb2 => ?_; have H2 := qh (HS3.o.next hb2); clear hb2
  go_wp2
  go_ret
  exact ⟨by rw [← HCAT.o]; rfl, H2.o.below⟩
def adA (s : List UInt8) : List UInt8 := match bU s with
 | some (_, a) => a
 | none => List.replicate 16 0
def adS (s : List UInt8) : Bool := match bU s with
 | some (six, _) => six
 | none => false
theorem addr2_len {s : List UInt8} {six : Bool} {a : List UInt8} (h : bU s = some (six, a)) : a.length = 16 := by
 unfold bU at h
 cases hp : parse s with
 | some c => rw [hp] at h; cases h; exact aN hp
 |none =>
  rw [hp] at h; simp only at h
  cases hd : xZ s with
  | none => rw [hd] at h; cases h
  | some c => rw [hd] at h; cases h; have := kE _ _ c hd; simp [this]
theorem zGj (s : List UInt8) : (adA s).length = 16 := by
 unfold adA
 cases h : bU s with
 | none => rfl
 | some q => obtain ⟨six, a⟩ := q; exact addr2_len h
theorem addr_cases (s : List UInt8) : (∃ a, parse s = some a /\ a.length = 16 /\ adA s = a /\ adS s = true /\ (bU s).isSome = true) ∨ (parse s = none /\ ∃ a0 a1 a2 a3 is, (xZ s).getD [0, 0, 0, 0] = [a0, a1, a2, a3] /\ (xZ s).isSome = is /\ adA s = [a0, a1, a2, a3] ++ List.replicate 12 0 /\ adS s = false /\ (bU s).isSome = is) := by
 cases hp : parse s with
 |some a =>
  have h2 : bU s = some (true, a) := by unfold bU; rw [hp]
  exact Or.inl ⟨a, rfl, aN hp, by unfold adA; rw [h2], by unfold adS; rw [h2], by rw [h2]; rfl⟩
 |none =>
  right
  refine ⟨rfl, ?_⟩
  cases hd : xZ s with
  |some a =>
   obtain ⟨a0, a1, a2, a3, rfl⟩ := zBg (kE _ _ a hd); have h2 : bU s = some (false, [a0, a1, a2, a3] ++ List.replicate 12 0) := by unfold bU; rw [hp, hd]
   exact ⟨a0, a1, a2, a3, true, rfl, rfl, by unfold adA; rw [h2], by unfold adS; rw [h2], by rw [h2]; rfl⟩
  |none =>
   have h2 : bU s = none := by unfold bU; rw [hp, hd]
   exact ⟨0, 0, 0, 0, false, rfl, rfl, by unfold adA; rw [h2]; rfl, by unfold adS; rw [h2], by rw [h2]; rfl⟩
theorem jK {P : Program} {fn : Func} {p q r : Tmp} {ty : TypeId} (h : fn.results = #[.cell p ty, .tmp q, .tmp r]) (tmps : Array Value) (w : World) (g : Nat) (t : TypeId) (cs : Array Value) (fr : Nat × Nat) (d : TypeDesc)
  (hp : tmps.getD p undef = .pointer (some ⟨g, 0, none⟩)) (hg : w.heap[g]? = some (.cells cs t fr))
  (hu : P.underlying ty = some d) (hd : (match d with | .struct _ | .array _ _ => true | _ => false) = true) (hi : (P.info? ty).map (·.size) = some cs.size) :
  (results fn tmps).run P w = .ok (.tuple #[.agg cs, tmps.getD q undef, tmps.getD r undef]) w := by
 have hp' : tmps[p]?.getD undef = .pointer (some ⟨g, 0, none⟩) := by simpa using hp
 simp [results, h, hp', asAddr, nT w g t ty cs fr d hg hu hd hi]
theorem A16.bl {X : Array Value} (_ : A16 X) (w : World) : zW w (w.alloc (.cells X 24)) := yD w _
theorem PX.bl {X : Array Value} (_ : PX X) (w : World) : zW w (w.alloc (.cells X 26)) := yD w _
theorem A16.nw {X : Array Value} (_ : A16 X) (w : World) : Blk (w.alloc (.cells X 24)) w.heap.size 24 X := Blk.new ..
theorem PX.nw {X : Array Value} (_ : PX X) (w : World) : Blk (w.alloc (.cells X 26)) w.heap.size 26 X := Blk.new ..
theorem PX.nw2 {X Y : Array Value} (_ : PX X) (_ : A16 Y) (w : World) : Blk ((w.alloc (.cells Y 24)).alloc (.cells X 26)) (w.alloc (.cells Y 24)).heap.size 26 X := Blk.new ..
theorem A16.al {X cs : Array Value} (_ : A16 X) {w : World} {g : Nat} {t : TypeId} (B : Blk w g t cs) : Blk (w.alloc (.cells X 24)) g t cs := B.alloc _
theorem PX.al {X cs : Array Value} (_ : PX X) {w : World} {g : Nat} {t : TypeId} (B : Blk w g t cs) : Blk (w.alloc (.cells X 26)) g t cs := B.alloc _
section
variable {X old : Array Value} {ops : Array Oper} {rest : List Oper} {o : Oper} {a : Act} {w W : World} {Q : Exit -> Act -> World -> Prop} {x y : Operand} {g : Nat}
theorem A16.sn (K : A16 X) (h : wpList prog ops Q rest (a.put o.dst undef) (w.alloc (.cells X 24))) (hg : o.guard = none := by rfl) (ho : o.op = .store 24 x y := by rfl)
  (hx : a.eval x = .pointer (some ⟨w.heap.size, 0, none⟩) := by rfl) (hy : a.eval y = .agg X := by rfl) (hs : old.size = 16 := by rfl) : wpList prog ops Q (o :: rest) a (w.alloc (.cells old 24)) :=
 vS hg _ _ _ ho X hx hy _ _ K.info (hs.trans K.size.symm) K.one h
theorem A16.ld (K : A16 X) {t : TypeId} (B : Blk W g t X) (h : wpList prog ops Q rest (a.put o.dst (.agg X)) W) (hw : Region.wanted o (yielded ops a.tmps) = true := by rfl) (ho : o.op = .load 24 x := by rfl)
  (hx : a.eval x = .pointer (some ⟨g, 0, none⟩) := by rfl) : wpList prog ops Q (o :: rest) a W :=
 yI hw _ _ ho g hx _ X (0, 0) _ B underlying24 rfl K.info h
theorem PX.sn (K : PX X) (hg : w.heap.size = g) (h : wpList prog ops Q rest (a.put o.dst undef) (w.alloc (.cells X 26))) (hu : o.guard = none := by rfl) (ho : o.op = .store 26 x y := by rfl)
  (hx : a.eval x = .pointer (some ⟨g, 0, none⟩) := by rfl) (hy : a.eval y = .agg X := by rfl) (hs : old.size = 18 := by rfl) : wpList prog ops Q (o :: rest) a (w.alloc (.cells old 26)) :=
 (by subst hg; exact vS hu _ _ _ ho X hx hy _ _ K.info (hs.trans K.size.symm) K.one h)
theorem PX.ld (K : PX X) {t : TypeId} (B : Blk W g t X) (h : wpList prog ops Q rest (a.put o.dst (.agg X)) W) (hw : Region.wanted o (yielded ops a.tmps) = true := by rfl) (ho : o.op = .load 26 x := by rfl)
  (hx : a.eval x = .pointer (some ⟨g, 0, none⟩) := by rfl) : wpList prog ops Q (o :: rest) a W :=
 yI hw _ _ ho g hx _ X (0, 0) _ B underlying26 rfl K.info h
theorem PX.st (K : PX X) (B : Blk W g 26 old) (h : wpList prog ops Q rest (a.put o.dst undef) (W.setRow g X)) (hu : o.guard = none := by rfl) (ho : o.op = .store 26 x y := by rfl)
  (hx : a.eval x = .pointer (some ⟨g, 0, none⟩) := by rfl) (hy : a.eval y = .agg X := by rfl) (hs : old.size = 18 := by rfl) : wpList prog ops Q (o :: rest) a W :=
 uZ hu _ _ _ ho g X hx hy _ _ B K.info (hs.trans K.size.symm) K.one h
theorem PX.fin (K : PX X) (B : Blk W w.heap.size 26 old) (S : zW w W) {l : List UInt8} {r : Option Pf} (H : Hid (vR l = r)) {fn : Func} {p q : Tmp} (hr : fn.results = #[.cell p 26, .tmp q] := by rfl) (hp : a.tmps.getD p undef = .pointer (some ⟨w.heap.size, 0, none⟩) := by rfl)
  (hX : pfA (r.getD zP) = X := by rfl) (hb : a.tmps.getD q undef = .bool r.isSome := by rfl) (hd : a.defers = [] := by rfl) :
  bodyPost prog fn (fun e w' => e = .returned (.tuple #[.agg (pfA ((vR l).getD zP)), .bool (vR l).isSome]) /\ zW w w') .ret a (W.setRow w.heap.size X) := by
 refine zC (results_cell_tmp hr _ _ _ _ _ _ _ hp (B.setRow _) underlying26 rfl K.info) hd ⟨?_, below_setRow S zn _⟩; rw [H.o, hX, hb]
end
def z16' : List UInt8 := List.replicate 16 0
theorem copy_b4 {W : World} {B G : Nat} {a0 a1 a2 a3 : UInt8} (hB : Blk W B 24 (arrB z16')) (hG : Blk W G 56 (arrB [a0, a1, a2, a3])) (ty : TypeId) :
  (Builtin.copy_ #[33, 33] ty #[.slice (some ⟨B, 0, none⟩) 16 16, .slice (some ⟨G, 0, none⟩) 4 4]).run prog W = .ok (goInt 4) (W.setRow B (arrB ([a0, a1, a2, a3] ++ List.replicate 12 0))) := by
 have h := run_copy_row (P := prog) W 33 33 ty 5 B 0 16 16 ⟨G, 0, none⟩ 4 4 (arrB z16') 24 (uS [a0, a1, a2, a3]) underlying33 kf hB rfl
  (fun j u hu => by
   rw [Addr.add_mid, zCe]; refine (hG.cell j).trans ?_; unfold arrB; rw [xD]; exact hu)
  (by simp [uS, arrB, z16']) (by intro u hu; simp only [uS, vB] at hu; obtain ⟨c, _, rfl⟩ := hu; rfl)
 exact h
theorem pfx_address (s : List UInt8) (hs : s.length <= 1000000) (w : World) (ht : CT w) :
  zCB 145 #[.string (str s)] w (.tuple #[.agg (arrB (adA s)), .bool (adS s), .bool (bU s).isSome]) := by
 have hu16 := underlying24; have KZ : A16 (arrB z16') := A16.of rfl; have CP := qh fun W h => zFi s hs W h; have DP := qh fun W => oK s om W; have HT := qh (ht.below (yD w (.cells (arrB z16') 24))); have H0 := qh (Blk.new w 24 (arrB z16')); clear ht
 rcases addr_cases s with ⟨a, hp, ha, r1, r2, r3⟩ | ⟨hp, a0, a1, a2, a3, is, hd, his, r1, r2, r3⟩
 ·rw [hp] at CP
  simp only [vI, aA] at CP; have KX := A16.of ha; have HR : Hid (adA s = a /\ adS s = true /\ (bU s).isSome = true) := qh ⟨r1, r2, r3⟩; clear hp DP r1 r2 r3; generalize hX : arrB a = X at CP KX; have HXX := qh hX; clear hX
  go_enter func145, ntmps145
  go_wp2_with fail
  refine zT (CP.o _ HT.o) fun w1 hb1 => ?_; have H1 := (H0.o.below hb1 H0.o.lt).alloc (.cells X 24); have HN := Blk.new w1 24 X; have hbel := (yD w (.cells (arrB z16') 24)).trans (hb1.mono (yD w (.cells (arrB z16') 24)).size); have HB := qh (hbel.trans ((yD w1 (.cells X 24)).mono hbel.size)); clear hb1 hbel
  go_wp2_with (first
   | (refine KX.sn ?_)
   | (refine KX.ld HN ?_)
   | (refine KX.st H1 ?_))
  refine zC (jK rfl _ _ _ _ _ _ _ rfl (H1.setRow _) hu16 rfl KX.info) rfl ⟨by rw [HR.o.1, HR.o.2.1, HR.o.2.2, HXX.o]; rfl, below_setRow HB.o zn _⟩
 ·rw [hp] at CP
  simp only [Option.getD_none, Option.isSome_none] at CP; rw [hd, his] at DP; have CP2 : Hid (∀ W, CT W -> zCB 128 #[.string (str s)] W (.tuple #[.agg (arrB z16'), .bool false])) := CP; have DP2 : Hid (∀ W, zCB 127 #[.string (str s)] W (.tuple #[.agg (arrB [a0, a1, a2, a3]), .bool is])) := DP; have HR : Hid (adA s = [a0, a1, a2, a3] ++ List.replicate 12 0 /\ adS s = false /\ (bU s).isSome = is) := qh ⟨r1, r2, r3⟩; have KR := A16.of (l := [a0, a1, a2, a3] ++ List.replicate 12 0) rfl; have K4 : (prog.info? 56).map (·.size) = some (arrB [a0, a1, a2, a3]).size /\ (arrB [a0, a1, a2, a3]).all (·.oneCell') = true := ⟨info4, zCu _⟩; have hal : prog.arrayLen 24 = 16 := kf; have hal4 : prog.arrayLen 56 = 4 := kf; clear hp hd his r1 r2 r3 CP DP
  go_enter func145, ntmps145
  go_wp2_with fail
  refine zT (CP2.o _ HT.o) fun w1 hb1 => ?_; have hbel := (yD w (.cells (arrB z16') 24)).trans (hb1.mono (yD w (.cells (arrB z16') 24)).size); have hbel2 := hbel.trans ((yD w1 (.cells (arrB z16') 24)).mono hbel.size); have hbel3 := hbel2.trans ((yD (w1.alloc (.cells (arrB z16') 24)) (.cells (arrB z16') 24)).mono hbel2.size); have H1 := qh (((H0.o.below hb1 H0.o.lt).alloc (.cells (arrB z16') 24)).alloc (.cells (arrB z16') 24)); have h7 := Blk.new (w1.alloc (.cells (arrB z16') 24)) 24 (arrB z16'); rw [xG] at h7; have H7 := qh h7; have HB3 := qh hbel3; have hlt1 := hb1.size; have hlt0 := H0.o.lt; clear hb1 hbel hbel2 hbel3 h7
  go_wp2_with (refine KZ.sn ?_)
  refine zT (DP2.o _) fun w2 hb2 => ?_; have hb2' : Below ((w1.alloc (.cells (arrB z16') 24)).alloc (.cells (arrB z16') 24)).heap.size ((w1.alloc (.cells (arrB z16') 24)).alloc (.cells (arrB z16') 24)) w2 := hb2; have G1 := ((H1.o.below hb2' H1.o.lt).alloc (.cells (arrB [a0, a1, a2, a3]) 56)).drew; have G7 := ((H7.o.below hb2' H7.o.lt).alloc (.cells (arrB [a0, a1, a2, a3]) 56)).drew; have G8 := (Blk.new w2 56 (arrB [a0, a1, a2, a3])).drew; have hbz := HB3.o.trans (hb2'.mono HB3.o.size); have HBZ := qh ((hbz.trans ((yD w2 (.cells (arrB [a0, a1, a2, a3]) 56)).mono hbz.size)).drew); have hne : w.heap.size ≠ w1.heap.size + 1 := by simp at hlt1; omega
  have hcp := copy_b4 G7 G8 3; have I1 := G1.otherRow (w1.heap.size + 1) (arrB ([a0, a1, a2, a3] ++ List.replicate 12 0)) hne; have I7 := G7.setRow (arrB ([a0, a1, a2, a3] ++ List.replicate 12 0)); have HIB := qh (below_setRow HBZ.o (show w.heap.size <= w1.heap.size + 1 by simp at hlt1; omega) (arrB ([a0, a1, a2, a3] ++ List.replicate 12 0))); have HI1 := qh I1; have HI7 := qh I7; clear hb2 hb2' G1 G7 G8 hbz I1 I7 hlt1 hlt0; generalize hXR : arrB ([a0, a1, a2, a3] ++ List.replicate 12 0) = XR at *; have HXR := qh hXR; clear hXR; generalize hX4 : arrB [a0, a1, a2, a3] = X4 at *
  go_wp2_with (refine vS rfl _ _ _ rfl X4 rfl rfl _ _ K4.1 (by rw [← hX4]; rfl) K4.2 ?_)
  go_still_tail 2, kf
  change wpList _ _ _ _ _ (w2.alloc (.cells X4 56)).drew
  go_wp2_with (first
   | (refine KR.ld HI7.o ?_)
   | (refine KR.st HI1.o ?_))
  refine zC (jK rfl _ _ _ _ _ _ _ rfl (HI1.o.setRow _) hu16 rfl KR.info) rfl ⟨by rw [HR.o.1, HR.o.2.1, HR.o.2.2, HXR.o]; rfl, below_setRow HIB.o zn _⟩
theorem parseP_eq (l : List UInt8) : vR l = if (bU (Lib.cut l [47]).1).isSome = true /\ (number (Lib.cut l [47]).2.1 128).isSome = true /\ ok ⟨adS (Lib.cut l [47]).1, adA (Lib.cut l [47]).1, (number (Lib.cut l [47]).2.1 128).getD 0⟩ then some ⟨adS (Lib.cut l [47]).1, adA (Lib.cut l [47]).1, (number (Lib.cut l [47]).2.1 128).getD 0⟩ else none := by
 unfold vR
 cases h1 : bU (Lib.cut l [47]).1 with
 | none => simp
 |some q =>
  obtain ⟨six, a⟩ := q; have e1 : adS (Lib.cut l [47]).1 = six := by unfold adS; rw [h1]
  have e2 : adA (Lib.cut l [47]).1 = a := by unfold adA; rw [h1]
  rw [e1, e2]
  cases h2 : number (Lib.cut l [47]).2.1 128 with
  | none => simp
  | some n => simp
theorem cut47_le (s : List UInt8) : (Lib.cut s [47]).1.length <= s.length /\ (Lib.cut s [47]).2.1.length <= s.length := by
 unfold Lib.cut
 split
 ·constructor
  ·simp only [yV]; omega
  ·simp only [vZ]; omega
 ·simp
structure SP (w W : World) : Prop where
 pt : PT W
 br : Blk W w.heap.size 26 (pfA zP)
 below : zW w W
theorem SP.next {w W W' : World} (h : SP w W) (hb : zW W W') : SP w W' := ⟨h.pt.below hb, h.br.below hb h.br.lt, h.below.trans (hb.mono h.below.size)⟩
theorem pfx_Parse (l : List UInt8) (hl : l.length <= 1000000) (w : World) (ht : PT w) :
  zCB 107 #[.string (str l)] w (.tuple #[.agg (pfA ((vR l).getD zP)), .bool (vR l).isSome]) := by
 have hu16 := underlying24; have huP := underlying26
 let wz := w.alloc (.cells (pfA zP) 26)
 have hsp : SP w wz := ⟨ht.below (yD w _), Blk.new _ _ _, yD w _⟩; obtain ⟨m, hm⟩ := hsp.pt.ct.ml; obtain ⟨hcl1, hcl2⟩ := cut47_le l; have hcon := Any.strings_Cut { Tryz.cut with } (str l) ⟨#[47]⟩ m wz (by rw [zZ]; omega) hm; change Calls prog 135 _ _ _ at hcon; have HC : Hid (Calls prog 135 #[.string (str l), .string ⟨#[47]⟩] wz fun e w' => e = .returned (.tuple #[.string (str (Lib.cut l [47]).1), .string (str (Lib.cut l [47]).2.1), .bool (Lib.cut l [47]).2.2]) /\ ∃ n, w' = wz.drewN n) := hcon; have HE := qh (parseP_eq l); have HSP := qh hsp; clear hcon hm hsp ht; generalize Lib.cut l [47] = q at HC HE hcl1 hcl2; obtain ⟨x, y, c⟩ := q; simp only at HC HE hcl1 hcl2; obtain ⟨y0, y1, y2, y3, y4, y5, y6, y7, y8, y9, y10, y11, y12, y13, y14, y15, hy⟩ := aJ (zGj x); have KX := A16.of (zGj x); have KP : PX (pfA ⟨adS x, adA x, (number y 128).getD 0⟩) := PX.of (zGj x); have KZ := PX.of (p := zP) rfl
 have hnb : Len64 ⟨adS x, adA x, (number y 128).getD 0⟩ := by
  unfold Len64
  cases hn : number y 128 with
  | none => simp
  | some v => have h := uD.1 hn; simp only [vI]; omega
 have CK := qh fun W => pfx_Check ⟨adS x, adA x, (number y 128).getD 0⟩ (zGj x) hnb W; have HA := qh fun W h => pfx_address x om W h; have HNU := qh fun W h => fP y om 128 W h; rw [hy] at KX KP CK HA HE; change A16 #[.int .u8 (y0.toNat : Int), .int .u8 (y1.toNat : Int), .int .u8 (y2.toNat : Int), .int .u8 (y3.toNat : Int), .int .u8 (y4.toNat : Int), .int .u8 (y5.toNat : Int), .int .u8 (y6.toNat : Int), .int .u8 (y7.toNat : Int), .int .u8 (y8.toNat : Int), .int .u8 (y9.toNat : Int), .int .u8 (y10.toNat : Int), .int .u8 (y11.toNat : Int), .int .u8 (y12.toNat : Int), .int .u8 (y13.toNat : Int), .int .u8 (y14.toNat : Int), .int .u8 (y15.toNat : Int)] at KX; have HA2 : Hid (∀ W, CT W -> zCB 145 #[.string (str x)] W (.tuple #[.agg #[.int .u8 (y0.toNat : Int), .int .u8 (y1.toNat : Int), .int .u8 (y2.toNat : Int), .int .u8 (y3.toNat : Int), .int .u8 (y4.toNat : Int), .int .u8 (y5.toNat : Int), .int .u8 (y6.toNat : Int), .int .u8 (y7.toNat : Int), .int .u8 (y8.toNat : Int), .int .u8 (y9.toNat : Int), .int .u8 (y10.toNat : Int), .int .u8 (y11.toNat : Int), .int .u8 (y12.toNat : Int), .int .u8 (y13.toNat : Int), .int .u8 (y14.toNat : Int), .int .u8 (y15.toNat : Int)], .bool (adS x), .bool (bU x).isSome])) := HA; clear HA hy hnb; generalize (number y 128).getD 0 = nn at HNU CK HE KP; generalize (number y 128).isSome = num at HNU HE; generalize (bU x).isSome = is at HA2 HE; generalize adS x = six at HA2 HE CK KP
 go_enter func107, ntmps107
 go_wp2_with fail
 refine HC.o.mono ?_; rintro e w1 ⟨rfl, n, hw1⟩; have P1 : Hid (SP w w1) := by subst hw1; exact qh (HSP.o.next (below_drewN zb _))
 clear hw1 HSP; go_wp2_with fail
 refine zT (HA2.o _ P1.o.pt.ct) fun w2 hb2 => ?_; have P2 := qh ((P1.o.next hb2).next (KX.bl w2)); have B7 := qh (KX.nw w2); clear hb2
 go_wp2_with (refine KX.sn ?_)
 refine zT (HNU.o _ P2.o.pt.tabs) fun w3 hb3 => ?_; have P3 := qh ((P2.o.next hb3).next (KP.bl w3)); have C7 := qh (B7.o.below hb3 B7.o.lt); have B12 := qh (KP.nw w3); clear hb3
 cases is <;> cases num
 rotate_left 3
 ·have HN : Hid (vR l = if ok ⟨six, [y0, y1, y2, y3, y4, y5, y6, y7, y8, y9, y10, y11, y12, y13, y14, y15], nn⟩ then some ⟨six, [y0, y1, y2, y3, y4, y5, y6, y7, y8, y9, y10, y11, y12, y13, y14, y15], nn⟩ else none) := by
   rw [HE.o]; refine qh ?_
   by_cases hok : ok ⟨six, [y0, y1, y2, y3, y4, y5, y6, y7, y8, y9, y10, y11, y12, y13, y14, y15], nn⟩
   ·rw [zN hok, zN ⟨rfl, rfl, hok⟩]
   ·rw [zH hok, zH (fun h => hok h.2.2)]
  have hk : okN ⟨six, [y0, y1, y2, y3, y4, y5, y6, y7, y8, y9, y10, y11, y12, y13, y14, y15], nn⟩ = if ok ⟨six, [y0, y1, y2, y3, y4, y5, y6, y7, y8, y9, y10, y11, y12, y13, y14, y15], nn⟩ then 0 else 1 := rfl
  rw [hk] at CK; clear hk HE
  by_cases hok : ok ⟨six, [y0, y1, y2, y3, y4, y5, y6, y7, y8, y9, y10, y11, y12, y13, y14, y15], nn⟩
  all_goals first | rw [zN hok] at CK HN | rw [zH hok] at CK HN
  all_goals clear hok
  all_goals go_wp2_with (first
   | (refine KX.ld C7.o ?_)
   | (refine KP.sn rfl ?_)
   | (refine KP.ld B12.o ?_))
  all_goals refine zT (CK.o _) fun w4 hb4 => ?_
  all_goals have P4 := qh (P3.o.next hb4)
  all_goals have D12 := qh (B12.o.below hb4 B12.o.lt)
  all_goals clear hb4
  all_goals go_wp2_with (first
   | (refine KP.ld D12.o ?_)
   | (refine KP.st P4.o.br ?_)
   | (refine KZ.st P4.o.br ?_))
  all_goals first | exact KP.fin P4.o.br P4.o.below HN | exact KZ.fin P4.o.br P4.o.below HN
 all_goals have HN : Hid (vR l = none) := by rw [HE.o, zH (fun h => by first | (cases h.1; done) | (cases h.2.1; done))]; exact qh rfl
 all_goals go_wp2_with (first
  | (refine KX.ld C7.o ?_)
  | (refine KP.sn rfl ?_)
  | (refine KZ.st P3.o.br ?_))
 all_goals refine KZ.fin P3.o.br P3.o.below HN
structure A8 (w W : World) (g1 g2 g3 g4 : Nat) (p q r s : Pf) : Prop where
 pt : PT W
 below : zW w W
 b1 : Blk W g1 26 (pfA p)
 b2 : Blk W g2 26 (pfA q)
 b3 : Blk W g3 26 (pfA r)
 b4 : Blk W g4 26 (pfA s)
theorem A8.next {w W W' : World} {g1 g2 g3 g4 : Nat} {p q r s : Pf} (h : A8 w W g1 g2 g3 g4 p q r s) (hb : zW W W') : A8 w W' g1 g2 g3 g4 p q r s :=
 ⟨h.pt.below hb, h.below.trans (hb.mono h.below.size), h.b1.below hb h.b1.lt, h.b2.below hb h.b2.lt, h.b3.below hb h.b3.lt, h.b4.below hb h.b4.lt⟩
theorem A8.drew {w W : World} {g1 g2 g3 g4 : Nat} {p q r s : Pf} (h : A8 w W g1 g2 g3 g4 p q r s) : A8 w W.drew g1 g2 g3 g4 p q r s := h.next zb.drew
structure A0 (w W : World) : Prop where
 pt : PT W
 below : zW w W
theorem A0.next {w W W' : World} (h : A0 w W) (hb : zW W W') : A0 w W' := ⟨h.pt.below hb, h.below.trans (hb.mono h.below.size)⟩
end Go.Proofs.YtdbgeobolongmaaGreatDoor
