/- Part of the proof: contracts of the functions that the statements of layer 32 reach. -/
import Derived.Lib.Bytealg
import Derived.WalkSpells
import Derived.Lib.BytesEntry
import Derived.Laws.Externs
import Derived.StillTailTactics
import Derived.Deep.MidRow
import Derived.Test.YtdbgeobolongmaaGreatDoorV04
import Derived.Test.YtdbgeobolongmaaGreatDoorV05
import Derived.Test.YtdbgeobolongmaaGreatDoorV06
import Derived.Test.YtdbgeobolongmaaGreatDoorV07
import Derived.Test.YtdbgeobolongmaaGreatDoorV12
import Derived.Test.YtdbgeobolongmaaGreatDoorV13
import Derived.Test.YtdbgeobolongmaaGreatDoorV14
import Derived.Test.YtdbgeobolongmaaGreatDoorV15
import Derived.Test.YtdbgeobolongmaaGreatDoorV16
import Derived.Test.YtdbgeobolongmaaGreatDoorV17
set_option linter.unusedVariables false
set_option linter.unusedSimpArgs false
set_option maxRecDepth 100000
set_option maxHeartbeats 4000000
namespace Go.Proofs.YtdbgeobolongmaaGreatDoor
open Go.RowKit Go.Shelf Go.Proofs Go.OctetPlain Go.ColonPlain Go.PrefixPlain
theorem join_dot : ∀ L : List (List UInt8), Lib.join L [46] = dotJ L
 | [] => rfl
 | [p] => by simp [Lib.join_one, dotJ]
 | p :: q :: r => by
  have ih := join_dot (q :: r)
  rw [dotJ, ← ih]
  simp [Lib.join]
theorem itoa_nat (n : Nat) : Lib.itoa (n : Int) = Lib.decDigits n := by unfold Lib.itoa; rw [if_neg (by omega)]; simp
theorem dec_len3 (c : UInt8) : (Lib.decDigits c.toNat).length ≤ 3 := by
 have h := c.toNat_lt
 have : ∀ n : Fin 256, (Lib.decDigits n).length ≤ 3 := by decide +kernel
 exact this ⟨c.toNat, h⟩
theorem run_index_b4 {w : World} (cs : Array Value) (i : Nat) (n : Int) (hi : i < 4) (hc : cs[i]? = some (.int .u8 n)) :
  (Instr.index 56 (.agg cs) (.int .i64 (i : Int))).run Tryz.prog w = .ok (.int .u8 n) w := by
 have h1 : (i : Int) < 4 := by omega
 simp [Instr.index, run_underlying Tryz.underlying56, asIntOf, h1, hc, go_sem, Tryz.sizeOf5, Tryz.isAgg5, part]
 intro h; omega
def decs (a : List UInt8) : List (List UInt8) := a.map fun c => Lib.decDigits c.toNat
theorem dotted_Show (c0 c1 c2 c3 : UInt8) (w : World) (ht : Tabs w) :
  Calls Tryz.prog 42 #[.agg #[.int .u8 (c0.toNat : Int), .int .u8 (c1.toNat : Int), .int .u8 (c2.toNat : Int), .int .u8 (c3.toNat : Int)]] w fun e w' => e = .returned (.string (str (showD [c0, c1, c2, c3]))) ∧ Below w.heap.size w w' := by
 have HT := qh ht
 clear ht
 go_enter Tryz.func42, Tryz.ntmps42
 go_wp2_with fail
 go_loopw [3, 5, 7] (fun vo _ vi wr => ∃ k : Nat, vi = .int .i64 k ∧ k ≤ 4 ∧ Hid (wr.ownsRow (w.heap.size + 1) 9 1 vo k (flat encS (decs ([c0, c1, c2, c3].take k)))) ∧ Hid (Below w.heap.size w wr) ∧ Hid (w.heap.size + 1 ≤ wr.heap.size)) (fun _ _ vi _ => 4 - (intOf vi).toNat)
 case atStart => exact ⟨0, rfl, Nat.zero_le _, qh (World.ownsRow_nil _ _ _ _), qh (belowA w _), qh (by simp)⟩
 case round =>
  obtain ⟨k, rfl, hk, HO, HB, HZ⟩ := hrel
  by_cases hlt : k < 4
  ·obtain ⟨c, hc⟩ : ∃ c, [c0, c1, c2, c3][k]? = some c := ⟨_, List.getElem?_eq_getElem (by simpa using hlt)⟩
   have hix := fun w : World => run_index_b4 (w := w) #[.int .u8 (c0.toNat : Int), .int .u8 (c1.toNat : Int), .int .u8 (c2.toNat : Int), .int .u8 (c3.toNat : Int)] k (c.toNat : Int) hlt (arrB_get (l := [c0, c1, c2, c3]) hc)
   have HTK : Hid (decs ([c0, c1, c2, c3].take (k + 1)) = decs ([c0, c1, c2, c3].take k) ++ [Lib.decDigits c.toNat]) := by
    rw [List.take_add_one, hc]; unfold decs; rw [List.map_append]; exact qh rfl
   have HD := qh fun W h => octet_Digits (c.toNat : Int) (by have := c.toNat_lt; omega) W h
   rw [itoa_nat] at HD
   have w4 : IntKind.i64.wrap (c.toNat : Int) = c.toNat := IntWalk.i64_in _ (by have := c.toNat_lt; omega)
   clear hc
   go_wp2_with fail
   refine (HD.out _ (HT.out.next HB.out (Nat.le_refl _))).mono ?_
   rintro e w1 ⟨rfl, hb1⟩
   have HB1 := qh (HB.out.trans (hb1.mono HB.out.size))
   have HO1 := qh (owns_below HO.out hb1 (Nat.le_refl _))
   have hz1 := Nat.le_trans HZ.out hb1.size
   clear hb1
   go_wp2_with (at_builtin; go_loud (refine wpList_app elemS rfl (.tmp 10) (.tmp 14) rfl (w.heap.size + 1) u3 _ _ rfl HO1.out 1 1 [.string _] rfl rfl (by simp [Value.oneCell']) (by omega) hz1 ?_; intro v4 w4 hown4 _ _ hb4))
   exact ⟨⟨k + 1, by go_num, by omega, qh (by rw [HTK.out, flat_append]; exact hown4), qh (HB1.out.trans (hb4.mono (Nat.le_succ _))), qh (Nat.le_trans hz1 hb4.size)⟩, by simp [intOf]; omega⟩
  ·obtain rfl : k = 4 := by omega
   have hO := HO.out
   have hz := HB.out.size
   have hO2 : wr.ownsRow (w.heap.size + 1) 9 1 u3 (decs [c0, c1, c2, c3]).length (flat encS (decs [c0, c1, c2, c3])) := hO
   obtain ⟨p', cap', rfl, hd1, hd2, hR'⟩ := SlR.of_owns encS_len hO2
   have l0 := dec_len3 c0
   have l1 := dec_len3 c1
   have l2 := dec_len3 c2
   have l3 := dec_len3 c3
   have hjs : Lib.join (((decs [c0, c1, c2, c3]).map str).map (·.data.toList)) (⟨#[46]⟩ : ByteArray).data.toList = showD [c0, c1, c2, c3] := by
    rw [List.map_map]
    have : (fun s : ByteArray => s.data.toList) ∘ str = id := by funext l; exact list_str l
    rw [this, List.map_id]
    exact join_dot _
   have hll : (showD [c0, c1, c2, c3]).length ≤ 140737488355328 := by
    simp only [showD, List.map_cons, List.map_nil, dotJ, List.length_append, List.length_cons]; omega
   have HC : Hid (Calls Tryz.prog 34 #[.slice p' 4 cap', .string ⟨#[46]⟩] wr fun e w' => e = .returned (.string (str (showD [c0, c1, c2, c3]))) ∧ Below wr.heap.size wr w') := by
    cases p' with
    | none => have h0 := hR'.1 rfl; simp [decs] at h0
    | some a =>
     obtain ⟨hsp, hbk, hcl⟩ := hR'.2 a rfl (by simp [decs])
     have ha : a = ⟨a.block, a.off, none⟩ := by cases a; simp_all
     have hcon := Any.strings_Join Tryz.join joinExtra a.block a.off cap' ((decs [c0, c1, c2, c3]).map str) ⟨#[46]⟩ wr (fun j x hx => by
      rw [List.getElem?_map] at hx
      cases hy : (decs [c0, c1, c2, c3])[j]? with
      | none => rw [hy] at hx; cases hx
      | some y =>
       rw [hy] at hx
       cases hx
       have := hcl j y hy 0 (.string (str y)) rfl
       simpa using this) hbk (by simp [decs]) (by simpa using hd1) (by rw [hjs]; exact hll)
     rw [hjs] at hcon
     rw [ha]
     exact qh hcon
   clear hjs hO hO2 hR'
   go_wp2_with fail
   refine HC.out.mono ?_
   rintro e w1 ⟨rfl, hb1⟩
   go_wp2_with fail
   go_ret
   exact ⟨rfl, HB.out.trans (hb1.mono HB.out.size)⟩
end Go.Proofs.YtdbgeobolongmaaGreatDoor
namespace Go.Proofs.YtdbgeobolongmaaGreatDoor
open Go.RowKit Go.Shelf Go.Proofs Go.OctetPlain Go.ColonPlain Go.PrefixPlain
structure PT (w : World) : Prop where
 ct : CT w
 tabs : Tabs w
theorem PT.below {w w' : World} (h : PT w) (hb : Below w.heap.size w w') : PT w' := ⟨h.ct.below hb, h.tabs.below hb⟩
theorem itoa_len {n : Int} (h : Len64 ⟨false, [], n⟩) : (Lib.itoa n).length ≤ 1000 := by
 unfold Len64 at h
 simp only at h
 unfold Lib.itoa
 have key : ∀ N : Nat, N ≤ 9223372036854775808 → (Lib.decDigits N).length ≤ 901 := fun N hN => by
  by_cases h10 : N < 10
  ·rw [dec_lt' h10]; simp
  ·rw [dec_ge' h10, List.length_append, Lib.decDigits_length]
   have := nDigits_le19 (N / 10) (by omega)
   simp only [List.length_cons, List.length_nil]; omega
 split
 ·have := key n.natAbs (by omega)
  simp only [List.length_cons]; omega
 ·have := key n.toNat (by omega)
  omega
theorem text_len {p : Pf} (hp : p.addr.length = 16) : (textP p).length ≤ 1000 := by
 unfold textP
 split
 ·have := show_le hp; omega
 ·match h : p.addr.take 4, (show (p.addr.take 4).length = 4 by simp [hp]) with
  | [a, b, c, d], _ =>
   have l0 := dec_len3 a
   have l1 := dec_len3 b
   have l2 := dec_len3 c
   have l3 := dec_len3 d
   simp only [showD, List.map_cons, List.map_nil, dotJ, List.length_append, List.length_cons]; omega
theorem pfx_Show (p : Pf) (hp : p.addr.length = 16) (lp : Len64 p) (w : World) (ht : PT w) :
  Calls Tryz.prog 105 #[.agg (pfA p)] w fun e w' => e = .returned (.string (str (showP p))) ∧ Below w.heap.size w w' := by
 have huP := Tryz.underlying26
 have hal : Tryz.prog.arrayLen 24 = 16 := by kernel_rfl
 have hal4 : Tryz.prog.arrayLen 56 = 4 := by kernel_rfl
 have har : ∀ (b : Addr) (w : World), (Instr.arrayAt 56 (.slice (some b) 16 16)).run Tryz.prog w = .ok (.pointer (some b)) w := fun b w => by simp [Instr.arrayAt, run_underlying Tryz.underlying56, go_sem]
 have HT := qh (ht.below (belowA w (.cells (pfA p) 26)))
 have H0 := qh (⟨Blk.new _ _ _, belowA w _⟩ : CS w (w.alloc (.cells (pfA p) 26)) p)
 have c0 := H0.out.b.p0
 obtain ⟨x0, x1, x2, x3, x4, x5, x6, x7, x8, x9, x10, x11, x12, x13, x14, x15, hx⟩ := list16 hp
 have hA := H0.out.b.pA
 rw [hx] at hA
 have a0 := hA 0 _ rfl
 have a1 := hA 1 _ rfl
 have a2 := hA 2 _ rfl
 have a3 := hA 3 _ rfl
 simp only [Nat.reduceAdd] at a0 a1 a2 a3
 have DS := qh fun W h => dotted_Show x0 x1 x2 x3 W h
 have SA := qh fun W h => colon_Show p.addr hp W h
 have OD := qh fun W h => octet_Digits p.len lp W h
 have HX : Hid (showD (p.addr.take 4) = showD [x0, x1, x2, x3]) := by rw [hx]; exact qh rfl
 have hl1 := text_len hp
 have hl2 := itoa_len (n := p.len) lp
 have s1 : (str (textP p)).size = (textP p).length := str_size _
 have s2 : (str (Lib.itoa p.len)).size = (Lib.itoa p.len).length := str_size _
 have hslash : (⟨#[47]⟩ : ByteArray).size = 1 := rfl
 have HCAT : Hid (str (textP p) ++ ⟨#[47]⟩ ++ str (Lib.itoa p.len) = str (showP p)) := by
  refine qh ?_
  show str (textP p) ++ str [47] ++ str (Lib.itoa p.len) = _
  rw [str_app, str_app]; unfold showP; simp
 clear hA hx
 go_enter Tryz.func105, Tryz.ntmps105
 go_wp2_with fail
 refine (DS.out _ HT.out.tabs).mono ?_
 rintro e w1 ⟨rfl, hb1⟩
 have H1 := H0.out.next hb1
 have HT1 := qh (HT.out.below hb1)
 have c0' := H1.b.p0
 have c17 := H1.b.p17 hp
 have HS1 := qh H1
 clear hb1
 cases hsix : p.six
 ·rw [hsix] at c0'
  have hte : textP p = showD [x0, x1, x2, x3] := by unfold textP; rw [hsix]; exact HX.out
  rw [hte] at HCAT s1 hl1
  clear hte hsix
  go_wp2_with fail
  refine (OD.out _ HT1.out.tabs).mono ?_
  rintro e w2 ⟨rfl, hb2⟩
  have H2 := qh (HS1.out.next hb2)
  clear hb2
  go_wp2_with fail
  go_ret
  exact ⟨by rw [← HCAT.out]; rfl, H2.out.below⟩
 ·rw [hsix] at c0'
  have hte : textP p = show_ p.addr := by unfold textP; rw [hsix]; rfl
  rw [hte] at HCAT s1 hl1
  clear hte hsix
  go_wp2_with (refine wpList_load_addr rfl _ rfl w.heap.size 1 rfl p.addr hp H1.b.pA ?_)
  refine (SA.out _ HT1.out.ct).mono ?_
  rintro e w3 ⟨rfl, hb3⟩
  have H3 := HS1.out.next hb3
  have HT3 := qh (HT1.out.below hb3)
  have c17' := H3.b.p17 hp
  have HS3 := qh H3
  clear hb3
  go_wp2_with fail
  refine (OD.out _ HT3.out.tabs).mono ?_
  rintro e w2 ⟨rfl, hb2⟩
  have H2 := qh (HS3.out.next hb2)
  clear hb2
  go_wp2_with fail
  go_ret
  exact ⟨by rw [← HCAT.out]; rfl, H2.out.below⟩
end Go.Proofs.YtdbgeobolongmaaGreatDoor
namespace Go.Proofs.YtdbgeobolongmaaGreatDoor
open Go.RowKit Go.Shelf Go.Proofs Go.OctetPlain Go.ColonPlain Go.PrefixPlain
end Go.Proofs.YtdbgeobolongmaaGreatDoor
namespace Go.Proofs.YtdbgeobolongmaaGreatDoor
open Go.RowKit Go.Shelf Go.Proofs Go.OctetPlain Go.ColonPlain Go.PrefixPlain
end Go.Proofs.YtdbgeobolongmaaGreatDoor
namespace Go.Proofs.YtdbgeobolongmaaGreatDoor
open Go.RowKit Go.Shelf Go.Proofs Go.OctetPlain Go.ColonPlain Go.PrefixPlain
def adA (s : List UInt8) : List UInt8 := match addr2 s with
 | some (_, a) => a
 | none => List.replicate 16 0
def adS (s : List UInt8) : Bool := match addr2 s with
 | some (six, _) => six
 | none => false
theorem addr2_len {s : List UInt8} {six : Bool} {a : List UInt8} (h : addr2 s = some (six, a)) : a.length = 16 := by
 unfold addr2 at h
 cases hp : parse s with
 | some c => rw [hp] at h; cases h; exact parse_length hp
 | none =>
  rw [hp] at h
  simp only at h
  cases hd : dotted s with
  | none => rw [hd] at h; cases h
  | some c => rw [hd] at h; cases h; have := dotParts_length _ _ c hd; simp [this]
theorem adA_len (s : List UInt8) : (adA s).length = 16 := by
 unfold adA
 cases h : addr2 s with
 | none => rfl
 | some q => obtain ⟨six, a⟩ := q; exact addr2_len h
theorem addr_cases (s : List UInt8) : (∃ a, parse s = some a ∧ a.length = 16 ∧ adA s = a ∧ adS s = true ∧ (addr2 s).isSome = true) ∨ (parse s = none ∧ ∃ a0 a1 a2 a3 is, (dotted s).getD [0, 0, 0, 0] = [a0, a1, a2, a3] ∧ (dotted s).isSome = is ∧ adA s = [a0, a1, a2, a3] ++ List.replicate 12 0 ∧ adS s = false ∧ (addr2 s).isSome = is) := by
 cases hp : parse s with
 | some a =>
  have h2 : addr2 s = some (true, a) := by unfold addr2; rw [hp]
  exact Or.inl ⟨a, rfl, parse_length hp, by unfold adA; rw [h2], by unfold adS; rw [h2], by rw [h2]; rfl⟩
 | none =>
  right
  refine ⟨rfl, ?_⟩
  cases hd : dotted s with
  | some a =>
   obtain ⟨a0, a1, a2, a3, rfl⟩ := list4 (dotParts_length _ _ a hd)
   have h2 : addr2 s = some (false, [a0, a1, a2, a3] ++ List.replicate 12 0) := by unfold addr2; rw [hp, hd]
   exact ⟨a0, a1, a2, a3, true, rfl, rfl, by unfold adA; rw [h2], by unfold adS; rw [h2], by rw [h2]; rfl⟩
  | none =>
   have h2 : addr2 s = none := by unfold addr2; rw [hp, hd]
   exact ⟨0, 0, 0, 0, false, rfl, rfl, by unfold adA; rw [h2]; rfl, by unfold adS; rw [h2], by rw [h2]; rfl⟩
theorem results_cell_tmp2 {P : Program} {fn : Func} {p q r : Tmp} {ty : TypeId} (h : fn.results = #[.cell p ty, .tmp q, .tmp r]) (tmps : Array Value) (w : World) (g : Nat) (t : TypeId) (cs : Array Value) (fr : Nat × Nat) (d : TypeDesc)
  (hp : tmps.getD p undef = .pointer (some ⟨g, 0, none⟩)) (hg : w.heap[g]? = some (.cells cs t fr))
  (hu : P.underlying ty = some d) (hd : (match d with | .struct _ | .array _ _ => true | _ => false) = true) (hi : (P.info? ty).map (·.size) = some cs.size) :
  (results fn tmps).run P w = .ok (.tuple #[.agg cs, tmps.getD q undef, tmps.getD r undef]) w := by
 have hp' : tmps[p]?.getD undef = .pointer (some ⟨g, 0, none⟩) := by simpa using hp
 simp [results, h, hp', asAddr, run_loadVar_row w g t ty cs fr d hg hu hd hi]
def z16' : List UInt8 := List.replicate 16 0
theorem copy_b4 {W : World} {B G : Nat} {a0 a1 a2 a3 : UInt8} (hB : Blk W B 24 (arrB z16')) (hG : Blk W G 56 (arrB [a0, a1, a2, a3])) (ty : TypeId) :
  (Builtin.copy_ #[33, 33] ty #[.slice (some ⟨B, 0, none⟩) 16 16, .slice (some ⟨G, 0, none⟩) 4 4]).run Tryz.prog W = .ok (goInt 4) (W.setRow B (arrB ([a0, a1, a2, a3] ++ List.replicate 12 0))) := by
 have h := run_copy_row (P := Tryz.prog) W 33 33 ty 5 B 0 16 16 ⟨G, 0, none⟩ 4 4 (arrB z16') 24 (cellsB [a0, a1, a2, a3]) Tryz.underlying33 (by kernel_rfl) hB rfl
  (fun j u hu => by
   rw [Addr.add_mid, Nat.zero_add]
   refine (hG.cell j).trans ?_
   unfold arrB
   rw [List.getElem?_toArray]
   exact hu)
  (by simp [cellsB, arrB, z16']) (by intro u hu; simp only [cellsB, List.mem_map] at hu; obtain ⟨c, _, rfl⟩ := hu; rfl)
 exact h
theorem pfx_address (s : List UInt8) (hs : s.length ≤ 1000000) (w : World) (ht : CT w) :
  Calls Tryz.prog 145 #[.string (str s)] w fun e w' => e = .returned (.tuple #[.agg (arrB (adA s)), .bool (adS s), .bool (addr2 s).isSome]) ∧ Below w.heap.size w w' := by
 have hu16 := Tryz.underlying24
 have KZ : A16 (arrB z16') := A16.of rfl
 have CP := qh fun W h => colon_Parse s hs W h
 have DP := qh fun W => dotted_Parse s (by omega) W
 have HT := qh (ht.below (belowA w (.cells (arrB z16') 24)))
 have H0 := qh (Blk.new w 24 (arrB z16'))
 clear ht
 rcases addr_cases s with ⟨a, hp, ha, r1, r2, r3⟩ | ⟨hp, a0, a1, a2, a3, is, hd, his, r1, r2, r3⟩
 ·rw [hp] at CP
  simp only [Option.getD_some, Option.isSome_some] at CP
  have KX := A16.of ha
  have HR : Hid (adA s = a ∧ adS s = true ∧ (addr2 s).isSome = true) := qh ⟨r1, r2, r3⟩
  clear hp DP r1 r2 r3
  generalize hX : arrB a = X at CP KX
  have HXX := qh hX
  clear hX
  go_enter Tryz.func145, Tryz.ntmps145
  go_wp2_with fail
  refine (CP.out _ HT.out).mono ?_
  rintro e w1 ⟨rfl, hb1⟩
  have H1 := (H0.out.below hb1 H0.out.lt).alloc (.cells X 24)
  have HN := Blk.new w1 24 X
  have hbel := (belowA w (.cells (arrB z16') 24)).trans (hb1.mono (belowA w (.cells (arrB z16') 24)).size)
  have HB := qh (hbel.trans ((belowA w1 (.cells X 24)).mono hbel.size))
  clear hb1 hbel
  go_wp2_with (first
   | (refine wpList_store_new rfl _ _ _ rfl X rfl rfl _ _ KX.info KX.size.symm KX.one ?_)
   | (refine wpList_load_want rfl _ _ rfl w1.heap.size rfl _ X (0, 0) _ HN hu16 rfl KX.info ?_)
   | (refine wpList_store_row rfl _ _ _ rfl w.heap.size X rfl rfl 24 (arrB z16') H1 KX.info KX.size.symm KX.one ?_))
  refine bodyPost_ret (results_cell_tmp2 rfl _ _ _ _ _ _ _ rfl (H1.setRow _) hu16 rfl KX.info) rfl ⟨by rw [HR.out.1, HR.out.2.1, HR.out.2.2, HXX.out]; rfl, below_setRow HB.out (Nat.le_refl _) _⟩
 ·rw [hp] at CP
  simp only [Option.getD_none, Option.isSome_none] at CP
  rw [hd, his] at DP
  have CP2 : Hid (∀ W, CT W → Calls Tryz.prog 128 #[.string (str s)] W fun e w' => e = .returned (.tuple #[.agg (arrB z16'), .bool false]) ∧ Below W.heap.size W w') := CP
  have DP2 : Hid (∀ W, Calls Tryz.prog 127 #[.string (str s)] W fun e w' => e = .returned (.tuple #[.agg (arrB [a0, a1, a2, a3]), .bool is]) ∧ Below W.heap.size W w') := DP
  have HR : Hid (adA s = [a0, a1, a2, a3] ++ List.replicate 12 0 ∧ adS s = false ∧ (addr2 s).isSome = is) := qh ⟨r1, r2, r3⟩
  have KR := A16.of (l := [a0, a1, a2, a3] ++ List.replicate 12 0) rfl
  have K4 : (Tryz.prog.info? 56).map (·.size) = some (arrB [a0, a1, a2, a3]).size ∧ (arrB [a0, a1, a2, a3]).all (·.oneCell') = true := ⟨info4, arrB_one _⟩
  have hal : Tryz.prog.arrayLen 24 = 16 := by kernel_rfl
  have hal4 : Tryz.prog.arrayLen 56 = 4 := by kernel_rfl
  clear hp hd his r1 r2 r3 CP DP
  go_enter Tryz.func145, Tryz.ntmps145
  go_wp2_with fail
  refine (CP2.out _ HT.out).mono ?_
  rintro e w1 ⟨rfl, hb1⟩
  have hbel := (belowA w (.cells (arrB z16') 24)).trans (hb1.mono (belowA w (.cells (arrB z16') 24)).size)
  have hbel2 := hbel.trans ((belowA w1 (.cells (arrB z16') 24)).mono hbel.size)
  have hbel3 := hbel2.trans ((belowA (w1.alloc (.cells (arrB z16') 24)) (.cells (arrB z16') 24)).mono hbel2.size)
  have H1 := qh (((H0.out.below hb1 H0.out.lt).alloc (.cells (arrB z16') 24)).alloc (.cells (arrB z16') 24))
  have h7 := Blk.new (w1.alloc (.cells (arrB z16') 24)) 24 (arrB z16')
  rw [World.size_alloc] at h7
  have H7 := qh h7
  have HB3 := qh hbel3
  have hlt1 := hb1.size
  have hlt0 := H0.out.lt
  clear hb1 hbel hbel2 hbel3 h7
  go_wp2_with (refine wpList_store_new rfl _ _ _ rfl (arrB z16') rfl rfl _ _ KZ.info KZ.size.symm KZ.one ?_)
  refine (DP2.out _).mono ?_
  rintro e w2 ⟨rfl, hb2⟩
  have hb2' : Below ((w1.alloc (.cells (arrB z16') 24)).alloc (.cells (arrB z16') 24)).heap.size ((w1.alloc (.cells (arrB z16') 24)).alloc (.cells (arrB z16') 24)) w2 := hb2
  have G1 := ((H1.out.below hb2' H1.out.lt).alloc (.cells (arrB [a0, a1, a2, a3]) 56)).drew
  have G7 := ((H7.out.below hb2' H7.out.lt).alloc (.cells (arrB [a0, a1, a2, a3]) 56)).drew
  have G8 := (Blk.new w2 56 (arrB [a0, a1, a2, a3])).drew
  have hbz := HB3.out.trans (hb2'.mono HB3.out.size)
  have HBZ := qh ((hbz.trans ((belowA w2 (.cells (arrB [a0, a1, a2, a3]) 56)).mono hbz.size)).drew)
  have hne : w.heap.size ≠ w1.heap.size + 1 := by simp at hlt1; omega
  have hcp := copy_b4 G7 G8 3
  have I1 := G1.otherRow (w1.heap.size + 1) (arrB ([a0, a1, a2, a3] ++ List.replicate 12 0)) hne
  have I7 := G7.setRow (arrB ([a0, a1, a2, a3] ++ List.replicate 12 0))
  have HIB := qh (below_setRow HBZ.out (show w.heap.size ≤ w1.heap.size + 1 by simp at hlt1; omega) (arrB ([a0, a1, a2, a3] ++ List.replicate 12 0)))
  have HI1 := qh I1
  have HI7 := qh I7
  clear hb2 hb2' G1 G7 G8 hbz I1 I7 hlt1 hlt0
  generalize hXR : arrB ([a0, a1, a2, a3] ++ List.replicate 12 0) = XR at *
  have HXR := qh hXR
  clear hXR
  generalize hX4 : arrB [a0, a1, a2, a3] = X4 at *
  go_wp2_with (refine wpList_store_new rfl _ _ _ rfl X4 rfl rfl _ _ K4.1 (by rw [← hX4]; rfl) K4.2 ?_)
  go_still_tail 2, (by kernel_rfl)
  change wpList _ _ _ _ _ (w2.alloc (.cells X4 56)).drew
  go_wp2_with (first
   | (refine wpList_load_want rfl _ _ rfl (w1.heap.size + 1) rfl _ XR (0, 0) _ HI7.out hu16 rfl KR.info ?_)
   | (refine wpList_store_row rfl _ _ _ rfl w.heap.size XR rfl rfl 24 (arrB z16') HI1.out KR.info KR.size.symm KR.one ?_))
  refine bodyPost_ret (results_cell_tmp2 rfl _ _ _ _ _ _ _ rfl (HI1.out.setRow _) hu16 rfl KR.info) rfl ⟨by rw [HR.out.1, HR.out.2.1, HR.out.2.2, HXR.out]; rfl, below_setRow HIB.out (Nat.le_refl _) _⟩
end Go.Proofs.YtdbgeobolongmaaGreatDoor
namespace Go.Proofs.YtdbgeobolongmaaGreatDoor
open Go.RowKit Go.Shelf Go.Proofs Go.OctetPlain Go.ColonPlain Go.PrefixPlain
theorem parseP_eq (l : List UInt8) : parseP l = if (addr2 (Lib.cut l [47]).1).isSome = true ∧ (number (Lib.cut l [47]).2.1 128).isSome = true ∧ ok ⟨adS (Lib.cut l [47]).1, adA (Lib.cut l [47]).1, (number (Lib.cut l [47]).2.1 128).getD 0⟩ then some ⟨adS (Lib.cut l [47]).1, adA (Lib.cut l [47]).1, (number (Lib.cut l [47]).2.1 128).getD 0⟩ else none := by
 unfold parseP
 cases h1 : addr2 (Lib.cut l [47]).1 with
 | none => simp
 | some q =>
  obtain ⟨six, a⟩ := q
  have e1 : adS (Lib.cut l [47]).1 = six := by unfold adS; rw [h1]
  have e2 : adA (Lib.cut l [47]).1 = a := by unfold adA; rw [h1]
  rw [e1, e2]
  cases h2 : number (Lib.cut l [47]).2.1 128 with
  | none => simp
  | some n => simp
theorem cut47_le (s : List UInt8) : (Lib.cut s [47]).1.length ≤ s.length ∧ (Lib.cut s [47]).2.1.length ≤ s.length := by
 unfold Lib.cut
 split
 ·constructor
  ·simp only [List.length_take]; omega
  ·simp only [List.length_drop]; omega
 ·simp
structure SP (w W : World) : Prop where
 pt : PT W
 br : Blk W w.heap.size 26 (pfA zP)
 below : Below w.heap.size w W
theorem SP.next {w W W' : World} (h : SP w W) (hb : Below W.heap.size W W') : SP w W' := ⟨h.pt.below hb, h.br.below hb h.br.lt, h.below.trans (hb.mono h.below.size)⟩
theorem pfx_Parse (l : List UInt8) (hl : l.length ≤ 1000000) (w : World) (ht : PT w) :
  Calls Tryz.prog 107 #[.string (str l)] w fun e w' => e = .returned (.tuple #[.agg (pfA ((parseP l).getD zP)), .bool (parseP l).isSome]) ∧ Below w.heap.size w w' := by
 have hu16 := Tryz.underlying24
 have huP := Tryz.underlying26
 let wz := w.alloc (.cells (pfA zP) 26)
 have hsp : SP w wz := ⟨ht.below (belowA w _), Blk.new _ _ _, belowA w _⟩
 obtain ⟨m, hm⟩ := hsp.pt.ct.ml
 obtain ⟨hcl1, hcl2⟩ := cut47_le l
 have hcon := Any.strings_Cut { Tryz.cut with } (str l) ⟨#[47]⟩ m wz (by rw [str_size]; omega) hm
 change Calls Tryz.prog 135 _ _ _ at hcon
 have HC : Hid (Calls Tryz.prog 135 #[.string (str l), .string ⟨#[47]⟩] wz fun e w' => e = .returned (.tuple #[.string (str (Lib.cut l [47]).1), .string (str (Lib.cut l [47]).2.1), .bool (Lib.cut l [47]).2.2]) ∧ ∃ n, w' = wz.drewN n) := hcon
 have HE := qh (parseP_eq l)
 have HSP := qh hsp
 clear hcon hm hsp ht
 generalize Lib.cut l [47] = q at HC HE hcl1 hcl2
 obtain ⟨x, y, c⟩ := q
 simp only at HC HE hcl1 hcl2
 obtain ⟨y0, y1, y2, y3, y4, y5, y6, y7, y8, y9, y10, y11, y12, y13, y14, y15, hy⟩ := list16 (adA_len x)
 have KX := A16.of (adA_len x)
 have KP : ∀ n : Int, PX (pfA ⟨adS x, adA x, n⟩) := fun n => PX.of (adA_len x)
 have KZ := PX.of (p := zP) rfl
 have hnb : Len64 ⟨adS x, adA x, (number y 128).getD 0⟩ := by
  unfold Len64
  cases hn : number y 128 with
  | none => simp
  | some v => have h := number_some.1 hn; simp only [Option.getD_some]; omega
 have CK := qh fun W => pfx_Check ⟨adS x, adA x, (number y 128).getD 0⟩ (adA_len x) hnb W
 have HA := qh fun W h => pfx_address x (by omega) W h
 have HNU := qh fun W h => octet_Number y (by omega) 128 W h
 rw [hy] at KX KP CK HA HE
 have HA2 : Hid (∀ W, CT W → Calls Tryz.prog 145 #[.string (str x)] W fun e w' => e = .returned (.tuple #[.agg #[.int .u8 (y0.toNat : Int), .int .u8 (y1.toNat : Int), .int .u8 (y2.toNat : Int), .int .u8 (y3.toNat : Int), .int .u8 (y4.toNat : Int), .int .u8 (y5.toNat : Int), .int .u8 (y6.toNat : Int), .int .u8 (y7.toNat : Int), .int .u8 (y8.toNat : Int), .int .u8 (y9.toNat : Int), .int .u8 (y10.toNat : Int), .int .u8 (y11.toNat : Int), .int .u8 (y12.toNat : Int), .int .u8 (y13.toNat : Int), .int .u8 (y14.toNat : Int), .int .u8 (y15.toNat : Int)], .bool (adS x), .bool (addr2 x).isSome]) ∧ Below W.heap.size W w') := HA
 clear HA hy hnb
 generalize (number y 128).getD 0 = nn at HNU CK HE
 generalize (number y 128).isSome = num at HNU HE
 generalize (addr2 x).isSome = is at HA2 HE
 generalize adS x = six at HA2 HE CK KP
 go_enter Tryz.func107, Tryz.ntmps107
 go_wp2_with fail
 refine HC.out.mono ?_
 rintro e w1 ⟨rfl, n, hw1⟩
 have P1 : Hid (SP w w1) := by subst hw1; exact qh (HSP.out.next (below_drewN (Below.refl _ _) _))
 clear hw1 HSP
 go_wp2_with fail
 refine (HA2.out _ P1.out.pt.ct).mono ?_
 rintro e w2 ⟨rfl, hb2⟩
 have P2 := qh ((P1.out.next hb2).next (belowA w2 (.cells #[.int .u8 (y0.toNat : Int), .int .u8 (y1.toNat : Int), .int .u8 (y2.toNat : Int), .int .u8 (y3.toNat : Int), .int .u8 (y4.toNat : Int), .int .u8 (y5.toNat : Int), .int .u8 (y6.toNat : Int), .int .u8 (y7.toNat : Int), .int .u8 (y8.toNat : Int), .int .u8 (y9.toNat : Int), .int .u8 (y10.toNat : Int), .int .u8 (y11.toNat : Int), .int .u8 (y12.toNat : Int), .int .u8 (y13.toNat : Int), .int .u8 (y14.toNat : Int), .int .u8 (y15.toNat : Int)] 24)))
 have B7 := qh (Blk.new w2 24 #[.int .u8 (y0.toNat : Int), .int .u8 (y1.toNat : Int), .int .u8 (y2.toNat : Int), .int .u8 (y3.toNat : Int), .int .u8 (y4.toNat : Int), .int .u8 (y5.toNat : Int), .int .u8 (y6.toNat : Int), .int .u8 (y7.toNat : Int), .int .u8 (y8.toNat : Int), .int .u8 (y9.toNat : Int), .int .u8 (y10.toNat : Int), .int .u8 (y11.toNat : Int), .int .u8 (y12.toNat : Int), .int .u8 (y13.toNat : Int), .int .u8 (y14.toNat : Int), .int .u8 (y15.toNat : Int)])
 clear hb2
 go_wp2_with (refine wpList_store_new rfl _ _ _ rfl #[.int .u8 (y0.toNat : Int), .int .u8 (y1.toNat : Int), .int .u8 (y2.toNat : Int), .int .u8 (y3.toNat : Int), .int .u8 (y4.toNat : Int), .int .u8 (y5.toNat : Int), .int .u8 (y6.toNat : Int), .int .u8 (y7.toNat : Int), .int .u8 (y8.toNat : Int), .int .u8 (y9.toNat : Int), .int .u8 (y10.toNat : Int), .int .u8 (y11.toNat : Int), .int .u8 (y12.toNat : Int), .int .u8 (y13.toNat : Int), .int .u8 (y14.toNat : Int), .int .u8 (y15.toNat : Int)] rfl rfl _ _ KX.info KX.size.symm KX.one ?_)
 refine (HNU.out _ P2.out.pt.tabs).mono ?_
 rintro e w3 ⟨rfl, hb3⟩
 have P3 := qh ((P2.out.next hb3).next (belowA w3 (.cells (pfA ⟨six, [y0, y1, y2, y3, y4, y5, y6, y7, y8, y9, y10, y11, y12, y13, y14, y15], nn⟩) 26)))
 have C7 := qh (B7.out.below hb3 B7.out.lt)
 have B12 := qh (Blk.new w3 26 (pfA ⟨six, [y0, y1, y2, y3, y4, y5, y6, y7, y8, y9, y10, y11, y12, y13, y14, y15], nn⟩))
 clear hb3
 cases is
 ·have HN : Hid (parseP l = none) := by rw [HE.out, if_neg (fun h => by cases h.1)]; exact qh rfl
  go_wp2_with (first
   | (refine wpList_load_want rfl _ _ rfl w2.heap.size rfl _ #[.int .u8 (y0.toNat : Int), .int .u8 (y1.toNat : Int), .int .u8 (y2.toNat : Int), .int .u8 (y3.toNat : Int), .int .u8 (y4.toNat : Int), .int .u8 (y5.toNat : Int), .int .u8 (y6.toNat : Int), .int .u8 (y7.toNat : Int), .int .u8 (y8.toNat : Int), .int .u8 (y9.toNat : Int), .int .u8 (y10.toNat : Int), .int .u8 (y11.toNat : Int), .int .u8 (y12.toNat : Int), .int .u8 (y13.toNat : Int), .int .u8 (y14.toNat : Int), .int .u8 (y15.toNat : Int)] (0, 0) _ C7.out hu16 rfl KX.info ?_)
   | (refine wpList_store_new rfl _ _ _ rfl (pfA ⟨six, [y0, y1, y2, y3, y4, y5, y6, y7, y8, y9, y10, y11, y12, y13, y14, y15], nn⟩) rfl rfl _ _ (KP nn).info (KP nn).size.symm (KP nn).one ?_)
   | (refine wpList_store_row rfl _ _ _ rfl w.heap.size (pfA zP) rfl rfl 26 (pfA zP) P3.out.br KZ.info rfl KZ.one ?_))
  refine bodyPost_ret (results_cell_tmp rfl _ _ _ _ _ _ _ rfl (P3.out.br.setRow _) huP rfl KZ.info) rfl ⟨by rw [HN.out]; rfl, below_setRow P3.out.below (Nat.le_refl _) _⟩
 ·cases num
  ·have HN : Hid (parseP l = none) := by rw [HE.out, if_neg (fun h => by cases h.2.1)]; exact qh rfl
   go_wp2_with (first
    | (refine wpList_load_want rfl _ _ rfl w2.heap.size rfl _ #[.int .u8 (y0.toNat : Int), .int .u8 (y1.toNat : Int), .int .u8 (y2.toNat : Int), .int .u8 (y3.toNat : Int), .int .u8 (y4.toNat : Int), .int .u8 (y5.toNat : Int), .int .u8 (y6.toNat : Int), .int .u8 (y7.toNat : Int), .int .u8 (y8.toNat : Int), .int .u8 (y9.toNat : Int), .int .u8 (y10.toNat : Int), .int .u8 (y11.toNat : Int), .int .u8 (y12.toNat : Int), .int .u8 (y13.toNat : Int), .int .u8 (y14.toNat : Int), .int .u8 (y15.toNat : Int)] (0, 0) _ C7.out hu16 rfl KX.info ?_)
    | (refine wpList_store_new rfl _ _ _ rfl (pfA ⟨six, [y0, y1, y2, y3, y4, y5, y6, y7, y8, y9, y10, y11, y12, y13, y14, y15], nn⟩) rfl rfl _ _ (KP nn).info (KP nn).size.symm (KP nn).one ?_)
    | (refine wpList_store_row rfl _ _ _ rfl w.heap.size (pfA zP) rfl rfl 26 (pfA zP) P3.out.br KZ.info rfl KZ.one ?_))
   refine bodyPost_ret (results_cell_tmp rfl _ _ _ _ _ _ _ rfl (P3.out.br.setRow _) huP rfl KZ.info) rfl ⟨by rw [HN.out]; rfl, below_setRow P3.out.below (Nat.le_refl _) _⟩
  ·by_cases hok : ok ⟨six, [y0, y1, y2, y3, y4, y5, y6, y7, y8, y9, y10, y11, y12, y13, y14, y15], nn⟩
   ·have HN : Hid (parseP l = some ⟨six, [y0, y1, y2, y3, y4, y5, y6, y7, y8, y9, y10, y11, y12, y13, y14, y15], nn⟩) := by rw [HE.out, if_pos ⟨rfl, rfl, hok⟩]; exact qh rfl
    have hk : okN ⟨six, [y0, y1, y2, y3, y4, y5, y6, y7, y8, y9, y10, y11, y12, y13, y14, y15], nn⟩ = 0 := by unfold okN; rw [if_pos hok]
    rw [hk] at CK
    clear hk hok
    go_wp2_with (first
     | (refine wpList_load_want rfl _ _ rfl w2.heap.size rfl _ #[.int .u8 (y0.toNat : Int), .int .u8 (y1.toNat : Int), .int .u8 (y2.toNat : Int), .int .u8 (y3.toNat : Int), .int .u8 (y4.toNat : Int), .int .u8 (y5.toNat : Int), .int .u8 (y6.toNat : Int), .int .u8 (y7.toNat : Int), .int .u8 (y8.toNat : Int), .int .u8 (y9.toNat : Int), .int .u8 (y10.toNat : Int), .int .u8 (y11.toNat : Int), .int .u8 (y12.toNat : Int), .int .u8 (y13.toNat : Int), .int .u8 (y14.toNat : Int), .int .u8 (y15.toNat : Int)] (0, 0) _ C7.out hu16 rfl KX.info ?_)
     | (refine wpList_store_new rfl _ _ _ rfl (pfA ⟨six, [y0, y1, y2, y3, y4, y5, y6, y7, y8, y9, y10, y11, y12, y13, y14, y15], nn⟩) rfl rfl _ _ (KP nn).info (KP nn).size.symm (KP nn).one ?_)
     | (refine wpList_load_want rfl _ _ rfl w3.heap.size rfl _ (pfA ⟨six, [y0, y1, y2, y3, y4, y5, y6, y7, y8, y9, y10, y11, y12, y13, y14, y15], nn⟩) (0, 0) _ B12.out huP rfl (KP nn).info ?_))
    refine (CK.out _).mono ?_
    rintro e w4 ⟨rfl, hb4⟩
    have P4 := qh (P3.out.next hb4)
    have D12 := qh (B12.out.below hb4 B12.out.lt)
    clear hb4
    go_wp2_with (first
     | (refine wpList_load_want rfl _ _ rfl w3.heap.size rfl _ (pfA ⟨six, [y0, y1, y2, y3, y4, y5, y6, y7, y8, y9, y10, y11, y12, y13, y14, y15], nn⟩) (0, 0) _ D12.out huP rfl (KP nn).info ?_)
     | (refine wpList_store_row rfl _ _ _ rfl w.heap.size (pfA ⟨six, [y0, y1, y2, y3, y4, y5, y6, y7, y8, y9, y10, y11, y12, y13, y14, y15], nn⟩) rfl rfl 26 (pfA zP) P4.out.br (KP nn).info (KP nn).size.symm (KP nn).one ?_))
    refine bodyPost_ret (results_cell_tmp rfl _ _ _ _ _ _ _ rfl (P4.out.br.setRow _) huP rfl (KP nn).info) rfl ⟨by rw [HN.out]; rfl, below_setRow P4.out.below (Nat.le_refl _) _⟩
   ·have HN : Hid (parseP l = none) := by rw [HE.out, if_neg (fun h => hok h.2.2)]; exact qh rfl
    have hk : okN ⟨six, [y0, y1, y2, y3, y4, y5, y6, y7, y8, y9, y10, y11, y12, y13, y14, y15], nn⟩ = 1 := by unfold okN; rw [if_neg hok]
    rw [hk] at CK
    clear hk hok
    go_wp2_with (first
     | (refine wpList_load_want rfl _ _ rfl w2.heap.size rfl _ #[.int .u8 (y0.toNat : Int), .int .u8 (y1.toNat : Int), .int .u8 (y2.toNat : Int), .int .u8 (y3.toNat : Int), .int .u8 (y4.toNat : Int), .int .u8 (y5.toNat : Int), .int .u8 (y6.toNat : Int), .int .u8 (y7.toNat : Int), .int .u8 (y8.toNat : Int), .int .u8 (y9.toNat : Int), .int .u8 (y10.toNat : Int), .int .u8 (y11.toNat : Int), .int .u8 (y12.toNat : Int), .int .u8 (y13.toNat : Int), .int .u8 (y14.toNat : Int), .int .u8 (y15.toNat : Int)] (0, 0) _ C7.out hu16 rfl KX.info ?_)
     | (refine wpList_store_new rfl _ _ _ rfl (pfA ⟨six, [y0, y1, y2, y3, y4, y5, y6, y7, y8, y9, y10, y11, y12, y13, y14, y15], nn⟩) rfl rfl _ _ (KP nn).info (KP nn).size.symm (KP nn).one ?_)
     | (refine wpList_load_want rfl _ _ rfl w3.heap.size rfl _ (pfA ⟨six, [y0, y1, y2, y3, y4, y5, y6, y7, y8, y9, y10, y11, y12, y13, y14, y15], nn⟩) (0, 0) _ B12.out huP rfl (KP nn).info ?_))
    refine (CK.out _).mono ?_
    rintro e w4 ⟨rfl, hb4⟩
    have P4 := qh (P3.out.next hb4)
    clear hb4
    go_wp2_with (refine wpList_store_row rfl _ _ _ rfl w.heap.size (pfA zP) rfl rfl 26 (pfA zP) P4.out.br KZ.info rfl KZ.one ?_)
    refine bodyPost_ret (results_cell_tmp rfl _ _ _ _ _ _ _ rfl (P4.out.br.setRow _) huP rfl KZ.info) rfl ⟨by rw [HN.out]; rfl, below_setRow P4.out.below (Nat.le_refl _) _⟩
end Go.Proofs.YtdbgeobolongmaaGreatDoor
namespace Go.Proofs.YtdbgeobolongmaaGreatDoor
open Go.RowKit Go.Shelf Go.Proofs Go.OctetPlain Go.ColonPlain Go.PrefixPlain
end Go.Proofs.YtdbgeobolongmaaGreatDoor
namespace Go.Proofs.YtdbgeobolongmaaGreatDoor
open Go.RowKit Go.Shelf Go.Proofs Go.OctetPlain Go.ColonPlain Go.PrefixPlain
end Go.Proofs.YtdbgeobolongmaaGreatDoor
namespace Go.Proofs.YtdbgeobolongmaaGreatDoor
open Go.RowKit Go.Shelf Go.Proofs Go.OctetPlain Go.ColonPlain Go.PrefixPlain
end Go.Proofs.YtdbgeobolongmaaGreatDoor
namespace Go.Proofs.YtdbgeobolongmaaGreatDoor
open Go.RowKit Go.Shelf Go.Proofs Go.OctetPlain Go.ColonPlain Go.PrefixPlain
end Go.Proofs.YtdbgeobolongmaaGreatDoor
namespace Go.Proofs.YtdbgeobolongmaaGreatDoor
open Go.RowKit Go.Shelf Go.Proofs Go.OctetPlain Go.ColonPlain Go.PrefixPlain
end Go.Proofs.YtdbgeobolongmaaGreatDoor
namespace Go.Proofs.YtdbgeobolongmaaGreatDoor
open Go.RowKit Go.Shelf Go.Proofs Go.OctetPlain Go.ColonPlain Go.PrefixPlain
theorem wpList_store_mid_as {P : Program} {ops : Array Oper} {rest : List Oper} {op : Oper} {a : Act} {w : World} {Q : Exit → Act → World → Prop} (R : World → Prop) (hgd : op.guard = none) (ty : TypeId) (x y : Operand) (ho : op.op = .store ty x y)
  (b o : Nat) (cells : Array Value) (hx : a.eval x = .pointer (some ⟨b, o, none⟩)) (hy : a.eval y = .agg cells)
  (ht : w.there b o cells.size) (hi : (P.info? ty).map (·.size) = some cells.size) (h1 : cells.all (·.oneCell') = true) (hR : R (w.setCells b o cells.toList))
  (h : ∀ W', R W' → wpList P ops Q rest (a.put op.dst undef) W') : wpList P ops Q (op :: rest) a w :=
 wpList_store_mid hgd ty x y ho b o cells hx hy ht hi h1 (h _ hR)
end Go.Proofs.YtdbgeobolongmaaGreatDoor
