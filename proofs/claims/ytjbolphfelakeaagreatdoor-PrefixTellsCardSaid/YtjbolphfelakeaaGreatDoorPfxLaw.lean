import Derived.Test.YtjbolphfelakeaaGreatDoorColonJoin
import Derived.Test.YtjbolphfelakeaaGreatDoorColonDot
import Derived.Test.YtjbolphfelakeaaGreatDoorOctetNum2
import Derived.Test.YtjbolphfelakeaaGreatDoorPrefixPlain
import Derived.Test.YtjbolphfelakeaaGreatDoorPfxFns
import Derived.Test.YtjbolphfelakeaaGreatDoorColonShow
import Derived.Lib.Bytealg
import Derived.WalkSpells
import Derived.Lib.BytesEntry
import Derived.Laws.Externs
import Derived.Test.YtjbolphfelakeaaGreatDoorColonParse
import Derived.StillTailTactics
/- dotted.Show. -/
namespace Go.Proofs.YtjbolphfelakeaaGreatDoor
set_option linter.unusedVariables false
set_option linter.unusedSimpArgs false
open Go.RowKit Go.Shelf Go.Proofs Go.OctetPlain Go.ColonPlain Go.PrefixPlain

theorem join_dot : ∀ L : List (List UInt8), Lib.join L [46] = dotJ L
  | [] => rfl
  | [p] => by simp [Lib.join_one, dotJ]
  | p :: q :: r => by
    have ih := join_dot (q :: r)
    rw [dotJ, ← ih]
    simp [Lib.join]
theorem itoa_nat (n : Nat) : Lib.itoa (n : Int) = Lib.decDigits n := by unfold Lib.itoa; rw [if_neg (by omega)]; simp
theorem dec_len3 (c : UInt8) : (Lib.decDigits c.toNat).length ≤ 3 := by
  have h := c.toNat_lt
  have : ∀ n : Fin 256, (Lib.decDigits n).length ≤ 3 := by decide +kernel
  exact this ⟨c.toNat, h⟩
theorem run_index_b4 {w : World} (cs : Array Value) (i : Nat) (n : Int) (hi : i < 4) (hc : cs[i]? = some (.int .u8 n)) :
    (Instr.index 42 (.agg cs) (.int .i64 (i : Int))).run Tryz.prog w = .ok (.int .u8 n) w := by
  have h1 : (i : Int) < 4 := by omega
  simp [Instr.index, run_underlying Tryz.underlying42, asIntOf, h1, hc, go_sem, Tryz.sizeOf5, Tryz.isAgg5, part]
  intro h; omega
def decs (a : List UInt8) : List (List UInt8) := a.map fun c => Lib.decDigits c.toNat
set_option maxRecDepth 100000 in
set_option maxHeartbeats 2000000 in
theorem dotted_Show (c0 c1 c2 c3 : UInt8) (w : World) (ht : Tabs w) :
    Calls Tryz.prog 28 #[.agg #[.int .u8 (c0.toNat : Int), .int .u8 (c1.toNat : Int), .int .u8 (c2.toNat : Int), .int .u8 (c3.toNat : Int)]] w fun e w' => e = .returned (.string (str (showD [c0, c1, c2, c3]))) ∧ Below w.heap.size w w' := by
  have HT := Lib.hid ht
  clear ht
  go_enter Tryz.func28, Tryz.ntmps28
  go_wp2_with fail
  go_loopw [3, 5, 7] (fun vo _ vi wr => ∃ k : Nat, vi = .int .i64 k ∧ k ≤ 4 ∧ Hid (wr.ownsRow (w.heap.size + 1) 9 1 vo k (flat encS (decs ([c0, c1, c2, c3].take k)))) ∧ Hid (Below w.heap.size w wr) ∧ Hid (w.heap.size + 1 ≤ wr.heap.size)) (fun _ _ vi _ => 4 - (intOf vi).toNat)
  case atStart => exact ⟨0, rfl, Nat.zero_le _, Lib.hid (World.ownsRow_nil _ _ _ _), Lib.hid (belowA w _), Lib.hid (by simp)⟩
  case round =>
    obtain ⟨k, rfl, hk, HO, HB, HZ⟩ := hrel
    by_cases hlt : k < 4
    · obtain ⟨c, hc⟩ : ∃ c, [c0, c1, c2, c3][k]? = some c := ⟨_, List.getElem?_eq_getElem (by simpa using hlt)⟩
      have hix := fun w : World => run_index_b4 (w := w) #[.int .u8 (c0.toNat : Int), .int .u8 (c1.toNat : Int), .int .u8 (c2.toNat : Int), .int .u8 (c3.toNat : Int)] k (c.toNat : Int) hlt (arrB_get (l := [c0, c1, c2, c3]) hc)
      have HTK : Hid (decs ([c0, c1, c2, c3].take (k + 1)) = decs ([c0, c1, c2, c3].take k) ++ [Lib.decDigits c.toNat]) := by
        rw [List.take_add_one, hc]; unfold decs; rw [List.map_append]; exact Lib.hid rfl
      have HD := Lib.hid fun W h => octet_Digits (c.toNat : Int) (by have := c.toNat_lt; omega) W h
      rw [itoa_nat] at HD
      have w4 : IntKind.i64.wrap (c.toNat : Int) = c.toNat := IntWalk.i64_in _ (by have := c.toNat_lt; omega)
      clear hc
      go_wp2_with fail
      refine (HD.out _ (HT.out.next HB.out (Nat.le_refl _))).mono ?_
      rintro e w1 ⟨rfl, hb1⟩
      have HB1 := Lib.hid (HB.out.trans (hb1.mono HB.out.size))
      have HO1 := Lib.hid (owns_below HO.out hb1 (Nat.le_refl _))
      have hz1 := Nat.le_trans HZ.out hb1.size
      clear hb1
      go_wp2_with (at_builtin; go_loud (refine wpList_app elemS rfl (.tmp 10) (.tmp 14) rfl (w.heap.size + 1) u3 _ _ rfl HO1.out 1 1 [.string _] rfl rfl (by simp [Value.oneCell']) (by omega) hz1 ?_; intro v4 w4 hown4 _ _ hb4))
      exact ⟨⟨k + 1, by go_num, by omega, Lib.hid (by rw [HTK.out, flat_append]; exact hown4), Lib.hid (HB1.out.trans (hb4.mono (Nat.le_succ _))), Lib.hid (Nat.le_trans hz1 hb4.size)⟩, by simp [intOf]; omega⟩
    · obtain rfl : k = 4 := by omega
      have hO := HO.out
      have hz := HB.out.size
      have hO2 : wr.ownsRow (w.heap.size + 1) 9 1 u3 (decs [c0, c1, c2, c3]).length (flat encS (decs [c0, c1, c2, c3])) := hO
      obtain ⟨p', cap', rfl, hd1, hd2, hR'⟩ := SlR.of_owns encS_len hO2
      have l0 := dec_len3 c0
      have l1 := dec_len3 c1
      have l2 := dec_len3 c2
      have l3 := dec_len3 c3
      have hjs : Lib.join (((decs [c0, c1, c2, c3]).map str).map (·.data.toList)) (⟨#[46]⟩ : ByteArray).data.toList = showD [c0, c1, c2, c3] := by
        rw [List.map_map]
        have : (fun s : ByteArray => s.data.toList) ∘ str = id := by funext l; exact list_str l
        rw [this, List.map_id]
        exact join_dot _
      have hll : (showD [c0, c1, c2, c3]).length ≤ 140737488355328 := by
        simp only [showD, List.map_cons, List.map_nil, dotJ, List.length_append, List.length_cons]; omega
      have HC : Hid (Calls Tryz.prog 44 #[.slice p' 4 cap', .string ⟨#[46]⟩] wr fun e w' => e = .returned (.string (str (showD [c0, c1, c2, c3]))) ∧ Below wr.heap.size wr w') := by
        cases p' with
        | none => have h0 := hR'.1 rfl; simp [decs] at h0
        | some a =>
          obtain ⟨hsp, hbk, hcl⟩ := hR'.2 a rfl
          have ha : a = ⟨a.block, a.off, none⟩ := by cases a; simp_all
          have hcon := Any.strings_Join Tryz.join joinExtra a.block a.off cap' ((decs [c0, c1, c2, c3]).map str) ⟨#[46]⟩ wr (fun j x hx => by
            rw [List.getElem?_map] at hx
            cases hy : (decs [c0, c1, c2, c3])[j]? with
            | none => rw [hy] at hx; cases hx
            | some y =>
              rw [hy] at hx
              cases hx
              have := hcl j y hy 0 (.string (str y)) rfl
              simpa using this) hbk (by simp [decs]) (by simpa using hd1) (by rw [hjs]; exact hll)
          rw [hjs] at hcon
          rw [ha]
          exact Lib.hid hcon
      clear hjs hO hO2 hR'
      go_wp2_with fail
      refine HC.out.mono ?_
      rintro e w1 ⟨rfl, hb1⟩
      go_wp2_with fail
      go_ret
      exact ⟨rfl, HB.out.trans (hb1.mono HB.out.size)⟩
end Go.Proofs.YtjbolphfelakeaaGreatDoor

/- prefix.Show. -/
namespace Go.Proofs.YtjbolphfelakeaaGreatDoor
set_option linter.unusedVariables false
set_option linter.unusedSimpArgs false
open Go.RowKit Go.Shelf Go.Proofs Go.OctetPlain Go.ColonPlain Go.PrefixPlain

/-- the tables that the texts want -/
structure PT (w : World) : Prop where
  ct : CT w
  tabs : Tabs w
theorem PT.below {w w' : World} (h : PT w) (hb : Below w.heap.size w w') : PT w' := ⟨h.ct.below hb, h.tabs.below hb⟩
theorem itoa_len {n : Int} (h : Len64 ⟨false, [], n⟩) : (Lib.itoa n).length ≤ 1000 := by
  unfold Len64 at h
  simp only at h
  unfold Lib.itoa
  have key : ∀ N : Nat, N ≤ 9223372036854775808 → (Lib.decDigits N).length ≤ 901 := fun N hN => by
    by_cases h10 : N < 10
    · rw [dec_lt' h10]; simp
    · rw [dec_ge' h10, List.length_append, Lib.decDigits_length]
      have := nDigits_le19 (N / 10) (by omega)
      simp only [List.length_cons, List.length_nil]; omega
  split
  · have := key n.natAbs (by omega)
    simp only [List.length_cons]; omega
  · have := key n.toNat (by omega)
    omega
theorem text_len {p : Pf} (hp : p.addr.length = 16) : (textP p).length ≤ 1000 := by
  unfold textP
  split
  · have := show_le hp; omega
  · match h : p.addr.take 4, (show (p.addr.take 4).length = 4 by simp [hp]) with
    | [a, b, c, d], _ =>
      have l0 := dec_len3 a
      have l1 := dec_len3 b
      have l2 := dec_len3 c
      have l3 := dec_len3 d
      simp only [showD, List.map_cons, List.map_nil, dotJ, List.length_append, List.length_cons]; omega
set_option maxRecDepth 100000 in
set_option maxHeartbeats 2000000 in
theorem pfx_Show (p : Pf) (hp : p.addr.length = 16) (lp : Len64 p) (w : World) (ht : PT w) :
    Calls Tryz.prog 9 #[.agg (pfA p)] w fun e w' => e = .returned (.string (str (showP p))) ∧ Below w.heap.size w w' := by
  have huP := Tryz.underlying24
  have hal : Tryz.prog.arrayLen 22 = 16 := by kernel_rfl
  have hal4 : Tryz.prog.arrayLen 42 = 4 := by kernel_rfl
  have har : ∀ (b : Addr) (w : World), (Instr.arrayAt 42 (.slice (some b) 16 16)).run Tryz.prog w = .ok (.pointer (some b)) w := fun b w => by simp [Instr.arrayAt, run_underlying Tryz.underlying42, go_sem]
  have HT := Lib.hid (ht.below (belowA w (.cells (pfA p) 24)))
  have H0 := Lib.hid (⟨Blk.new _ _ _, belowA w _⟩ : CS w (w.alloc (.cells (pfA p) 24)) p)
  have c0 := H0.out.b.p0
  obtain ⟨x0, x1, x2, x3, x4, x5, x6, x7, x8, x9, x10, x11, x12, x13, x14, x15, hx⟩ := list16 hp
  have hA := H0.out.b.pA
  rw [hx] at hA
  have a0 := hA 0 _ rfl
  have a1 := hA 1 _ rfl
  have a2 := hA 2 _ rfl
  have a3 := hA 3 _ rfl
  simp only [Nat.reduceAdd] at a0 a1 a2 a3
  have DS := Lib.hid fun W h => dotted_Show x0 x1 x2 x3 W h
  have SA := Lib.hid fun W h => colon_Show p.addr hp W h
  have OD := Lib.hid fun W h => octet_Digits p.len lp W h
  have HX : Hid (showD (p.addr.take 4) = showD [x0, x1, x2, x3]) := by rw [hx]; exact Lib.hid rfl
  have hl1 := text_len hp
  have hl2 := itoa_len (n := p.len) lp
  have s1 : (str (textP p)).size = (textP p).length := str_size _
  have s2 : (str (Lib.itoa p.len)).size = (Lib.itoa p.len).length := str_size _
  have hslash : (⟨#[47]⟩ : ByteArray).size = 1 := rfl
  have HCAT : Hid (str (textP p) ++ ⟨#[47]⟩ ++ str (Lib.itoa p.len) = str (showP p)) := by
    refine Lib.hid ?_
    show str (textP p) ++ str [47] ++ str (Lib.itoa p.len) = _
    rw [str_app, str_app]; unfold showP; simp
  clear hA hx
  go_enter Tryz.func9, Tryz.ntmps9
  go_wp2_with fail
  refine (DS.out _ HT.out.tabs).mono ?_
  rintro e w1 ⟨rfl, hb1⟩
  have H1 := H0.out.next hb1
  have HT1 := Lib.hid (HT.out.below hb1)
  have c0' := H1.b.p0
  have c17 := H1.b.p17 hp
  have HS1 := Lib.hid H1
  clear hb1
  cases hsix : p.six
  · rw [hsix] at c0'
    have hte : textP p = showD [x0, x1, x2, x3] := by unfold textP; rw [hsix]; exact HX.out
    rw [hte] at HCAT s1 hl1
    clear hte hsix
    go_wp2_with fail
    refine (OD.out _ HT1.out.tabs).mono ?_
    rintro e w2 ⟨rfl, hb2⟩
    have H2 := Lib.hid (HS1.out.next hb2)
    clear hb2
    go_wp2_with fail
    go_ret
    exact ⟨by rw [← HCAT.out]; rfl, H2.out.below⟩
  · rw [hsix] at c0'
    have hte : textP p = show_ p.addr := by unfold textP; rw [hsix]; rfl
    rw [hte] at HCAT s1 hl1
    clear hte hsix
    go_wp2_with (refine wpList_load_addr rfl _ rfl w.heap.size 1 rfl p.addr hp H1.b.pA ?_)
    refine (SA.out _ HT1.out.ct).mono ?_
    rintro e w3 ⟨rfl, hb3⟩
    have H3 := HS1.out.next hb3
    have HT3 := Lib.hid (HT1.out.below hb3)
    have c17' := H3.b.p17 hp
    have HS3 := Lib.hid H3
    clear hb3
    go_wp2_with fail
    refine (OD.out _ HT3.out.tabs).mono ?_
    rintro e w2 ⟨rfl, hb2⟩
    have H2 := Lib.hid (HS3.out.next hb2)
    clear hb2
    go_wp2_with fail
    go_ret
    exact ⟨by rw [← HCAT.out]; rfl, H2.out.below⟩
end Go.Proofs.YtjbolphfelakeaaGreatDoor

/- prefix.Compare. -/
namespace Go.Proofs.YtjbolphfelakeaaGreatDoor
set_option linter.unusedVariables false
set_option linter.unusedSimpArgs false
open Go.RowKit Go.Shelf Go.Proofs Go.OctetPlain Go.ColonPlain Go.PrefixPlain

theorem cmpB_lib : ∀ a b : List UInt8, Lib.compareBytes a b = cmpB a b
  | [], [] => rfl
  | [], _ :: _ => rfl
  | _ :: _, [] => rfl
  | a :: l, b :: m => by
    have ih := cmpB_lib l m
    simp only [Lib.compareBytes, cmpB, ih]
def orI (x y z : Int) : Int := if x ≠ 0 then x else if y ≠ 0 then y else z
set_option maxRecDepth 100000 in
set_option maxHeartbeats 1000000 in
theorem cmp_isNaN (x : Int) (w : World) : Calls Tryz.prog 53 #[.int .i64 x] w fun e w' => e = .returned (.bool false) ∧ w' = w := by
  go_enter Tryz.func53, Tryz.ntmps53
  go_wp2_with fail
  go_ret
  exact ⟨rfl, rfl⟩
set_option maxRecDepth 100000 in
set_option maxHeartbeats 1000000 in
theorem cmp_Compare (x y : Int) (w : World) : Calls Tryz.prog 36 #[.int .i64 x, .int .i64 y] w fun e w' => e = .returned (.int .i64 (cmpI x y)) ∧ w' = w := by
  have NX := Lib.hid fun W => cmp_isNaN x W
  have NY := Lib.hid fun W => cmp_isNaN y W
  have hr : Hid ((x < y → cmpI x y = -1) ∧ (¬ x < y → y < x → cmpI x y = 1) ∧ (¬ x < y → ¬ y < x → cmpI x y = 0)) := by
    refine Lib.hid ⟨fun h => ?_, fun h1 h2 => ?_, fun h1 h2 => ?_⟩
    · unfold cmpI; rw [if_pos h]
    · unfold cmpI; rw [if_neg h1, if_pos h2]
    · unfold cmpI; rw [if_neg h1, if_neg h2]
  by_cases h1 : x < y
  · rw [hr.out.1 h1]
    go_enter Tryz.func36, Tryz.ntmps36
    go_wp2_with fail
    refine (NX.out _).mono ?_
    rintro e w1 ⟨rfl, rfl⟩
    go_wp2_with fail
    refine (NY.out _).mono ?_
    rintro e w1 ⟨rfl, rfl⟩
    go_wp2_with fail
    go_ret
    exact ⟨rfl, rfl⟩
  · by_cases h2 : y < x
    · rw [hr.out.2.1 h1 h2]
      go_enter Tryz.func36, Tryz.ntmps36
      go_wp2_with fail
      refine (NX.out _).mono ?_
      rintro e w1 ⟨rfl, rfl⟩
      go_wp2_with fail
      refine (NY.out _).mono ?_
      rintro e w1 ⟨rfl, rfl⟩
      go_wp2_with fail
      go_ret
      exact ⟨rfl, rfl⟩
    · rw [hr.out.2.2 h1 h2]
      go_enter Tryz.func36, Tryz.ntmps36
      go_wp2_with fail
      refine (NX.out _).mono ?_
      rintro e w1 ⟨rfl, rfl⟩
      go_wp2_with fail
      refine (NY.out _).mono ?_
      rintro e w1 ⟨rfl, rfl⟩
      go_wp2_with fail
      go_ret
      exact ⟨rfl, rfl⟩
set_option maxRecDepth 100000 in
set_option maxHeartbeats 1000000 in
theorem cmp_Or (x y z : Int) (g : Nat) (w : World) (h : Blk w g 3 #[.int .i64 x, .int .i64 y, .int .i64 z]) : Calls Tryz.prog 34 #[.slice (some ⟨g, 0, none⟩) 3 3] w fun e w' => e = .returned (.int .i64 (orI x y z)) ∧ w' = w := by
  have c0 := h.cell 0
  have c1 := h.cell 1
  have c2 := h.cell 2
  simp only [List.getElem?_toArray, List.getElem?_cons_zero, List.getElem?_cons_succ] at c0 c1 c2
  have hr : Hid ((x ≠ 0 → orI x y z = x) ∧ (x = 0 → y ≠ 0 → orI x y z = y) ∧ (x = 0 → y = 0 → orI x y z = z)) := by
    refine Lib.hid ⟨fun h => ?_, fun h1 h2 => ?_, fun h1 h2 => ?_⟩
    · unfold orI; rw [if_pos h]
    · unfold orI; rw [if_neg (by simpa using h1), if_pos h2]
    · unfold orI; rw [if_neg (by simpa using h1), if_neg (by simpa using h2)]
  go_enter Tryz.func34, Tryz.ntmps34
  go_wp2_with fail
  go_loopw [5, 8] (fun _ vi wr => ∃ k : Nat, k ≤ 3 ∧ vi = .int .i64 k ∧ wr = w ∧ (1 ≤ k → x = 0) ∧ (2 ≤ k → y = 0) ∧ (3 ≤ k → z = 0)) (fun _ vi _ => 3 - (intOf vi).toNat)
  case atStart => exact ⟨0, by omega, rfl, rfl, by omega, by omega, by omega⟩
  case round =>
    obtain ⟨k, hk, rfl, rfl, h1, h2, h3⟩ := hrel
    have hks : k = 0 ∨ k = 1 ∨ k = 2 ∨ k = 3 := by omega
    rcases hks with rfl | rfl | rfl | rfl
    · by_cases hx : x = 0
      · have hx' : (x != 0) = false := by simpa using hx
        go_wp2_with fail
        exact ⟨⟨1, by omega, rfl, trivial, fun _ => hx, by omega, by omega⟩, by simp [intOf]⟩
      · have hx' : (x != 0) = true := by simpa using hx
        go_wp2_with fail
        go_ret
        exact ⟨by rw [hr.out.1 hx]; rfl, rfl⟩
    · have hx := h1 (by omega)
      by_cases hy : y = 0
      · have hy' : (y != 0) = false := by simpa using hy
        clear h1 h2 h3
        go_wp2_with fail
        exact ⟨⟨2, by omega, rfl, trivial, fun _ => hx, fun _ => hy, by omega⟩, by simp [intOf]⟩
      · have hy' : (y != 0) = true := by simpa using hy
        have HH := Lib.hid (hr.out.2.1 hx hy)
        clear h1 h2 h3
        go_wp2_with fail
        go_ret
        exact ⟨by rw [HH.out]; rfl, rfl⟩
    · have hx := h1 (by omega)
      have hy := h2 (by omega)
      by_cases hz : z = 0
      · have hz' : (z != 0) = false := by simpa using hz
        clear h1 h2 h3
        go_wp2_with fail
        exact ⟨⟨3, by omega, rfl, trivial, fun _ => hx, fun _ => hy, fun _ => hz⟩, by simp [intOf]⟩
      · have hz' : (z != 0) = true := by simpa using hz
        have HH := Lib.hid (hr.out.2.2 hx hy)
        clear h1 h2 h3
        go_wp2_with fail
        go_ret
        exact ⟨by rw [HH.out]; rfl, rfl⟩
    · have hx := h1 (by omega)
      have hy := h2 (by omega)
      have hz := h3 (by omega)
      have HH : Hid (orI x y z = 0) := by rw [hr.out.2.2 hx hy, hz]; exact Lib.hid rfl
      clear h1 h2 h3
      go_wp2_with fail
      go_ret
      exact ⟨by rw [HH.out]; rfl, rfl⟩
end Go.Proofs.YtjbolphfelakeaaGreatDoor

/- prefix.Compare: the bytes. -/
namespace Go.Proofs.YtjbolphfelakeaaGreatDoor
set_option linter.unusedVariables false
set_option linter.unusedSimpArgs false
open Go.RowKit Go.Shelf Go.Proofs Go.OctetPlain Go.ColonPlain Go.PrefixPlain

theorem run_load16 (w : World) (g o : Nat) (a : List UInt8) (ha : a.length = 16) (h : w.rangeAt g o (cellsB a)) : (Extern.Bytes.loadBytes ⟨g, o, none⟩ 16 .empty).run Tryz.prog w = .ok (str a) w := by
  have hx : (a.map fun c => (c.toNat : Int)).length = 16 := by simp [ha]
  have h1 := Lib.run_loadBytesX (P := Tryz.prog) w (a.map fun c => (c.toNat : Int)) ⟨g, o, none⟩ .empty (fun j x hj => by
    rw [Addr.add_mid]
    refine h j _ ?_
    rw [List.getElem?_map] at hj
    unfold cellsB
    rw [List.getElem?_map]
    cases hc : a[j]? with
    | none => rw [hc] at hj; cases hj
    | some c => rw [hc] at hj; cases hj; rfl)
  rw [hx] at h1
  rw [h1]
  congr 1
  apply ByteArray.ext
  have : Lib.bytesOf (a.map fun c => (c.toNat : Int)) = a := by
    unfold Lib.bytesOf
    rw [List.map_map]
    conv => rhs; rw [← List.map_id a]
    apply List.map_congr_left
    intro c _
    simp
  rw [this]
  show (#[] : Array UInt8) ++ a.toArray = a.toArray
  simp
theorem run_cmp16 (w : World) (g1 o1 c1 g2 o2 c2 : Nat) (a b : List UInt8) (ha : a.length = 16) (hb : b.length = 16) (h1 : w.rangeAt g1 o1 (cellsB a)) (h2 : w.rangeAt g2 o2 (cellsB b)) :
    (Extern.BytealgCompare.compare #[.slice (some ⟨g1, o1, none⟩) 16 c1, .slice (some ⟨g2, o2, none⟩) 16 c2]).run Tryz.prog w = .ok (.int .i64 (cmpB a b)) w := by
  change Sem.run Tryz.prog (do pure (goInt (Extern.BytealgCompare.cmp (← Extern.Bytes.bytesOf (.slice (some ⟨g1, o1, none⟩) 16 c1)) (← Extern.Bytes.bytesOf (.slice (some ⟨g2, o2, none⟩) 16 c2))))) w = _
  simp only [Extern.Bytes.bytesOf, Sem.run_bind, Sem.run_pure, run_load16 w g1 o1 a ha h1, run_load16 w g2 o2 b hb h2, Result.andThen]
  rw [Lib.cmp_eq, cmpB_lib, list_str, list_str]
  rfl
set_option maxRecDepth 100000 in
set_option maxHeartbeats 1000000 in
theorem bytes_Compare (a b : List UInt8) (ha : a.length = 16) (hb : b.length = 16) (g1 o1 c1 g2 o2 c2 : Nat) (w : World) (h1 : w.rangeAt g1 o1 (cellsB a)) (h2 : w.rangeAt g2 o2 (cellsB b)) :
    Calls Tryz.prog 35 #[.slice (some ⟨g1, o1, none⟩) 16 c1, .slice (some ⟨g2, o2, none⟩) 16 c2] w fun e w' => e = .returned (.int .i64 (cmpB a b)) ∧ w' = w := by
  have hc := run_cmp16 w g1 o1 c1 g2 o2 c2 a b ha hb h1 h2
  go_enter Tryz.func35, Tryz.ntmps35
  go_wp2_with fail
  rw [run_callFunc_extern Tryz.func52 (by kernel_rfl) (by kernel_rfl) (by kernel_rfl) (e := Extern.BytealgCompare.compare) (by kernel_rfl), hc]
  simp only [Result.andThen]
  rw [Oper.upon_value]
  go_wp2_with fail
  go_ret
  exact ⟨rfl, rfl⟩
theorem cmpP_or (p q : Pf) : cmpP p q = orI (if p.six = q.six then 0 else if q.six then -1 else 1) (cmpB p.addr q.addr) (cmpI p.len q.len) := by
  unfold cmpP orI
  by_cases h : p.six = q.six
  · simp [h]
  · rw [if_neg h, if_pos h]
    cases q.six <;> simp
set_option maxRecDepth 100000 in
set_option maxHeartbeats 4000000 in
theorem pfx_Compare (p q : Pf) (hp : p.addr.length = 16) (hq : q.addr.length = 16) (w : World) :
    Calls Tryz.prog 21 #[.agg (pfA p), .agg (pfA q)] w fun e w' => e = .returned (.int .i64 (cmpP p q)) ∧ Below w.heap.size w w' := by
  have huP := Tryz.underlying24
  have hal : Tryz.prog.arrayLen 22 = 16 := by kernel_rfl
  have H0 := Lib.hid (PP.init w p q)
  have c0 := H0.out.bp.p0
  have d0 := H0.out.bq.p0
  have BC := Lib.hid fun W h1 h2 => bytes_Compare p.addr q.addr hp hq w.heap.size 1 16 (w.heap.size + 1) 1 16 W h1 h2
  have CC := Lib.hid fun W => cmp_Compare p.len q.len W
  obtain ⟨k, hk⟩ : ∃ k : Int, k = if p.six = q.six then 0 else if q.six then -1 else 1 := ⟨_, rfl⟩
  have HR := Lib.hid (cmpP_or p q)
  have BN : ∀ x y z : Int, Blk (((w.alloc (.cells (pfA p) 24)).alloc (.cells (pfA q) 24)).alloc (.cells #[.int .i64 x, .int .i64 y, .int .i64 z] 3)).drew (w.heap.size + 1 + 1) 3 #[.int .i64 x, .int .i64 y, .int .i64 z] := fun x y z => by
    have h := Blk.new ((w.alloc (.cells (pfA p) 24)).alloc (.cells (pfA q) 24)) 3 #[.int .i64 x, .int .i64 y, .int .i64 z]
    simp only [World.size_alloc] at h
    exact h.drew
  rw [← hk] at HR
  cases hps : p.six <;> cases hqs : q.six <;> rw [hps] at c0 hk <;> rw [hqs] at d0 hk <;> simp at hk <;> subst hk
  all_goals
    clear hps hqs
    go_enter Tryz.func21, Tryz.ntmps21
    go_wp2_with fail
    refine wp_region_held_drew (S := fun W => PP w W p q) (by kernel_rfl) H0.out.drew (fun hHeld => ?_)
    refine wpAnyH_take (i := 0) (v := ?_) rfl (by kernel_rfl) (by kernel_rfl) (by kernel_rfl) (fun _ _ _ h => h) (Or.inl ⟨by rfl, ?_⟩) (by assumption) ?_
    rotate_left
    · intro w hSw; go_simp; try with_reducible rfl
    simp only [Act.put, List.setIfInBounds_toArray, List.set_cons_zero, List.set_cons_succ, List.getElem_toArray, List.getElem_cons_zero, List.getElem_cons_succ]
    refine wpAnyH_take (i := 1) (v := ?_) rfl (by kernel_rfl) (by kernel_rfl) (by kernel_rfl) (fun _ _ _ h => h) (Or.inl ⟨by rfl, ?_⟩) (by assumption) ?_
    rotate_left
    · intro w hSw; go_simp; try with_reducible rfl
    simp only [Act.put, List.setIfInBounds_toArray, List.set_cons_zero, List.set_cons_succ, List.getElem_toArray, List.getElem_cons_zero, List.getElem_cons_succ]
    refine wpAnyH_take (i := 2) (v := ?_) rfl (by kernel_rfl) (by kernel_rfl) (by kernel_rfl) (fun _ _ _ h => h) (Or.inl ⟨by rfl, ?_⟩) (by assumption) ?_
    rotate_left
    · intro w hSw; go_simp; try with_reducible rfl
    simp only [Act.put, List.setIfInBounds_toArray, List.set_cons_zero, List.set_cons_succ, List.getElem_toArray, List.getElem_cons_zero, List.getElem_cons_succ]
    refine wpAnyH_take (i := 3) (v := ?_) rfl (by kernel_rfl) (by kernel_rfl) (by kernel_rfl) (fun _ _ _ h => h) (Or.inl ⟨by rfl, ?_⟩) (by assumption) ?_
    rotate_left
    · intro w hSw; go_simp; try with_reducible rfl
    simp only [Act.put, List.setIfInBounds_toArray, List.set_cons_zero, List.set_cons_succ, List.getElem_toArray, List.getElem_cons_zero, List.getElem_cons_succ]
    refine wpAnyH_take (i := 4) (v := ?_) rfl (by kernel_rfl) (by kernel_rfl) (by kernel_rfl) (fun _ _ _ h => h) (Or.inl ⟨by rfl, ?_⟩) (by assumption) ?_
    rotate_left
    · intro w hSw; go_simp; try with_reducible rfl
    simp only [Act.put, List.setIfInBounds_toArray, List.set_cons_zero, List.set_cons_succ, List.getElem_toArray, List.getElem_cons_zero, List.getElem_cons_succ]
    refine wpAnyH_take (i := 6) (v := ?_) rfl (by kernel_rfl) (by kernel_rfl) (by kernel_rfl) (fun _ _ _ h => h) (Or.inl ⟨by rfl, ?_⟩) (by assumption) ?_
    rotate_left
    · intro w hSw; go_simp; try with_reducible rfl
    simp only [Act.put, List.setIfInBounds_toArray, List.set_cons_zero, List.set_cons_succ, List.getElem_toArray, List.getElem_cons_zero, List.getElem_cons_succ]
    refine wpAnyH_take (i := 7) (v := ?_) rfl (by kernel_rfl) (by kernel_rfl) (by kernel_rfl) (fun _ _ _ h => h) (Or.inl ⟨by rfl, ?_⟩) (by assumption) ?_
    rotate_left
    · intro w h; have hf := (h.bp).p17 hp; go_simp; try with_reducible rfl
    simp only [Act.put, List.setIfInBounds_toArray, List.set_cons_zero, List.set_cons_succ, List.getElem_toArray, List.getElem_cons_zero, List.getElem_cons_succ]
    refine wpAnyH_take (i := 8) (v := ?_) rfl (by kernel_rfl) (by kernel_rfl) (by kernel_rfl) (fun _ _ _ h => h) (Or.inl ⟨by rfl, ?_⟩) (by assumption) ?_
    rotate_left
    · intro w hSw; go_simp; try with_reducible rfl
    simp only [Act.put, List.setIfInBounds_toArray, List.set_cons_zero, List.set_cons_succ, List.getElem_toArray, List.getElem_cons_zero, List.getElem_cons_succ]
    refine wpAnyH_take (i := 9) (v := ?_) rfl (by kernel_rfl) (by kernel_rfl) (by kernel_rfl) (fun _ _ _ h => h) (Or.inl ⟨by rfl, ?_⟩) (by assumption) ?_
    rotate_left
    · intro w h; have hf := (h.bq).p17 hq; go_simp; try with_reducible rfl
    simp only [Act.put, List.setIfInBounds_toArray, List.set_cons_zero, List.set_cons_succ, List.getElem_toArray, List.getElem_cons_zero, List.getElem_cons_succ]
    refine held_step (i := 5) rfl (by kernel_rfl) (by rfl) (fun K hK => ?_)
    go_simp
    refine (BC.out _ (PP.bp (by assumption)).pA (PP.bq (by assumption)).pA).mono ?_; rintro e w1 ⟨rfl, hw1⟩; subst hw1
    go_wp2_with fail
    refine hK.out _ _ ((by assumption)) (fun hHeld => ?_)
    clear hK K
    try simp only [Act.put, List.setIfInBounds_toArray, List.set_cons_zero, List.set_cons_succ, List.getElem_toArray, List.getElem_cons_zero, List.getElem_cons_succ]
    refine held_step (i := 10) rfl (by kernel_rfl) (by rfl) (fun K hK => ?_)
    go_simp
    refine (CC.out _).mono ?_; rintro e w1 ⟨rfl, hw1⟩; subst hw1
    go_wp2_with fail
    refine hK.out _ _ ((by assumption)) (fun hHeld => ?_)
    clear hK K
    try simp only [Act.put, List.setIfInBounds_toArray, List.set_cons_zero, List.set_cons_succ, List.getElem_toArray, List.getElem_cons_zero, List.getElem_cons_succ]
    refine held_step (i := 11) rfl (by kernel_rfl) (by rfl) (fun K hK => ?_)
    go_simp
    refine hK.out _ _ (PP.next (by assumption) (belowA _ _)) (fun hHeld => ?_)
    clear hK K
    try simp only [Act.put, List.setIfInBounds_toArray, List.set_cons_zero, List.set_cons_succ, List.getElem_toArray, List.getElem_cons_zero, List.getElem_cons_succ]
    refine held_step (i := 12) rfl (by kernel_rfl) (by rfl) (fun K hK => ?_)
    go_simp
    refine (cmp_Or _ _ _ _ _ (BN _ _ _)).mono ?_; rintro e w1 ⟨rfl, hw1⟩; subst hw1
    go_wp2_with fail
    refine hK.out _ _ ((by assumption)) (fun hHeld => ?_)
    clear hK K
    try simp only [Act.put, List.setIfInBounds_toArray, List.set_cons_zero, List.set_cons_succ, List.getElem_toArray, List.getElem_cons_zero, List.getElem_cons_succ]
    refine wpAnyH_take (i := 13) (v := ?_) rfl (by kernel_rfl) (by kernel_rfl) (by kernel_rfl) (fun _ _ _ h => h) (Or.inl ⟨by rfl, ?_⟩) (by assumption) ?_
    rotate_left
    · intro w hSw; go_simp; try with_reducible rfl
    simp only [Act.put, List.setIfInBounds_toArray, List.set_cons_zero, List.set_cons_succ, List.getElem_toArray, List.getElem_cons_zero, List.getElem_cons_succ]
    refine wpAnyH_done (by kernel_rfl) ?_ _

    all_goals go_wp2_with fail
    all_goals go_ret
    all_goals exact ⟨by rw [HR.out]; rfl, PP.below (by assumption)⟩
end Go.Proofs.YtjbolphfelakeaaGreatDoor

/- prefix.address, prefix.Parse. -/
namespace Go.Proofs.YtjbolphfelakeaaGreatDoor
set_option linter.unusedVariables false
set_option linter.unusedSimpArgs false
open Go.RowKit Go.Shelf Go.Proofs Go.OctetPlain Go.ColonPlain Go.PrefixPlain

/-- the address of a text, its kind, whether it is one -/
def adA (s : List UInt8) : List UInt8 := match addr2 s with
  | some (_, a) => a
  | none => List.replicate 16 0
def adS (s : List UInt8) : Bool := match addr2 s with
  | some (six, _) => six
  | none => false
theorem addr2_len {s : List UInt8} {six : Bool} {a : List UInt8} (h : addr2 s = some (six, a)) : a.length = 16 := by
  unfold addr2 at h
  cases hp : parse s with
  | some c => rw [hp] at h; cases h; exact parse_length hp
  | none =>
    rw [hp] at h
    simp only at h
    cases hd : dotted s with
    | none => rw [hd] at h; cases h
    | some c => rw [hd] at h; cases h; have := dotParts_length _ _ c hd; simp [this]
theorem adA_len (s : List UInt8) : (adA s).length = 16 := by
  unfold adA
  cases h : addr2 s with
  | none => rfl
  | some q => obtain ⟨six, a⟩ := q; exact addr2_len h
/-- what the two layers answer -/
theorem addr_cases (s : List UInt8) : (∃ a, parse s = some a ∧ a.length = 16 ∧ adA s = a ∧ adS s = true ∧ (addr2 s).isSome = true) ∨ (parse s = none ∧ ∃ a0 a1 a2 a3 is, (dotted s).getD [0, 0, 0, 0] = [a0, a1, a2, a3] ∧ (dotted s).isSome = is ∧ adA s = [a0, a1, a2, a3] ++ List.replicate 12 0 ∧ adS s = false ∧ (addr2 s).isSome = is) := by
  cases hp : parse s with
  | some a =>
    have h2 : addr2 s = some (true, a) := by unfold addr2; rw [hp]
    exact Or.inl ⟨a, rfl, parse_length hp, by unfold adA; rw [h2], by unfold adS; rw [h2], by rw [h2]; rfl⟩
  | none =>
    right
    refine ⟨rfl, ?_⟩
    cases hd : dotted s with
    | some a =>
      obtain ⟨a0, a1, a2, a3, rfl⟩ := list4 (dotParts_length _ _ a hd)
      have h2 : addr2 s = some (false, [a0, a1, a2, a3] ++ List.replicate 12 0) := by unfold addr2; rw [hp, hd]
      exact ⟨a0, a1, a2, a3, true, rfl, rfl, by unfold adA; rw [h2], by unfold adS; rw [h2], by rw [h2]; rfl⟩
    | none =>
      have h2 : addr2 s = none := by unfold addr2; rw [hp, hd]
      exact ⟨0, 0, 0, 0, false, rfl, rfl, by unfold adA; rw [h2]; rfl, by unfold adS; rw [h2], by rw [h2]; rfl⟩
theorem results_cell_tmp2 {P : Program} {fn : Func} {p q r : Tmp} {ty : TypeId} (h : fn.results = #[.cell p ty, .tmp q, .tmp r]) (tmps : Array Value) (w : World) (g : Nat) (t : TypeId) (cs : Array Value) (fr : Nat × Nat) (d : TypeDesc)
    (hp : tmps.getD p undef = .pointer (some ⟨g, 0, none⟩)) (hg : w.heap[g]? = some (.cells cs t fr))
    (hu : P.underlying ty = some d) (hd : (match d with | .struct _ | .array _ _ => true | _ => false) = true) (hi : (P.info? ty).map (·.size) = some cs.size) :
    (results fn tmps).run P w = .ok (.tuple #[.agg cs, tmps.getD q undef, tmps.getD r undef]) w := by
  have hp' : tmps[p]?.getD undef = .pointer (some ⟨g, 0, none⟩) := by simpa using hp
  simp [results, h, hp', asAddr, run_loadVar_row w g t ty cs fr d hg hu hd hi]
def z16' : List UInt8 := List.replicate 16 0
theorem copy_b4 {W : World} {B G : Nat} {a0 a1 a2 a3 : UInt8} (hB : Blk W B 22 (arrB z16')) (hG : Blk W G 42 (arrB [a0, a1, a2, a3])) (ty : TypeId) :
    (Builtin.copy_ #[43, 43] ty #[.slice (some ⟨B, 0, none⟩) 16 16, .slice (some ⟨G, 0, none⟩) 4 4]).run Tryz.prog W = .ok (goInt 4) (W.setRow B (arrB ([a0, a1, a2, a3] ++ List.replicate 12 0))) := by
  have h := run_copy_row (P := Tryz.prog) W 43 43 ty 5 B 0 16 16 ⟨G, 0, none⟩ 4 4 (arrB z16') 22 (cellsB [a0, a1, a2, a3]) Tryz.underlying43 (by kernel_rfl) hB rfl
    (fun j u hu => by
      rw [Addr.add_mid, Nat.zero_add]
      refine (hG.cell j).trans ?_
      unfold arrB
      rw [List.getElem?_toArray]
      exact hu)
    (by simp [cellsB, arrB, z16']) (by intro u hu; simp only [cellsB, List.mem_map] at hu; obtain ⟨c, _, rfl⟩ := hu; rfl)
  exact h
set_option maxRecDepth 100000 in
set_option maxHeartbeats 4000000 in
theorem pfx_address (s : List UInt8) (hs : s.length ≤ 1000000) (w : World) (ht : CT w) :
    Calls Tryz.prog 38 #[.string (str s)] w fun e w' => e = .returned (.tuple #[.agg (arrB (adA s)), .bool (adS s), .bool (addr2 s).isSome]) ∧ Below w.heap.size w w' := by
  have hu16 := Tryz.underlying22
  have KZ : A16 (arrB z16') := A16.of rfl
  have CP := Lib.hid fun W h => colon_Parse s hs W h
  have DP := Lib.hid fun W => dotted_Parse s (by omega) W
  have HT := Lib.hid (ht.below (belowA w (.cells (arrB z16') 22)))
  have H0 := Lib.hid (Blk.new w 22 (arrB z16'))
  clear ht
  rcases addr_cases s with ⟨a, hp, ha, r1, r2, r3⟩ | ⟨hp, a0, a1, a2, a3, is, hd, his, r1, r2, r3⟩
  · rw [hp] at CP
    simp only [Option.getD_some, Option.isSome_some] at CP
    have KX := A16.of ha
    have HR : Hid (adA s = a ∧ adS s = true ∧ (addr2 s).isSome = true) := Lib.hid ⟨r1, r2, r3⟩
    clear hp DP r1 r2 r3
    generalize hX : arrB a = X at CP KX
    have HXX := Lib.hid hX
    clear hX
    go_enter Tryz.func38, Tryz.ntmps38
    go_wp2_with fail
    refine (CP.out _ HT.out).mono ?_
    rintro e w1 ⟨rfl, hb1⟩
    have H1 := (H0.out.below hb1 H0.out.lt).alloc (.cells X 22)
    have HN := Blk.new w1 22 X
    have hbel := (belowA w (.cells (arrB z16') 22)).trans (hb1.mono (belowA w (.cells (arrB z16') 22)).size)
    have HB := Lib.hid (hbel.trans ((belowA w1 (.cells X 22)).mono hbel.size))
    clear hb1 hbel
    go_wp2_with (first
      | (refine wpList_store_new rfl _ _ _ rfl X rfl rfl _ _ KX.info KX.size.symm KX.one ?_)
      | (refine wpList_load_want rfl _ _ rfl w1.heap.size rfl _ X (0, 0) _ HN hu16 rfl KX.info ?_)
      | (refine wpList_store_row rfl _ _ _ rfl w.heap.size X rfl rfl 22 (arrB z16') H1 KX.info KX.size.symm KX.one ?_))
    refine bodyPost_ret (results_cell_tmp2 rfl _ _ _ _ _ _ _ rfl (H1.setRow _) hu16 rfl KX.info) rfl ⟨by rw [HR.out.1, HR.out.2.1, HR.out.2.2, HXX.out]; rfl, below_setRow HB.out (Nat.le_refl _) _⟩
  · rw [hp] at CP
    simp only [Option.getD_none, Option.isSome_none] at CP
    rw [hd, his] at DP
    have CP2 : Hid (∀ W, CT W → Calls Tryz.prog 55 #[.string (str s)] W fun e w' => e = .returned (.tuple #[.agg (arrB z16'), .bool false]) ∧ Below W.heap.size W w') := CP
    have DP2 : Hid (∀ W, Calls Tryz.prog 56 #[.string (str s)] W fun e w' => e = .returned (.tuple #[.agg (arrB [a0, a1, a2, a3]), .bool is]) ∧ Below W.heap.size W w') := DP
    have HR : Hid (adA s = [a0, a1, a2, a3] ++ List.replicate 12 0 ∧ adS s = false ∧ (addr2 s).isSome = is) := Lib.hid ⟨r1, r2, r3⟩
    have KR := A16.of (l := [a0, a1, a2, a3] ++ List.replicate 12 0) rfl
    have K4 : (Tryz.prog.info? 42).map (·.size) = some (arrB [a0, a1, a2, a3]).size ∧ (arrB [a0, a1, a2, a3]).all (·.oneCell') = true := ⟨info4, arrB_one _⟩
    have hal : Tryz.prog.arrayLen 22 = 16 := by kernel_rfl
    have hal4 : Tryz.prog.arrayLen 42 = 4 := by kernel_rfl
    clear hp hd his r1 r2 r3 CP DP
    go_enter Tryz.func38, Tryz.ntmps38
    go_wp2_with fail
    refine (CP2.out _ HT.out).mono ?_
    rintro e w1 ⟨rfl, hb1⟩
    have hbel := (belowA w (.cells (arrB z16') 22)).trans (hb1.mono (belowA w (.cells (arrB z16') 22)).size)
    have hbel2 := hbel.trans ((belowA w1 (.cells (arrB z16') 22)).mono hbel.size)
    have hbel3 := hbel2.trans ((belowA (w1.alloc (.cells (arrB z16') 22)) (.cells (arrB z16') 22)).mono hbel2.size)
    have H1 := Lib.hid (((H0.out.below hb1 H0.out.lt).alloc (.cells (arrB z16') 22)).alloc (.cells (arrB z16') 22))
    have h7 := Blk.new (w1.alloc (.cells (arrB z16') 22)) 22 (arrB z16')
    rw [World.size_alloc] at h7
    have H7 := Lib.hid h7
    have HB3 := Lib.hid hbel3
    have hlt1 := hb1.size
    have hlt0 := H0.out.lt
    clear hb1 hbel hbel2 hbel3 h7
    go_wp2_with (refine wpList_store_new rfl _ _ _ rfl (arrB z16') rfl rfl _ _ KZ.info KZ.size.symm KZ.one ?_)
    refine (DP2.out _).mono ?_
    rintro e w2 ⟨rfl, hb2⟩
    have hb2' : Below ((w1.alloc (.cells (arrB z16') 22)).alloc (.cells (arrB z16') 22)).heap.size ((w1.alloc (.cells (arrB z16') 22)).alloc (.cells (arrB z16') 22)) w2 := hb2
    have G1 := ((H1.out.below hb2' H1.out.lt).alloc (.cells (arrB [a0, a1, a2, a3]) 42)).drew
    have G7 := ((H7.out.below hb2' H7.out.lt).alloc (.cells (arrB [a0, a1, a2, a3]) 42)).drew
    have G8 := (Blk.new w2 42 (arrB [a0, a1, a2, a3])).drew
    have hbz := HB3.out.trans (hb2'.mono HB3.out.size)
    have HBZ := Lib.hid ((hbz.trans ((belowA w2 (.cells (arrB [a0, a1, a2, a3]) 42)).mono hbz.size)).drew)
    have hne : w.heap.size ≠ w1.heap.size + 1 := by simp at hlt1; omega
    have hcp := copy_b4 G7 G8 3
    have I1 := G1.otherRow (w1.heap.size + 1) (arrB ([a0, a1, a2, a3] ++ List.replicate 12 0)) hne
    have I7 := G7.setRow (arrB ([a0, a1, a2, a3] ++ List.replicate 12 0))
    have HIB := Lib.hid (below_setRow HBZ.out (show w.heap.size ≤ w1.heap.size + 1 by simp at hlt1; omega) (arrB ([a0, a1, a2, a3] ++ List.replicate 12 0)))
    have HI1 := Lib.hid I1
    have HI7 := Lib.hid I7
    clear hb2 hb2' G1 G7 G8 hbz I1 I7 hlt1 hlt0
    generalize hXR : arrB ([a0, a1, a2, a3] ++ List.replicate 12 0) = XR at *
    have HXR := Lib.hid hXR
    clear hXR
    generalize hX4 : arrB [a0, a1, a2, a3] = X4 at *
    go_wp2_with (refine wpList_store_new rfl _ _ _ rfl X4 rfl rfl _ _ K4.1 (by rw [← hX4]; rfl) K4.2 ?_)
    go_still_tail 2, (by kernel_rfl)
    change wpList _ _ _ _ _ (w2.alloc (.cells X4 42)).drew
    go_wp2_with (first
      | (refine wpList_load_want rfl _ _ rfl (w1.heap.size + 1) rfl _ XR (0, 0) _ HI7.out hu16 rfl KR.info ?_)
      | (refine wpList_store_row rfl _ _ _ rfl w.heap.size XR rfl rfl 22 (arrB z16') HI1.out KR.info KR.size.symm KR.one ?_))
    refine bodyPost_ret (results_cell_tmp2 rfl _ _ _ _ _ _ _ rfl (HI1.out.setRow _) hu16 rfl KR.info) rfl ⟨by rw [HR.out.1, HR.out.2.1, HR.out.2.2, HXR.out]; rfl, below_setRow HIB.out (Nat.le_refl _) _⟩
end Go.Proofs.YtjbolphfelakeaaGreatDoor

/- prefix.Parse. -/
namespace Go.Proofs.YtjbolphfelakeaaGreatDoor
set_option linter.unusedVariables false
set_option linter.unusedSimpArgs false
open Go.RowKit Go.Shelf Go.Proofs Go.OctetPlain Go.ColonPlain Go.PrefixPlain

theorem parseP_eq (l : List UInt8) : parseP l = if (addr2 (Lib.cut l [47]).1).isSome = true ∧ (number (Lib.cut l [47]).2.1 128).isSome = true ∧ ok ⟨adS (Lib.cut l [47]).1, adA (Lib.cut l [47]).1, (number (Lib.cut l [47]).2.1 128).getD 0⟩ then some ⟨adS (Lib.cut l [47]).1, adA (Lib.cut l [47]).1, (number (Lib.cut l [47]).2.1 128).getD 0⟩ else none := by
  unfold parseP
  cases h1 : addr2 (Lib.cut l [47]).1 with
  | none => simp
  | some q =>
    obtain ⟨six, a⟩ := q
    have e1 : adS (Lib.cut l [47]).1 = six := by unfold adS; rw [h1]
    have e2 : adA (Lib.cut l [47]).1 = a := by unfold adA; rw [h1]
    rw [e1, e2]
    cases h2 : number (Lib.cut l [47]).2.1 128 with
    | none => simp
    | some n => simp
theorem cut47_le (s : List UInt8) : (Lib.cut s [47]).1.length ≤ s.length ∧ (Lib.cut s [47]).2.1.length ≤ s.length := by
  unfold Lib.cut
  split
  · constructor
    · simp only [List.length_take]; omega
    · simp only [List.length_drop]; omega
  · simp
/-- the state of Parse -/
structure SP (w W : World) : Prop where
  pt : PT W
  br : Blk W w.heap.size 24 (pfA zP)
  below : Below w.heap.size w W
theorem SP.next {w W W' : World} (h : SP w W) (hb : Below W.heap.size W W') : SP w W' := ⟨h.pt.below hb, h.br.below hb h.br.lt, h.below.trans (hb.mono h.below.size)⟩
set_option maxRecDepth 100000 in
set_option maxHeartbeats 4000000 in
theorem pfx_Parse (l : List UInt8) (hl : l.length ≤ 1000000) (w : World) (ht : PT w) :
    Calls Tryz.prog 23 #[.string (str l)] w fun e w' => e = .returned (.tuple #[.agg (pfA ((parseP l).getD zP)), .bool (parseP l).isSome]) ∧ Below w.heap.size w w' := by
  have hu16 := Tryz.underlying22
  have huP := Tryz.underlying24
  let wz := w.alloc (.cells (pfA zP) 24)
  have hsp : SP w wz := ⟨ht.below (belowA w _), Blk.new _ _ _, belowA w _⟩
  obtain ⟨m, hm⟩ := hsp.pt.ct.ml
  obtain ⟨hcl1, hcl2⟩ := cut47_le l
  have hcon := Any.strings_Cut { Tryz.cut with } (str l) ⟨#[47]⟩ m wz (by rw [str_size]; omega) hm
  change Calls Tryz.prog 37 _ _ _ at hcon
  have HC : Hid (Calls Tryz.prog 37 #[.string (str l), .string ⟨#[47]⟩] wz fun e w' => e = .returned (.tuple #[.string (str (Lib.cut l [47]).1), .string (str (Lib.cut l [47]).2.1), .bool (Lib.cut l [47]).2.2]) ∧ ∃ n, w' = wz.drewN n) := hcon
  have HE := Lib.hid (parseP_eq l)
  have HSP := Lib.hid hsp
  clear hcon hm hsp ht
  generalize Lib.cut l [47] = q at HC HE hcl1 hcl2
  obtain ⟨x, y, c⟩ := q
  simp only at HC HE hcl1 hcl2
  obtain ⟨y0, y1, y2, y3, y4, y5, y6, y7, y8, y9, y10, y11, y12, y13, y14, y15, hy⟩ := list16 (adA_len x)
  have KX := A16.of (adA_len x)
  have KP : ∀ n : Int, PX (pfA ⟨adS x, adA x, n⟩) := fun n => PX.of (adA_len x)
  have KZ := PX.of (p := zP) rfl
  have hnb : Len64 ⟨adS x, adA x, (number y 128).getD 0⟩ := by
    unfold Len64
    cases hn : number y 128 with
    | none => simp
    | some v => have h := number_some.1 hn; simp only [Option.getD_some]; omega
  have CK := Lib.hid fun W => pfx_Check ⟨adS x, adA x, (number y 128).getD 0⟩ (adA_len x) hnb W
  have HA := Lib.hid fun W h => pfx_address x (by omega) W h
  have HNU := Lib.hid fun W h => octet_Number y (by omega) 128 W h
  rw [hy] at KX KP CK HA HE
  have HA2 : Hid (∀ W, CT W → Calls Tryz.prog 38 #[.string (str x)] W fun e w' => e = .returned (.tuple #[.agg #[.int .u8 (y0.toNat : Int), .int .u8 (y1.toNat : Int), .int .u8 (y2.toNat : Int), .int .u8 (y3.toNat : Int), .int .u8 (y4.toNat : Int), .int .u8 (y5.toNat : Int), .int .u8 (y6.toNat : Int), .int .u8 (y7.toNat : Int), .int .u8 (y8.toNat : Int), .int .u8 (y9.toNat : Int), .int .u8 (y10.toNat : Int), .int .u8 (y11.toNat : Int), .int .u8 (y12.toNat : Int), .int .u8 (y13.toNat : Int), .int .u8 (y14.toNat : Int), .int .u8 (y15.toNat : Int)], .bool (adS x), .bool (addr2 x).isSome]) ∧ Below W.heap.size W w') := HA
  clear HA hy hnb
  generalize (number y 128).getD 0 = nn at HNU CK HE
  generalize (number y 128).isSome = num at HNU HE
  generalize (addr2 x).isSome = is at HA2 HE
  generalize adS x = six at HA2 HE CK KP
  go_enter Tryz.func23, Tryz.ntmps23
  go_wp2_with fail
  refine HC.out.mono ?_
  rintro e w1 ⟨rfl, n, hw1⟩
  have P1 : Hid (SP w w1) := by subst hw1; exact Lib.hid (HSP.out.next (below_drewN (Below.refl _ _) _))
  clear hw1 HSP
  go_wp2_with fail
  refine (HA2.out _ P1.out.pt.ct).mono ?_
  rintro e w2 ⟨rfl, hb2⟩
  have P2 := Lib.hid ((P1.out.next hb2).next (belowA w2 (.cells #[.int .u8 (y0.toNat : Int), .int .u8 (y1.toNat : Int), .int .u8 (y2.toNat : Int), .int .u8 (y3.toNat : Int), .int .u8 (y4.toNat : Int), .int .u8 (y5.toNat : Int), .int .u8 (y6.toNat : Int), .int .u8 (y7.toNat : Int), .int .u8 (y8.toNat : Int), .int .u8 (y9.toNat : Int), .int .u8 (y10.toNat : Int), .int .u8 (y11.toNat : Int), .int .u8 (y12.toNat : Int), .int .u8 (y13.toNat : Int), .int .u8 (y14.toNat : Int), .int .u8 (y15.toNat : Int)] 22)))
  have B7 := Lib.hid (Blk.new w2 22 #[.int .u8 (y0.toNat : Int), .int .u8 (y1.toNat : Int), .int .u8 (y2.toNat : Int), .int .u8 (y3.toNat : Int), .int .u8 (y4.toNat : Int), .int .u8 (y5.toNat : Int), .int .u8 (y6.toNat : Int), .int .u8 (y7.toNat : Int), .int .u8 (y8.toNat : Int), .int .u8 (y9.toNat : Int), .int .u8 (y10.toNat : Int), .int .u8 (y11.toNat : Int), .int .u8 (y12.toNat : Int), .int .u8 (y13.toNat : Int), .int .u8 (y14.toNat : Int), .int .u8 (y15.toNat : Int)])
  clear hb2
  go_wp2_with (refine wpList_store_new rfl _ _ _ rfl #[.int .u8 (y0.toNat : Int), .int .u8 (y1.toNat : Int), .int .u8 (y2.toNat : Int), .int .u8 (y3.toNat : Int), .int .u8 (y4.toNat : Int), .int .u8 (y5.toNat : Int), .int .u8 (y6.toNat : Int), .int .u8 (y7.toNat : Int), .int .u8 (y8.toNat : Int), .int .u8 (y9.toNat : Int), .int .u8 (y10.toNat : Int), .int .u8 (y11.toNat : Int), .int .u8 (y12.toNat : Int), .int .u8 (y13.toNat : Int), .int .u8 (y14.toNat : Int), .int .u8 (y15.toNat : Int)] rfl rfl _ _ KX.info KX.size.symm KX.one ?_)
  refine (HNU.out _ P2.out.pt.tabs).mono ?_
  rintro e w3 ⟨rfl, hb3⟩
  have P3 := Lib.hid ((P2.out.next hb3).next (belowA w3 (.cells (pfA ⟨six, [y0, y1, y2, y3, y4, y5, y6, y7, y8, y9, y10, y11, y12, y13, y14, y15], nn⟩) 24)))
  have C7 := Lib.hid (B7.out.below hb3 B7.out.lt)
  have B12 := Lib.hid (Blk.new w3 24 (pfA ⟨six, [y0, y1, y2, y3, y4, y5, y6, y7, y8, y9, y10, y11, y12, y13, y14, y15], nn⟩))
  clear hb3
  cases is
  · have HN : Hid (parseP l = none) := by rw [HE.out, if_neg (fun h => by cases h.1)]; exact Lib.hid rfl
    go_wp2_with (first
      | (refine wpList_load_want rfl _ _ rfl w2.heap.size rfl _ #[.int .u8 (y0.toNat : Int), .int .u8 (y1.toNat : Int), .int .u8 (y2.toNat : Int), .int .u8 (y3.toNat : Int), .int .u8 (y4.toNat : Int), .int .u8 (y5.toNat : Int), .int .u8 (y6.toNat : Int), .int .u8 (y7.toNat : Int), .int .u8 (y8.toNat : Int), .int .u8 (y9.toNat : Int), .int .u8 (y10.toNat : Int), .int .u8 (y11.toNat : Int), .int .u8 (y12.toNat : Int), .int .u8 (y13.toNat : Int), .int .u8 (y14.toNat : Int), .int .u8 (y15.toNat : Int)] (0, 0) _ C7.out hu16 rfl KX.info ?_)
      | (refine wpList_store_new rfl _ _ _ rfl (pfA ⟨six, [y0, y1, y2, y3, y4, y5, y6, y7, y8, y9, y10, y11, y12, y13, y14, y15], nn⟩) rfl rfl _ _ (KP nn).info (KP nn).size.symm (KP nn).one ?_)
      | (refine wpList_store_row rfl _ _ _ rfl w.heap.size (pfA zP) rfl rfl 24 (pfA zP) P3.out.br KZ.info rfl KZ.one ?_))
    refine bodyPost_ret (results_cell_tmp rfl _ _ _ _ _ _ _ rfl (P3.out.br.setRow _) huP rfl KZ.info) rfl ⟨by rw [HN.out]; rfl, below_setRow P3.out.below (Nat.le_refl _) _⟩
  · cases num
    · have HN : Hid (parseP l = none) := by rw [HE.out, if_neg (fun h => by cases h.2.1)]; exact Lib.hid rfl
      go_wp2_with (first
        | (refine wpList_load_want rfl _ _ rfl w2.heap.size rfl _ #[.int .u8 (y0.toNat : Int), .int .u8 (y1.toNat : Int), .int .u8 (y2.toNat : Int), .int .u8 (y3.toNat : Int), .int .u8 (y4.toNat : Int), .int .u8 (y5.toNat : Int), .int .u8 (y6.toNat : Int), .int .u8 (y7.toNat : Int), .int .u8 (y8.toNat : Int), .int .u8 (y9.toNat : Int), .int .u8 (y10.toNat : Int), .int .u8 (y11.toNat : Int), .int .u8 (y12.toNat : Int), .int .u8 (y13.toNat : Int), .int .u8 (y14.toNat : Int), .int .u8 (y15.toNat : Int)] (0, 0) _ C7.out hu16 rfl KX.info ?_)
        | (refine wpList_store_new rfl _ _ _ rfl (pfA ⟨six, [y0, y1, y2, y3, y4, y5, y6, y7, y8, y9, y10, y11, y12, y13, y14, y15], nn⟩) rfl rfl _ _ (KP nn).info (KP nn).size.symm (KP nn).one ?_)
        | (refine wpList_store_row rfl _ _ _ rfl w.heap.size (pfA zP) rfl rfl 24 (pfA zP) P3.out.br KZ.info rfl KZ.one ?_))
      refine bodyPost_ret (results_cell_tmp rfl _ _ _ _ _ _ _ rfl (P3.out.br.setRow _) huP rfl KZ.info) rfl ⟨by rw [HN.out]; rfl, below_setRow P3.out.below (Nat.le_refl _) _⟩
    · by_cases hok : ok ⟨six, [y0, y1, y2, y3, y4, y5, y6, y7, y8, y9, y10, y11, y12, y13, y14, y15], nn⟩
      · have HN : Hid (parseP l = some ⟨six, [y0, y1, y2, y3, y4, y5, y6, y7, y8, y9, y10, y11, y12, y13, y14, y15], nn⟩) := by rw [HE.out, if_pos ⟨rfl, rfl, hok⟩]; exact Lib.hid rfl
        have hk : okN ⟨six, [y0, y1, y2, y3, y4, y5, y6, y7, y8, y9, y10, y11, y12, y13, y14, y15], nn⟩ = 0 := by unfold okN; rw [if_pos hok]
        rw [hk] at CK
        clear hk hok
        go_wp2_with (first
          | (refine wpList_load_want rfl _ _ rfl w2.heap.size rfl _ #[.int .u8 (y0.toNat : Int), .int .u8 (y1.toNat : Int), .int .u8 (y2.toNat : Int), .int .u8 (y3.toNat : Int), .int .u8 (y4.toNat : Int), .int .u8 (y5.toNat : Int), .int .u8 (y6.toNat : Int), .int .u8 (y7.toNat : Int), .int .u8 (y8.toNat : Int), .int .u8 (y9.toNat : Int), .int .u8 (y10.toNat : Int), .int .u8 (y11.toNat : Int), .int .u8 (y12.toNat : Int), .int .u8 (y13.toNat : Int), .int .u8 (y14.toNat : Int), .int .u8 (y15.toNat : Int)] (0, 0) _ C7.out hu16 rfl KX.info ?_)
          | (refine wpList_store_new rfl _ _ _ rfl (pfA ⟨six, [y0, y1, y2, y3, y4, y5, y6, y7, y8, y9, y10, y11, y12, y13, y14, y15], nn⟩) rfl rfl _ _ (KP nn).info (KP nn).size.symm (KP nn).one ?_)
          | (refine wpList_load_want rfl _ _ rfl w3.heap.size rfl _ (pfA ⟨six, [y0, y1, y2, y3, y4, y5, y6, y7, y8, y9, y10, y11, y12, y13, y14, y15], nn⟩) (0, 0) _ B12.out huP rfl (KP nn).info ?_))
        refine (CK.out _).mono ?_
        rintro e w4 ⟨rfl, hb4⟩
        have P4 := Lib.hid (P3.out.next hb4)
        have D12 := Lib.hid (B12.out.below hb4 B12.out.lt)
        clear hb4
        go_wp2_with (first
          | (refine wpList_load_want rfl _ _ rfl w3.heap.size rfl _ (pfA ⟨six, [y0, y1, y2, y3, y4, y5, y6, y7, y8, y9, y10, y11, y12, y13, y14, y15], nn⟩) (0, 0) _ D12.out huP rfl (KP nn).info ?_)
          | (refine wpList_store_row rfl _ _ _ rfl w.heap.size (pfA ⟨six, [y0, y1, y2, y3, y4, y5, y6, y7, y8, y9, y10, y11, y12, y13, y14, y15], nn⟩) rfl rfl 24 (pfA zP) P4.out.br (KP nn).info (KP nn).size.symm (KP nn).one ?_))
        refine bodyPost_ret (results_cell_tmp rfl _ _ _ _ _ _ _ rfl (P4.out.br.setRow _) huP rfl (KP nn).info) rfl ⟨by rw [HN.out]; rfl, below_setRow P4.out.below (Nat.le_refl _) _⟩
      · have HN : Hid (parseP l = none) := by rw [HE.out, if_neg (fun h => hok h.2.2)]; exact Lib.hid rfl
        have hk : okN ⟨six, [y0, y1, y2, y3, y4, y5, y6, y7, y8, y9, y10, y11, y12, y13, y14, y15], nn⟩ = 1 := by unfold okN; rw [if_neg hok]
        rw [hk] at CK
        clear hk hok
        go_wp2_with (first
          | (refine wpList_load_want rfl _ _ rfl w2.heap.size rfl _ #[.int .u8 (y0.toNat : Int), .int .u8 (y1.toNat : Int), .int .u8 (y2.toNat : Int), .int .u8 (y3.toNat : Int), .int .u8 (y4.toNat : Int), .int .u8 (y5.toNat : Int), .int .u8 (y6.toNat : Int), .int .u8 (y7.toNat : Int), .int .u8 (y8.toNat : Int), .int .u8 (y9.toNat : Int), .int .u8 (y10.toNat : Int), .int .u8 (y11.toNat : Int), .int .u8 (y12.toNat : Int), .int .u8 (y13.toNat : Int), .int .u8 (y14.toNat : Int), .int .u8 (y15.toNat : Int)] (0, 0) _ C7.out hu16 rfl KX.info ?_)
          | (refine wpList_store_new rfl _ _ _ rfl (pfA ⟨six, [y0, y1, y2, y3, y4, y5, y6, y7, y8, y9, y10, y11, y12, y13, y14, y15], nn⟩) rfl rfl _ _ (KP nn).info (KP nn).size.symm (KP nn).one ?_)
          | (refine wpList_load_want rfl _ _ rfl w3.heap.size rfl _ (pfA ⟨six, [y0, y1, y2, y3, y4, y5, y6, y7, y8, y9, y10, y11, y12, y13, y14, y15], nn⟩) (0, 0) _ B12.out huP rfl (KP nn).info ?_))
        refine (CK.out _).mono ?_
        rintro e w4 ⟨rfl, hb4⟩
        have P4 := Lib.hid (P3.out.next hb4)
        clear hb4
        go_wp2_with (refine wpList_store_row rfl _ _ _ rfl w.heap.size (pfA zP) rfl rfl 24 (pfA zP) P4.out.br KZ.info rfl KZ.one ?_)
        refine bodyPost_ret (results_cell_tmp rfl _ _ _ _ _ _ _ rfl (P4.out.br.setRow _) huP rfl KZ.info) rfl ⟨by rw [HN.out]; rfl, below_setRow P4.out.below (Nat.le_refl _) _⟩
end Go.Proofs.YtjbolphfelakeaaGreatDoor

/- The laws of layer 8: awake. -/
namespace Go.Proofs.YtjbolphfelakeaaGreatDoor
set_option linter.unusedVariables false
set_option linter.unusedSimpArgs false
open Go.RowKit Go.Shelf Go.Proofs Go.OctetPlain Go.ColonPlain Go.PrefixPlain

/-- awake's state -/
structure A8 (w W : World) (g1 g2 g3 g4 : Nat) (p q r s : Pf) : Prop where
  pt : PT W
  below : Below w.heap.size w W
  b1 : Blk W g1 24 (pfA p)
  b2 : Blk W g2 24 (pfA q)
  b3 : Blk W g3 24 (pfA r)
  b4 : Blk W g4 24 (pfA s)
theorem A8.next {w W W' : World} {g1 g2 g3 g4 : Nat} {p q r s : Pf} (h : A8 w W g1 g2 g3 g4 p q r s) (hb : Below W.heap.size W W') : A8 w W' g1 g2 g3 g4 p q r s :=
  ⟨h.pt.below hb, h.below.trans (hb.mono h.below.size), h.b1.below hb h.b1.lt, h.b2.below hb h.b2.lt, h.b3.below hb h.b3.lt, h.b4.below hb h.b4.lt⟩
theorem A8.drew {w W : World} {g1 g2 g3 g4 : Nat} {p q r s : Pf} (h : A8 w W g1 g2 g3 g4 p q r s) : A8 w W.drew g1 g2 g3 g4 p q r s := h.next (Below.refl _ _).drew
/-- the state ahead of a block -/
structure A0 (w W : World) : Prop where
  pt : PT W
  below : Below w.heap.size w W
theorem A0.next {w W W' : World} (h : A0 w W) (hb : Below W.heap.size W W') : A0 w W' := ⟨h.pt.below hb, h.below.trans (hb.mono h.below.size)⟩

set_option maxRecDepth 100000 in
set_option maxHeartbeats 4000000 in
theorem law08_awake (w : World) (ht : PT w) : Calls Tryz.prog 6 #[] w fun e w' => e = .returned (.bool true) ∧ Below w.heap.size w w' := by
  have huP := Tryz.underlying24
  have P1 := fun W h => pfx_Parse tP (by decide) W h
  have P2 := fun W h => pfx_Parse tQ (by decide) W h
  have P3 := fun W h => pfx_Parse tR (by decide) W h
  have P4 := fun W h => pfx_Parse tN (by decide) W h
  rw [kP] at P1
  rw [kQ] at P2
  rw [kR] at P3
  rw [kN] at P4
  simp only [Option.getD_some, Option.isSome_some, Option.getD_none, Option.isSome_none] at P1 P2 P3 P4
  have M := fun W => pfx_Common cP cR rfl rfl (by unfold Len64; decide) (by unfold Len64; decide) W
  have e6 : cP.six = cR.six := rfl
  rw [if_pos e6, kS, decide_eq_true e6] at M
  clear e6
  have C1 := Lib.hid fun W => pfx_Covers cP cQ rfl rfl (by unfold Len64; decide) (by unfold Len64; decide) W
  have C2 := Lib.hid fun W => pfx_Covers cQ cP rfl rfl (by unfold Len64; decide) (by unfold Len64; decide) W
  rw [kPQ] at C1
  rw [kQP] at C2
  have SH0 := fun W h => pfx_Show cS rfl (by unfold Len64; decide) W h
  rw [kShow] at SH0
  have SH : Hid (∀ W, PT W → Calls Tryz.prog 9 #[.agg (pfA cS)] W fun e w' => e = .returned (.string ⟨#[49, 48, 46, 48, 46, 48, 46, 48, 47, 49, 53]⟩) ∧ Below W.heap.size W w') := Lib.hid SH0
  have CK := Lib.hid fun W => pfx_Check cS rfl (by decide) W
  rw [show okN cS = 0 by unfold okN; rw [if_pos kOk]] at CK
  have CM := Lib.hid fun W => pfx_Compare cR cP rfl rfl W
  rw [kCmp] at CM
  have BI := Lib.hid fun W => pfx_Bit cP.addr rfl 4 (by decide) W
  rw [kBit] at BI
  have HA := Lib.hid fun W => pfx_Has cP rfl (by decide) cQ.addr rfl W
  rw [kHas] at HA
  have OF := Lib.hid fun W => pfx_Of false cQ.addr rfl 16 (by decide) W
  rw [kOf] at OF
  have QE := fun W => eq_pf (p := cP) (q := cP) rfl rfl W
  rw [decide_eq_true rfl] at QE
  have p6 : cP.addr.length = 16 := rfl
  have q6 : cQ.addr.length = 16 := rfl
  have r6 : cR.addr.length = 16 := rfl
  have s6 : cS.addr.length = 16 := rfl
  have XZ := PX.of (p := zP) rfl
  clear SH0
  generalize cP = p at *
  generalize cQ = q at *
  generalize cR = r at *
  generalize cS = s at *
  have XP := PX.of p6
  have XQ := PX.of q6
  have XR := PX.of r6
  have XS := PX.of s6
  have H0 : Hid (A0 w w) := Lib.hid ⟨ht, Below.refl _ _⟩
  have PP1 := Lib.hid P1
  have PP2 := Lib.hid P2
  have PP3 := Lib.hid P3
  have PP4 := Lib.hid P4
  have MM := Lib.hid M
  clear P1 P2 P3 P4 M ht
  go_enter Tryz.func6, Tryz.ntmps6
  go_wp2_with fail
  refine (PP1.out _ H0.out.pt).mono ?_
  rintro e w1 ⟨rfl, hb1⟩
  have H1 := Lib.hid ((H0.out.next hb1).next (belowA w1 (.cells (pfA p) 24)))
  have K1 := Lib.hid (Blk.new w1 24 (pfA p))
  clear hb1
  go_wp2_with (refine wpList_store_new rfl _ _ _ rfl (pfA p) rfl rfl _ _ XP.info XP.size.symm XP.one ?_)
  refine (PP2.out _ H1.out.pt).mono ?_
  rintro e w2 ⟨rfl, hb2⟩
  have hA2 := belowA w2 (.cells (pfA q) 24)
  have H2 := Lib.hid ((H1.out.next hb2).next hA2)
  have K12 := Lib.hid ((K1.out.below hb2 K1.out.lt).alloc (.cells (pfA q) 24))
  have K2 := Lib.hid (Blk.new w2 24 (pfA q))
  clear hb2 hA2
  go_wp2_with (refine wpList_store_new rfl _ _ _ rfl (pfA q) rfl rfl _ _ XQ.info XQ.size.symm XQ.one ?_)
  refine (PP3.out _ H2.out.pt).mono ?_
  rintro e w3 ⟨rfl, hb3⟩
  have H3 := Lib.hid ((H2.out.next hb3).next (belowA w3 (.cells (pfA r) 24)))
  have K13 := Lib.hid ((K12.out.below hb3 K12.out.lt).alloc (.cells (pfA r) 24))
  have K23 := Lib.hid ((K2.out.below hb3 K2.out.lt).alloc (.cells (pfA r) 24))
  have K3 := Lib.hid (Blk.new w3 24 (pfA r))
  clear hb3
  go_wp2_with (refine wpList_store_new rfl _ _ _ rfl (pfA r) rfl rfl _ _ XR.info XR.size.symm XR.one ?_)
  refine (PP4.out _ H3.out.pt).mono ?_
  rintro e w4 ⟨rfl, hb4⟩
  have H4 := Lib.hid ((H3.out.next hb4).next (belowA w4 (.cells (pfA zP) 24)))
  have K14 := Lib.hid ((K13.out.below hb4 K13.out.lt).alloc (.cells (pfA zP) 24))
  have K24 := Lib.hid ((K23.out.below hb4 K23.out.lt).alloc (.cells (pfA zP) 24))
  have K34 := Lib.hid ((K3.out.below hb4 K3.out.lt).alloc (.cells (pfA zP) 24))
  clear hb4
  generalize pfA zP = ZZ at PP4 XZ H4 K14 K24 K34
  go_wp2_with (first
    | (refine wpList_store_new rfl _ _ _ rfl ZZ rfl rfl _ _ XZ.info XZ.size.symm XZ.one ?_)
    | (refine wpList_load_want rfl _ _ rfl w1.heap.size rfl _ (pfA p) (0, 0) _ K14.out huP rfl XP.info ?_)
    | (refine wpList_load_want rfl _ _ rfl w3.heap.size rfl _ (pfA r) (0, 0) _ K34.out huP rfl XR.info ?_))
  refine (MM.out _).mono ?_
  rintro e w5 ⟨rfl, hb5⟩
  have H5 : A8 w (w5.alloc (.cells (pfA s) 24)) w1.heap.size w2.heap.size w3.heap.size w5.heap.size p q r s := by
    have hA := (H4.out.next hb5).next (belowA w5 (.cells (pfA s) 24))
    exact ⟨hA.pt, hA.below, (K14.out.below hb5 K14.out.lt).alloc _, (K24.out.below hb5 K24.out.lt).alloc _, (K34.out.below hb5 K34.out.lt).alloc _, Blk.new _ _ _⟩
  have HH := Lib.hid H5
  clear hb5 H5
  generalize w1.heap.size = g1 at *
  generalize w2.heap.size = g2 at *
  generalize w3.heap.size = g3 at *
  go_wp2_with (refine wpList_store_new rfl _ _ _ rfl (pfA s) rfl rfl _ _ XS.info XS.size.symm XS.one ?_)
  generalize hg4 : w5.heap.size = g4 at *
  generalize w5.alloc (.cells (pfA s) 24) = w6 at *
  refine wp_region_held_drew (S := fun W => A8 w W g1 g2 g3 g4 p q r s) (by kernel_rfl) HH.out.drew (fun hHeld => ?_)
  refine wpAnyH_take (i := 0) (v := ?_) rfl (by kernel_rfl) (by kernel_rfl) (by kernel_rfl) (fun _ _ _ h => h) (Or.inl ⟨by rfl, ?_⟩) (by assumption) ?_
  rotate_left
  · intro w hSw; go_simp; try with_reducible rfl
  simp only [Act.put, List.setIfInBounds_toArray, List.set_cons_zero, List.set_cons_succ, List.getElem_toArray, List.getElem_cons_zero, List.getElem_cons_succ]
  refine wpAnyH_take (i := 1) (v := ?_) rfl (by kernel_rfl) (by kernel_rfl) (by kernel_rfl) (fun _ _ _ h => h) (Or.inl ⟨by rfl, ?_⟩) (by assumption) ?_
  rotate_left
  · intro w hSw; go_simp; try with_reducible rfl
  simp only [Act.put, List.setIfInBounds_toArray, List.set_cons_zero, List.set_cons_succ, List.getElem_toArray, List.getElem_cons_zero, List.getElem_cons_succ]
  refine wpAnyH_take (i := 2) (v := ?_) rfl (by kernel_rfl) (by kernel_rfl) (by kernel_rfl) (fun _ _ _ h => h) (Or.inl ⟨by rfl, ?_⟩) (by assumption) ?_
  rotate_left
  · intro w hSw; go_simp; try with_reducible rfl
  simp only [Act.put, List.setIfInBounds_toArray, List.set_cons_zero, List.set_cons_succ, List.getElem_toArray, List.getElem_cons_zero, List.getElem_cons_succ]
  refine wpAnyH_take (i := 3) (v := ?_) rfl (by kernel_rfl) (by kernel_rfl) (by kernel_rfl) (fun _ _ _ h => h) (Or.inl ⟨by rfl, ?_⟩) (by assumption) ?_
  rotate_left
  · intro w hSw; go_simp; try with_reducible rfl
  simp only [Act.put, List.setIfInBounds_toArray, List.set_cons_zero, List.set_cons_succ, List.getElem_toArray, List.getElem_cons_zero, List.getElem_cons_succ]
  refine wpAnyH_take (i := 4) (v := ?_) rfl (by kernel_rfl) (by kernel_rfl) (by kernel_rfl) (fun _ _ _ h => h) (Or.inl ⟨by rfl, ?_⟩) (by assumption) ?_
  rotate_left
  · intro w hSw; go_simp; try with_reducible rfl
  simp only [Act.put, List.setIfInBounds_toArray, List.set_cons_zero, List.set_cons_succ, List.getElem_toArray, List.getElem_cons_zero, List.getElem_cons_succ]
  refine wpAnyH_take (i := 5) (v := ?_) rfl (by kernel_rfl) (by kernel_rfl) (by kernel_rfl) (fun _ _ _ h => h) (Or.inl ⟨by rfl, ?_⟩) (by assumption) ?_
  rotate_left
  · intro w hSw; go_simp; try with_reducible rfl
  simp only [Act.put, List.setIfInBounds_toArray, List.set_cons_zero, List.set_cons_succ, List.getElem_toArray, List.getElem_cons_zero, List.getElem_cons_succ]
  refine wpAnyH_take (i := 6) (v := ?_) rfl (by kernel_rfl) (by kernel_rfl) (by kernel_rfl) (fun _ _ _ h => h) (Or.inl ⟨by rfl, ?_⟩) (by assumption) ?_
  rotate_left
  · intro w hSw; go_simp; try with_reducible rfl
  simp only [Act.put, List.setIfInBounds_toArray, List.set_cons_zero, List.set_cons_succ, List.getElem_toArray, List.getElem_cons_zero, List.getElem_cons_succ]
  refine wpAnyH_take (i := 7) (v := ?_) rfl (by kernel_rfl) (by kernel_rfl) (by kernel_rfl) (fun _ _ _ h => h) (Or.inl ⟨by rfl, ?_⟩) (by assumption) ?_
  rotate_left
  · intro w hSw; go_simp; try with_reducible rfl
  simp only [Act.put, List.setIfInBounds_toArray, List.set_cons_zero, List.set_cons_succ, List.getElem_toArray, List.getElem_cons_zero, List.getElem_cons_succ]
  refine wpAnyH_take (i := 8) (v := ?_) rfl (by kernel_rfl) (by kernel_rfl) (by kernel_rfl) (fun _ _ _ h => h) (Or.inl ⟨by rfl, ?_⟩) (by assumption) ?_
  rotate_left
  · intro w hSw; go_simp; try with_reducible rfl
  simp only [Act.put, List.setIfInBounds_toArray, List.set_cons_zero, List.set_cons_succ, List.getElem_toArray, List.getElem_cons_zero, List.getElem_cons_succ]
  refine wpAnyH_take (i := 9) (v := ?_) rfl (by kernel_rfl) (by kernel_rfl) (by kernel_rfl) (fun _ _ _ h => h) (Or.inl ⟨by rfl, ?_⟩) (by assumption) ?_
  rotate_left
  · intro w hSw; go_simp; try with_reducible rfl
  simp only [Act.put, List.setIfInBounds_toArray, List.set_cons_zero, List.set_cons_succ, List.getElem_toArray, List.getElem_cons_zero, List.getElem_cons_succ]
  refine wpAnyH_take (i := 10) (v := ?_) rfl (by kernel_rfl) (by kernel_rfl) (by kernel_rfl) (fun _ _ _ h => h) (Or.inl ⟨by rfl, ?_⟩) (by assumption) ?_
  rotate_left
  · intro w hSw; go_simp; try with_reducible rfl
  simp only [Act.put, List.setIfInBounds_toArray, List.set_cons_zero, List.set_cons_succ, List.getElem_toArray, List.getElem_cons_zero, List.getElem_cons_succ]
  refine wpAnyH_take (i := 11) (v := ?_) rfl (by kernel_rfl) (by kernel_rfl) (by kernel_rfl) (fun _ _ _ h => h) (Or.inl ⟨by rfl, ?_⟩) (by assumption) ?_
  rotate_left
  · intro w hSw; go_simp; try with_reducible rfl
  simp only [Act.put, List.setIfInBounds_toArray, List.set_cons_zero, List.set_cons_succ, List.getElem_toArray, List.getElem_cons_zero, List.getElem_cons_succ]
  refine wpAnyH_take (i := 12) (v := ?_) rfl (by kernel_rfl) (by kernel_rfl) (by kernel_rfl) (fun _ _ _ h => h) (Or.inl ⟨by rfl, ?_⟩) (by assumption) ?_
  rotate_left
  · intro w hSw; go_simp; try with_reducible rfl
  simp only [Act.put, List.setIfInBounds_toArray, List.set_cons_zero, List.set_cons_succ, List.getElem_toArray, List.getElem_cons_zero, List.getElem_cons_succ]
  refine wpAnyH_take (i := 13) (v := ?_) rfl (by kernel_rfl) (by kernel_rfl) (by kernel_rfl) (fun _ _ _ h => h) (Or.inl ⟨by rfl, ?_⟩) (by assumption) ?_
  rotate_left
  · intro w hSw; go_simp; try with_reducible rfl
  simp only [Act.put, List.setIfInBounds_toArray, List.set_cons_zero, List.set_cons_succ, List.getElem_toArray, List.getElem_cons_zero, List.getElem_cons_succ]
  refine wpAnyH_take (i := 14) (v := ?_) rfl (by kernel_rfl) (by kernel_rfl) (by kernel_rfl) (fun _ _ _ h => h) (Or.inl ⟨by rfl, ?_⟩) (by assumption) ?_
  rotate_left
  · intro w hSw; go_simp; try with_reducible rfl
  simp only [Act.put, List.setIfInBounds_toArray, List.set_cons_zero, List.set_cons_succ, List.getElem_toArray, List.getElem_cons_zero, List.getElem_cons_succ]
  refine wpAnyH_take (i := 15) rfl (by kernel_rfl) (by kernel_rfl) (by kernel_rfl) (fun _ _ _ h => h) (yieldsIf_load_row (by rfl) _ _ rfl (g1) rfl _ (pfA p) _ (fun w h => h.b1) huP rfl XP.info) (by assumption) ?_
  simp only [Act.put, List.setIfInBounds_toArray, List.set_cons_zero, List.set_cons_succ, List.getElem_toArray, List.getElem_cons_zero, List.getElem_cons_succ]
  refine wpAnyH_take (i := 16) rfl (by kernel_rfl) (by kernel_rfl) (by kernel_rfl) (fun _ _ _ h => h) (yieldsIf_load_row (by rfl) _ _ rfl (g2) rfl _ (pfA q) _ (fun w h => h.b2) huP rfl XQ.info) (by assumption) ?_
  simp only [Act.put, List.setIfInBounds_toArray, List.set_cons_zero, List.set_cons_succ, List.getElem_toArray, List.getElem_cons_zero, List.getElem_cons_succ]
  refine held_step (i := 17) rfl (by kernel_rfl) (by rfl) (fun K hK => ?_)
  go_simp
  refine (C1.out _).mono ?_; rintro e v1 ⟨rfl, hc1⟩
  go_wp2_with fail
  refine hK.out _ _ (A8.next (by assumption) hc1) (fun hHeld => ?_)
  clear hK K
  try simp only [Act.put, List.setIfInBounds_toArray, List.set_cons_zero, List.set_cons_succ, List.getElem_toArray, List.getElem_cons_zero, List.getElem_cons_succ]
  refine wpAnyH_take (i := 18) (v := ?_) rfl (by kernel_rfl) (by kernel_rfl) (by kernel_rfl) (fun _ _ _ h => h) (Or.inl ⟨by rfl, ?_⟩) (by assumption) ?_
  rotate_left
  · intro w hSw; go_simp; try with_reducible rfl
  simp only [Act.put, List.setIfInBounds_toArray, List.set_cons_zero, List.set_cons_succ, List.getElem_toArray, List.getElem_cons_zero, List.getElem_cons_succ]
  refine wpAnyH_take (i := 19) (v := ?_) rfl (by kernel_rfl) (by kernel_rfl) (by kernel_rfl) (fun _ _ _ h => h) (Or.inl ⟨by rfl, ?_⟩) (by assumption) ?_
  rotate_left
  · intro w hSw; go_simp; try with_reducible rfl
  simp only [Act.put, List.setIfInBounds_toArray, List.set_cons_zero, List.set_cons_succ, List.getElem_toArray, List.getElem_cons_zero, List.getElem_cons_succ]
  refine wpAnyH_take (i := 20) rfl (by kernel_rfl) (by kernel_rfl) (by kernel_rfl) (fun _ _ _ h => h) (yieldsIf_load_row (by rfl) _ _ rfl (g2) rfl _ (pfA q) _ (fun w h => h.b2) huP rfl XQ.info) (by assumption) ?_
  simp only [Act.put, List.setIfInBounds_toArray, List.set_cons_zero, List.set_cons_succ, List.getElem_toArray, List.getElem_cons_zero, List.getElem_cons_succ]
  refine wpAnyH_take (i := 21) rfl (by kernel_rfl) (by kernel_rfl) (by kernel_rfl) (fun _ _ _ h => h) (yieldsIf_load_row (by rfl) _ _ rfl (g1) rfl _ (pfA p) _ (fun w h => h.b1) huP rfl XP.info) (by assumption) ?_
  simp only [Act.put, List.setIfInBounds_toArray, List.set_cons_zero, List.set_cons_succ, List.getElem_toArray, List.getElem_cons_zero, List.getElem_cons_succ]
  refine held_step (i := 22) rfl (by kernel_rfl) (by rfl) (fun K hK => ?_)
  go_simp
  refine (C2.out _).mono ?_; rintro e v2 ⟨rfl, hc2⟩
  go_wp2_with fail
  refine hK.out _ _ (A8.next (by assumption) hc2) (fun hHeld => ?_)
  clear hK K
  try simp only [Act.put, List.setIfInBounds_toArray, List.set_cons_zero, List.set_cons_succ, List.getElem_toArray, List.getElem_cons_zero, List.getElem_cons_succ]
  refine wpAnyH_take (i := 23) (v := ?_) rfl (by kernel_rfl) (by kernel_rfl) (by kernel_rfl) (fun _ _ _ h => h) (Or.inl ⟨by rfl, ?_⟩) (by assumption) ?_
  rotate_left
  · intro w hSw; go_simp; try with_reducible rfl
  simp only [Act.put, List.setIfInBounds_toArray, List.set_cons_zero, List.set_cons_succ, List.getElem_toArray, List.getElem_cons_zero, List.getElem_cons_succ]
  refine wpAnyH_take (i := 24) (v := ?_) rfl (by kernel_rfl) (by kernel_rfl) (by kernel_rfl) (fun _ _ _ h => h) (Or.inl ⟨by rfl, ?_⟩) (by assumption) ?_
  rotate_left
  · intro w hSw; go_simp; try with_reducible rfl
  simp only [Act.put, List.setIfInBounds_toArray, List.set_cons_zero, List.set_cons_succ, List.getElem_toArray, List.getElem_cons_zero, List.getElem_cons_succ]
  refine wpAnyH_take (i := 25) (v := ?_) rfl (by kernel_rfl) (by kernel_rfl) (by kernel_rfl) (fun _ _ _ h => h) (Or.inl ⟨by rfl, ?_⟩) (by assumption) ?_
  rotate_left
  · intro w hSw; go_simp; try with_reducible rfl
  simp only [Act.put, List.setIfInBounds_toArray, List.set_cons_zero, List.set_cons_succ, List.getElem_toArray, List.getElem_cons_zero, List.getElem_cons_succ]
  refine wpAnyH_take (i := 26) rfl (by kernel_rfl) (by kernel_rfl) (by kernel_rfl) (fun _ _ _ h => h) (yieldsIf_load_row (by rfl) _ _ rfl (g4) rfl _ (pfA s) _ (fun w h => h.b4) huP rfl XS.info) (by assumption) ?_
  simp only [Act.put, List.setIfInBounds_toArray, List.set_cons_zero, List.set_cons_succ, List.getElem_toArray, List.getElem_cons_zero, List.getElem_cons_succ]
  refine held_step (i := 27) rfl (by kernel_rfl) (by rfl) (fun K hK => ?_)
  go_simp
  refine (SH.out _ (A8.pt (by assumption))).mono ?_; rintro e v3 ⟨rfl, hc3⟩
  go_wp2_with fail
  refine hK.out _ _ (A8.next (by assumption) hc3) (fun hHeld => ?_)
  clear hK K
  try simp only [Act.put, List.setIfInBounds_toArray, List.set_cons_zero, List.set_cons_succ, List.getElem_toArray, List.getElem_cons_zero, List.getElem_cons_succ]
  refine wpAnyH_take (i := 28) (v := ?_) rfl (by kernel_rfl) (by kernel_rfl) (by kernel_rfl) (fun _ _ _ h => h) (Or.inl ⟨by rfl, ?_⟩) (by assumption) ?_
  rotate_left
  · intro w hSw; go_simp; try with_reducible rfl
  simp only [Act.put, List.setIfInBounds_toArray, List.set_cons_zero, List.set_cons_succ, List.getElem_toArray, List.getElem_cons_zero, List.getElem_cons_succ]
  refine wpAnyH_take (i := 29) (v := ?_) rfl (by kernel_rfl) (by kernel_rfl) (by kernel_rfl) (fun _ _ _ h => h) (Or.inl ⟨by rfl, ?_⟩) (by assumption) ?_
  rotate_left
  · intro w hSw; go_simp; try with_reducible rfl
  simp only [Act.put, List.setIfInBounds_toArray, List.set_cons_zero, List.set_cons_succ, List.getElem_toArray, List.getElem_cons_zero, List.getElem_cons_succ]
  refine wpAnyH_take (i := 30) (v := ?_) rfl (by kernel_rfl) (by kernel_rfl) (by kernel_rfl) (fun _ _ _ h => h) (Or.inl ⟨by rfl, ?_⟩) (by assumption) ?_
  rotate_left
  · intro w hSw; go_simp; try with_reducible rfl
  simp only [Act.put, List.setIfInBounds_toArray, List.set_cons_zero, List.set_cons_succ, List.getElem_toArray, List.getElem_cons_zero, List.getElem_cons_succ]
  refine wpAnyH_take (i := 31) rfl (by kernel_rfl) (by kernel_rfl) (by kernel_rfl) (fun _ _ _ h => h) (yieldsIf_load_row (by rfl) _ _ rfl (g4) rfl _ (pfA s) _ (fun w h => h.b4) huP rfl XS.info) (by assumption) ?_
  simp only [Act.put, List.setIfInBounds_toArray, List.set_cons_zero, List.set_cons_succ, List.getElem_toArray, List.getElem_cons_zero, List.getElem_cons_succ]
  refine held_step (i := 32) rfl (by kernel_rfl) (by rfl) (fun K hK => ?_)
  go_simp
  refine (CK.out _).mono ?_; rintro e v4 ⟨rfl, hc4⟩
  go_wp2_with fail
  refine hK.out _ _ (A8.next (by assumption) hc4) (fun hHeld => ?_)
  clear hK K
  try simp only [Act.put, List.setIfInBounds_toArray, List.set_cons_zero, List.set_cons_succ, List.getElem_toArray, List.getElem_cons_zero, List.getElem_cons_succ]
  refine wpAnyH_take (i := 33) (v := ?_) rfl (by kernel_rfl) (by kernel_rfl) (by kernel_rfl) (fun _ _ _ h => h) (Or.inl ⟨by rfl, ?_⟩) (by assumption) ?_
  rotate_left
  · intro w hSw; go_simp; try with_reducible rfl
  simp only [Act.put, List.setIfInBounds_toArray, List.set_cons_zero, List.set_cons_succ, List.getElem_toArray, List.getElem_cons_zero, List.getElem_cons_succ]
  refine wpAnyH_take (i := 34) (v := ?_) rfl (by kernel_rfl) (by kernel_rfl) (by kernel_rfl) (fun _ _ _ h => h) (Or.inl ⟨by rfl, ?_⟩) (by assumption) ?_
  rotate_left
  · intro w hSw; go_simp; try with_reducible rfl
  simp only [Act.put, List.setIfInBounds_toArray, List.set_cons_zero, List.set_cons_succ, List.getElem_toArray, List.getElem_cons_zero, List.getElem_cons_succ]
  refine wpAnyH_take (i := 35) (v := ?_) rfl (by kernel_rfl) (by kernel_rfl) (by kernel_rfl) (fun _ _ _ h => h) (Or.inl ⟨by rfl, ?_⟩) (by assumption) ?_
  rotate_left
  · intro w hSw; go_simp; try with_reducible rfl
  simp only [Act.put, List.setIfInBounds_toArray, List.set_cons_zero, List.set_cons_succ, List.getElem_toArray, List.getElem_cons_zero, List.getElem_cons_succ]
  refine wpAnyH_take (i := 36) rfl (by kernel_rfl) (by kernel_rfl) (by kernel_rfl) (fun _ _ _ h => h) (yieldsIf_load_row (by rfl) _ _ rfl (g3) rfl _ (pfA r) _ (fun w h => h.b3) huP rfl XR.info) (by assumption) ?_
  simp only [Act.put, List.setIfInBounds_toArray, List.set_cons_zero, List.set_cons_succ, List.getElem_toArray, List.getElem_cons_zero, List.getElem_cons_succ]
  refine wpAnyH_take (i := 37) rfl (by kernel_rfl) (by kernel_rfl) (by kernel_rfl) (fun _ _ _ h => h) (yieldsIf_load_row (by rfl) _ _ rfl (g1) rfl _ (pfA p) _ (fun w h => h.b1) huP rfl XP.info) (by assumption) ?_
  simp only [Act.put, List.setIfInBounds_toArray, List.set_cons_zero, List.set_cons_succ, List.getElem_toArray, List.getElem_cons_zero, List.getElem_cons_succ]
  refine held_step (i := 38) rfl (by kernel_rfl) (by rfl) (fun K hK => ?_)
  go_simp
  refine (CM.out _).mono ?_; rintro e v5 ⟨rfl, hc5⟩
  go_wp2_with fail
  refine hK.out _ _ (A8.next (by assumption) hc5) (fun hHeld => ?_)
  clear hK K
  try simp only [Act.put, List.setIfInBounds_toArray, List.set_cons_zero, List.set_cons_succ, List.getElem_toArray, List.getElem_cons_zero, List.getElem_cons_succ]
  refine wpAnyH_take (i := 39) (v := ?_) rfl (by kernel_rfl) (by kernel_rfl) (by kernel_rfl) (fun _ _ _ h => h) (Or.inl ⟨by rfl, ?_⟩) (by assumption) ?_
  rotate_left
  · intro w hSw; go_simp; try with_reducible rfl
  simp only [Act.put, List.setIfInBounds_toArray, List.set_cons_zero, List.set_cons_succ, List.getElem_toArray, List.getElem_cons_zero, List.getElem_cons_succ]
  refine wpAnyH_take (i := 40) (v := ?_) rfl (by kernel_rfl) (by kernel_rfl) (by kernel_rfl) (fun _ _ _ h => h) (Or.inl ⟨by rfl, ?_⟩) (by assumption) ?_
  rotate_left
  · intro w hSw; go_simp; try with_reducible rfl
  simp only [Act.put, List.setIfInBounds_toArray, List.set_cons_zero, List.set_cons_succ, List.getElem_toArray, List.getElem_cons_zero, List.getElem_cons_succ]
  refine wpAnyH_take (i := 41) (v := ?_) rfl (by kernel_rfl) (by kernel_rfl) (by kernel_rfl) (fun _ _ _ h => h) (Or.inl ⟨by rfl, ?_⟩) (by assumption) ?_
  rotate_left
  · intro w hSw; go_simp; try with_reducible rfl
  simp only [Act.put, List.setIfInBounds_toArray, List.set_cons_zero, List.set_cons_succ, List.getElem_toArray, List.getElem_cons_zero, List.getElem_cons_succ]
  refine wpAnyH_take (i := 42) (v := ?_) rfl (by kernel_rfl) (by kernel_rfl) (by kernel_rfl) (fun _ _ _ h => h) (Or.inl ⟨by rfl, ?_⟩) (by assumption) ?_
  rotate_left
  · intro w hSw; go_simp; try with_reducible rfl
  simp only [Act.put, List.setIfInBounds_toArray, List.set_cons_zero, List.set_cons_succ, List.getElem_toArray, List.getElem_cons_zero, List.getElem_cons_succ]
  refine wpAnyH_take (i := 43) rfl (by kernel_rfl) (by kernel_rfl) (by kernel_rfl) (fun _ _ _ h => h) (yieldsIf_load_addr (by rfl) _ rfl (g1) 1 rfl (p.addr) (p6) (fun w h => (h.b1).pA)) (by assumption) ?_
  simp only [Act.put, List.setIfInBounds_toArray, List.set_cons_zero, List.set_cons_succ, List.getElem_toArray, List.getElem_cons_zero, List.getElem_cons_succ]
  refine held_step (i := 44) rfl (by kernel_rfl) (by rfl) (fun K hK => ?_)
  go_simp
  refine (BI.out _).mono ?_; rintro e v6 ⟨rfl, hc6⟩
  go_wp2_with fail
  refine hK.out _ _ (A8.next (by assumption) hc6) (fun hHeld => ?_)
  clear hK K
  try simp only [Act.put, List.setIfInBounds_toArray, List.set_cons_zero, List.set_cons_succ, List.getElem_toArray, List.getElem_cons_zero, List.getElem_cons_succ]
  refine wpAnyH_take (i := 45) (v := ?_) rfl (by kernel_rfl) (by kernel_rfl) (by kernel_rfl) (fun _ _ _ h => h) (Or.inl ⟨by rfl, ?_⟩) (by assumption) ?_
  rotate_left
  · intro w hSw; go_simp; try with_reducible rfl
  simp only [Act.put, List.setIfInBounds_toArray, List.set_cons_zero, List.set_cons_succ, List.getElem_toArray, List.getElem_cons_zero, List.getElem_cons_succ]
  refine wpAnyH_take (i := 46) (v := ?_) rfl (by kernel_rfl) (by kernel_rfl) (by kernel_rfl) (fun _ _ _ h => h) (Or.inl ⟨by rfl, ?_⟩) (by assumption) ?_
  rotate_left
  · intro w hSw; go_simp; try with_reducible rfl
  simp only [Act.put, List.setIfInBounds_toArray, List.set_cons_zero, List.set_cons_succ, List.getElem_toArray, List.getElem_cons_zero, List.getElem_cons_succ]
  refine wpAnyH_take (i := 47) (v := ?_) rfl (by kernel_rfl) (by kernel_rfl) (by kernel_rfl) (fun _ _ _ h => h) (Or.inl ⟨by rfl, ?_⟩) (by assumption) ?_
  rotate_left
  · intro w hSw; go_simp; try with_reducible rfl
  simp only [Act.put, List.setIfInBounds_toArray, List.set_cons_zero, List.set_cons_succ, List.getElem_toArray, List.getElem_cons_zero, List.getElem_cons_succ]
  refine wpAnyH_take (i := 48) rfl (by kernel_rfl) (by kernel_rfl) (by kernel_rfl) (fun _ _ _ h => h) (yieldsIf_load_row (by rfl) _ _ rfl (g1) rfl _ (pfA p) _ (fun w h => h.b1) huP rfl XP.info) (by assumption) ?_
  simp only [Act.put, List.setIfInBounds_toArray, List.set_cons_zero, List.set_cons_succ, List.getElem_toArray, List.getElem_cons_zero, List.getElem_cons_succ]
  refine wpAnyH_take (i := 49) (v := ?_) rfl (by kernel_rfl) (by kernel_rfl) (by kernel_rfl) (fun _ _ _ h => h) (Or.inl ⟨by rfl, ?_⟩) (by assumption) ?_
  rotate_left
  · intro w hSw; go_simp; try with_reducible rfl
  simp only [Act.put, List.setIfInBounds_toArray, List.set_cons_zero, List.set_cons_succ, List.getElem_toArray, List.getElem_cons_zero, List.getElem_cons_succ]
  refine wpAnyH_take (i := 50) rfl (by kernel_rfl) (by kernel_rfl) (by kernel_rfl) (fun _ _ _ h => h) (yieldsIf_load_addr (by rfl) _ rfl (g2) 1 rfl (q.addr) (q6) (fun w h => (h.b2).pA)) (by assumption) ?_
  simp only [Act.put, List.setIfInBounds_toArray, List.set_cons_zero, List.set_cons_succ, List.getElem_toArray, List.getElem_cons_zero, List.getElem_cons_succ]
  refine held_step (i := 51) rfl (by kernel_rfl) (by rfl) (fun K hK => ?_)
  go_simp
  refine (HA.out _).mono ?_; rintro e v7 ⟨rfl, hc7⟩
  go_wp2_with fail
  refine hK.out _ _ (A8.next (by assumption) hc7) (fun hHeld => ?_)
  clear hK K
  try simp only [Act.put, List.setIfInBounds_toArray, List.set_cons_zero, List.set_cons_succ, List.getElem_toArray, List.getElem_cons_zero, List.getElem_cons_succ]
  refine wpAnyH_take (i := 52) (v := ?_) rfl (by kernel_rfl) (by kernel_rfl) (by kernel_rfl) (fun _ _ _ h => h) (Or.inl ⟨by rfl, ?_⟩) (by assumption) ?_
  rotate_left
  · intro w hSw; go_simp; try with_reducible rfl
  simp only [Act.put, List.setIfInBounds_toArray, List.set_cons_zero, List.set_cons_succ, List.getElem_toArray, List.getElem_cons_zero, List.getElem_cons_succ]
  refine wpAnyH_take (i := 53) (v := ?_) rfl (by kernel_rfl) (by kernel_rfl) (by kernel_rfl) (fun _ _ _ h => h) (Or.inl ⟨by rfl, ?_⟩) (by assumption) ?_
  rotate_left
  · intro w hSw; go_simp; try with_reducible rfl
  simp only [Act.put, List.setIfInBounds_toArray, List.set_cons_zero, List.set_cons_succ, List.getElem_toArray, List.getElem_cons_zero, List.getElem_cons_succ]
  refine wpAnyH_take (i := 54) (v := ?_) rfl (by kernel_rfl) (by kernel_rfl) (by kernel_rfl) (fun _ _ _ h => h) (Or.inl ⟨by rfl, ?_⟩) (by assumption) ?_
  rotate_left
  · intro w hSw; go_simp; try with_reducible rfl
  simp only [Act.put, List.setIfInBounds_toArray, List.set_cons_zero, List.set_cons_succ, List.getElem_toArray, List.getElem_cons_zero, List.getElem_cons_succ]
  refine wpAnyH_take (i := 55) rfl (by kernel_rfl) (by kernel_rfl) (by kernel_rfl) (fun _ _ _ h => h) (yieldsIf_load_addr (by rfl) _ rfl (g2) 1 rfl (q.addr) (q6) (fun w h => (h.b2).pA)) (by assumption) ?_
  simp only [Act.put, List.setIfInBounds_toArray, List.set_cons_zero, List.set_cons_succ, List.getElem_toArray, List.getElem_cons_zero, List.getElem_cons_succ]
  refine wpAnyH_take (i := 57) rfl (by kernel_rfl) (by kernel_rfl) (by kernel_rfl) (fun _ _ _ h => h) (yieldsIf_load_row (by rfl) _ _ rfl (g1) rfl _ (pfA p) _ (fun w h => h.b1) huP rfl XP.info) (by assumption) ?_
  simp only [Act.put, List.setIfInBounds_toArray, List.set_cons_zero, List.set_cons_succ, List.getElem_toArray, List.getElem_cons_zero, List.getElem_cons_succ]
  refine held_step (i := 56) rfl (by kernel_rfl) (by rfl) (fun K hK => ?_)
  go_simp
  refine (OF.out _).mono ?_; rintro e v8 ⟨rfl, hc8⟩
  go_wp2_with fail
  refine hK.out _ _ (A8.next (by assumption) hc8) (fun hHeld => ?_)
  clear hK K
  try simp only [Act.put, List.setIfInBounds_toArray, List.set_cons_zero, List.set_cons_succ, List.getElem_toArray, List.getElem_cons_zero, List.getElem_cons_succ]
  refine wpAnyH_take (i := 58) (v := ?_) rfl (by kernel_rfl) (by kernel_rfl) (by kernel_rfl) (fun _ _ _ h => h) (Or.inl ⟨by rfl, ?_⟩) (by assumption) ?_
  rotate_left
  · intro w hSw; go_simp; try with_reducible rfl
  simp only [Act.put, List.setIfInBounds_toArray, List.set_cons_zero, List.set_cons_succ, List.getElem_toArray, List.getElem_cons_zero, List.getElem_cons_succ]
  refine wpAnyH_take (i := 59) (v := ?_) rfl (by kernel_rfl) (by kernel_rfl) (by kernel_rfl) (fun _ _ _ h => h) (Or.inl ⟨by rfl, ?_⟩) (by assumption) ?_
  rotate_left
  · intro w hSw; go_simp; try with_reducible rfl
  simp only [Act.put, List.setIfInBounds_toArray, List.set_cons_zero, List.set_cons_succ, List.getElem_toArray, List.getElem_cons_zero, List.getElem_cons_succ]
  refine wpAnyH_take (i := 60) (v := ?_) rfl (by kernel_rfl) (by kernel_rfl) (by kernel_rfl) (fun _ _ _ h => h) (Or.inl ⟨by rfl, ?_⟩) (by assumption) ?_
  rotate_left
  · intro w hSw; go_simp; try with_reducible rfl
  simp only [Act.put, List.setIfInBounds_toArray, List.set_cons_zero, List.set_cons_succ, List.getElem_toArray, List.getElem_cons_zero, List.getElem_cons_succ]
  refine wpAnyH_done (by kernel_rfl) ?_ _

  all_goals go_wp2_with fail
  all_goals go_ret
  all_goals exact ⟨rfl, A8.below (by assumption)⟩
end Go.Proofs.YtjbolphfelakeaaGreatDoor
