import Derived.Test.YtilahcnpjbnjiaaGreatDoorShelfC
import Derived.Test.YtilahcnpjbnjiaaGreatDoorMSegP
import Derived.Test.YtilahcnpjbnjiaaGreatDoorMOct
import Derived.Test.YtilahcnpjbnjiaaGreatDoorMBase
import Derived.Deep.WholeRow
import Derived.Lib.ItoaLen
import Derived.Test.YtilahcnpjbnjiaaGreatDoorSpansRef2
/- Package segment: strings.CutPrefix at the sign of a link; one. -/
namespace Go.Proofs.YtilahcnpjbnjiaaGreatDoor
set_option linter.unusedVariables false
set_option linter.unusedSimpArgs false
open Go.RowKit Go.Shelf Go.Proofs Go.OctetPlain

/-- a text without the link's sign, and whether it had it -/
def cutLink (w : List UInt8) : List UInt8 × Bool := match w with
  | 42 :: r => (r, true)
  | _ => (w, false)
theorem cutLink_len (w : List UInt8) : (cutLink w).1.length ≤ w.length := by
  unfold cutLink
  split <;> simp
theorem one_cut (w : List UInt8) : Sg.one w = (number (cutLink w).1 1048575).map fun n => ⟨(cutLink w).2, n⟩ := by
  unfold Sg.one cutLink
  split
  · rfl
  · rename_i h
    have hc : cutLink w = (w, false) := by
      unfold cutLink
      split
      · exact absurd rfl (h _)
      · rfl
    unfold cutLink at hc
    rw [hc]
theorem lite_cut (l : List UInt8) (w : World) :
    Calls Tryz.prog 67 #[.string (str l), .string ⟨#[42]⟩] w fun e w' => e = .returned (.tuple #[.string (str (cutLink l).1), .bool (cutLink l).2]) ∧ w' = w := by
  have HP := Lib.hid (fun w => Any.stringslite_HasPrefix Tryz.hasPrefix (str l) ⟨#[42]⟩ w)
  have hsz : (str l).size = l.length := str_size l
  have hll : (str l).data.toList = l := list_str l
  match l with
  | [] =>
    go_enter Tryz.func67, Tryz.ntmps67
    go_wp2_with fail
    refine (HP.out _).mono ?_
    rintro e w' ⟨rfl, rfl⟩
    rw [hll]
    have hf : Lib.hasPrefix ([] : List UInt8) (⟨#[42]⟩ : ByteArray).data.toList = false := by decide
    rw [hf]
    go_wp2_with fail
    exact bodyPost_ret (v := .tuple #[.string (str []), .bool false]) (by simp [results, Tryz.results67, go_sem]) rfl ⟨rfl, rfl⟩
  | c :: r =>
    by_cases h : c = 42
    · subst h
      go_enter Tryz.func67, Tryz.ntmps67
      go_wp2_with fail
      refine (HP.out _).mono ?_
      rintro e w' ⟨rfl, rfl⟩
      rw [hll]
      have hx : (str (42 :: r)).extract 1 (r.length + 1) = str r := by rw [str_cut]; simp
      have hf : Lib.hasPrefix (42 :: r) (⟨#[42]⟩ : ByteArray).data.toList = true := by simp [Lib.hasPrefix]
      rw [hf]
      go_wp2_with fail
      exact bodyPost_ret (v := .tuple #[.string (str r), .bool true]) (by simp [results, Tryz.results67, go_sem, hx]) rfl ⟨rfl, rfl⟩
    · have hc : cutLink (c :: r) = (c :: r, false) := by
        unfold cutLink
        split
        · rename_i heq; cases heq; exact absurd rfl h
        · rfl
      rw [hc]
      go_enter Tryz.func67, Tryz.ntmps67
      go_wp2_with fail
      refine (HP.out _).mono ?_
      rintro e w' ⟨rfl, rfl⟩
      rw [hll]
      have hf : Lib.hasPrefix (c :: r) (⟨#[42]⟩ : ByteArray).data.toList = false := by
        simp [Lib.hasPrefix, List.isPrefixOf]
        exact fun e => h e.symm
      rw [hf]
      go_wp2_with fail
      exact bodyPost_ret (v := .tuple #[.string (str (c :: r)), .bool false]) (by simp [results, Tryz.results67, go_sem]) rfl ⟨rfl, rfl⟩
theorem strings_cut (l : List UInt8) (w : World) :
    Calls Tryz.prog 47 #[.string (str l), .string ⟨#[42]⟩] w fun e w' => e = .returned (.tuple #[.string (str (cutLink l).1), .bool (cutLink l).2]) ∧ w' = w := by
  go_enter Tryz.func47, Tryz.ntmps47
  go_wp2_with fail
  refine (lite_cut l _).mono ?_
  rintro e w' ⟨rfl, rfl⟩
  go_wp2_with fail
  exact bodyPost_ret (v := .tuple #[.string (str (cutLink l).1), .bool (cutLink l).2]) (by simp [results, Tryz.results47, go_sem]) rfl ⟨rfl, rfl⟩
theorem results_ctG {P : Program} {fn : Func} {p q : Tmp} {ty : TypeId} (h : fn.results = #[.cell p ty, .tmp q]) (tmps : Array Value) (w : World) (g : Nat) (t : TypeId) (cs : Array Value) (fr : Nat × Nat) (d : TypeDesc)
    (hp : tmps.getD p undef = .pointer (some ⟨g, 0, none⟩)) (hg : w.heap[g]? = some (.cells cs t fr))
    (hu : P.underlying ty = some d) (hd : (match d with | .struct _ | .array _ _ => true | _ => false) = true) (hi : (P.info? ty).map (·.size) = some cs.size) :
    (results fn tmps).run P w = .ok (.tuple #[.agg cs, tmps.getD q undef]) w := by
  have hp' : tmps[p]?.getD undef = .pointer (some ⟨g, 0, none⟩) := by simpa using hp
  simp [results, h, hp', asAddr, run_loadVar_row w g t ty cs fr d hg hu hd hi]
theorem infoSeg : (Tryz.prog.info? 65).map (·.size) = some 2 := by kernel_rfl
theorem oneSeg (k : Bool) (n : Int) : (#[Value.bool k, .int .i64 n] : Array Value).all (·.oneCell') = true := by simp [Value.oneCell']
theorem below_setRowG {B : Nat} {w w' : World} (h : Below B w w') {g : Nat} (hg : B ≤ g) (cs : Array Value) : Below B w (w'.setRow g cs) :=
  h.trans ⟨rfl, rfl, rfl, by rw [setRow_size]; exact Nat.le_refl _, fun k hk => setRow_other w' g k cs (by omega)⟩
theorem seg_one (l : List UInt8) (hl : l.length ≤ 1073741824) (w : World) (ht : Tabs w) :
    Calls Tryz.prog 25 #[.string (str l)] w fun e w' => e = .returned (.tuple #[.agg #[.bool (cutLink l).2, .int .i64 ((number (cutLink l).1 1048575).getD 0)], .bool (number (cutLink l).1 1048575).isSome]) ∧ Below w.heap.size w w' := by
  have hcl := cutLink_len l
  have HN := Lib.hid (fun W (h : Tabs W) => octet_Number (cutLink l).1 (by omega) 1048575 W h)
  have HC := Lib.hid (strings_cut l)
  have B0 := Lib.hid fun o => belowA w o
  generalize (cutLink l).1 = d at *
  generalize (cutLink l).2 = k at *
  generalize (number d 1048575).getD 0 = n at *
  generalize (number d 1048575).isSome = b at *
  go_enter Tryz.func25, Tryz.ntmps25
  go_wp2_with fail
  refine (HC.out _).mono ?_
  rintro e w' ⟨rfl, rfl⟩
  go_wp2_with fail
  refine (HN.out _ (ht.next (B0.out _) (Nat.le_refl _))).mono ?_
  rintro e w2 ⟨rfl, b2⟩
  have K2 := Lib.hid ((Blk.new w 65 #[.bool false, .int .i64 0]).below b2 (by simp))
  have B2 := Lib.hid ((B0.out _).trans (b2.mono (B0.out _).size))
  clear b2
  go_wp2_with (refine wpList_store_row rfl _ _ _ rfl w.heap.size #[.bool k, .int .i64 n] rfl rfl _ _ K2.out infoSeg rfl (oneSeg _ _) ?_)
  exact bodyPost_ret (results_ctG rfl _ _ w.heap.size _ _ _ _ rfl (K2.out.setRow _) Tryz.underlying65 rfl infoSeg) rfl ⟨rfl, below_setRowG B2.out (Nat.le_refl _) _⟩
end Go.Proofs.YtilahcnpjbnjiaaGreatDoor

/- segment.Show. -/
namespace Go.Proofs.YtilahcnpjbnjiaaGreatDoor
set_option linter.unusedVariables false
set_option linter.unusedSimpArgs false
open Go.RowKit Go.Shelf Go.Proofs Go.OctetPlain

def encS (s : List UInt8) : List Value := [.string (str s)]
theorem encS_len (s : List UInt8) : (encS s).length = 1 := rfl
theorem elemS : ElemOk Tryz.prog 73 9 1 16 := .mk Tryz.underlying73 (z := .string ByteArray.empty) (by kernel_rfl) (by omega) (by omega) rfl
def encG (x : Sg.Seg) : List Value := [.bool x.link, .int .i64 x.n]
theorem encG_len (x : Sg.Seg) : (encG x).length = 2 := rfl
theorem RdP.atG {w : World} {p : Option Addr} {xs : List Sg.Seg} (h : RdP w 2 encG p xs) {i : Nat} (hi : i < xs.length) :
    ∃ b off, p = some ⟨b, off, none⟩ ∧ b < w.heap.size ∧ w.cell? ⟨b, off + i * 2, none⟩ = some (.bool xs[i].link) ∧ w.cell? ⟨b, off + i * 2 + 1, none⟩ = some (.int .i64 xs[i].n) := by
  obtain ⟨b, off, h1, h2, h3⟩ := h.at hi
  exact ⟨b, off, h1, h2, h3 0 _ rfl, h3 1 _ rfl⟩
/-- a segment's text, of any number; segments' -/
def showI (x : Sg.Seg) : List UInt8 := (if x.link = true then [42] else []) ++ Lib.itoa x.n
def showA (l : List Sg.Seg) : List UInt8 := Sg.join 62 (l.map showI)
/-- the numbers are the machine's -/
def I64s (l : List Sg.Seg) : Prop := ∀ x ∈ l, -9223372036854775808 ≤ x.n ∧ x.n ≤ 9223372036854775807

theorem gjoin_eq : ∀ ws : List Sg.Wd, Lib.join ws [62] = Sg.join 62 ws
  | [] => rfl
  | [w] => by simp [Lib.join_one, Sg.join]
  | w :: v :: ws => by
    have ih := gjoin_eq (v :: ws)
    rw [Sg.join, ← ih]
    simp [Lib.join]
theorem gjoin_le {k : Nat} : ∀ ws : List Sg.Wd, (∀ w ∈ ws, w.length ≤ k) → (Sg.join 62 ws).length ≤ (k + 1) * ws.length
  | [], _ => by simp [Sg.join]
  | [w], h => by have := h w List.mem_cons_self; simp only [Sg.join, List.length_cons, List.length_nil]; omega
  | w :: v :: ws, h => by
    have h1 := h w List.mem_cons_self
    have h2 := gjoin_le (v :: ws) fun u hu => h u (List.mem_cons_of_mem _ hu)
    rw [Sg.join, List.length_append, List.length_cons]
    simp only [List.length_cons] at h2 ⊢
    rw [Nat.mul_add (k + 1) (ws.length + 1) 1]
    omega
set_option maxRecDepth 100000 in
theorem joinExtraG : Builder.Extra Tryz.prog Tryz.join_ren := {
  sizeBuilder := by kernel_rfl
  liesBuilder := by kernel_rfl
  t5 := Tryz.underlying5
  a5 := fun w => run_isAgg_plain Tryz.underlying5 rfl w
  z5 := Tryz.sizeOf5
  v5 := Tryz.zeroValue5
  infoByte := by kernel_rfl
  cellsByte := by kernel_rfl
  sizeByte := by kernel_rfl
  neB5 := by decide }
/-- 'strings.Join(out, ">")' -/
theorem joinG_any (ws : List Sg.Wd) (hw : ws.length ≤ 1048576) (hll : (Sg.join 62 ws).length ≤ 140737488355328) (v : Value) (w : World) (hv : SlR w 1 encS v ws) :
    Calls Tryz.prog 28 #[v, .string ⟨#[62]⟩] w fun e w' => e = .returned (.string (str (Sg.join 62 ws))) ∧ Below w.heap.size w w' := by
  obtain ⟨p, cap, rfl, hd1, hd2, hR⟩ := hv
  have hjs : Lib.join ((ws.map str).map (·.data.toList)) (⟨#[62]⟩ : ByteArray).data.toList = Sg.join 62 ws := by
    rw [List.map_map]
    have : (fun s : ByteArray => s.data.toList) ∘ str = id := by funext l; exact list_str l
    rw [this, List.map_id]
    exact gjoin_eq ws
  cases p with
  | none =>
    have h0 := hR.1 rfl
    have hL0 : ws = [] := List.eq_nil_of_length_eq_zero (by omega)
    subst hL0
    exact (Any.strings_Join_none Tryz.join joinExtraG none cap ⟨#[62]⟩ w).mono fun e w' h => ⟨h.1, by rw [h.2]; exact Below.refl _ _⟩
  | some a =>
    obtain ⟨hsp, hbk, hcl⟩ := hR.2 a rfl
    have ha : a = ⟨a.block, a.off, none⟩ := by cases a; simp only at hsp; subst hsp; rfl
    have hcon := Any.strings_Join Tryz.join joinExtraG a.block a.off cap (ws.map str) ⟨#[62]⟩ w (fun j x hx => by
      rw [List.getElem?_map] at hx
      cases hy : ws[j]? with
      | none => rw [hy] at hx; cases hx
      | some y =>
        rw [hy] at hx
        cases hx
        have := hcl j y hy 0 (.string (str y)) rfl
        simpa using this) hbk (by simp; omega) (by simpa using hd1) (by rw [hjs]; exact hll)
    rw [hjs, List.length_map] at hcon
    rw [ha]
    exact hcon

structure ShS (l : List Sg.Seg) (w wr : World) (k : Nat) (vo : Value) : Prop where
  own : wr.ownsRow w.heap.size 9 1 vo k (flat encS ((l.take k).map showI))
  bel : Below w.heap.size w wr
set_option maxRecDepth 100000 in
set_option maxHeartbeats 2000000 in
theorem seg_Show (l : List Sg.Seg) (hl : l.length ≤ 1000000) (hi : I64s l) (v : Value) (w : World) (ht : Tabs w) (hv : SlR w 2 encG v l) :
    Calls Tryz.prog 12 #[v] w fun e w' => e = .returned (.string (str (showA l))) ∧ Below w.heap.size w w' := by
  obtain ⟨p, cap, rfl, hd1, hd2, hR⟩ := hv
  have HT := Lib.hid fun W (h : Below w.heap.size w W) => ht.next h (Nat.le_refl _)
  have HI := Lib.hid hi
  have H0 := Lib.hid (ShS.mk (l := l) (w := w) (wr := w) (k := 0) (vo := .slice none 0 0) (World.ownsRow_nil _ _ _ _) (Below.refl _ _))
  have HR := Lib.hid hR
  clear hR ht hi
  go_enter Tryz.func12, Tryz.ntmps12
  go_wp2_with fail
  go_loopw [3, 9] (fun vo i wr => ∃ k : Nat, k ≤ l.length ∧ i = .int .i64 k ∧ Hid (ShS l w wr k vo)) (fun _ i _ => l.length - (intOf i).toNat)
  case atStart => exact ⟨0, Nat.zero_le _, rfl, H0⟩
  case round =>
    obtain ⟨k, hk, rfl, HS⟩ := hrel
    by_cases hlt : k < l.length
    · obtain ⟨b, off, rfl, hbs, hx0, hx1⟩ := (HR.out.below HS.out.bel (Nat.le_refl _)).atG hlt
      have HTA : Hid (l.take (k + 1) = l.take k ++ [l[k]]) := Lib.hid (by rw [List.take_succ_eq_append_getElem hlt])
      have hil := HI.out _ (List.getElem_mem hlt)
      have HIL := Lib.hid (Lib.itoa_length_le l[k].n hil.1 hil.2)
      clear hil
      have HD := Lib.hid fun W (h : Below w.heap.size w W) => octet_Digits l[k].n (HI.out _ (List.getElem_mem hlt)) W (HT.out W h)
      generalize hq : l[k] = q at *
      clear hq
      obtain ⟨lk, n⟩ := q
      simp only at hx0 hx1 HD HIL
      have hbw := HS.out.bel.size
      go_wp2_with fail
      refine (HD.out _ (HS.out.bel.alloc hbw _)).mono ?_
      rintro e w2 ⟨rfl, b2⟩
      have B2 := Lib.hid (belowA2 b2)
      have K2 := Lib.hid ((Blk.new wr 65 #[.bool lk, .int .i64 n]).below b2 (by simp))
      have HO2 := Lib.hid (owns_below HS.out.own B2.out (Nat.le_refl _))
      have hz2 := B2.out.size
      have c20 := K2.out.cell 0
      have f20 := K2.out.frozen' 0
      have HB2 := Lib.hid (HS.out.bel.trans (B2.out.mono hbw))
      clear b2 hx0 hx1
      simp only [List.getElem?_toArray, List.getElem?_cons_zero] at c20
      cases lk with
      | false =>
        have hsi : Hid (showI ⟨false, n⟩ = Lib.itoa n) := Lib.hid (by simp [showI])
        go_wp2_with (at_builtin; go_loud (refine wpList_app elemS rfl (.tmp 20) (.tmp 22) rfl w.heap.size u3 _ _ rfl HO2.out 1 1 [.string _] rfl rfl (by simp [Value.oneCell']) (by omega) (by omega) ?_; intro v4 w4 hown4 hgr4 hob4 hb4; have HB4 := Lib.hid hb4; have HW4 := Lib.hid hown4; clear hgr4 hob4 hb4 hown4))
        refine ⟨⟨k + 1, by omega, by go_num, Lib.hid ⟨?_, HB2.out.trans HB4.out⟩⟩, by simp [intOf]; omega⟩
        have h4 := HW4.out
        rw [HTA.out, List.map_append, flat_append, List.map_cons, List.map_nil, hsi.out]
        exact h4
      | true =>
        have hsi : Hid (showI ⟨true, n⟩ = 42 :: Lib.itoa n) := Lib.hid (by simp [showI])
        have hs21 : (str (Lib.itoa n)).size ≤ 21 := by rw [str_size]; exact HIL.out
        go_wp2_with (at_builtin; go_loud (refine wpList_app elemS rfl (.tmp 20) (.tmp 22) rfl w.heap.size u3 _ _ rfl HO2.out 1 1 [.string _] rfl rfl (by simp [Value.oneCell']) (by omega) (by omega) ?_; intro v4 w4 hown4 hgr4 hob4 hb4; have HB4 := Lib.hid hb4; have HW4 := Lib.hid hown4; clear hgr4 hob4 hb4 hown4))
        refine ⟨⟨k + 1, by omega, by go_num, Lib.hid ⟨?_, HB2.out.trans HB4.out⟩⟩, by simp [intOf]; omega⟩
        have h4 := HW4.out
        rw [HTA.out, List.map_append, flat_append, List.map_cons, List.map_nil, hsi.out]
        rw [show (42 :: Lib.itoa n) = [42] ++ Lib.itoa n from rfl]
        unfold flat encS at *
        simp only [List.flatMap_cons, List.flatMap_nil, ← str_app] at h4 ⊢
        exact h4
    · obtain rfl : k = l.length := by omega
      have hv : Hid (SlR wr 1 encS u3 (l.map showI)) := Lib.hid (SlR.of_owns encS_len (by
        have h := HS.out.own
        rw [List.take_length] at h
        rw [List.length_map]
        exact h))
      have hjl : (Sg.join 62 (l.map showI)).length ≤ 140737488355328 := by
        have h := gjoin_le (k := 22) (l.map showI) (fun x hx => by
          obtain ⟨y, hy, rfl⟩ := List.mem_map.1 hx
          have h1 := HI.out y hy
          have h2 := Lib.itoa_length_le y.n h1.1 h1.2
          unfold showI
          rw [List.length_append]
          split <;> simp <;> omega)
        rw [List.length_map] at h
        omega
      have HJ := Lib.hid (joinG_any (l.map showI) (by rw [List.length_map]; omega) hjl u3 wr hv.out)
      have HB := Lib.hid HS.out.bel
      go_wp2_with fail
      refine HJ.out.mono ?_
      rintro e w2 ⟨rfl, b2⟩
      go_wp2_with fail
      go_ret
      exact ⟨rfl, HB.out.trans (b2.mono HB.out.size)⟩
end Go.Proofs.YtilahcnpjbnjiaaGreatDoor

/- footplateref26.Show. -/
namespace Go.Proofs.YtilahcnpjbnjiaaGreatDoor
set_option linter.unusedVariables false
set_option linter.unusedSimpArgs false
open Go.RowKit Go.Shelf Go.Proofs Go.OctetPlain

theorem gjoin_snoc (w : Sg.Wd) : ∀ ws : List Sg.Wd, Sg.join 62 (ws ++ [w]) = (if ws = [] then [] else Sg.join 62 ws ++ [62]) ++ w
  | [] => by simp [Sg.join]
  | [v] => by simp [Sg.join]
  | v :: u :: ws => by
    have ih := gjoin_snoc w (u :: ws)
    rw [if_neg (by simp)] at ih ⊢
    simp only [List.cons_append, Sg.join] at ih ⊢
    rw [ih]
    simp
theorem showA_snoc (l : List Sg.Seg) (x : Sg.Seg) : showA (l ++ [x]) = (if l = [] then [] else showA l ++ [62]) ++ ((if x.link = true then [42] else []) ++ Lib.itoa x.n) := by
  unfold showA
  rw [List.map_append, List.map_cons, List.map_nil, gjoin_snoc]
  simp [showI]
theorem showA_le (l : List Sg.Seg) (hi : I64s l) : (showA l).length ≤ 23 * l.length := by
  have h := gjoin_le (k := 22) (l.map showI) (fun x hx => by
    obtain ⟨y, hy, rfl⟩ := List.mem_map.1 hx
    have h1 := hi y hy
    have h2 := Lib.itoa_length_le y.n h1.1 h1.2
    unfold showI
    rw [List.length_append]
    split <;> simp <;> omega)
  rw [List.length_map] at h
  exact h
set_option maxRecDepth 100000 in
set_option maxHeartbeats 2000000 in
theorem r26_Show (l : List Sg.Seg) (hl : l.length ≤ 1000000) (hi : I64s l) (v : Value) (w : World) (hv : SlR w 2 encG v l) :
    Calls Tryz.prog 13 #[v] w fun e w' => e = .returned (.string (str (showA l))) ∧ w' = w := by
  obtain ⟨p, cap, rfl, hd1, hd2, hR⟩ := hv
  have HI := Lib.hid hi
  have HR := Lib.hid hR
  clear hR hi
  go_enter Tryz.func13, Tryz.ntmps13
  go_wp2_with fail
  go_loop [3, 4] (fun s i => ∃ k : Nat, k ≤ l.length ∧ i = .int .i64 k ∧ s = .string (str (showA (l.take k)))) (fun _ i => l.length - (intOf i).toNat)
  case atStart => exact ⟨0, Nat.zero_le _, rfl, rfl⟩
  case round =>
    obtain ⟨k, hk, rfl, rfl⟩ := hrel
    by_cases hlt : k < l.length
    · obtain ⟨b, off, rfl, hbs, hx0, hx1⟩ := HR.out.atG hlt
      have HTA : Hid (showA (l.take (k + 1)) = (if l.take k = [] then [] else showA (l.take k) ++ [62]) ++ ((if l[k].link = true then [42] else []) ++ Lib.itoa l[k].n)) := Lib.hid (by rw [List.take_succ_eq_append_getElem hlt, showA_snoc])
      have hil := HI.out _ (List.getElem_mem hlt)
      have hs21 : (str (Lib.itoa l[k].n)).size ≤ 21 := by rw [str_size]; exact Lib.itoa_length_le l[k].n hil.1 hil.2
      have HD := Lib.hid fun W => ref_Digits l[k].n hil W
      have hsz : (str (showA (l.take k))).size ≤ 23000000 := by
        rw [str_size]
        have h := showA_le (l.take k) (fun x hx => HI.out x (List.mem_of_mem_take hx))
        rw [List.length_take] at h
        omega
      have hz : l.take k = [] ↔ k = 0 := by
        rw [List.take_eq_nil_iff]
        constructor
        · rintro (h | h)
          · exact h
          · subst h; simp at hlt
        · exact Or.inl
      clear hil
      generalize hq : l[k] = q at *
      have h42 : ByteArray.size ⟨#[42]⟩ = 1 := rfl
      have h62 : ByteArray.size ⟨#[62]⟩ = 1 := rfl
      clear hq
      obtain ⟨lk, n⟩ := q
      simp only at hx0 hx1 HD hs21 HTA
      have e62 : (⟨#[62]⟩ : ByteArray) = str [62] := rfl
      have e42 : (⟨#[42]⟩ : ByteArray) = str [42] := rfl
      have HE := Lib.hid (And.intro e62 e42)
      clear e62 e42
      by_cases hk0 : k = 0
      · rw [if_pos (hz.2 hk0)] at HTA
        have HSK : Hid (showA (l.take k) = []) := Lib.hid (by rw [hz.2 hk0]; rfl)
        clear hz
        have hk1 : ¬ (0 : Int) < k := by omega
        clear hk0
        cases lk with
        | false =>
          go_wp2_with fail
          refine (HD.out _).mono ?_
          rintro e w2 ⟨rfl, rfl⟩
          go_wp2_with fail
          refine ⟨⟨k + 1, by omega, by first | rfl | go_num, ?_⟩, by simp [intOf]; omega⟩
          rw [HTA.out, HSK.out]
          simp [HE.out.1, HE.out.2, str_app]
        | true =>
          go_wp2_with fail
          refine (HD.out _).mono ?_
          rintro e w2 ⟨rfl, rfl⟩
          go_wp2_with fail
          refine ⟨⟨k + 1, by omega, by first | rfl | go_num, ?_⟩, by simp [intOf]; omega⟩
          rw [HTA.out, HSK.out]
          simp [HE.out.1, HE.out.2, str_app]
      · rw [if_neg (fun h => hk0 (hz.1 h))] at HTA
        clear hz
        have hk1 : (0 : Int) < k := by omega
        cases lk with
        | false =>
          go_wp2_with fail
          refine (HD.out _).mono ?_
          rintro e w2 ⟨rfl, rfl⟩
          go_wp2_with fail
          refine ⟨⟨k + 1, by omega, by first | rfl | go_num, ?_⟩, by simp [intOf]; omega⟩
          rw [HTA.out]
          simp [HE.out.1, HE.out.2, str_app]
        | true =>
          go_wp2_with fail
          refine (HD.out _).mono ?_
          rintro e w2 ⟨rfl, rfl⟩
          go_wp2_with fail
          refine ⟨⟨k + 1, by omega, by first | rfl | go_num, ?_⟩, by simp [intOf]; omega⟩
          rw [HTA.out]
          simp [HE.out.1, HE.out.2, str_app]
    · obtain rfl : k = l.length := by omega
      go_wp2_with fail
      go_ret
      exact ⟨rfl, rfl⟩
end Go.Proofs.YtilahcnpjbnjiaaGreatDoor

/- Segments' sameness: == and != at both types; footplateref26.Same. -/
namespace Go.Proofs.YtilahcnpjbnjiaaGreatDoor
set_option linter.unusedVariables false
set_option linter.unusedSimpArgs false
open Go.RowKit Go.Shelf Go.Proofs Go.OctetPlain

theorem run_neq_sg (s t : Sg.Seg) (w : World) : (binOp .neq 70 (.agg #[.bool s.link, .int .i64 s.n]) (.agg #[.bool t.link, .int .i64 t.n])).run Tryz.prog w = .ok (.bool (!decide (s = t))) w := by
  have u3 := Tryz.underlying3
  have a3 := Tryz.isAgg3
  have z3 := Tryz.sizeOf3
  have u4 := Tryz.underlying4
  have a4 := Tryz.isAgg4
  have z4 := Tryz.sizeOf4
  have hS : Tryz.prog.underlying 70 = some (.struct (Tryz.prog.fieldsOf 70)) := by kernel_rfl
  have hp : Tryz.prog.stoodInHeld 70 = false := by kernel_rfl
  obtain ⟨a, b⟩ := s
  obtain ⟨c, d⟩ := t
  rw [run_neq_struct, show (10000 : Nat) = 9999 + 1 from rfl, run_equalIn_agg w 9999 70 _ _ hS hp]
  simp only [Program.fieldsOf, Tryz.underlying70]
  go_simp
  by_cases h1 : a = c <;> by_cases h2 : b = d <;> simp [h1, h2]
theorem run_eql_sm (s t : Sg.Seg) (w : World) : (binOp .eql 65 (.agg #[.bool s.link, .int .i64 s.n]) (.agg #[.bool t.link, .int .i64 t.n])).run Tryz.prog w = .ok (.bool (decide (s = t))) w := by
  have u3 := Tryz.underlying3
  have a3 := Tryz.isAgg3
  have z3 := Tryz.sizeOf3
  have u4 := Tryz.underlying4
  have a4 := Tryz.isAgg4
  have z4 := Tryz.sizeOf4
  have hS : Tryz.prog.underlying 65 = some (.struct (Tryz.prog.fieldsOf 65)) := by kernel_rfl
  have hp : Tryz.prog.stoodInHeld 65 = false := by kernel_rfl
  obtain ⟨a, b⟩ := s
  obtain ⟨c, d⟩ := t
  rw [run_eql_struct, show (10000 : Nat) = 9999 + 1 from rfl, run_equalIn_agg w 9999 65 _ _ hS hp]
  simp only [Program.fieldsOf, Tryz.underlying65]
  go_simp
  by_cases h1 : a = c <;> by_cases h2 : b = d <;> simp [h1, h2]
theorem run_neq_sm (s t : Sg.Seg) (w : World) : (binOp .neq 65 (.agg #[.bool s.link, .int .i64 s.n]) (.agg #[.bool t.link, .int .i64 t.n])).run Tryz.prog w = .ok (.bool (!decide (s = t))) w := by
  have u3 := Tryz.underlying3
  have a3 := Tryz.isAgg3
  have z3 := Tryz.sizeOf3
  have u4 := Tryz.underlying4
  have a4 := Tryz.isAgg4
  have z4 := Tryz.sizeOf4
  have hS : Tryz.prog.underlying 65 = some (.struct (Tryz.prog.fieldsOf 65)) := by kernel_rfl
  have hp : Tryz.prog.stoodInHeld 65 = false := by kernel_rfl
  obtain ⟨a, b⟩ := s
  obtain ⟨c, d⟩ := t
  rw [run_neq_struct, show (10000 : Nat) = 9999 + 1 from rfl, run_equalIn_agg w 9999 65 _ _ hS hp]
  simp only [Program.fieldsOf, Tryz.underlying65]
  go_simp
  by_cases h1 : a = c <;> by_cases h2 : b = d <;> simp [h1, h2]
set_option maxHeartbeats 1000000 in
theorem r26_Same (a b : List Sg.Seg) (va vb : Value) (w : World) (ha : a.length ≤ 1073741824) (hva : SlR w 2 encG va a) (hvb : SlR w 2 encG vb b) :
    Calls Tryz.prog 10 #[va, vb] w fun e w' => e = .returned (.bool (decide (a = b))) ∧ Below w.heap.size w w' := by
  obtain ⟨p, cap, rfl, hc1, hc2, hR⟩ := hva
  obtain ⟨p', cap', rfl, hc1', hc2', hR'⟩ := hvb
  have HF : Hid (∀ r, (r = true ↔ a = b) → decide (a = b) = r) := fun r h => by cases r <;> simp_all
  generalize decide (a = b) = r at HF ⊢
  by_cases hlen : a.length = b.length
  · have HL := Lib.hid hlen
    have e1 : ((a.length : Int) != (b.length : Int)) = false := by simp [hlen]
    clear hlen
    go_enter Tryz.func10, Tryz.ntmps10
    go_wp2
    go_loopw [5] (fun i wr => ∃ k : Nat, k ≤ a.length ∧ i = .int .i64 k ∧ Hid (a.take k = b.take k) ∧ Below w.heap.size w wr) (fun i _ => a.length - (intOf i).toNat)
    case atStart => exact ⟨0, Nat.zero_le _, rfl, Lib.hid (by simp), Below.refl _ _⟩
    case round =>
      obtain ⟨k, hk, rfl, H, hbl⟩ := hrel
      by_cases hlt : k < a.length
      · have hlt' : k < b.length := by rw [← HL.out]; exact hlt
        obtain ⟨g, off, rfl, hbs, hx0, hx1⟩ := (hR.below hbl (Nat.le_refl _)).atG hlt
        obtain ⟨g', off', rfl, hbs', hy0, hy1⟩ := (hR'.below hbl (Nat.le_refl _)).atG hlt'
        have H1 := Lib.hid (List.take_succ_eq_append_getElem hlt)
        have H2 := Lib.hid (List.take_succ_eq_append_getElem hlt')
        have hneq := run_neq_sg a[k] b[k]
        by_cases hab : a[k] = b[k]
        · have HA := Lib.hid hab
          simp only [hab, decide_true, Bool.not_true] at hneq
          rw [← hab] at hneq hy0 hy1
          clear hab
          go_wp2
          go_quiet (fail)
          go_wp2
          exact ⟨⟨k + 1, by omega, by go_num, Lib.hid (by rw [H1.out, H2.out, H.out, HA.out]), below_drewN hbl _⟩, by simp [intOf]; omega⟩
        · have HA := Lib.hid hab
          simp only [hab, decide_false, Bool.not_false] at hneq
          clear hab
          go_wp2
          go_quiet (fail)
          go_wp2
          go_ret
          exact ⟨ret_bool (HF.out false (by simp; intro h; exact HA.out (by simp only [h]))).symm, below_drewN hbl _⟩
      · go_wp2
        go_ret
        have e : a = b := by
          have := H.out
          rwa [List.take_of_length_le (by omega), List.take_of_length_le (by have := HL.out; omega)] at this
        exact ⟨ret_bool (HF.out true (by simp [e])).symm, hbl⟩
  · have HL := Lib.hid hlen
    have e1 : ((a.length : Int) != (b.length : Int)) = true := by simp; omega
    clear hlen
    go_enter Tryz.func10, Tryz.ntmps10
    go_wp2
    go_ret
    exact ⟨ret_bool (HF.out false (by simp; intro h; exact HL.out (by rw [h]))).symm, Below.refl _ _⟩
end Go.Proofs.YtilahcnpjbnjiaaGreatDoor

/- footplatelaw26.plain. -/
namespace Go.Proofs.YtilahcnpjbnjiaaGreatDoor
set_option linter.unusedVariables false
set_option linter.unusedSimpArgs false
open Go.RowKit Go.Shelf Go.Proofs Go.OctetPlain

theorem elemG : ElemOk Tryz.prog 26 70 2 16 := .mk Tryz.underlying26 (z := .agg #[.bool false, .int .i64 0]) (by kernel_rfl) (by omega) (by omega) rfl
structure PlS (l : List Sg.Seg) (w wr : World) (k : Nat) (vo : Value) : Prop where
  own : wr.ownsRow w.heap.size 70 2 vo k (flat encG (l.take k))
  bel : Below w.heap.size w wr
set_option maxRecDepth 100000 in
set_option maxHeartbeats 2000000 in
theorem law_plain (l : List Sg.Seg) (hl : l.length ≤ 1000000) (v : Value) (w : World) (hv : SlR w 2 encG v l) :
    Calls Tryz.prog 11 #[v] w fun e w' => ∃ v', e = .returned v' ∧ SlR w' 2 encG v' l ∧ Below w.heap.size w w' := by
  obtain ⟨p, cap, rfl, hd1, hd2, hR⟩ := hv
  have H0 := Lib.hid (PlS.mk (l := l) (w := w) (wr := w) (k := 0) (vo := .slice none 0 0) (World.ownsRow_nil _ _ _ _) (Below.refl _ _))
  have HR := Lib.hid hR
  clear hR
  go_enter Tryz.func11, Tryz.ntmps11
  go_wp2_with fail
  go_loopw [3, 4] (fun vo i wr => ∃ k : Nat, k ≤ l.length ∧ i = .int .i64 k ∧ Hid (PlS l w wr k vo)) (fun _ i _ => l.length - (intOf i).toNat)
  case atStart => exact ⟨0, Nat.zero_le _, rfl, H0⟩
  case round =>
    obtain ⟨k, hk, rfl, HS⟩ := hrel
    by_cases hlt : k < l.length
    · obtain ⟨b, off, rfl, hbs, hx0, hx1⟩ := (HR.out.below HS.out.bel (Nat.le_refl _)).atG hlt
      have HTA : Hid (l.take (k + 1) = l.take k ++ [l[k]]) := Lib.hid (by rw [List.take_succ_eq_append_getElem hlt])
      generalize hq : l[k] = q at *
      clear hq
      obtain ⟨lk, n⟩ := q
      simp only at hx0 hx1
      have hbw := HS.out.bel.size
      have hown := HS.out.own
      have hbd := Lib.hid HS.out.bel
      have hb0 : b < wr.heap.size := hbs
      have hb00 : b < w.heap.size := HR.out.lt
      clear HS
      go_wp2_with fail
      go_region_held3 (fun W => W.cell? ⟨b, off + k * 2, none⟩ = some (.bool lk) ∧ W.cell? ⟨b, off + k * 2 + 1, none⟩ = some (.int .i64 n))
        (first
          | go_keep
          | (go_split_ands
             refine ⟨?_, ?_⟩
             all_goals (first | assumption | (rw [World.cell?_alloc_old _ _ _ (by simpa using hb0)]; assumption)))
          | (go_split_ands
             refine ⟨?_, ?_⟩
             all_goals (rw [hbl2.cell (by first | exact hb00 | (simp; exact hb00))]; assumption)))
        (first
          | (refine step_app elemG rfl _ _ rfl w.heap.size u3 _ _ rfl (hown.drew.alloc _) ⟨wr.heap.size, 0, none⟩ 1 1 [.bool lk, .int .i64 n] rfl rfl (cell_new_list _ _ _) (by simp [Value.oneCell']) (by omega) (by simp; omega) ?_; intro v2 w2 hown2 _ hbl2))
      have HW2 := Lib.hid hown2
      have HB2 := Lib.hid hbl2
      clear hown2 hbl2
      go_wp2_with fail
      refine ⟨⟨k + 1, by omega, by go_num, Lib.hid ⟨?_, ?_⟩⟩, by simp [intOf]; omega⟩
      · have h4 := HW2.out
        rw [HTA.out, flat_append]
        exact h4
      · exact (((hbd.out.drew).alloc (by simpa using hbw) _)).trans HB2.out
    · obtain rfl : k = l.length := by omega
      have hv : Hid (SlR wr 2 encG u3 l) := Lib.hid (SlR.of_owns encG_len (by
        have h := HS.out.own
        rw [List.take_length] at h
        exact h))
      go_wp2_with fail
      go_ret
      exact ⟨_, rfl, hv.out, HS.out.bel⟩
end Go.Proofs.YtilahcnpjbnjiaaGreatDoor

/- footplateref26.Short. -/
namespace Go.Proofs.YtilahcnpjbnjiaaGreatDoor
set_option linter.unusedVariables false
set_option linter.unusedSimpArgs false
open Go.RowKit Go.Shelf Go.Proofs Go.OctetPlain

structure SoS (l : List Sg.Seg) (w wr : World) (k : Nat) (vo : Value) : Prop where
  own : wr.ownsRow w.heap.size 70 2 vo (Sg.shortR (l.take k)).length (flat encG (Sg.shortR (l.take k)))
  bel : Below w.heap.size w wr
theorem shortF_le : ∀ (r : List Sg.Seg) (p : Sg.Seg), (Sg.shortF p r).length ≤ r.length
  | [], _ => by simp [Sg.shortF]
  | x :: r, p => by
    have := shortF_le r x
    unfold Sg.shortF
    split <;> simp <;> omega
theorem shortR_le (l : List Sg.Seg) : (Sg.shortR l).length ≤ l.length := by
  cases l with
  | nil => simp [Sg.shortR]
  | cons x r => have := shortF_le r x; simp [Sg.shortR]; omega
theorem shortR_snoc' {l : List Sg.Seg} {k : Nat} (hlt : k < l.length) : Sg.shortR (l.take (k + 1)) = Sg.shortR (l.take k) ++ (if (l.take k).getLast? = some l[k] then [] else [l[k]]) := by
  rw [List.take_succ_eq_append_getElem hlt, Sg.shortR_snoc]
set_option maxRecDepth 100000 in
set_option maxHeartbeats 2000000 in
theorem r26_Short (l : List Sg.Seg) (hl : l.length ≤ 1000000) (v : Value) (w : World) (hv : SlR w 2 encG v l) :
    Calls Tryz.prog 21 #[v] w fun e w' => ∃ v', e = .returned v' ∧ SlR w' 2 encG v' (Sg.shortR l) ∧ Below w.heap.size w w' := by
  obtain ⟨p, cap, rfl, hd1, hd2, hR⟩ := hv
  have H0 := Lib.hid (SoS.mk (l := l) (w := w) (wr := w) (k := 0) (vo := .slice none 0 0) (World.ownsRow_nil _ _ _ _) (Below.refl _ _))
  have HR := Lib.hid hR
  clear hR
  go_enter Tryz.func21, Tryz.ntmps21
  go_wp2_with fail
  go_loopw [3, 4] (fun vo i wr => ∃ k : Nat, k ≤ l.length ∧ i = .int .i64 k ∧ Hid (SoS l w wr k vo)) (fun _ i _ => l.length - (intOf i).toNat)
  case atStart => exact ⟨0, Nat.zero_le _, rfl, H0⟩
  case round =>
    obtain ⟨k, hk, rfl, HS⟩ := hrel
    by_cases hlt : k < l.length
    · have hbw := HS.out.bel.size
      have hsl := shortR_le (l.take k)
      have htl : (l.take k).length = k := by rw [List.length_take]; omega
      have HTA := Lib.hid (shortR_snoc' hlt)
      obtain ⟨b, off, rfl, hbs, hx0, hx1⟩ := (HR.out.below HS.out.bel (Nat.le_refl _)).atG hlt
      by_cases hk0 : k = 0
      · have e0 : ((k : Int) == 0) = true := by simp [hk0]
        have HE : Hid (Sg.shortR (l.take (k + 1)) = Sg.shortR (l.take k) ++ [l[k]]) := Lib.hid (by rw [HTA.out, if_neg (by simp [hk0])])
        have HBD := Lib.hid fun n => below_drewN HS.out.bel n
        have HO := Lib.hid fun n => owns_below HS.out.own (below_drewN (Below.refl wr.heap.size wr) n) (Nat.le_refl _)
        generalize hq : l[k] = q at *
        clear hq
        obtain ⟨lk, n⟩ := q
        simp only at hx0 hx1
        clear hk0 HTA HS
        · go_wp2_with fail
          go_quiet (fail)
          go_wp2_with (at_builtin; go_loud (refine wpList_app elemG rfl (.tmp 25) (.tmp 30) rfl w.heap.size u3 _ _ rfl (HO.out _) 1 1 [.bool _, .int .i64 _] (by simp only [World.heap_drewN]; rfl) rfl (by simp [Value.oneCell']) (by omega) (by simpa using hbw) ?_; intro v4 w4 hown4 hgr4 hob4 hb4; have HB4 := Lib.hid hb4; have HW4 := Lib.hid hown4; clear hgr4 hob4 hb4 hown4))
          refine ⟨⟨k + 1, by omega, by go_num, Lib.hid ⟨?_, (HBD.out _).trans HB4.out⟩⟩, by simp [intOf]; omega⟩
          have h4 := HW4.out
          rw [HE.out, flat_append, List.length_append]
          exact h4
      · have e0 : ((k : Int) == 0) = false := by simpa using hk0
        obtain ⟨b', off', hp', hbs', hy0, hy1⟩ := (HR.out.below HS.out.bel (Nat.le_refl _)).atG (i := k - 1) (by omega)
        simp only [Option.some.injEq, Addr.mk.injEq, and_true] at hp'
        obtain ⟨rfl, rfl⟩ := hp'
        have hm : ((k : Int) - 1).toNat = k - 1 := by omega
        have hm0 : (0 : Int) ≤ (k : Int) - 1 := by omega
        have hm1 : (k : Int) - 1 < (l.length : Int) := by omega
        have hlast : Hid ((l.take k).getLast? = some l[k - 1]) := Lib.hid (by
          rw [List.getLast?_eq_getElem?, htl, List.getElem?_take_of_lt (by omega), List.getElem?_eq_getElem (by omega)])
        have hneq := run_neq_sg l[k] l[k - 1]
        have HBD := Lib.hid fun n => below_drewN HS.out.bel n
        have HO := Lib.hid fun n => owns_below HS.out.own (below_drewN (Below.refl wr.heap.size wr) n) (Nat.le_refl _)
        rw [hlast.out] at HTA
        clear hlast
        by_cases hab : l[k] = l[k - 1]
        · have HE : Hid (Sg.shortR (l.take (k + 1)) = Sg.shortR (l.take k)) := Lib.hid (by rw [HTA.out, if_pos (by rw [hab])]; simp)
          simp only [hab, decide_true, Bool.not_true] at hneq
          rw [← hab] at hneq hy0 hy1
          clear hab HTA HS
          generalize hq : l[k] = q at *
          clear hq
          obtain ⟨lk, n⟩ := q
          simp only at hx0 hx1 hy0 hy1 hneq
          go_wp2_with fail
          go_quiet (fail)
          go_wp2_with fail
          refine ⟨⟨k + 1, by omega, by go_num, Lib.hid ⟨?_, HBD.out _⟩⟩, by simp [intOf]; omega⟩
          rw [HE.out]
          exact HO.out _
        · have HE : Hid (Sg.shortR (l.take (k + 1)) = Sg.shortR (l.take k) ++ [l[k]]) := Lib.hid (by rw [HTA.out, if_neg (by simpa using fun e => hab e.symm)])
          simp only [hab, decide_false, Bool.not_false] at hneq
          clear hab HTA HS
          generalize hq' : l[k - 1] = q' at *
          clear hq'
          generalize hq : l[k] = q at *
          clear hq
          obtain ⟨lk, n⟩ := q
          obtain ⟨lk', n'⟩ := q'
          simp only at hx0 hx1 hy0 hy1 hneq
          go_wp2_with fail
          go_quiet (fail)
          go_wp2_with (at_builtin; go_loud (refine wpList_app elemG rfl (.tmp 25) (.tmp 30) rfl w.heap.size u3 _ _ rfl (HO.out _) 1 1 [.bool _, .int .i64 _] (by simp only [World.heap_drewN]; rfl) rfl (by simp [Value.oneCell']) (by omega) (by simpa using hbw) ?_; intro v4 w4 hown4 hgr4 hob4 hb4; have HB4 := Lib.hid hb4; have HW4 := Lib.hid hown4; clear hgr4 hob4 hb4 hown4))
          refine ⟨⟨k + 1, by omega, by go_num, Lib.hid ⟨?_, (HBD.out _).trans HB4.out⟩⟩, by simp [intOf]; omega⟩
          have h4 := HW4.out
          rw [HE.out, flat_append, List.length_append]
          exact h4
    · obtain rfl : k = l.length := by omega
      have hv : Hid (SlR wr 2 encG u3 (Sg.shortR l)) := Lib.hid (SlR.of_owns encG_len (by
        have h := HS.out.own
        rw [List.take_length] at h
        exact h))
      go_wp2_with fail
      go_ret
      exact ⟨_, rfl, hv.out, HS.out.bel⟩
end Go.Proofs.YtilahcnpjbnjiaaGreatDoor
