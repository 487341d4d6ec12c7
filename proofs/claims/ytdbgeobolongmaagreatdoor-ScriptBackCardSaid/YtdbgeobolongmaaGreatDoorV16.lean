/- Part of the proof: contracts of the functions that the statements of layer 32 reach. -/
import Derived.Test.YtdbgeobolongmaaGreatDoorV03
import Derived.Test.YtdbgeobolongmaaGreatDoorV04
import Derived.Test.YtdbgeobolongmaaGreatDoorV06
import Derived.Test.YtdbgeobolongmaaGreatDoorV10
import Derived.Test.YtdbgeobolongmaaGreatDoorV15
set_option linter.unusedVariables false
set_option linter.unusedSimpArgs false
set_option maxRecDepth 100000
set_option maxHeartbeats 2000000
namespace Go.Proofs.YtdbgeobolongmaaGreatDoor
open Go.RowKit Go.Shelf Go.Proofs Go.OctetPlain Go.ColonPlain
structure GS (w : World) (l : List UInt8) (wr : World) (n signs pos : Nat) : Prop where
 le : pos ≤ l.length
 sl : signs ≤ 4
 nl : n < 16 ^ signs
 iter : wr.heap[w.heap.size]? = some (.stringIter (str l) pos)
 below : Below w.heap.size w wr
 eq : group l = groupFrom n signs (l.drop pos)
theorem colon_group (l : List UInt8) (hl : l.length ≤ 1073741824) (w : World) :
  Calls Tryz.prog 178 #[.string (str l)] w fun e w' => e = .returned (.tuple #[.int .i64 ((group l).getD 0 : Nat), .bool (group l).isSome]) ∧ Below w.heap.size w w' := by
 go_enter Tryz.func178, Tryz.ntmps178
 go_wp2_with fail
 go_loopw [4, 5] (fun vn vs wr => ∃ n signs pos : Nat, vn = .int .i64 n ∧ vs = .int .i64 signs ∧ Hid (GS w l wr n signs pos)) (fun _ _ wr => l.length - iterPos wr w.heap.size)
 case atStart => exact ⟨0, 0, 0, rfl, rfl, qh ⟨Nat.zero_le _, by omega, by omega, heap_alloc_new w _, (Below.refl _ _).alloc (Nat.le_refl _) _, by rw [List.drop_zero]; rfl⟩⟩
 case round =>
  obtain ⟨n, signs, pos, rfl, rfl, HU⟩ := hrel
  have hsl := HU.out.sl
  have hnl : n < 65536 := by
   have h1 := HU.out.nl
   have : 16 ^ signs ≤ 16 ^ 4 := Nat.pow_le_pow_right (by omega) hsl
   omega
  have hip : Hid (iterPos wr w.heap.size = pos) := by unfold iterPos; rw [HU.out.iter]; exact qh rfl
  by_cases hlt : pos < l.length
  ·have hps : pos < (str l).size := by rw [str_size]; exact hlt
   obtain ⟨c, hc0⟩ : ∃ c : UInt8, l[pos]'hlt = c := ⟨_, rfl⟩
   have hdr : l.drop pos = c :: l.drop (pos + 1) := by rw [List.drop_eq_getElem_cons hlt, hc0]
   have hgs := get_str l pos hlt
   rw [hc0] at hgs
   by_cases hb : 128 ≤ c.toNat
   ·have hnx := fun ty => Lib.run_next_any_at (P := Tryz.prog) wr w.heap.size (str l) pos ty HU.out.iter hps
    obtain ⟨d1, d2⟩ := decode_big (str l) pos (by rw [hgs]; exact hb)
    have HE : Hid (group l = none) := by
     rw [HU.out.eq, hdr, groupFrom, if_pos (by rw [dig_big hb]; omega)]; exact qh rfl
    have HB := qh (Lib.below_iterAt HU.out.below (Nat.le_refl _) (str l) (pos + (Utf8.decode (str l) pos).2))
    generalize Utf8.decode (str l) pos = q at d1 d2 hnx HB
    obtain ⟨q1, q2⟩ := q
    simp only at d1 d2 hnx HB
    have HD := qh fun W => indexRune_big hexS (by decide) (by decide) hexS_small (q1 : Int) (by omega) (by omega) W
    clear hc0 hdr hgs
    go_wp2_with fail
    refine (HD.out _).mono ?_
    rintro e w1 ⟨rfl, hb1⟩
    go_wp2_with fail
    refine bodyPost_ret (v := .tuple #[.int .i64 0, .bool false]) ?_ rfl ⟨by rw [HE.out]; rfl, HB.out.trans (hb1.mono HB.out.size)⟩
    simp [results, Tryz.results178, go_sem]
   ·have hc1 : (str l)[pos].toNat < 128 := by rw [str_get, hc0]; omega
    have hnx := fun ty => Lib.run_next_ascii_at (P := Tryz.prog) wr w.heap.size (str l) pos ty HU.out.iter hps hc1
    have hcc : (str l)[pos].toNat = c.toNat := by rw [str_get, hc0]
    rw [hcc] at hnx
    have HB := qh (Lib.below_iterAt HU.out.below (Nat.le_refl _) (str l) (pos + 1))
    have HI := qh (iterAt_pos HU.out.iter (pos + 1))
    have hix := dig_idx ⟨c.toNat, by omega⟩
    simp only [UInt8.ofNat_toNat] at hix
    have hcon := fun W => Any.strings_IndexRune_ascii Tryz.indexRune hexS (c.toNat : Int) W (by omega) (by omega)
    simp only [Int.toNat_natCast] at hcon
    change ∀ W, Calls Tryz.prog 172 _ W (fun e w' => e = .returned (.int .i64 (Lib.indexByte [48, 49, 50, 51, 52, 53, 54, 55, 56, 57, 97, 98, 99, 100, 101, 102] (UInt8.ofNat c.toNat))) ∧ w' = W) at hcon
    simp only [UInt8.ofNat_toNat] at hcon
    obtain ⟨hd1, hd2⟩ := dig_bounds c
    have HE : Hid (group l = if dig c < 0 ∨ 4 < signs + 1 then none else groupFrom (n * 16 + (dig c).toNat) (signs + 1) (l.drop (pos + 1))) := by
     rw [HU.out.eq, hdr, groupFrom]; exact qh rfl
    have hc2 : c.toNat < 128 := by omega
    generalize Lib.indexByte [48, 49, 50, 51, 52, 53, 54, 55, 56, 57, 97, 98, 99, 100, 101, 102] c = j at hix hcon
    have HC := qh hcon
    have HIX := qh hix
    clear hc0 hdr hgs hb hc1 hcc hcon hix
    generalize dig c = d at hd1 hd2 HE HIX
    generalize c.toNat = cn at hnx hc2 HC HIX
    by_cases hd0 : d < 0
    ·have HN : Hid (group l = none) := by rw [HE.out, if_pos (Or.inl hd0)]; exact qh rfl
     have hcap : ¬ (65 ≤ cn ∧ cn ≤ 70) := fun h => by have := HIX.out; rw [if_pos h] at this; omega
     have hj : j = d := by have := HIX.out; rw [if_neg hcap] at this; exact this
     subst hj
     have hcap' : cn < 65 ∨ 70 < cn := by omega
     clear hcap
     rcases hcap' with h | h
     all_goals
      go_wp2_with fail
      refine (HC.out _).mono ?_
      rintro e w1 ⟨rfl, rfl⟩
      go_wp2_with fail
      refine bodyPost_ret (v := .tuple #[.int .i64 0, .bool false]) ?_ rfl ⟨by rw [HN.out]; rfl, HB.out⟩
      simp [results, Tryz.results178, go_sem]
    ·obtain ⟨b, rfl⟩ : ∃ b : Nat, d = b := ⟨d.toNat, by omega⟩
     have hor := or_16 n b (by omega) (by omega)
     have hw1 : IntKind.i64.wrap ((n : Int) * 16) = (n : Int) * 16 := IntWalk.i64_in _ (by omega)
     have hbb : b < 16 := by omega
     by_cases hs4 : signs = 4
     ·subst hs4
      have HN : Hid (group l = none) := by rw [HE.out, if_pos (Or.inr (by omega))]; exact qh rfl
      by_cases hcap : 65 ≤ cn ∧ cn ≤ 70
      ·obtain ⟨h1, h2⟩ := hcap
       have hd : (cn : Int) - 65 + 10 = b := by have := HIX.out; rw [if_pos ⟨h1, h2⟩] at this; exact this
       go_wp2_with fail
       refine (HC.out _).mono ?_
       rintro e w1 ⟨rfl, rfl⟩
       go_wp2_with fail
       refine bodyPost_ret (v := .tuple #[.int .i64 0, .bool false]) ?_ rfl ⟨by rw [HN.out]; rfl, HB.out⟩
       simp [results, Tryz.results178, go_sem]
      ·have hj : j = b := by have := HIX.out; rw [if_neg hcap] at this; exact this
       subst hj
       have hcap' : cn < 65 ∨ 70 < cn := by omega
       clear hcap
       rcases hcap' with h | h
       all_goals
        go_wp2_with fail
        refine (HC.out _).mono ?_
        rintro e w1 ⟨rfl, rfl⟩
        go_wp2_with fail
        refine bodyPost_ret (v := .tuple #[.int .i64 0, .bool false]) ?_ rfl ⟨by rw [HN.out]; rfl, HB.out⟩
        simp [results, Tryz.results178, go_sem]
     ·have HN : Hid (group l = groupFrom (n * 16 + b) (signs + 1) (l.drop (pos + 1))) := by rw [HE.out, if_neg (by omega)]; exact qh rfl
      have hs3 : signs < 4 := by omega
      have hpow : n * 16 + b < 16 ^ (signs + 1) := by have := HU.out.nl; rw [Nat.pow_succ]; omega
      have hP := qh hpow
      clear hpow
      have hG : Hid (GS w l (wr.iterAt w.heap.size (str l) (pos + 1)) (n * 16 + b) (signs + 1) (pos + 1)) := qh ⟨hlt, by omega, hP.out, HI.out.1, HB.out, HN.out⟩
      have hme : Hid (l.length - iterPos (wr.iterAt w.heap.size (str l) (pos + 1)) w.heap.size < l.length - iterPos wr w.heap.size) := by rw [hip.out, HI.out.2]; exact qh (by omega)
      by_cases hcap : 65 ≤ cn ∧ cn ≤ 70
      ·obtain ⟨h1, h2⟩ := hcap
       have hd : (cn : Int) - 65 + 10 = b := by have := HIX.out; rw [if_pos ⟨h1, h2⟩] at this; exact this
       go_wp2_with fail
       refine (HC.out _).mono ?_
       rintro e w1 ⟨rfl, rfl⟩
       go_wp2_with fail
       exact ⟨⟨n * 16 + b, signs + 1, pos + 1, rfl, by go_num, hG⟩, hme.out⟩
      ·have hj : j = b := by have := HIX.out; rw [if_neg hcap] at this; exact this
       subst hj
       have hcap' : cn < 65 ∨ 70 < cn := by omega
       clear hcap
       rcases hcap' with h | h
       all_goals
        go_wp2_with fail
        refine (HC.out _).mono ?_
        rintro e w1 ⟨rfl, rfl⟩
        go_wp2_with fail
        exact ⟨⟨n * 16 + b, signs + 1, pos + 1, rfl, by go_num, hG⟩, hme.out⟩
  ·have hps : ¬ pos < (str l).size := by rw [str_size]; exact hlt
   have hnx := fun ty => Lib.run_next_end_at (P := Tryz.prog) wr w.heap.size (str l) pos ty HU.out.iter hps
   have HE : Hid (group l = if 0 < signs then some n else none) := by
    rw [HU.out.eq, List.drop_eq_nil_of_le (by omega)]; exact qh rfl
   by_cases h0 : 0 < signs
   ·have HN : Hid (group l = some n) := by rw [HE.out, if_pos h0]; exact qh rfl
    go_wp2_with fail
    refine bodyPost_ret (v := .tuple #[.int .i64 n, .bool true]) ?_ rfl ⟨by rw [HN.out]; rfl, HU.out.below⟩
    simp [results, Tryz.results178, go_sem, h0]
   ·have HN : Hid (group l = none) := by rw [HE.out, if_neg h0]; exact qh rfl
    obtain rfl : signs = 0 := by omega
    have hn0 : n = 0 := by have := HU.out.nl; simpa using this
    subst hn0
    go_wp2_with fail
    refine bodyPost_ret (v := .tuple #[.int .i64 0, .bool false]) ?_ rfl ⟨by rw [HN.out]; rfl, HU.out.below⟩
    simp [results, Tryz.results178, go_sem]
theorem wpList_appB {P : Program} {w : World} {ops : Array Oper} {rest : List Oper} {o : Oper} {a : Act} {Q : Exit → Act → World → Prop} {t e : TypeId} {size bytes : Nat} (hE : ElemOk P t e size bytes) (hgd : o.guard = none) (s x : Operand)
  (ho : o.op = .call { callee := .builtin .append, args := #[s, x], argTypes := #[t, t] })
  (base : Nat) (v : Value) (n : Nat) (xs : List Value) (hs : a.eval s = v) (hown : w.ownsRow base e size v n xs)
  (m c B : Nat) (hBe : B = w.heap.size) (news : List Value) (hx : a.eval x = .slice (some ⟨B, 0, none⟩) m c) (hl : news.length = m * size) (h1 : ∀ u ∈ news, u.oneCell' = true)
  (hsm : n + m ≤ 1099511627776) (hbase : base ≤ w.heap.size)
  (h : ∀ v' w', w'.ownsRow base e size v' (n + m) (xs ++ news) → w.grownBy w' v.ownBlock → (v'.ownBlock = v.ownBlock ∨ v'.ownBlock = some (w.heap.size + 1)) → Below base w w' → wpList P ops Q rest (a.put o.dst v') w') :
  wpList P ops Q (o :: rest) a (w.alloc (.cells news.toArray e)) := by
 subst hBe
 exact wpList_app hE hgd s x ho base v n xs hs hown m c news hx hl h1 hsm hbase h
theorem elemN : ElemOk Tryz.prog 27 3 1 8 := .mk Tryz.underlying27 (z := .int .i64 0) (by kernel_rfl) (by omega) (by omega) rfl
theorem pieces_eq (d : UInt8) (l : List UInt8) : Lib.splitB (str [d]) 0 (Lib.countB (str l) (str [d])) (str l) = (splitC d l).map str := by
 have h := Lib.splitB_data (str [d]) 0 (Lib.countB (str l) (str [d])) (str l)
 have hc : Lib.countB (str l) (str [d]) = Lib.count l [d] := by unfold Lib.countB; rw [list_str, list_str]
 rw [list_str, list_str, hc, split_eq] at h
 have h2 := congrArg (List.map str) h
 rw [List.map_map] at h2
 have : str ∘ (fun s : ByteArray => s.data.toList) = id := by funext s; exact str_list s
 rw [this, List.map_id] at h2
 rw [hc]; exact h2
theorem pieces_count (d : UInt8) (l : List UInt8) : Lib.countB (str l) (str [d]) + 1 = (splitC d l).length := by
 have hc : Lib.countB (str l) (str [d]) = Lib.count l [d] := by unfold Lib.countB; rw [list_str, list_str]
 rw [hc]; exact split_count d l
theorem belowA2' {B : Nat} {W : World} (o : Obj) (h : B ≤ W.heap.size) : Below B W (W.alloc o) := (belowA W o).mono h
structure RowS (w : World) (l : List UInt8) (last : Bool) (B : Nat) (wr : World) (k : Nat) (out : List Nat) (vo : Value) : Prop where
 own : wr.ownsRow (w.heap.size + 1) 3 1 vo out.length (flat encN out)
 parts : Blk wr w.heap.size 9 (((splitC 58 l).map str).map Value.string).toArray
 below : Below w.heap.size w wr
 eq : row last l = rowParts last out ((splitC 58 l).drop k)
 len : out.length ≤ 2 * k
theorem colon_row (l : List UInt8) (hl : l.length ≤ 1000000) (last : Bool) (w : World) (ht : CT w) :
  Calls Tryz.prog 159 #[.string (str l), .bool last] w fun e w' => ∃ v, e = .returned (.tuple #[v, .bool (row last l).isSome]) ∧ w'.ownsRow w.heap.size 3 1 v ((row last l).getD []).length (flat encN ((row last l).getD [])) ∧ Below w.heap.size w w' := by
 obtain ⟨m, hm⟩ := ht.ml
 have htl := str_tl
 by_cases hnil : l = []
 ·subst hnil
  go_enter Tryz.func159, Tryz.ntmps159
  go_wp2_with fail
  refine bodyPost_ret (v := .tuple #[.slice none 0 0, .bool true]) ?_ rfl ⟨_, rfl, World.ownsRow_nil _ _ _ _, Below.refl _ _⟩
  simp [results, Tryz.results159, go_sem]
 ·have hne : (l == []) = false := by simpa using hnil
  have hrow : Hid (row last l = rowParts last [] (splitC 58 l)) := by unfold row; rw [if_neg hnil]; exact qh rfl
  have hcon := Any.strings_Split { Tryz.split with } Tryz.split.i9 (str l) ⟨#[58]⟩ m w (by rw [str_size]; omega) hm (by decide)
  change Calls Tryz.prog 37 _ _ _ at hcon
  have hp := pieces_eq 58 l
  have hpc := pieces_count 58 l
  have HC : Hid (Calls Tryz.prog 37 #[.string (str l), .string ⟨#[58]⟩] w fun e w' => e = .returned (.slice (some ⟨w.heap.size, 0, none⟩) (splitC 58 l).length (splitC 58 l).length) ∧ w' = w.alloc (.cells (((splitC 58 l).map str).map Value.string).toArray 9)) := by
   rw [← hpc, ← hp]; exact qh hcon
  clear hcon hp hpc hm hnil
  go_enter Tryz.func159, Tryz.ntmps159
  go_wp2_with fail
  refine HC.out.mono ?_
  rintro e w1 ⟨rfl, hw1⟩
  have hnl : (splitC 58 l).length ≤ l.length + 1 := by
   have h1 := split_count 58 l
   rw [Lib.count_one] at h1
   have := List.count_le_length (a := (58 : UInt8)) (l := l)
   omega
  have hpl := splitC_le 58 l
  have HPL := qh hpl
  clear hpl
  go_wp2_with fail
  go_loopw [6, 20] (fun vo vi wr => ∃ (k : Nat) (out : List Nat), vi = .int .i64 k ∧ k ≤ (splitC 58 l).length ∧ Hid (RowS w l last w.heap.size wr k out vo)) (fun _ vi _ => (splitC 58 l).length - (intOf vi).toNat)
  case atStart =>
   refine ⟨0, [], rfl, Nat.zero_le _, qh ⟨World.ownsRow_nil _ _ _ _, ?_, ?_, by rw [List.drop_zero]; exact hrow.out, by simp⟩⟩
   ·rw [List.map_map]; exact Blk.new _ _ _
   ·exact belowA w _
  case round =>
   obtain ⟨k, out, rfl, hk, HR⟩ := hrel
   have hlen := HR.out.len
   by_cases hlt : k < (splitC 58 l).length
   ·obtain ⟨p, hp⟩ : ∃ p, (splitC 58 l)[k]? = some p := ⟨(splitC 58 l)[k], List.getElem?_eq_getElem hlt⟩
    have hdr : (splitC 58 l).drop k = p :: (splitC 58 l).drop (k + 1) := by
     obtain ⟨h1, h2⟩ := List.getElem?_eq_some_iff.1 hp
     rw [List.drop_eq_getElem_cons h1, h2]
    have hc : wr.cell? ⟨w.heap.size, k, none⟩ = some (.string (str p)) := (HR.out.parts.cell k).trans (by simp [hp])
    have hpl : p.length ≤ l.length := HPL.out p (List.mem_of_getElem? hp)
    have HG := qh fun W => colon_group p (by omega) W
    have HD := qh fun W => dotted_Parse p (by omega) W
    have HE : Hid (row last l = rowParts last out (p :: (splitC 58 l).drop (k + 1))) := by rw [HR.out.eq, hdr]; exact qh rfl
    have hz := HR.out.parts.lt
    clear hp hdr
    go_wp2_with fail
    refine (HG.out _).mono ?_
    rintro e w2 ⟨rfl, hb2⟩
    cases hg : group p with
    | some n =>
     have HE2 : Hid (row last l = rowParts last (out ++ [n]) ((splitC 58 l).drop (k + 1))) := by rw [HE.out, rowParts, hg]; exact qh rfl
     have HO2 := qh (owns_below HR.out.own hb2 (Nat.le_refl _))
     have HP2 := qh (HR.out.parts.below hb2 hz)
     have HB2 := qh (HR.out.below.trans (hb2.mono HR.out.below.size))
     have hz2 := hb2.size
     clear hb2
     go_wp2_with (at_builtin; go_loud (refine wpList_app elemN rfl (.tmp 31) (.tmp 33) rfl (w.heap.size + 1) u6 _ _ rfl HO2.out 1 1 [.int .i64 _] rfl rfl (by simp [Value.oneCell']) (by omega) (by omega) ?_; intro v4 w4 hown4 _ _ hb4))
     refine ⟨⟨k + 1, out ++ [n], by go_num, by omega, qh ⟨?_, HP2.out.below hb4 (Nat.lt_succ_self _), HB2.out.trans (hb4.mono (Nat.le_succ _)), HE2.out, by simp; omega⟩⟩, by simp [intOf]; omega⟩
     rw [flat_append, List.length_append]
     exact hown4
    | none =>
     have HP2 := qh (HR.out.parts.below hb2 hz)
     have HO2 := qh (owns_below HR.out.own hb2 (Nat.le_refl _))
     have HB2 := qh (HR.out.below.trans (hb2.mono HR.out.below.size))
     have hz2 := hb2.size
     have hN1 : IntKind.i64.wrap (((splitC 58 l).length : Int) - 1) = ((splitC 58 l).length : Int) - 1 := IntWalk.i64_in _ (by omega)
     clear hb2
     cases hd : dotted p with
     | none =>
      have HN : Hid (row last l = none) := by rw [HE.out, rowParts, hg, hd]; exact qh rfl
      rw [hd] at HD
      have HD2 : Hid (∀ W, Calls Tryz.prog 127 #[.string (str p)] W fun e w' => e = .returned (.tuple #[.agg #[.int .u8 0, .int .u8 0, .int .u8 0, .int .u8 0], .bool false]) ∧ Below W.heap.size W w') := HD
      clear HD hg hd
      go_wp2_with fail
      refine (HD2.out _).mono ?_
      rintro e w3 ⟨rfl, hb3⟩
      have HB3 := qh (HB2.out.trans (hb3.mono HB2.out.size))
      clear hb3
      go_wp2_with fail
      refine bodyPost_ret (v := .tuple #[.slice none 0 0, .bool false]) ?_ rfl ⟨.slice none 0 0, by rw [HN.out]; rfl, by rw [HN.out]; exact World.ownsRow_nil _ _ _ _, HB3.out.trans (belowA2' _ HB3.out.size)⟩
      simp [results, Tryz.results159, go_sem, HN.out]
     | some a =>
      obtain ⟨a0, a1, a2, a3, ha⟩ := list4 (dotParts_length _ _ a hd)
      subst ha
      rw [hd] at HD
      have HD2 : Hid (∀ W, Calls Tryz.prog 127 #[.string (str p)] W fun e w' => e = .returned (.tuple #[.agg #[.int .u8 (a0.toNat : Int), .int .u8 (a1.toNat : Int), .int .u8 (a2.toNat : Int), .int .u8 (a3.toNat : Int)], .bool true]) ∧ Below W.heap.size W w') := HD
      have HE3 : Hid (row last l = if last = true ∧ (splitC 58 l).drop (k + 1) = [] then some (out ++ [256 * a0.toNat + a1.toNat, 256 * a2.toNat + a3.toNat]) else none) := by
       rw [HE.out, rowParts, hg, hd]; exact qh rfl
      clear HD hg hd
      cases last with
      | false =>
       have HN : Hid (row false l = none) := by rw [HE3.out, if_neg (by simp)]; exact qh rfl
       go_wp2_with fail
       refine (HD2.out _).mono ?_
       rintro e w3 ⟨rfl, hb3⟩
       have HB3 := qh (HB2.out.trans (hb3.mono HB2.out.size))
       clear hb3
       go_wp2_with fail
       refine bodyPost_ret (v := .tuple #[.slice none 0 0, .bool false]) ?_ rfl ⟨.slice none 0 0, by rw [HN.out]; rfl, by rw [HN.out]; exact World.ownsRow_nil _ _ _ _, HB3.out.trans (belowA2' _ HB3.out.size)⟩
       simp [results, Tryz.results159, go_sem, HN.out]
      | true =>
       by_cases hlast : k + 1 = (splitC 58 l).length
       ·have hnl2 : ¬ (k : Int) < ((splitC 58 l).length : Int) - 1 := by omega
        have hdn : (splitC 58 l).drop (k + 1) = [] := List.drop_eq_nil_of_le (by omega)
        have HE2 : Hid (row true l = rowParts true (out ++ [256 * a0.toNat + a1.toNat, 256 * a2.toNat + a3.toNat]) ((splitC 58 l).drop (k + 1))) := by
         rw [HE3.out, hdn, if_pos ⟨rfl, rfl⟩]; exact qh rfl
        have q0 : a0.toNat < 256 := a0.toNat_lt
        have q1 : a1.toNat < 256 := a1.toNat_lt
        have q2 : a2.toNat < 256 := a2.toNat_lt
        have q3 : a3.toNat < 256 := a3.toNat_lt
        clear HE3 hdn
        generalize a0.toNat = b0 at *
        generalize a1.toNat = b1 at *
        generalize a2.toNat = b2 at *
        generalize a3.toNat = b3 at *
        have o1 := or_256 b0 b1 (by omega) q1
        have o2 := or_256 b2 b3 (by omega) q3
        go_wp2_with fail
        refine (HD2.out _).mono ?_
        rintro e w3 ⟨rfl, hb3⟩
        have HO3 := qh (((owns_below HO2.out hb3 (Nat.le_refl _))).alloc (.cells #[.int .u8 (b0 : Int), .int .u8 (b1 : Int), .int .u8 (b2 : Int), .int .u8 (b3 : Int)] 56))
        have HP3 := qh (((HP2.out.below hb3 HP2.out.lt)).alloc (.cells #[.int .u8 (b0 : Int), .int .u8 (b1 : Int), .int .u8 (b2 : Int), .int .u8 (b3 : Int)] 56))
        have HB3 := qh (HB2.out.trans (hb3.mono HB2.out.size))
        have hz3 := hb3.size
        have HB4 := qh (HB3.out.trans (belowA2' (.cells #[.int .u8 (b0 : Int), .int .u8 (b1 : Int), .int .u8 (b2 : Int), .int .u8 (b3 : Int)] 56) HB3.out.size))
        clear hb3
        go_wp2_with (at_builtin; go_loud (refine wpList_appB elemN rfl (.tmp 53) (.tmp 70) rfl (w.heap.size + 1) u6 _ _ rfl HO3.out 2 2 (w3.heap.size + 1) (by simp) [.int .i64 _, .int .i64 _] rfl rfl (by simp [Value.oneCell']) (by omega) (by simp; omega) ?_; intro v4 w4 hown4 _ _ hb4))
        refine ⟨⟨k + 1, out ++ [256 * b0 + b1, 256 * b2 + b3], by go_num, by omega, qh ⟨?_, HP3.out.below hb4 (Nat.lt_succ_self _), HB4.out.trans (hb4.mono (Nat.le_succ _)), HE2.out, by simp; omega⟩⟩, by simp [intOf]; omega⟩
        rw [flat_append, List.length_append]
        exact hown4
       ·have hnl2 : (k : Int) < ((splitC 58 l).length : Int) - 1 := by omega
        have hdn : (splitC 58 l).drop (k + 1) ≠ [] := fun e => by
         have := congrArg List.length e
         rw [List.length_drop] at this
         simp at this
         omega
        have HN : Hid (row true l = none) := by rw [HE3.out, if_neg (fun h => hdn h.2)]; exact qh rfl
        clear hdn
        go_wp2_with fail
        refine (HD2.out _).mono ?_
        rintro e w3 ⟨rfl, hb3⟩
        have HB3 := qh (HB2.out.trans (hb3.mono HB2.out.size))
        clear hb3
        go_wp2_with fail
        refine bodyPost_ret (v := .tuple #[.slice none 0 0, .bool false]) ?_ rfl ⟨.slice none 0 0, by rw [HN.out]; rfl, by rw [HN.out]; exact World.ownsRow_nil _ _ _ _, HB3.out.trans (belowA2' _ HB3.out.size)⟩
        simp [results, Tryz.results159, go_sem, HN.out]
   ·have hdn : (splitC 58 l).drop k = [] := List.drop_eq_nil_of_le (by omega)
    have HN : Hid (row last l = some out) := by rw [HR.out.eq, hdn]; exact qh rfl
    clear hdn
    go_wp2_with fail
    refine bodyPost_ret (v := .tuple #[u6, .bool true]) ?_ rfl ⟨u6, by rw [HN.out]; rfl, by rw [HN.out]; exact owns_base HR.out.own (Nat.le_succ _), HR.out.below⟩
    simp [results, Tryz.results159, go_sem]
end Go.Proofs.YtdbgeobolongmaaGreatDoor
