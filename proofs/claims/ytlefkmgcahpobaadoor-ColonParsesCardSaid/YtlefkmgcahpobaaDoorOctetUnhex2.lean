/- octet.Unhex. -/
import Derived.Test.YtlefkmgcahpobaaDoorOctetUnhex
namespace Go.Proofs.YtlefkmgcahpobaaDoor
set_option linter.unusedVariables false
set_option linter.unusedSimpArgs false
open Go.RowKit Go.Shelf Go.Proofs Go.OctetPlain

theorem owns_iter {w : World} {base : Nat} {e : TypeId} {size : Nat} {v : Value} {n : Nat} {xs : List Value} (h : w.ownsRow base e size v n xs) {k : Nat} {s : ByteArray} {pos : Nat} (hk : w.heap[k]? = some (.stringIter s pos)) (pos' : Nat) :
    (w.iterAt k s pos').ownsRow base e size v n xs := by
  refine ⟨h.1, ?_⟩
  rcases h.2 with h0 | ⟨g, cap, cur, hv, hb, hg, r⟩
  · exact .inl h0
  · refine .inr ⟨g, cap, cur, hv, hb, ?_, r⟩
    rw [Lib.iterAt_other w k g s pos' (fun e => by subst e; rw [hk] at hg; cases hg)]
    exact hg
theorem or16 : ∀ a b : Fin 16, bits .or .i64 (((a : Nat) : Int) * 16) ((b : Nat) : Int) = (((a : Nat) * 16 + (b : Nat) : Nat) : Int) := by decide +kernel
theorem get_str (l : List UInt8) (i : Nat) (h : i < l.length) : (str l).get! i = l[i] := by
  have : (str l).get! i = l.toArray[i]! := rfl
  rw [this]
  simp [h]
theorem dig_big {c : UInt8} (h : 128 ≤ c.toNat) : dig c = -1 := by
  unfold dig
  rw [if_neg (by omega), if_neg (by omega), if_neg (by omega)]

/-- Unhex, behind pos bytes -/
structure UH (w : World) (l : List UInt8) (v : Value) (hi : Int) (wr : World) (pos : Nat) (o : List UInt8) : Prop where
  lo : -1 ≤ hi
  up : hi ≤ 15
  le : pos ≤ l.length
  len : o.length ≤ pos
  iter : wr.heap[w.heap.size]? = some (.stringIter (str l) pos)
  own : wr.ownsRow (w.heap.size + 1) 5 1 v o.length (flat encB o)
  below : Below w.heap.size w wr
  eq : unhexFrom (-1) [] l = unhexFrom hi o (l.drop pos)

set_option maxRecDepth 100000 in
set_option maxHeartbeats 4000000 in
theorem octet_Unhex (l : List UInt8) (hl : l.length ≤ 1073741824) (w : World) :
    Calls Tryd.prog 21 #[.string (str l)] w fun e w' => ∃ v', e = .returned (.tuple #[v', .bool (refUnhex [] l).isSome]) ∧ w'.ownsRow w.heap.size 5 1 v' ((refUnhex [] l).getD []).length (flat encB ((refUnhex [] l).getD [])) ∧ Below w.heap.size w w' := by
  rw [← unhexFrom_eq]
  go_enter Tryd.func21, Tryd.ntmps21
  go_wp2_with fail
  go_loopw [4, 5] (fun v h wr => ∃ (hi : Int) (pos : Nat) (o : List UInt8), h = .int .i64 hi ∧ Hid (UH w l v hi wr pos o)) (fun _ _ wr => l.length - iterPos wr w.heap.size)
  case atStart => exact ⟨-1, 0, [], rfl, Lib.hid ⟨by omega, by omega, Nat.zero_le _, Nat.le_refl _, heap_alloc_new w _, World.ownsRow_nil _ _ _ _, (Below.refl _ _).alloc (Nat.le_refl _) _, by rw [List.drop_zero]⟩⟩
  case round =>
    obtain ⟨hi, pos, o, rfl, HU⟩ := hrel
    have hlo := HU.out.lo
    have hup := HU.out.up
    have hip : Hid (iterPos wr w.heap.size = pos) := by unfold iterPos; rw [HU.out.iter]; exact Lib.hid rfl
    by_cases hlt : pos < l.length
    · have hps : pos < (str l).size := by rw [str_size]; exact hlt
      obtain ⟨c, hc0⟩ : ∃ c : UInt8, l[pos]'hlt = c := ⟨_, rfl⟩
      have hdr : l.drop pos = c :: l.drop (pos + 1) := by rw [List.drop_eq_getElem_cons hlt, hc0]
      have hgs := get_str l pos hlt
      rw [hc0] at hgs
      by_cases hb : 128 ≤ c.toNat
      · have hnx := fun ty => Lib.run_next_any_at (P := Tryd.prog) wr w.heap.size (str l) pos ty HU.out.iter hps
        obtain ⟨d1, d2⟩ := decode_big (str l) pos (by rw [hgs]; exact hb)
        have HE : Hid (unhexFrom (-1) [] l = none) := by
          rw [HU.out.eq, hdr, unhexFrom, if_pos (by rw [dig_big hb]; omega)]; exact Lib.hid rfl
        have HB := Lib.hid (Lib.below_iterAt HU.out.below (Nat.le_refl _) (str l) (pos + (Utf8.decode (str l) pos).2))
        generalize Utf8.decode (str l) pos = q at d1 d2 hnx HB
        obtain ⟨q1, q2⟩ := q
        simp only at d1 d2 hnx HB
        have HD := Lib.hid fun W => octet_digit (q1 : Int) (by omega) (by omega) W
        rw [if_neg (by omega)] at HD
        clear hc0 hdr hgs
        go_wp2_with fail
        refine (HD.out _).mono ?_
        rintro e w1 ⟨rfl, hb1⟩
        go_wp2_with fail
        refine bodyPost_ret (v := .tuple #[.slice none 0 0, .bool false]) ?_ rfl ⟨.slice none 0 0, by rw [HE.out]; rfl, by rw [HE.out]; exact World.ownsRow_nil _ _ _ _, HB.out.trans (hb1.mono HB.out.size)⟩
        simp [results, Tryd.results21, go_sem]
      · have hc1 : (str l)[pos].toNat < 128 := by rw [str_get, hc0]; omega
        have hnx := fun ty => Lib.run_next_ascii_at (P := Tryd.prog) wr w.heap.size (str l) pos ty HU.out.iter hps hc1
        have hcc : (str l)[pos].toNat = c.toNat := by rw [str_get, hc0]
        rw [hcc] at hnx
        have HB := Lib.hid (Lib.below_iterAt HU.out.below (Nat.le_refl _) (str l) (pos + 1))
        have HO := Lib.hid (owns_iter HU.out.own HU.out.iter (pos + 1))
        have HI := Lib.hid (iterAt_pos HU.out.iter (pos + 1))
        have HD := Lib.hid fun W => octet_digit (c.toNat : Int) (by omega) (by omega) W
        rw [if_pos (by omega), show UInt8.ofNat (c.toNat : Int).toNat = c by simp] at HD
        have hol := HU.out.len
        obtain ⟨hd1, hd2⟩ := dig_bounds c
        have HE : Hid (unhexFrom (-1) [] l = if dig c < 0 then none else if hi < 0 then unhexFrom (dig c) o (l.drop (pos + 1)) else unhexFrom (-1) (o ++ [UInt8.ofNat (hi.toNat * 16 + (dig c).toNat)]) (l.drop (pos + 1))) := by
          rw [HU.out.eq, hdr, unhexFrom]; exact Lib.hid rfl
        have hc2 : c.toNat < 128 := by omega
        clear hc0 hdr hgs hb hc1 hcc
        generalize dig c = d at hd1 hd2 HE HD
        generalize c.toNat = cn at hnx hc2 HD
        by_cases hdn : d < 0
        · go_wp2_with fail
          refine (HD.out _).mono ?_
          rintro e w1 ⟨rfl, hb1⟩
          go_wp2_with fail
          refine bodyPost_ret (v := .tuple #[.slice none 0 0, .bool false]) ?_ rfl ⟨.slice none 0 0, by rw [HE.out, if_pos (by omega)]; rfl, by rw [HE.out, if_pos (by omega)]; exact World.ownsRow_nil _ _ _ _, HB.out.trans (hb1.mono HB.out.size)⟩
          simp [results, Tryd.results21, go_sem]
        by_cases hhn : hi < 0
        · go_wp2_with fail
          refine (HD.out _).mono ?_
          rintro e w1 ⟨rfl, hb1⟩
          go_wp2_with fail
          have hk1 : w1.heap[w.heap.size]? = some (.stringIter (str l) (pos + 1)) := (hb1.block _ (Array.getElem?_eq_some_iff.1 HI.out.1).1).trans HI.out.1
          refine ⟨⟨d, pos + 1, o, rfl, Lib.hid ⟨hd1, hd2, hlt, by omega, hk1, owns_below HO.out hb1 (Nat.le_refl _), HB.out.trans (hb1.mono HB.out.size), by rw [HE.out, if_neg (by omega), if_pos (by omega)]⟩⟩, ?_⟩
          rw [hip.out]
          unfold iterPos
          rw [hk1]
          simp only
          omega
        · obtain ⟨a, rfl⟩ : ∃ a : Nat, hi = a := ⟨hi.toNat, by omega⟩
          obtain ⟨b, rfl⟩ : ∃ b : Nat, d = b := ⟨d.toNat, by omega⟩
          have hor := or16 ⟨a, by omega⟩ ⟨b, by omega⟩
          simp only at hor
          go_wp2_with fail
          refine (HD.out _).mono ?_
          rintro e w1 ⟨rfl, hb1⟩
          have HB1 := Lib.hid hb1
          have HO1 := Lib.hid (owns_below HO.out hb1 (Nat.le_refl _))
          clear hb1
          have hz1 : w.heap.size + 1 ≤ w1.heap.size := by
            have h1 := (Array.getElem?_eq_some_iff.1 HI.out.1).1
            have h2 := HB1.out.size
            omega
          go_wp2_with (at_builtin; go_loud (refine wpList_app elemB rfl (.tmp 16) (.tmp 22) rfl (w.heap.size + 1) u4 _ _ rfl HO1.out 1 1 [.int .u8 _] rfl rfl (by simp [Value.oneCell']) (by omega) hz1 ?_; intro v4 w4 hown4 _ _ hb4))
          have hk1 : w4.heap[w.heap.size]? = some (.stringIter (str l) (pos + 1)) := (hb4.block _ (by omega)).trans ((HB1.out.block _ (Array.getElem?_eq_some_iff.1 HI.out.1).1).trans HI.out.1)
          refine ⟨⟨-1, pos + 1, o ++ [UInt8.ofNat (a * 16 + b)], rfl, Lib.hid ⟨by omega, by omega, hlt, by simp; omega, hk1, ?_, ?_, ?_⟩⟩, ?_⟩
          · have e1 : ((UInt8.ofNat (a * 16 + b)).toNat : Int) = (a : Int) * 16 + b := by rw [UInt8.toNat_ofNat']; omega
            have e2 : flat encB [UInt8.ofNat (a * 16 + b)] = [.int .u8 ((a : Int) * 16 + b)] := by
              show [Value.int .u8 ((UInt8.ofNat (a * 16 + b)).toNat : Int)] = _
              rw [e1]
            rw [flat_append, List.length_append, e2]
            exact hown4
          · exact (HB.out.trans (HB1.out.mono HB.out.size)).trans (hb4.mono (Nat.le_succ _))
          · rw [HE.out, if_neg (by omega), if_neg (by omega)]; rfl
          · rw [hip.out]
            unfold iterPos
            rw [hk1]
            simp only
            omega
    · have hps : ¬ pos < (str l).size := by rw [str_size]; exact hlt
      have hnx := fun ty => Lib.run_next_end_at (P := Tryd.prog) wr w.heap.size (str l) pos ty HU.out.iter hps
      have HE : Hid (unhexFrom (-1) [] l = if 0 ≤ hi then none else some o) := by
        rw [HU.out.eq, List.drop_eq_nil_of_le (by omega)]; exact Lib.hid rfl
      by_cases hh : 0 ≤ hi
      · go_wp2_with fail
        refine bodyPost_ret (v := .tuple #[.slice none 0 0, .bool false]) ?_ rfl ⟨.slice none 0 0, by rw [HE.out, if_pos (by omega)]; rfl, by rw [HE.out, if_pos (by omega)]; exact World.ownsRow_nil _ _ _ _, HU.out.below⟩
        simp [results, Tryd.results21, go_sem]
      · go_wp2_with fail
        refine bodyPost_ret (v := .tuple #[u4, .bool true]) ?_ rfl ⟨u4, by rw [HE.out, if_neg (by omega)]; rfl, by rw [HE.out, if_neg (by omega)]; exact owns_base HU.out.own (Nat.le_succ _), HU.out.below⟩
        simp [results, Tryd.results21, go_sem]
end Go.Proofs.YtlefkmgcahpobaaDoor
