/- octet.Put. -/
import Derived.Test.YtlefkmgcahpobaaDoorOctetFns2
namespace Go.Proofs.YtlefkmgcahpobaaDoor
set_option linter.unusedVariables false
set_option linter.unusedSimpArgs false
open Go.RowKit Go.Shelf Go.Proofs Go.OctetPlain

theorem flat_map (l : List UInt8) : flat encB l = l.map fun c => .int .u8 (c.toNat : Int) := by
  induction l with
  | nil => rfl
  | cons c r ih => simp only [flat, List.flatMap_cons, encB, List.map_cons] at ih ⊢; rw [ih]; rfl
theorem flat_set (l : List UInt8) (i : Nat) (c : UInt8) : (flat encB l).set i (.int .u8 (c.toNat : Int)) = flat encB (l.set i c) := by
  rw [flat_map, flat_map, List.map_set]

/-- Put, behind j bytes -/
def putPart (l : List UInt8) (k s x j : Nat) : List UInt8 := l.take k ++ (OctetPlain.bytes x s).take j ++ l.drop (k + j)
theorem putPart_length {l : List UInt8} {k s x j : Nat} (hk : k + s ≤ l.length) (hj : j ≤ s) : (putPart l k s x j).length = l.length := by
  unfold putPart
  rw [List.length_append, List.length_append, List.length_take, List.length_take, List.length_drop, bytes_length]
  omega
theorem putPart_zero (l : List UInt8) (k s x : Nat) : putPart l k s x 0 = l := by unfold putPart; simp
theorem putPart_next {l : List UInt8} {k s x j : Nat} (hk : k + s ≤ l.length) (hj : j < s) : (putPart l k s x j).set (k + j) (UInt8.ofNat (x / 256 ^ (s - 1 - j) % 256)) = putPart l k s x (j + 1) := by
  unfold putPart
  have h1 : (l.take k ++ (OctetPlain.bytes x s).take j).length = k + j := by rw [List.length_append, List.length_take, List.length_take, bytes_length]; omega
  rw [List.set_append_right _ _ (by rw [h1]; exact Nat.le_refl _), h1, Nat.sub_self, List.drop_eq_getElem_cons (show k + j < l.length by omega), List.set_cons_zero, bytes_take s x j hj]
  simp [Nat.add_assoc]
theorem putPart_end {l : List UInt8} {k size : Int} {x : Nat} (h : putOk l.length k size x) : putPart l k.toNat size.toNat x size.toNat = putL l k size x := by
  have h' := h.1.1
  unfold there at h'
  unfold putL putPart
  rw [if_pos h, List.take_of_length_le (l := OctetPlain.bytes x size.toNat) (by rw [bytes_length]; exact Nat.le_refl _)]
  congr 2
  omega

theorem pow_8 (n : Nat) : (2 : Int) ^ (8 * n) = ((256 ^ n : Nat) : Int) := by
  rw [Int.pow_mul]
  simp
theorem shr_out (x : Nat) (size : Int) (h1 : 1 ≤ size) (h2 : size < 8) : ((x : Int) / 2 ^ (8 * size).toNat = 0) ↔ x < 256 ^ size.toNat := by
  rw [show (8 * size).toNat = 8 * size.toNat by omega, pow_8]
  have hp : 0 < 256 ^ size.toNat := Nat.pow_pos (by omega)
  constructor
  · intro h
    have : x / 256 ^ size.toNat = 0 := by exact_mod_cast h
    rcases Nat.div_eq_zero_iff.1 this with h | h
    · omega
    · exact h
  · intro h
    have : x / 256 ^ size.toNat = 0 := Nat.div_eq_of_lt h
    exact_mod_cast this
theorem shr_byte (x : Nat) (size : Int) (j : Nat) (h1 : 1 ≤ size) (h2 : size ≤ 8) (hj : (j : Int) < size) :
    ((x : Int) / 2 ^ (8 * (size - 1 - j)).toNat) % 256 = ((UInt8.ofNat (x / 256 ^ (size.toNat - 1 - j) % 256)).toNat : Int) := by
  rw [show (8 * (size - 1 - j)).toNat = 8 * (size.toNat - 1 - j) by omega, pow_8, UInt8.toNat_ofNat']
  rw [show (x / 256 ^ (size.toNat - 1 - j) % 256) % 2 ^ 8 = x / 256 ^ (size.toNat - 1 - j) % 256 by omega, ← Int.natCast_ediv]
  exact (Int.natCast_emod _ 256).symm
theorem owns_some {w : World} {v : Value} {l : List UInt8} {B : Nat} {e : TypeId} (h : w.ownsRow B e 1 v l.length (flat encB l)) (h0 : 0 < l.length) :
    ∃ g cap, v = .slice (some ⟨g, 0, none⟩) l.length cap ∧ l.length ≤ cap ∧ B ≤ g ∧ g < w.heap.size := by
  rcases h.2 with ⟨rfl, h1⟩ | ⟨g, cap, cur, rfl, hb, hg, hn, _⟩
  · omega
  · exact ⟨g, cap, rfl, hn, hb, (Array.getElem?_eq_some_iff.1 hg).1⟩

set_option maxRecDepth 100000 in
set_option maxHeartbeats 2000000 in
theorem octet_Put (l : List UInt8) (hl : l.length ≤ 1073741824) (k size : Int) (hk : -9223372036854775808 ≤ k ∧ k ≤ 9223372036854775807) (hs : -9223372036854775808 ≤ size ∧ size ≤ 9223372036854775807) (x : Nat) (hx : x < 18446744073709551616) (v : Value) (w : World) (hv : SlR w 1 encB v l) :
    Calls Tryd.prog 19 #[v, .int .i64 k, .int .i64 size, .int .u64 x] w fun e w' => ∃ v', e = .returned (.tuple #[v', .bool (decide (putOk l.length k size x))]) ∧ w'.ownsRow w.heap.size 5 1 v' (putL l k size x).length (flat encB (putL l k size x)) ∧ Below w.heap.size w w' := by
  have HG := Lib.hid (octet_Get l hl k size hk hs v w hv)
  have HV := Lib.hid hv
  have hok : putOk l.length k size x ↔ getOk l.length k size ∧ x < 256 ^ size.toNat := Iff.rfl
  obtain ⟨p0, cap0, rfl, _, _, _⟩ := hv
  by_cases hg : getOk l.length k size
  · have HD := Lib.hid (decide_eq_true hg)
    have hg' := hg
    unfold getOk there at hg'
    by_cases hf : x < 256 ^ size.toNat
    · have hp := hok.2 ⟨hg, hf⟩
      have HP := Lib.hid hp
      have hlen := putL_length hp
      have HE := Lib.hid (putPart_end hp)
      have e1 : IntKind.i64.wrap (8 * size) = 8 * size := IntWalk.i64_in _ (by omega)
      have e2 : size < 8 → (x : Int) / 2 ^ (8 * size).toNat = 0 := fun h => (shr_out x size (by omega) h).2 hf
      have hpos : 0 < l.length := by omega
      rw [decide_eq_true hp, ← HE.out]
      clear hp hok hg HE
      generalize getN l k size = n0 at HG
      by_cases h8 : size < 8
      all_goals
        have HG := HG
        go_enter Tryd.func19, Tryd.ntmps19
        go_wp2_with fail
        refine HG.out.mono ?_
        rintro e w1 ⟨rfl, hb1⟩
        rw [HD.out]
        have hsv := HV.out.below hb1 (Nat.le_refl _)
        have HB1 := Lib.hid hb1
        clear hb1
        first | have e3 := e2 h8 | have e3 := e1
        go_wp2_with fail
        refine (cloneB_any l hl _ _ hsv).mono ?_
        rintro e w2 ⟨v2, rfl, hrow, hb2⟩
        obtain ⟨g, cap, rfl, hcap, hgB, hgs⟩ := owns_some hrow hpos
        have HR := Lib.hid hrow
        have HB2 := Lib.hid hb2
        clear hrow hb2
        go_wp2_with fail
        go_loopw [37] (fun i wr => ∃ j : Nat, (j : Int) ≤ size ∧ i = .int .i64 j ∧ Hid (wr.ownsRow w1.heap.size 5 1 (.slice (some ⟨g, 0, none⟩) l.length cap) l.length (flat encB (putPart l k.toNat size.toNat x j)) ∧ Below w.heap.size w wr)) (fun i _ => size.toNat - (intOf i).toNat)
        case atStart => exact ⟨0, by omega, rfl, Lib.hid ⟨by rw [putPart_zero]; exact HR.out, HB1.out.trans (HB2.out.mono HB1.out.size)⟩⟩
        case round =>
          obtain ⟨j, hj, rfl, HI⟩ := hrel
          by_cases hlt : (j : Int) < size
          · obtain ⟨u, q1⟩ : ∃ u, wr.cell? ⟨g, (k + j).toNat, none⟩ = some u := by
              have h := HI.out.1.cellAt (k + j).toNat (by omega)
              rw [flat_map, List.getElem?_map, List.getElem?_eq_getElem (by rw [putPart_length (by omega) (by omega)]; omega)] at h
              exact ⟨_, h⟩
            have q2 : wr.frozen? ⟨g, (k + j).toNat, none⟩ = false := HI.out.1.frozenAt _
            have q3 := shr_byte x size j (by omega) (by omega) hlt
            go_wp2_with fail
            refine ⟨⟨j + 1, by omega, by go_num, Lib.hid ⟨?_, ?_⟩⟩, by simp [intOf]; omega⟩
            · have hst := (HI.out.1.stored (k + j).toNat (.int .u8 ((UInt8.ofNat (x / 256 ^ (size.toNat - 1 - j) % 256)).toNat : Int))).1
              rw [flat_set, show (k + (j : Int)).toNat = k.toNat + j by omega, putPart_next (by omega) (by omega)] at hst
              rw [show (k + (j : Int)).toNat = k.toNat + j by omega]
              simpa using hst
            · exact HI.out.2.setCell (p := ⟨g, (k + j).toNat, none⟩) (Nat.le_trans HB1.out.size hgB) _
          · go_wp2_with fail
            have hj' : j = size.toNat := by omega
            refine bodyPost_ret (v := .tuple #[.slice (some ⟨g, 0, none⟩) l.length cap, .bool true]) (by simp [results, Tryd.results19, go_sem]) rfl ⟨_, rfl, ?_, HI.out.2⟩
            rw [putPart_length (by omega) (Nat.le_refl _)]
            have hf := HI.out.1
            rw [hj'] at hf
            exact owns_base hf HB1.out.size
    · have hno : ¬ putOk l.length k size x := fun h => hf (hok.1 h).2
      have h8 : size < 8 := by
        rcases Int.lt_or_le size 8 with h | h
        · exact h
        · have : size = 8 := by omega
          subst this
          exact absurd hx (by simpa using hf)
      have e1 : IntKind.i64.wrap (8 * size) = 8 * size := IntWalk.i64_in _ (by omega)
      have e2 : ¬ (x : Int) / 2 ^ (8 * size).toNat = 0 := fun h => hf ((shr_out x size (by omega) h8).1 h)
      rw [decide_eq_false hno, show putL l k size x = [] by unfold putL; rw [if_neg hno]]
      clear hno hok hg hf
      generalize getN l k size = n0 at HG
      go_enter Tryd.func19, Tryd.ntmps19
      go_wp2_with fail
      refine HG.out.mono ?_
      rintro e w1 ⟨rfl, hb1⟩
      rw [HD.out]
      go_wp2_with fail
      exact bodyPost_ret (v := .tuple #[.slice none 0 0, .bool false]) (by simp [results, Tryd.results19, go_sem]) rfl ⟨_, rfl, World.ownsRow_nil _ _ _ _, hb1⟩
  · have hno : ¬ putOk l.length k size x := fun h => hg (hok.1 h).1
    have HD := Lib.hid (decide_eq_false hg)
    rw [decide_eq_false hno, show putL l k size x = [] by unfold putL; rw [if_neg hno]]
    clear hno hok hg
    generalize getN l k size = n0 at HG
    go_enter Tryd.func19, Tryd.ntmps19
    go_wp2_with fail
    refine HG.out.mono ?_
    rintro e w1 ⟨rfl, hb1⟩
    rw [HD.out]
    go_wp2_with fail
    exact bodyPost_ret (v := .tuple #[.slice none 0 0, .bool false]) (by simp [results, Tryd.results19, go_sem]) rfl ⟨_, rfl, World.ownsRow_nil _ _ _ _, hb1⟩
end Go.Proofs.YtlefkmgcahpobaaDoor
