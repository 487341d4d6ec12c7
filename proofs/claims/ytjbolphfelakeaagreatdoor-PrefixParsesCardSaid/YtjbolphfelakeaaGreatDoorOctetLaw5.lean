/- The laws of layer 1: Back. -/
import Derived.Test.YtjbolphfelakeaaGreatDoorOctetLaw4
namespace Go.Proofs.YtjbolphfelakeaaGreatDoor
set_option linter.unusedVariables false
set_option linter.unusedSimpArgs false
open Go.RowKit Go.Shelf Go.Proofs Go.OctetPlain

theorem shl_mod (x : Nat) (q : Int) (h0 : 0 ≤ q) (h7 : q < 7) : ¬ IntKind.u64.wrap (2 ^ (8 * (q + 1)).toNat) = 0 ∧ (x : Int) % IntKind.u64.wrap (2 ^ (8 * (q + 1)).toNat) = ((x % 256 ^ (q + 1).toNat : Nat) : Int) := by
  have e : (2 : Int) ^ (8 * (q + 1)).toNat = ((256 ^ (q + 1).toNat : Nat) : Int) := by
    rw [show (8 * (q + 1)).toNat = 8 * (q + 1).toNat by omega, pow_8]
  have hb : 256 ^ (q + 1).toNat ≤ 256 ^ 7 := Nat.pow_le_pow_right (by omega) (by omega)
  have hp : 0 < 256 ^ (q + 1).toNat := Nat.pow_pos (by omega)
  have hw : IntKind.u64.wrap (((256 ^ (q + 1).toNat : Nat) : Int)) = ((256 ^ (q + 1).toNat : Nat) : Int) := IntWalk.u64_in _ (by omega)
  rw [e, hw]
  exact ⟨by omega, (Int.natCast_emod _ _).symm⟩
theorem takeB {W : World} {p : Option Addr} {l : List UInt8} (h : RdP W 1 encB p l) {k cap : Nat} (hk : k ≤ l.length) (hc : l.length ≤ cap) (hm : cap ≤ 9223372036854775807) : SlR W 1 encB (.slice p k cap) (l.take k) := by
  have e : (l.take k).length = k := by rw [List.length_take]; omega
  refine ⟨p, cap, by rw [e], by omega, hm, ?_, fun a ha => ?_⟩
  · intro hp
    have := h.1 hp
    omega
  · obtain ⟨h1, h2, h3⟩ := h.2 a ha
    refine ⟨h1, h2, fun i x hx j u hu => h3 i x ?_ j u hu⟩
    rw [List.getElem?_take] at hx
    split at hx
    · exact hx
    · cases hx
theorem dropB {W : World} {p : Option Addr} {l : List UInt8} (h : RdP W 1 encB p l) {k cap : Nat} (hk : k ≤ l.length) (hc : l.length ≤ cap) (hm : cap ≤ 9223372036854775807) : SlR W 1 encB (.slice (if cap = k then p else p.map (fun x => x.add k)) (l.length - k) (cap - k)) (l.drop k) := by
  have e : (l.drop k).length = l.length - k := List.length_drop
  refine ⟨if cap = k then p else p.map (fun x => x.add k), cap - k, by rw [e], by omega, by omega, ?_⟩
  by_cases hck : cap = k
  · rw [if_pos hck]
    have h0 : l.drop k = [] := List.eq_nil_of_length_eq_zero (by omega)
    rw [h0]
    exact ⟨fun _ => rfl, fun a ha => ⟨(h.2 a ha).1, (h.2 a ha).2.1, fun i x hx => by simp at hx⟩⟩
  · rw [if_neg hck]
    cases p with
    | none => exact ⟨fun _ => by have := h.1 rfl; omega, fun a ha => by cases ha⟩
    | some a =>
      refine ⟨(fun e => by cases e), fun b hb => ?_⟩
      obtain ⟨h1, h2, h3⟩ := h.2 a rfl
      simp only [Option.map_some, Option.some.injEq] at hb
      have hadd : a.add k = ⟨a.block, a.off + k, none⟩ := by cases a; simp only at h1; subst h1; unfold Addr.add; split <;> simp_all
      rw [hadd] at hb
      subst hb
      refine ⟨rfl, h2, fun i x hx j u hu => ?_⟩
      rw [List.getElem?_drop] at hx
      have := h3 (k + i) x hx j u hu
      rw [← this]
      congr 2
      simp only [Nat.mul_one]; omega
theorem num_half (m : Int) (h0 : 0 ≤ m) (h : m ≤ 9223372036854775807) : number (Lib.itoa m) m = some m := by
  unfold Lib.itoa
  rw [if_neg (by omega)]
  exact number_some.2 ⟨by omega, by omega, Int.le_refl _, by congr 1⟩
theorem itoa_le (m : Int) (h0 : 0 ≤ m) (h : m ≤ 9223372036854775807) : (Lib.itoa m).length ≤ 1000 := by
  unfold Lib.itoa
  rw [if_neg (by omega), Lib.decDigits_length]
  have := nDigits_le19 m.toNat (by omega)
  omega
/-- three slices of bytes, and nothing older turned -/
structure TB (w : World) (v : Value) (l : List UInt8) (vx : Value) (x : List UInt8) (W : World) : Prop where
  v : SlR W 1 encB v l
  x : SlR W 1 encB vx x
  tabs : Tabs W
  below : Below w.heap.size w W
theorem TB.next {w : World} {v vx : Value} {l x : List UInt8} {W W' : World} (h : TB w v l vx x W) (hb : Below W.heap.size W W') : TB w v l vx x W' :=
  ⟨h.v.below hb (Nat.le_refl _), h.x.below hb (Nat.le_refl _), h.tabs.below hb, h.below.trans (hb.mono h.below.size)⟩

end Go.Proofs.YtjbolphfelakeaaGreatDoor
