/- octet's functions: Cut, Get; the document's there, Cut, Get. -/
import Derived.Test.YtilahcnpjbnjiaaDoorOctetStr
import Derived.Test.YtilahcnpjbnjiaaDoorShelf
import Derived.Laws.Bits64b
import Derived.WalkSpells
namespace Go.Proofs.YtilahcnpjbnjiaaDoor
set_option linter.unusedVariables false
set_option linter.unusedSimpArgs false
open Go.RowKit Go.Shelf Go.Proofs Go.OctetPlain

theorem elemB : ElemOk Tryd.prog 63 5 1 1 := .mk Tryd.underlying63 (z := .int .u8 0) (by kernel_rfl) (by omega) (by omega) rfl

theorem RdP.cells {α : Type} {w : World} {k : Nat} {enc : α → List Value} (hk : ∀ x, (enc x).length = k) (h0 : 0 < k) {a : Addr} {xs : List α} (h : RdP w k enc (some a) xs) : ∀ j u, (flat enc xs)[j]? = some u → w.cell? ⟨a.block, a.off + j, none⟩ = some u := by
  intro j u hu
  obtain ⟨_, _, hcell⟩ := h.2 _ rfl
  have hjl : j < (flat enc xs).length := (List.getElem?_eq_some_iff.1 hu).1
  rw [flat_length hk] at hjl
  have hi' : j / k < xs.length := Nat.div_lt_of_lt_mul (by rw [Nat.mul_comm]; exact hjl)
  have hm : j % k < (enc xs[j / k]).length := by rw [hk]; exact Nat.mod_lt _ h0
  have hfl := flat_at hk (List.getElem?_eq_getElem hi') (List.getElem?_eq_getElem hm)
  have hj : j / k * k + j % k = j := by rw [Nat.mul_comm]; exact Nat.div_add_mod j k
  rw [hj, hu] at hfl
  have := hcell _ _ (List.getElem?_eq_getElem hi') _ _ ((List.getElem?_eq_getElem hm).trans hfl.symm)
  rw [← this]
  congr 1
  simp only [Addr.mk.injEq, true_and, and_true]
  omega

/-- a window of a slice -/
theorem RdP.window {α : Type} {w : World} {k : Nat} {enc : α → List Value} {a : Addr} {xs : List α} (h : RdP w k enc (some a) xs) (i n : Nat) : RdP w k enc (some ⟨a.block, a.off + i * k, none⟩) ((xs.drop i).take n) := by
  obtain ⟨h6, h7, h8⟩ := h.2 a rfl
  refine ⟨(fun e => by cases e), fun b hb => ?_⟩
  cases hb
  refine ⟨rfl, h7, fun j x hx m u hu => ?_⟩
  have hx' : xs[i + j]? = some x := by
    rw [List.getElem?_take] at hx
    split at hx
    · rw [List.getElem?_drop] at hx; exact hx
    · cases hx
  have := h8 (i + j) x hx' m u hu
  rw [← this]
  congr 2
  simp only [Nat.add_mul]; omega
/-- 'b[i:j:j]' -/
theorem SlR.cut {w : World} {p : Option Addr} {l : List UInt8} (h : RdP w 1 encB p l) {k size : Int} (ht : there l.length k size) (hl : l.length ≤ 1073741824) :
    SlR w 1 encB (sliced p k.toNat (k + size).toNat (k + size).toNat 1) (cutL l k size) := by
  have hlen := cutL_length ht
  have ht' := ht
  unfold there at ht'
  unfold sliced
  by_cases h0 : (k + size).toNat = k.toNat
  · rw [if_pos h0, h0]
    have e : cutL l k size = [] := List.eq_nil_of_length_eq_zero (by rw [hlen]; omega)
    rw [e]
    refine ⟨p, 0, by simp, Nat.le_refl _, by omega, fun _ => rfl, fun a ha => ?_⟩
    obtain ⟨h1, h2, _⟩ := h.2 a ha
    exact ⟨h1, h2, fun i x hx => by simp at hx⟩
  · rw [if_neg h0]
    refine ⟨p.map (·.add (k.toNat * 1)), size.toNat, by rw [hlen]; congr 1 <;> omega, by rw [hlen]; exact Nat.le_refl _, by omega, ?_⟩
    cases p with
    | none =>
      have := h.1 rfl
      omega
    | some a =>
      have hw := h.window k.toNat size.toNat
      rw [cutL_of ht]
      have ha := (h.2 a rfl).1
      simp only [Option.map_some]
      rw [show a.add (k.toNat * 1) = ⟨a.block, a.off + k.toNat * 1, none⟩ by cases a; simp only at ha; subst ha; unfold Addr.add; split <;> simp_all]
      exact hw

end Go.Proofs.YtilahcnpjbnjiaaDoor
