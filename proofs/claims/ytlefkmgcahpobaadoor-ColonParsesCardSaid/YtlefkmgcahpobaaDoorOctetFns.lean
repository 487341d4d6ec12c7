/- octet's functions: Cut, Get; the document's there, Cut, Get. -/
import Derived.Test.YtlefkmgcahpobaaDoorOctetStr
import Derived.Test.YtlefkmgcahpobaaDoorShelf
import Derived.Laws.Bits64b
import Derived.WalkSpells
namespace Go.Proofs.YtlefkmgcahpobaaDoor
set_option linter.unusedVariables false
set_option linter.unusedSimpArgs false
open Go.RowKit Go.Shelf Go.Proofs Go.OctetPlain

theorem elemB : ElemOk Tryd.prog 22 5 1 1 := .mk Tryd.underlying22 (z := .int .u8 0) (by kernel_rfl) (by omega) (by omega) rfl

theorem RdP.cells {α : Type} {w : World} {k : Nat} {enc : α → List Value} (hk : ∀ x, (enc x).length = k) (h0 : 0 < k) {a : Addr} {xs : List α} (h : RdP w k enc (some a) xs) : ∀ j u, (flat enc xs)[j]? = some u → w.cell? ⟨a.block, a.off + j, none⟩ = some u := by
  intro j u hu
  obtain ⟨_, _, hcell⟩ := h.2 _ rfl
  have hjl : j < (flat enc xs).length := (List.getElem?_eq_some_iff.1 hu).1
  rw [flat_length hk] at hjl
  have hi' : j / k < xs.length := Nat.div_lt_of_lt_mul (by rw [Nat.mul_comm]; exact hjl)
  have hm : j % k < (enc xs[j / k]).length := by rw [hk]; exact Nat.mod_lt _ h0
  have hfl := flat_at hk (List.getElem?_eq_getElem hi') (List.getElem?_eq_getElem hm)
  have hj : j / k * k + j % k = j := by rw [Nat.mul_comm]; exact Nat.div_add_mod j k
  rw [hj, hu] at hfl
  have := hcell _ _ (List.getElem?_eq_getElem hi') _ _ ((List.getElem?_eq_getElem hm).trans hfl.symm)
  rw [← this]
  congr 1
  simp only [Addr.mk.injEq, true_and, and_true]
  omega

theorem cloneB_any (l : List UInt8) (hl : l.length ≤ 1073741824) (v : Value) (w : World) (hv : SlR w 1 encB v l) :
    Calls Tryd.prog 44 #[v] w (RetRow w.heap.size 5 1 l.length (flat encB l) w) := by
  obtain ⟨p, cap, rfl, hc1, hc2, hR⟩ := hv
  cases p with
  | none =>
    have h0 := hR.1 rfl
    have hl0 : l = [] := List.eq_nil_of_length_eq_zero h0
    subst hl0
    have hcon := AnyE.slices_Clone_nil Tryd.cloneB 0 cap w
    change Calls Tryd.prog 44 _ _ _ at hcon
    refine hcon.mono ?_
    rintro e w' ⟨rfl, rfl⟩
    exact ⟨_, rfl, World.ownsRow_nil _ _ _ _, Below.refl _ _⟩
  | some a =>
    obtain ⟨hsp, _, _⟩ := hR.2 a rfl
    obtain ⟨_, _, _, i0, z, hi, hz, hsz, hby, hzs⟩ := elemB
    have hcon := AnyE.slices_Clone Tryd.cloneB i0 z 1 1 hi hz hsz hby hzs (by omega) Tryd.sizeOf5 a.block a.off l.length cap (flat encB l) w (flat_length encB_len l) (by unfold maxLen; omega) (by omega) (hR.cells encB_len (by omega)) (by intro u hu; simp only [flat, List.mem_flatMap] at hu; obtain ⟨y, _, hy⟩ := hu; exact encB_one y u hy)
    change Calls Tryd.prog 44 _ _ _ at hcon
    have ha : a = ⟨a.block, a.off, none⟩ := by cases a; simp_all
    rw [ha]
    refine hcon.mono ?_
    rintro e w' ⟨v', rfl, ho, _, hb⟩
    exact ⟨v', rfl, ho, hb⟩

/-- a window of a slice -/
theorem RdP.window {α : Type} {w : World} {k : Nat} {enc : α → List Value} {a : Addr} {xs : List α} (h : RdP w k enc (some a) xs) (i n : Nat) : RdP w k enc (some ⟨a.block, a.off + i * k, none⟩) ((xs.drop i).take n) := by
  obtain ⟨h6, h7, h8⟩ := h.2 a rfl
  refine ⟨(fun e => by cases e), fun b hb => ?_⟩
  cases hb
  refine ⟨rfl, h7, fun j x hx m u hu => ?_⟩
  have hx' : xs[i + j]? = some x := by
    rw [List.getElem?_take] at hx
    split at hx
    · rw [List.getElem?_drop] at hx; exact hx
    · cases hx
  have := h8 (i + j) x hx' m u hu
  rw [← this]
  congr 2
  simp only [Nat.add_mul]; omega
/-- 'b[i:j:j]' -/
theorem SlR.cut {w : World} {p : Option Addr} {l : List UInt8} (h : RdP w 1 encB p l) {k size : Int} (ht : there l.length k size) (hl : l.length ≤ 1073741824) :
    SlR w 1 encB (sliced p k.toNat (k + size).toNat (k + size).toNat 1) (cutL l k size) := by
  have hlen := cutL_length ht
  have ht' := ht
  unfold there at ht'
  unfold sliced
  by_cases h0 : (k + size).toNat = k.toNat
  · rw [if_pos h0, h0]
    have e : cutL l k size = [] := List.eq_nil_of_length_eq_zero (by rw [hlen]; omega)
    rw [e]
    refine ⟨p, 0, by simp, Nat.le_refl _, by omega, fun _ => rfl, fun a ha => ?_⟩
    obtain ⟨h1, h2, _⟩ := h.2 a ha
    exact ⟨h1, h2, fun i x hx => by simp at hx⟩
  · rw [if_neg h0]
    refine ⟨p.map (·.add (k.toNat * 1)), size.toNat, by rw [hlen]; congr 1 <;> omega, by rw [hlen]; exact Nat.le_refl _, by omega, ?_⟩
    cases p with
    | none =>
      have := h.1 rfl
      omega
    | some a =>
      have hw := h.window k.toNat size.toNat
      rw [cutL_of ht]
      have ha := (h.2 a rfl).1
      simp only [Option.map_some]
      rw [show a.add (k.toNat * 1) = ⟨a.block, a.off + k.toNat * 1, none⟩ by cases a; simp only at ha; subst ha; unfold Addr.add; split <;> simp_all]
      exact hw

set_option maxRecDepth 100000 in
theorem octet_Cut (l : List UInt8) (hl : l.length ≤ 1073741824) (k size : Int) (hk : -9223372036854775808 ≤ k ∧ k ≤ 9223372036854775807) (hs : -9223372036854775808 ≤ size ∧ size ≤ 9223372036854775807) (v : Value) (w : World) (hv : SlR w 1 encB v l) :
    Calls Tryd.prog 17 #[v, .int .i64 k, .int .i64 size] w fun e w' => ∃ v', e = .returned (.tuple #[v', .bool (decide (there l.length k size))]) ∧ w'.ownsRow w.heap.size 5 1 v' (cutL l k size).length (flat encB (cutL l k size)) ∧ Below w.heap.size w w' := by
  obtain ⟨p, cap, rfl, hc1, hc2, hR⟩ := hv
  by_cases ht : there l.length k size
  · have HS := Lib.hid (SlR.cut hR ht hl)
    have HC := Lib.hid fun v' h => cloneB_any (cutL l k size) (by have := cutL_le l k size; omega) v' w h
    have hd : decide (there l.length k size) = true := decide_eq_true ht
    rw [hd]
    unfold there at ht
    obtain ⟨h1, h2, h3, h4⟩ := ht
    have e1 : IntKind.i64.wrap ((l.length : Int) - k) = (l.length : Int) - k := IntWalk.i64_in _ (by omega)
    have e2 : IntKind.i64.wrap (k + size) = k + size := IntWalk.i64_in _ (by omega)
    clear hd
    by_cases h0 : size = 0
    · go_enter Tryd.func17, Tryd.ntmps17
      go_wp2_with fail
      refine (HC.out _ (by have := HS.out; subst h0; simpa [sliced] using this)).mono ?_
      rintro e w' ⟨v', rfl, ho, hb⟩
      go_wp2_with fail
      exact bodyPost_ret (v := .tuple #[v', .bool true]) (by simp [results, Tryd.results17, go_sem]) rfl ⟨v', rfl, ho, hb⟩
    · have h5 : ¬ (k + size).toNat = k.toNat := by omega
      go_enter Tryd.func17, Tryd.ntmps17
      go_wp2_with fail
      refine (HC.out _ (by have := HS.out; simpa [sliced, h5] using this)).mono ?_
      rintro e w' ⟨v', rfl, ho, hb⟩
      go_wp2_with fail
      exact bodyPost_ret (v := .tuple #[v', .bool true]) (by simp [results, Tryd.results17, go_sem]) rfl ⟨v', rfl, ho, hb⟩
  · have hd : decide (there l.length k size) = false := decide_eq_false ht
    have hc : cutL l k size = [] := by unfold cutL; rw [if_neg ht]
    rw [hd, hc]
    unfold there at ht
    clear hd hc
    by_cases h1 : k < 0
    · go_enter Tryd.func17, Tryd.ntmps17
      go_wp2_with fail
      exact bodyPost_ret (v := .tuple #[.slice none 0 0, .bool false]) (by simp [results, Tryd.results17, go_sem]) rfl ⟨_, rfl, World.ownsRow_nil _ _ _ _, Below.refl _ _⟩
    by_cases h2 : size < 0
    · go_enter Tryd.func17, Tryd.ntmps17
      go_wp2_with fail
      exact bodyPost_ret (v := .tuple #[.slice none 0 0, .bool false]) (by simp [results, Tryd.results17, go_sem]) rfl ⟨_, rfl, World.ownsRow_nil _ _ _ _, Below.refl _ _⟩
    by_cases h3 : (l.length : Int) < k
    · go_enter Tryd.func17, Tryd.ntmps17
      go_wp2_with fail
      exact bodyPost_ret (v := .tuple #[.slice none 0 0, .bool false]) (by simp [results, Tryd.results17, go_sem]) rfl ⟨_, rfl, World.ownsRow_nil _ _ _ _, Below.refl _ _⟩
    have e1 : IntKind.i64.wrap ((l.length : Int) - k) = (l.length : Int) - k := IntWalk.i64_in _ (by omega)
    have h4 : (l.length : Int) - k < size := by omega
    clear ht
    go_enter Tryd.func17, Tryd.ntmps17
    go_wp2_with fail
    exact bodyPost_ret (v := .tuple #[.slice none 0 0, .bool false]) (by simp [results, Tryd.results17, go_sem]) rfl ⟨_, rfl, World.ownsRow_nil _ _ _ _, Below.refl _ _⟩
end Go.Proofs.YtlefkmgcahpobaaDoor
