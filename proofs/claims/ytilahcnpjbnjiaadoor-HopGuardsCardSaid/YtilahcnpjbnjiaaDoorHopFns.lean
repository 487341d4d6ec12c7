/- The hop package: op, pushed, unpushed, Check, digits. -/
import Derived.Test.YtilahcnpjbnjiaaDoorShelfC
import Derived.Test.YtilahcnpjbnjiaaDoorHopPlain2
import Derived.Test.YtilahcnpjbnjiaaDoorOctetNum2
import Derived.Test.YtilahcnpjbnjiaaDoorBlk
import Derived.Maps.OwnSet
namespace Go.Proofs.YtilahcnpjbnjiaaDoor
set_option linter.unusedVariables false
set_option linter.unusedSimpArgs false
open Go.RowKit Go.Shelf Go.Proofs Go.OctetPlain

/-- a number's cell; a string's -/
def encI (n : Int) : List Value := [.int .i64 n]
theorem encI_len (n : Int) : (encI n).length = 1 := rfl
theorem encI_one (n : Int) : ∀ u ∈ encI n, u.oneCell' = true := by
  intro u hu; simp only [encI, List.mem_singleton] at hu; subst hu; rfl
theorem elemI : ElemOk Tryd.prog 22 3 1 8 := .mk Tryd.underlying22 (z := .int .i64 0) (by kernel_rfl) (by omega) (by omega) rfl
theorem flat_oneI {α : Type} {enc : α → List Value} (h1 : ∀ x, ∀ u ∈ enc x, u.oneCell' = true) (l : List α) : ∀ u ∈ flat enc l, u.oneCell' = true := by
  intro u hu; simp only [flat, List.mem_flatMap] at hu; obtain ⟨y, _, hy⟩ := hu; exact h1 y u hy
def encS (s : List UInt8) : List Value := [.string (str s)]
theorem encS_len (s : List UInt8) : (encS s).length = 1 := rfl
theorem elemS : ElemOk Tryd.prog 42 9 1 16 := .mk Tryd.underlying42 (z := .string ByteArray.empty) (by kernel_rfl) (by omega) (by omega) rfl

theorem hop_op (n : Int) (w : World) :
    Calls Tryd.prog 18 #[.int .i64 n] w fun e w' => e = .returned (.string (str (Hp.opW n))) ∧ Below w.heap.size w w' := by
  by_cases h1 : n < 0
  · have hr : Hid (Hp.opW n = []) := by unfold Hp.opW; rw [if_neg (by omega), if_neg (by omega), if_neg (by omega), if_neg (by omega)]; exact Lib.hid rfl
    rw [hr.out]
    go_enter Tryd.func18, Tryd.ntmps18
    go_wp2_with fail
    go_ret
    exact ⟨rfl, belowA w _⟩
  by_cases h2 : 4 ≤ n
  · have hr : Hid (Hp.opW n = []) := by unfold Hp.opW; rw [if_neg (by omega), if_neg (by omega), if_neg (by omega), if_neg (by omega)]; exact Lib.hid rfl
    rw [hr.out]
    go_enter Tryd.func18, Tryd.ntmps18
    go_wp2_with fail
    go_ret
    exact ⟨rfl, belowA w _⟩
  have hcs : n = 0 ∨ n = 1 ∨ n = 2 ∨ n = 3 := by omega
  rcases hcs with rfl | rfl | rfl | rfl
  all_goals
    clear h1 h2
    go_enter Tryd.func18, Tryd.ntmps18
    go_wp2_with fail
    go_ret
    exact ⟨rfl, belowA w _⟩
theorem hop_pushed (n : Int) (w : World) :
    Calls Tryd.prog 39 #[.int .i64 n] w fun e w' => e = .returned (.bool (Hp.pushed n)) ∧ w' = w := by
  have hr : Hid (Hp.pushed n = (decide (n = 0) || decide (n = 2) || (decide (16 ≤ n) && decide (n ≤ 1048575)))) := Lib.hid rfl
  rw [hr.out]
  by_cases c0 : n = 0
  · subst c0
    go_enter Tryd.func39, Tryd.ntmps39
    go_wp2_with fail
    go_ret
    exact ⟨rfl, rfl⟩
  by_cases c2 : n = 2
  · subst c2
    go_enter Tryd.func39, Tryd.ntmps39
    go_wp2_with fail
    go_ret
    exact ⟨rfl, rfl⟩
  have e0 : (n == 0) = false := by simpa using c0
  have e2 : (n == 2) = false := by simpa using c2
  rw [decide_eq_false c0, decide_eq_false c2, Bool.false_or, Bool.false_or]
  clear c0 c2
  by_cases c3 : 16 ≤ n <;> by_cases c4 : n ≤ 1048575
  all_goals
    simp only [c3, c4, decide_true, decide_false, Bool.and_true, Bool.and_false, Bool.false_and, Bool.true_and]
    first | (have e3 : decide (16 ≤ n) = true := by simpa using c3) | (have e3 : decide (16 ≤ n) = false := by simpa using c3)
    first | (have e4 : decide (n ≤ 1048575) = true := by simpa using c4) | (have e4 : decide (n ≤ 1048575) = false := by simpa using c4)
    go_enter Tryd.func39, Tryd.ntmps39
    go_wp2_with fail
    go_ret
    exact ⟨rfl, rfl⟩
theorem unpushed_closure (n : Int) (w : World) :
    Calls Tryd.prog 38 #[.int .i64 n] w fun e w' => e = .returned (.bool (!Hp.pushed n)) ∧ w' = w := by
  have HC := Lib.hid fun W => hop_pushed n W
  generalize Hp.pushed n = b at *
  go_enter Tryd.func38, Tryd.ntmps38
  go_wp2_with fail
  refine (HC.out _).mono ?_
  rintro e w1 ⟨rfl, hw⟩
  subst hw
  go_wp2_with fail
  go_ret
  exact ⟨rfl, rfl⟩
theorem containsI_any (g : Nat) (lb : Array Value) (q : Int → Bool) (l : List Int) (hl : l.length ≤ 1073741824) (v : Value) (w : World) (hv : SlR w 1 encI v l) (eg : ∀ args w, (callFunc g args).run Tryd.prog w = .ok (.enter g args) w)
    (hq : ∀ (W : World) (x : Int), Below w.heap.size w W → Calls Tryd.prog g (#[.int .i64 x] ++ lb) W fun e w' => e = .returned (.bool (q x)) ∧ w' = W) :
    Calls Tryd.prog 37 #[v, .func (.func g) #[] lb] w fun e w' => e = .returned (.bool (l.any q)) ∧ Below w.heap.size w w' := by
  obtain ⟨p, cap, rfl, hc1, hc2, hR⟩ := hv
  cases p with
  | none =>
    have h0 := hR.1 rfl
    have hl0 : l = [] := List.eq_nil_of_length_eq_zero h0
    subst hl0
    have hcon := AnyE.slices_ContainsFunc_empty Tryd.containsI none cap (.func (.func g) #[] lb) w
    change Calls Tryd.prog 37 _ _ _ at hcon
    exact hcon.mono fun e w' ⟨he, hw⟩ => ⟨he, by rw [hw]; exact Below.refl _ _⟩
  | some a =>
    obtain ⟨hsp, hbk, hcell⟩ := hR.2 a rfl
    have ha : a = ⟨a.block, a.off, none⟩ := by cases a; simp_all
    have hcon := AnyE.slices_ContainsFunc Tryd.containsI (fun x : Int => Value.int .i64 x) q g lb eg a.block a.off l.length cap l w
      (fun W x hW => (hq W x hW).mono fun e w' ⟨he, hw⟩ => ⟨he, 0, by rw [hw]; rfl⟩) (Nat.le_refl _) (by omega)
      (fun j hj => by
        have := hcell j l[j]! (by simp [hj]) 0 (.int .i64 l[j]!) rfl
        simpa using this)
    change Calls Tryd.prog 37 _ _ _ at hcon
    rw [ha]
    rw [List.take_length] at hcon
    refine hcon.mono ?_
    rintro e w' ⟨rfl, q, rfl⟩
    exact ⟨rfl, below_drewN (Below.refl _ _) q⟩
theorem hop_unpushed (l : List Int) (hl : l.length ≤ 1073741824) (v : Value) (w : World) (hv : SlR w 1 encI v l) :
    Calls Tryd.prog 19 #[v] w fun e w' => e = .returned (.bool (!(l.all Hp.pushed))) ∧ Below w.heap.size w w' := by
  have HC := Lib.hid (containsI_any 38 #[] (fun n => !Hp.pushed n) l hl v w hv (enters_of Tryd.func38 (by kernel_rfl) rfl) (fun W x _ => by simpa using unpushed_closure x W))
  have he : Hid ((l.any fun n => !Hp.pushed n) = !(l.all Hp.pushed)) := by rw [List.not_all_eq_any_not]; exact Lib.hid rfl
  rw [← he.out]
  obtain ⟨p, cap, rfl, _, _, _⟩ := hv
  go_enter Tryd.func19, Tryd.ntmps19
  go_wp2_with fail
  refine HC.out.mono ?_
  rintro e w1 ⟨rfl, hb⟩
  go_wp2_with fail
  go_ret
  exact ⟨rfl, hb⟩
end Go.Proofs.YtilahcnpjbnjiaaDoor
