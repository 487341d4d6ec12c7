/- strconv.FormatInt at base 16. -/
import Derived.Test.YtjbolphfelakeaaGreatDoorArr
import Derived.Test.YtjbolphfelakeaaGreatDoorColonPlain
import Derived.Test.YtjbolphfelakeaaGreatDoorColonTab
import Derived.Test.YtjbolphfelakeaaGreatDoorOctetLaw5
namespace Go.Proofs.YtjbolphfelakeaaGreatDoor
set_option linter.unusedVariables false
set_option linter.unusedSimpArgs false
open Go.RowKit Go.Shelf Go.Proofs Go.OctetPlain Go.ColonPlain

theorem dig36 (n : Nat) (hn : n < 16) (h : n < ByteArray.size ⟨#[48, 49, 50, 51, 52, 53, 54, 55, 56, 57, 97, 98, 99, 100, 101, 102, 103, 104, 105, 106, 107, 108, 109, 110, 111, 112, 113, 114, 115, 116, 117, 118, 119, 120, 121, 122]⟩) : (⟨#[48, 49, 50, 51, 52, 53, 54, 55, 56, 57, 97, 98, 99, 100, 101, 102, 103, 104, 105, 106, 107, 108, 109, 110, 111, 112, 113, 114, 115, 116, 117, 118, 119, 120, 121, 122]⟩ : ByteArray)[n]'h = letter n := by
  match n, hn, h with
  | 0, _, _ => rfl
  | 1, _, _ => rfl
  | 2, _, _ => rfl
  | 3, _, _ => rfl
  | 4, _, _ => rfl
  | 5, _, _ => rfl
  | 6, _, _ => rfl
  | 7, _, _ => rfl
  | 8, _, _ => rfl
  | 9, _, _ => rfl
  | 10, _, _ => rfl
  | 11, _, _ => rfl
  | 12, _, _ => rfl
  | 13, _, _ => rfl
  | 14, _, _ => rfl
  | 15, _, _ => rfl
  | n + 16, hn, _ => exact absurd hn (by omega)
theorem and15_64 (u : Nat) (h : u < 65536) : bits .and .u64 (u : Int) 15 = ((u % 16 : Nat) : Int) := by
  have h1 := bits_and_u64_nat u 15 (by omega) (by omega)
  rw [show u &&& 15 = u % 16 from Nat.and_two_pow_sub_one_eq_mod u 4] at h1
  exact h1

set_option maxRecDepth 100000 in
theorem tz64 (w : World) (ht : CT w) : Calls Tryz.prog 117 #[.int .u64 16] w fun e w' => e = .returned (.int .i64 4) ∧ w' = w := by
  have h0 := ht.tz.cell (show Tryz.prog.globalNamed "math/bits.deBruijn64tab" = some 5 by kernel_rfl) 15 (by decide)
  rw [show bruijn.getD 15 0 = 4 from rfl] at h0
  have hneg : bits .and .u64 16 (IntKind.u64.wrap (-16)) = 16 := by decide +kernel
  go_enter Tryz.func117, Tryz.ntmps117
  go_wp2_with fail
  go_ret
  exact ⟨rfl, rfl⟩

set_option maxRecDepth 100000 in
theorem tz (w : World) (ht : CT w) : Calls Tryz.prog 108 #[.int .u64 16] w fun e w' => e = .returned (.int .i64 4) ∧ w' = w := by
  have HC := Lib.hid (tz64 w ht)
  go_enter Tryz.func108, Tryz.ntmps108
  go_wp2_with fail
  refine HC.out.mono ?_
  rintro e w1 ⟨rfl, rfl⟩
  go_wp2_with fail
  go_ret
  exact ⟨rfl, rfl⟩
set_option maxRecDepth 100000 in
theorem pow2 (w : World) : Calls Tryz.prog 107 #[.int .i64 16] w fun e w' => e = .returned (.bool true) ∧ w' = w := by
  have h : bits .and .i64 16 15 = 0 := by decide +kernel
  go_enter Tryz.func107, Tryz.ntmps107
  go_wp2_with fail
  go_ret
  exact ⟨rfl, rfl⟩
theorem slr_of_blk {W : World} {g : Nat} {t : TypeId} {X Y : List UInt8} (h : Blk W g t (arrB (X ++ Y))) (hY : Y.length ≤ 1048576) : SlR W 1 encB (.slice (some ⟨g, X.length, none⟩) Y.length Y.length) Y := by
  refine ⟨_, _, rfl, Nat.le_refl _, by omega, (fun e => by cases e), fun a ha => ?_⟩
  cases ha
  refine ⟨rfl, h.lt, fun i x hx j u hu => ?_⟩
  have hj : j = 0 := by have := (List.getElem?_eq_some_iff.1 hu).1; simpa [encB] using this
  subst hj
  simp only [encB, List.getElem?_cons_zero, Option.some.injEq] at hu
  subst hu
  simp only [Nat.mul_one, Nat.add_zero]
  rw [h.cell (X.length + i)]
  apply arrB_get
  rw [List.getElem?_append_right (by omega), show X.length + i - X.length = i by omega]
  exact hx
theorem pad_set (m : Nat) (suf : List UInt8) (c : UInt8) : (List.replicate (m + 1) (0 : UInt8) ++ suf).set m c = List.replicate m 0 ++ c :: suf := by
  rw [List.replicate_succ', List.append_assoc, List.singleton_append, List.set_append_right _ _ (by simp), List.length_replicate, Nat.sub_self, List.set_cons_zero]
theorem pad_get (m : Nat) (suf : List UInt8) : (List.replicate (m + 1) (0 : UInt8) ++ suf)[m]? = some 0 := by
  rw [List.getElem?_append_left (by simp), List.getElem?_replicate, if_pos (by omega)]
theorem zero65 : Tryz.zeroCells124 = arrB (List.replicate 65 0) := by kernel_rfl

set_option maxRecDepth 100000 in
set_option maxHeartbeats 800000 in
theorem formatBits16 (n : Nat) (hn : n < 65536) (w : World) (ht : CT w) :
    Calls Tryz.prog 96 #[.slice none 0 0, .int .u64 n, .int .i64 16, .bool false, .bool false] w fun e w' => e = .returned (.tuple #[.slice none 0 0, .string (str (hexN n))]) ∧ Below w.heap.size w w' := by
  have HT := Lib.hid (ht.below (belowA w (.cells Tryz.zeroCells124 124)))
  have hB : Blk (w.alloc (.cells Tryz.zeroCells124 124)) w.heap.size 124 (arrB (List.replicate 65 0)) := by rw [← zero65]; exact Blk.new _ _ _
  have HBl := Lib.hid hB
  clear hB ht
  go_enter Tryz.func96, Tryz.ntmps96
  go_wp2_with fail
  refine (pow2 _).mono ?_
  rintro e w1 ⟨rfl, rfl⟩
  go_wp2_with fail
  refine (tz _ HT.out).mono ?_
  rintro e w1 ⟨rfl, rfl⟩
  go_wp2_with fail
  go_loopw [1, 13] (fun vu vi wr => ∃ (u : Nat) (suf : List UInt8), vu = .int .u64 u ∧ vi = .int .i64 ((65 : Int) - suf.length) ∧ u < 65536 ∧ suf.length ≤ 3 ∧ Hid (hexN n = hexN u ++ suf) ∧ Hid (Blk wr w.heap.size 124 (arrB (List.replicate (65 - suf.length) 0 ++ suf))) ∧ Hid (Below w.heap.size w wr)) (fun vu _ _ => (intOf vu).toNat)
  case atStart => exact ⟨n, [], rfl, rfl, hn, by simp, Lib.hid (by simp), Lib.hid (by simpa using HBl.out), Lib.hid (belowA w _)⟩
  case round =>
    obtain ⟨u, suf, rfl, rfl, hu, hsl, HE, HA, HB⟩ := hrel
    have hda := dig36
    obtain ⟨m, hm⟩ : ∃ m : Nat, 65 - suf.length = m + 1 := ⟨64 - suf.length, by omega⟩
    rw [hm] at HA
    have hi : (65 : Int) - suf.length = (m : Int) + 1 := by omega
    rw [hi]
    have f0 := HA.out.frozen' m
    have c0 : wr.cell? ⟨w.heap.size, m, none⟩ = some (.int .u8 0) := (HA.out.cell m).trans (arrB_get (pad_get m suf))
    have b0 : (m : Int) < 65 := by omega
    have HM := Lib.hid hm
    have HI := Lib.hid hi
    have e1 : IntKind.i64.wrap ((m : Int) + 1 - 1) = (m : Int) := by rw [IntWalk.i64_in _ (by omega)]; omega
    have e2 : (m : Int) + 1 - 1 = (m : Int) := by omega
    clear hm hi
    by_cases hlt : 16 ≤ u
    · have hand := and15_64 u hu
      have hm : u % 16 < 16 := by omega
      have HST := Lib.hid (hexN_step hlt hu)
      go_wp2_with fail
      have hsl3 : suf.length + 1 ≤ 3 := by
        have h1 := hexN_length n
        rw [HE.out, HST.out, List.length_append, List.length_append] at h1
        have h2 := hexN_length (u / 16)
        simp only [List.length_cons, List.length_nil] at h1
        omega
      refine ⟨⟨u / 16, letter (u % 16) :: suf, by go_num, ?_, by omega, by simpa using hsl3, Lib.hid (by rw [HE.out, HST.out]; simp), Lib.hid ?_, Lib.hid (HB.out.setCell (by simp) _)⟩, by simp [intOf]; omega⟩
      · congr 1
        have := HI.out
        simp only [List.length_cons]
        omega
      · have e : 65 - (letter (u % 16) :: suf).length = m := by have := HM.out; simp only [List.length_cons]; omega
        rw [e, ← pad_set, ← arrB_set]
        exact HA.out.set _ _
    · have HH := Lib.hid (hexN_low1 (u := u) (by omega))
      have hult : u < 16 := by omega
      have hA2 := (HA.out.set m (.int .u8 ((letter u).toNat : Int)))
      rw [arrB_set, pad_set] at hA2
      have HA2 := Lib.hid hA2
      clear hA2
      have hal : Tryz.prog.arrayLen 124 = 65 := by kernel_rfl
      have hm65 : (m : Int) ≤ 65 := by omega
      have hne : ¬ 65 = m := by omega
      have hcv : (convert 43 9 (.slice (some ⟨w.heap.size, m, none⟩) (65 - m) (65 - m))).run Tryz.prog (wr.setCell ⟨w.heap.size, m, none⟩ (.int .u8 ((letter u).toNat : Int))) = .ok (.string (str (letter u :: suf))) (wr.setCell ⟨w.heap.size, m, none⟩ (.int .u8 ((letter u).toNat : Int))) := by
        have h := slr_of_blk HA2.out (by simp; omega)
        have e : (letter u :: suf).length = 65 - m := by have := HM.out; simp only [List.length_cons]; omega
        rw [List.length_replicate, e] at h
        exact str_conv h
      go_wp2_with fail
      refine bodyPost_ret (v := .tuple #[.slice none 0 0, .string (str (letter u :: suf))]) ?_ rfl ⟨by rw [HE.out, HH.out]; rfl, HB.out.setCell (by simp) _⟩
      simp [results, Tryz.results96, go_sem]

set_option maxRecDepth 100000 in
theorem formatInt_lib (n : Nat) (hn : n < 65536) (w : World) (ht : CT w) :
    Calls Tryz.prog 77 #[.int .i64 n, .int .i64 16] w fun e w' => e = .returned (.string (str (hexN n))) ∧ Below w.heap.size w w' := by
  have HC := Lib.hid (formatBits16 n hn w ht)
  go_enter Tryz.func77, Tryz.ntmps77
  go_wp2_with fail
  refine HC.out.mono ?_
  rintro e w1 ⟨rfl, hb⟩
  go_wp2_with fail
  go_ret
  exact ⟨rfl, hb⟩
set_option maxRecDepth 100000 in
theorem formatInt (n : Nat) (hn : n < 65536) (w : World) (ht : CT w) :
    Calls Tryz.prog 63 #[.int .i64 n, .int .i64 16] w fun e w' => e = .returned (.string (str (hexN n))) ∧ Below w.heap.size w w' := by
  have HC := Lib.hid (formatInt_lib n hn w ht)
  go_enter Tryz.func63, Tryz.ntmps63
  go_wp2_with fail
  refine HC.out.mono ?_
  rintro e w1 ⟨rfl, hb⟩
  go_wp2_with fail
  go_ret
  exact ⟨rfl, hb⟩
end Go.Proofs.YtjbolphfelakeaaGreatDoor
