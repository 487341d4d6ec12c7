/- colon.joined. -/
import Derived.Test.YtjbolphfelakeaaGreatDoorColonHex
import Derived.Test.YtjbolphfelakeaaGreatDoorColonRun
import Derived.Test.YtjbolphfelakeaaGreatDoorShelfC
import Derived.Test.YtjbolphfelakeaaGreatDoorOctetFns3
import Derived.Test.YtjbolphfelakeaaGreatDoorBuilder
namespace Go.Proofs.YtjbolphfelakeaaGreatDoor
set_option linter.unusedVariables false
set_option linter.unusedSimpArgs false
open Go.RowKit Go.Shelf Go.Proofs Go.OctetPlain Go.ColonPlain

/-- a number's cell; a string's -/
def encN (n : Nat) : List Value := [.int .i64 (n : Int)]
theorem encN_len (n : Nat) : (encN n).length = 1 := rfl
theorem encN_one (n : Nat) : ∀ u ∈ encN n, u.oneCell' = true := by
  intro u hu; simp only [encN, List.mem_singleton] at hu; subst hu; rfl
def encS (s : List UInt8) : List Value := [.string (str s)]
theorem encS_len (s : List UInt8) : (encS s).length = 1 := rfl
theorem elemS : ElemOk Tryz.prog 62 9 1 16 := .mk Tryz.underlying62 (z := .string ByteArray.empty) (by kernel_rfl) (by omega) (by omega) rfl
theorem join_eq : ∀ L : List Nat, Lib.join (L.map hexN) [58] = joinF hexN L
  | [] => rfl
  | [n] => by simp [Lib.join_one, joinF]
  | n :: m :: r => by
    have ih := join_eq (m :: r)
    rw [joinF, ← ih]
    simp [Lib.join]

set_option maxRecDepth 100000 in
theorem joinExtra : Builder.Extra Tryz.prog Tryz.join_ren := {
  sizeBuilder := sizeBuilder
  liesBuilder := liesBuilder
  t5 := Tryz.underlying5
  a5 := fun w => run_isAgg_plain Tryz.underlying5 rfl w
  z5 := Tryz.sizeOf5
  v5 := Tryz.zeroValue5
  infoByte := infoByte
  cellsByte := by kernel_rfl
  sizeByte := by kernel_rfl
  neB5 := by decide }
theorem hexN_map_length (L : List Nat) : (L.map hexN).length = L.length := List.length_map ..

set_option maxRecDepth 100000 in
set_option maxHeartbeats 800000 in
theorem colon_joined (L : List Nat) (hL : L.length ≤ 1000) (hb : ∀ n ∈ L, n < 65536) (v : Value) (w : World) (ht : CT w) (hv : SlR w 1 encN v L) :
    Calls Tryz.prog 47 #[v] w fun e w' => e = .returned (.string (str (joinF hexN L))) ∧ Below w.heap.size w w' := by
  have HT := Lib.hid ht
  have HV := Lib.hid hv
  obtain ⟨p, cap, rfl, hc1, hc2, hR⟩ := hv
  clear ht
  go_enter Tryz.func47, Tryz.ntmps47
  go_wp2_with fail
  go_loopw [3, 5, 8] (fun vo _ vi wr => ∃ k : Nat, vi = .int .i64 k ∧ k ≤ L.length ∧ Hid (wr.ownsRow w.heap.size 9 1 vo k (flat encS ((L.take k).map hexN))) ∧ Hid (Below w.heap.size w wr)) (fun _ _ vi _ => L.length - (intOf vi).toNat)
  case atStart => exact ⟨0, rfl, Nat.zero_le _, Lib.hid (World.ownsRow_nil _ _ _ _), Lib.hid (Below.refl _ _)⟩
  case round =>
    obtain ⟨k, rfl, hk, HO, HB⟩ := hrel
    by_cases hlt : k < L.length
    · obtain ⟨n, hn⟩ : ∃ n, L[k]? = some n := ⟨L[k], List.getElem?_eq_getElem hlt⟩
      have hnb := hb n (List.mem_of_getElem? hn)
      obtain ⟨b, off, rfl, hbs, hcell⟩ := hR.at hlt
      have hLk : L[k] = n := by have := List.getElem?_eq_getElem hlt; rw [hn] at this; cases this; rfl
      have hc0 := hcell 0 (.int .i64 (n : Int)) (by rw [hLk]; rfl)
      simp only [Nat.mul_one, Nat.add_zero] at hc0
      have hc : wr.cell? ⟨b, off + k, none⟩ = some (.int .i64 (n : Int)) := (HB.out.cell (p := ⟨b, off + k, none⟩) hbs).trans hc0
      have HTK : Hid ((L.take (k + 1)).map hexN = (L.take k).map hexN ++ [hexN n]) := by
        rw [List.take_succ_eq_append_getElem hlt, List.map_append, hLk]; exact Lib.hid rfl
      have HF := Lib.hid (formatInt n hnb wr (HT.out.next HB.out (Nat.le_refl _)))
      clear hcell hc0 hLk hn
      go_wp2_with fail
      refine HF.out.mono ?_
      rintro e w1 ⟨rfl, hb1⟩
      have HB1 := Lib.hid hb1
      have HO1 := Lib.hid (owns_below HO.out hb1 (Nat.le_refl _))
      have hz1 := hb1.size
      have hz := HB.out.size
      clear hb1
      go_wp2_with (at_builtin; go_loud (refine wpList_app elemS rfl (.tmp 12) (.tmp 15) rfl w.heap.size u3 _ _ rfl HO1.out 1 1 [.string _] rfl rfl (by simp [Value.oneCell']) (by omega) (by omega) ?_; intro v4 w4 hown4 _ _ hb4))
      exact ⟨⟨k + 1, by go_num, by omega, Lib.hid (by rw [HTK.out, flat_append]; exact hown4), Lib.hid ((HB.out.trans (HB1.out.mono hz)).trans hb4)⟩, by simp [intOf]; omega⟩
    · have hkl : k = L.length := by omega
      have hO := HO.out
      rw [hkl, List.take_length] at hO
      have hml := hexN_map_length L
      rw [← hml] at hO
      have hz := HB.out.size
      obtain ⟨p', cap', rfl, hd1, hd2, hR'⟩ := SlR.of_owns encS_len hO
      have hj := join_eq L
      have hll : (joinF hexN L).length ≤ 140737488355328 := by have := (joinF_le hexN_length L).1; omega
      have hjs : Lib.join (((L.map hexN).map str).map (·.data.toList)) (⟨#[58]⟩ : ByteArray).data.toList = joinF hexN L := by
        rw [List.map_map]
        have : (fun s : ByteArray => s.data.toList) ∘ str = id := by funext l; exact list_str l
        rw [this, List.map_id]
        exact hj
      have HC : Hid (Calls Tryz.prog 44 #[.slice p' L.length cap', .string ⟨#[58]⟩] wr fun e w' => e = .returned (.string (str (joinF hexN L))) ∧ Below wr.heap.size wr w') := by
        cases p' with
        | none =>
          have h0 := hR'.1 rfl
          have hL0 : L = [] := List.eq_nil_of_length_eq_zero (by omega)
          rw [hL0]
          exact Lib.hid ((Any.strings_Join_none Tryz.join joinExtra none cap' ⟨#[58]⟩ wr).mono fun e w' h => ⟨h.1, by rw [h.2]; exact Below.refl _ _⟩)
        | some a =>
          obtain ⟨hsp, hbk, hcl⟩ := hR'.2 a rfl
          have ha : a = ⟨a.block, a.off, none⟩ := by cases a; simp_all
          have hcon := Any.strings_Join Tryz.join joinExtra a.block a.off cap' ((L.map hexN).map str) ⟨#[58]⟩ wr (fun j x hx => by
            rw [List.getElem?_map] at hx
            cases hy : (L.map hexN)[j]? with
            | none => rw [hy] at hx; cases hx
            | some y =>
              rw [hy] at hx
              cases hx
              have := hcl j y hy 0 (.string (str y)) rfl
              simpa using this) hbk (by simp; omega) (by simpa using hd1) (by rw [hjs]; exact hll)
          rw [hjs, List.length_map, hml] at hcon
          rw [ha]
          exact Lib.hid hcon
      have hll2 : (L.map hexN).length = L.length := hml
      clear hj hjs hO hR'
      go_wp2_with fail
      refine HC.out.mono ?_
      rintro e w1 ⟨rfl, hb1⟩
      go_wp2_with fail
      go_ret
      exact ⟨rfl, HB.out.trans (hb1.mono HB.out.size)⟩
end Go.Proofs.YtjbolphfelakeaaGreatDoor
