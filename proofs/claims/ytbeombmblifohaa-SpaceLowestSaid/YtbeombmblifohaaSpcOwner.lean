/- The space package: Owner. -/
import Derived.Test.YtbeombmblifohaaSpcClose
namespace Go.Proofs.Ytbeombmblifohaa
set_option linter.unusedVariables false
set_option linter.unusedSimpArgs false
open Go.RowKit Go.Shelf Go.Proofs

theorem find_hit {α : Type} {q : α → Bool} : ∀ {l : List α} {k : Nat} {c : α}, l[k]? = some c → (∀ (j : Nat) (d : α), l[j]? = some d → j < k → q d = false) → q c = true → l.find? q = some c
  | [], k, c, h, _, _ => by simp at h
  | d :: r, 0, c, h, _, hq => by cases h; simp [hq]
  | d :: r, k + 1, c, h, h0, hq => by
    have hd := h0 0 d rfl (by omega)
    rw [List.find?_cons, hd]
    exact find_hit (by simpa using h) (fun j e he hj => h0 (j + 1) e (by simpa using he) (by omega)) hq
theorem find_miss {α : Type} {q : α → Bool} {l : List α} (h : ∀ (j : Nat) (d : α), l[j]? = some d → j < l.length → q d = false) : l.find? q = none := by
  rw [List.find?_eq_none]
  intro x hx
  obtain ⟨j, hj⟩ := List.getElem?_of_mem hx
  have := h j x hj (List.getElem?_eq_some_iff.1 hj).1
  simp [this]
/-- two ints come back -/
def RetII (q : Int × Int) (w : World) (e : Ending) (w' : World) : Prop := e = .returned (.tuple #[.int .i64 q.1, .int .i64 q.2]) ∧ Below w.heap.size w w'
structure OU (w W : World) (v : Value) (L : List Sp.Bk) : Prop where
  rd : SlR W 4 encBk v L
  below : Below w.heap.size w W
theorem OU.next {w W W' : World} {v : Value} {L : List Sp.Bk} (h : OU w W v L) (hb : Below W.heap.size W W') : OU w W' v L := ⟨h.rd.below hb (Nat.le_refl _), h.below.trans (hb.mono h.below.size)⟩
set_option maxRecDepth 100000 in
set_option maxHeartbeats 2000000 in
theorem spc_Owner (g : Nat) (n : Int) (m : Sp.Spc) (hl : m.L.length ≤ 1000000) (r : Option Nat) (w : World) (h : SpcR w g r m) :
    Calls Try.prog 10 #[.pointer (some ⟨g, 0, none⟩), .int .i64 n] w (RetII (Sp.ownerR m n) w) := by
  obtain ⟨v0, v1, v2, vb, h⟩ := h
  have BL := Lib.hid (spc_Blocks g v0 v1 v2 vb m hl r w h)
  have hr : Sp.ownerR m n = match m.L.find? (Sp.hasL n) with | some b => (b.owner, b.area) | none => (0, 0) := rfl
  obtain ⟨z, hz⟩ : ∃ z, z = Sp.ownerR m n := ⟨_, rfl⟩
  have HZ : Hid (z = match m.L.find? (Sp.hasL n) with | some b => (b.owner, b.area) | none => (0, 0)) := Lib.hid (hz.trans hr)
  rw [← hz]
  clear hr h hz
  generalize m.L = L at BL hl HZ
  go_enter Try.func10, Try.ntmps10
  go_wp2_with fail
  refine BL.out.mono ?_
  rintro e w1 ⟨v, rfl, ho, hb1⟩
  have HO : Hid (OU w w1 v L) := Lib.hid ⟨SlR.of_owns encBk_len ho, hb1⟩
  obtain ⟨p, cap, rfl, hc1, hc2, -⟩ := SlR.of_owns encBk_len ho
  clear ho hb1
  go_wp2_with fail
  go_loopw [11] (fun vi wr => ∃ k : Nat, k ≤ L.length ∧ vi = .int .i64 k ∧ Hid (∀ (j : Nat) (d : Sp.Bk), L[j]? = some d → j < k → Sp.hasL n d = false) ∧ Hid (OU w wr (.slice p L.length cap) L)) (fun vi _ => L.length - (intOf vi).toNat)
  case atStart => exact ⟨0, Nat.zero_le _, rfl, Lib.hid (fun j d _ h => by omega), HO⟩
  case round =>
    obtain ⟨k, hk, rfl, HE, HU⟩ := hrel
    by_cases hlt : k < L.length
    · have hltI : (k : Int) < (L.length : Int) := by omega
      obtain ⟨c, hc⟩ : ∃ c, L[k]? = some c := ⟨_, List.getElem?_eq_getElem hlt⟩
      have hcc : L[k] = c := (List.getElem?_eq_some_iff.1 hc).2
      obtain ⟨q1, cap1, hq1, _, _, hR⟩ := HU.out.rd
      cases hq1
      obtain ⟨bb, off, rfl, hbs, hcl⟩ := hR.at hlt
      rw [hcc] at hcl
      have c0 := hcl 0 _ rfl
      have c1 := hcl 1 _ rfl
      have c2 := hcl 2 _ rfl
      have c3 := hcl 3 _ rfl
      simp only [Nat.add_zero] at c0
      have HC := Lib.hid hc
      clear hcl hcc hc hR
      by_cases h1 : c.sp.1 ≤ n
      · by_cases h2 : n ≤ c.sp.2
        · have hf : L.find? (Sp.hasL n) = some c := find_hit HC.out HE.out (by simp [Sp.hasL, h1, h2])
          have hv : Hid (z = (c.owner, c.area)) := Lib.hid (by rw [HZ.out, hf])
          clear hf
          go_wp2_with fail
          go_quiet (fail)
          go_wp2_with fail
          exact bodyPost_ret (v := .tuple #[.int .i64 c.owner, .int .i64 c.area]) (by simp [results, Try.results10, go_sem]) rfl ⟨by rw [hv.out], below_drewN (HU.out.below.alloc HU.out.below.size _) _⟩
        · have HE2 : Hid (∀ (j : Nat) (d : Sp.Bk), L[j]? = some d → j < k + 1 → Sp.hasL n d = false) := Lib.hid fun j d hd hj => by
            rcases Nat.lt_or_ge j k with h | h
            · exact HE.out j d hd h
            · obtain rfl : j = k := by omega
              rw [HC.out] at hd; cases hd
              simp [Sp.hasL]; omega
          clear HE
          go_wp2_with fail
          exact ⟨⟨k + 1, by omega, by go_num, HE2, Lib.hid (HU.out.next (belowA _ _))⟩, by simp [intOf]; omega⟩
      · have HE2 : Hid (∀ (j : Nat) (d : Sp.Bk), L[j]? = some d → j < k + 1 → Sp.hasL n d = false) := Lib.hid fun j d hd hj => by
          rcases Nat.lt_or_ge j k with h | h
          · exact HE.out j d hd h
          · obtain rfl : j = k := by omega
            rw [HC.out] at hd; cases hd
            simp [Sp.hasL, h1]
        clear HE
        go_wp2_with fail
        exact ⟨⟨k + 1, by omega, by go_num, HE2, Lib.hid (HU.out.next (belowA _ _))⟩, by simp [intOf]; omega⟩
    · obtain rfl : k = L.length := by omega
      have hf : L.find? (Sp.hasL n) = none := find_miss HE.out
      have hv : Hid (z = (0, 0)) := Lib.hid (by rw [HZ.out, hf])
      clear hf
      go_wp2_with fail
      exact bodyPost_ret (v := .tuple #[.int .i64 0, .int .i64 0]) (by simp [results, Try.results10, go_sem]) rfl ⟨by rw [hv.out], HU.out.below⟩
end Go.Proofs.Ytbeombmblifohaa
