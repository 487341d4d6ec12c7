/- SlotsFound. -/
import Derived.Test.YtcioiiobjfblbaaSlotsLaw4
import Derived.Test.YtcioiiobjfblbaaSlotsPlain3
namespace Go.Proofs.Ytcioiiobjfblbaa
set_option linter.unusedVariables false
set_option linter.unusedSimpArgs false
open Go.RowKit Go.Shelf Go.Proofs

def encU (x : Int) : List Value := [.int .u16 x]
theorem encU_len (x : Int) : (encU x).length = 1 := rfl
/-- number i's label -/
def labOf (l : List Int) (by' : Int) (i : Nat) : Int := l.getD i 0 * by' % 1048576
theorem labOf_at {l : List Int} {by' : Int} {i : Nat} (h : i < l.length) : labOf l by' i = l[i] * by' % 1048576 := by simp [labOf, h]
theorem lab_ok (x : Int) : 0 ≤ x % 1048576 ∧ x % 1048576 ≤ 1048575 := by omega
theorem mul_bd {x y : Int} (hx0 : 0 ≤ x) (hx : x ≤ 65535) (hy0 : 1 ≤ y) (hy : y ≤ 256) : 0 ≤ x * y ∧ x * y ≤ 16776960 := by
  refine ⟨Int.mul_nonneg hx0 (by omega), ?_⟩
  have := Int.mul_le_mul hx hy (by omega) (by omega)
  omega
theorem put_here {M : List Sl.It} {lab v : Int} (h0 : 0 ≤ lab) (h1 : lab ≤ 1048575) (hl : M.length < 64) : putS true 64 M lab v = (0, Sl.put M lab v) := by
  unfold putS
  rw [if_neg (by simp), if_neg (by rw [okLab_iff.2 ⟨h0, h1⟩]; simp), if_neg (by rintro ⟨_, h⟩; omega)]
theorem del_here {M : List Sl.It} {lab : Int} (h0 : 0 ≤ lab) (h1 : lab ≤ 1048575) : (delS true M lab).2 = Sl.gon M lab := by
  unfold delS Sl.gon
  rw [if_neg (by simp), if_neg (by rw [okLab_iff.2 ⟨h0, h1⟩]; simp)]
  cases Sl.hasB M lab <;> simp

/-- the inner loop's last, from k on -/
def LastAt' (L G : Nat → Int) (g : Nat) (n : Int) (k m : Nat) (z : Int) : Prop := (m = k ∧ z = -1) ∨ (k < m ∧ z = Sl.lst L G g n m)
theorem LastAt'.step {L G : Nat → Int} {g : Nat} {n : Int} {k m : Nat} {z : Int} (h : LastAt' L G g n k m z) (hk : L k = n) : LastAt' L G g n k (m + 1) (Sl.stp L G g n z m) := by
  rcases h with ⟨rfl, rfl⟩ | ⟨h, rfl⟩
  · refine .inr ⟨by omega, ?_⟩
    show _ = Sl.stp L G g n _ m
    unfold Sl.stp
    rw [if_pos hk, if_pos hk]
  · exact .inr ⟨by omega, rfl⟩
theorem get_run {L G : Nat → Int} {g : Nat} {n : Int} {k : Nat} {z : Int} (hz : z = Sl.lst L G g n k) : Sl.hasB (Sl.run L G g k) n = decide (0 ≤ z) ∧ getW (Sl.run L G g k) n = if 0 ≤ z then z else 0 := by
  subst hz
  have h := Sl.run_has L G g n k
  refine ⟨h, ?_⟩
  unfold getW
  rw [h]
  by_cases h0 : 0 ≤ Sl.lst L G g n k
  · simp [h0, Sl.run_got L G g n k h0]
  · simp [h0]

set_option maxRecDepth 1000000 in
set_option maxHeartbeats 16000000 in
theorem law_found (labels gone : List Int) (hlb : ∀ x ∈ labels, 0 ≤ x ∧ x ≤ 65535) (hgn : ∀ x ∈ gone, 0 ≤ x ∧ x ≤ 65535) (st : Int) (hs0 : 0 ≤ st) (hs1 : st ≤ 255) (v0 v1 : Value) (w : World) (hv0 : SlR w 1 encU v0 labels) (hv1 : SlR w 1 encU v1 gone) (hl1 : labels.length ≤ 60) (hl2 : gone.length ≤ 60) :
    Calls Try.prog 9 #[v0, v1, .int .u8 st] w fun e w' => e = .returned (.bool true) ∧ Below w.heap.size w w' := by
  obtain ⟨p0, cap0, rfl, hq1, hq2, hR0⟩ := hv0
  obtain ⟨p1, cap1, rfl, hq3, hq4, hR1⟩ := hv1
  have e1 : decide (60 < (labels.length : Int)) = false := by simp; omega
  have e2 : decide (60 < (gone.length : Int)) = false := by simp; omega
  have HR0 := Lib.hid hR0
  have HR1 := Lib.hid hR1
  have HLb := Lib.hid hlb
  have HGn := Lib.hid hgn
  clear hR0 hR1 hq1 hq3 hlb hgn
  go_enter Try.func9, Try.ntmps9
  go_wp2_with fail
  refine (law13_awake _).mono ?_
  rintro e w1 ⟨rfl, hb1⟩
  go_wp2_with fail
  refine (slots_New 64 w1 (by omega) (by omega)).mono ?_
  rintro e w2 ⟨Bt, rfl, hT, hb2⟩
  have hz1 := hb1.size
  have h2 : TS w1.heap.size (.pointer (some ⟨Bt, 0, none⟩)) true 64 [] w2 := .inl ⟨rfl, Bt, rfl, hT⟩
  have hb02 : Below w.heap.size w w2 := hb1.trans (hb2.mono hz1)
  have hz2 := hb2.size
  clear hb1 hb2 hT e1 e2
  go_wp2_with fail
  obtain ⟨by', hby⟩ : ∃ b, b = st + 1 := ⟨_, rfl⟩
  rw [← hby]
  have hy0 : 1 ≤ by' := by omega
  have hy1 : by' ≤ 256 := by omega
  clear hby hs0 hs1
  go_loopw [10] (fun i wr => ∃ k : Nat, i = .int .i64 k ∧ k ≤ labels.length ∧ TS w1.heap.size (.pointer (some ⟨Bt, 0, none⟩)) true 64 (Sl.run (labOf labels by') (labOf gone by') gone.length k) wr ∧ Below w.heap.size w wr ∧ w1.heap.size ≤ wr.heap.size) (fun i _ => labels.length - (intOf i).toNat)
  case atStart => exact ⟨0, rfl, Nat.zero_le _, h2, hb02, hz2⟩
  case round =>
    clear h2 hb02 hz2
    obtain ⟨k, rfl, hk, hts, hbl, hz⟩ := hrel
    have HT := Lib.hid hts
    have HB := Lib.hid hbl
    have hrl := Sl.run_len (labOf labels by') (labOf gone by') gone.length k
    by_cases hlt : k < labels.length
    · obtain ⟨b, off, rfl, hbs, h3⟩ := (HR0.out.below hbl (Nat.le_refl _)).at hlt
      have hbd := HLb.out _ (List.getElem_mem hlt)
      have hLk := labOf_at (by' := by') hlt
      obtain ⟨x, hx⟩ : ∃ x, x = labels[k] := ⟨_, rfl⟩
      rw [← hx] at h3 hbd hLk
      have x0 : wr.cell? ⟨b, off + k, none⟩ = some (.int .u16 x) := by simpa using h3 0 _ rfl
      obtain ⟨m0, m1⟩ := mul_bd hbd.1 hbd.2 hy0 hy1
      have HLk := Lib.hid hLk
      have hok := lab_ok (x * by')
      have HP : Hid (∀ W, TS w1.heap.size (.pointer (some ⟨Bt, 0, none⟩)) true 64 (Sl.run (labOf labels by') (labOf gone by') gone.length k) W → w1.heap.size ≤ W.heap.size → Calls Try.prog 33 #[.pointer (some ⟨Bt, 0, none⟩), .int .i64 (x * by' % 1048576), .int .i64 (k : Int)] W (StepRet w1.heap.size (.pointer (some ⟨Bt, 0, none⟩)) true 64 0 (Sl.put (Sl.run (labOf labels by') (labOf gone by') gone.length k) (labOf labels by' k) k) W)) := Lib.hid fun W h1 h2 => by
        have := put_any w1.heap.size _ true 64 _ (x * by' % 1048576) (k : Int) W h1 h2
        rw [put_here hok.1 hok.2 (by omega)] at this
        rw [HLk.out]; exact this
      clear hx h3 hts hbl hLk hok hrl
      go_wp2_with fail
      refine (HP.out _ HT.out hz).mono ?_
      rintro e w4 ⟨rfl, h4, _, hb4⟩
      have H4 := Lib.hid h4
      have HB4 := Lib.hid (HB.out.trans (hb4.mono hz1))
      have hz4 := Nat.le_trans hz hb4.size
      clear x0 h4 hb4
      by_cases hg : k < gone.length
      · obtain ⟨b', off', rfl, hbs', h3⟩ := (HR1.out.below HB4.out (Nat.le_refl _)).at hg
        have hbd' := HGn.out _ (List.getElem_mem hg)
        have hGk := labOf_at (by' := by') hg
        obtain ⟨y, hy⟩ : ∃ x, x = gone[k] := ⟨_, rfl⟩
        rw [← hy] at h3 hbd' hGk
        have y0 : w4.cell? ⟨b', off' + k, none⟩ = some (.int .u16 y) := by simpa using h3 0 _ rfl
        obtain ⟨m2, m3⟩ := mul_bd hbd'.1 hbd'.2 hy0 hy1
        have hok := lab_ok (y * by')
        have HGk := Lib.hid hGk
        have HD : Hid (∀ W, TS w1.heap.size (.pointer (some ⟨Bt, 0, none⟩)) true 64 (Sl.put (Sl.run (labOf labels by') (labOf gone by') gone.length k) (labOf labels by' k) k) W → w1.heap.size ≤ W.heap.size → Calls Try.prog 35 #[.pointer (some ⟨Bt, 0, none⟩), .int .i64 (y * by' % 1048576)] W (StepRet w1.heap.size (.pointer (some ⟨Bt, 0, none⟩)) true 64 (delS true (Sl.put (Sl.run (labOf labels by') (labOf gone by') gone.length k) (labOf labels by' k) k) (y * by' % 1048576)).1 (Sl.run (labOf labels by') (labOf gone by') gone.length (k + 1)) W)) := Lib.hid fun W h1 h2 => by
          have := del_any w1.heap.size _ true 64 _ (y * by' % 1048576) W h1 h2
          rw [del_here hok.1 hok.2] at this
          have e : Sl.run (labOf labels by') (labOf gone by') gone.length (k + 1) = Sl.gon (Sl.put (Sl.run (labOf labels by') (labOf gone by') gone.length k) (labOf labels by' k) k) (y * by' % 1048576) := by
            rw [← HGk.out]; exact if_pos hg
          rw [e]; exact this
        clear hy h3 hGk hok
        go_wp2_with fail
        refine (HD.out _ H4.out hz4).mono ?_
        rintro e w5 ⟨rfl, h5, _, hb5⟩
        clear y0
        go_wp2
        exact ⟨⟨k + 1, by simp, by omega, h5, HB4.out.trans (hb5.mono hz1), Nat.le_trans hz4 hb5.size⟩, by simp [intOf]; omega⟩
      · have HE : Hid (Sl.run (labOf labels by') (labOf gone by') gone.length (k + 1) = Sl.put (Sl.run (labOf labels by') (labOf gone by') gone.length k) (labOf labels by' k) k) := Lib.hid (if_neg hg)
        go_wp2
        exact ⟨⟨k + 1, by simp, by omega, by rw [HE.out]; exact H4.out, HB4.out, hz4⟩, by simp [intOf]; omega⟩
    · have hke : k = labels.length := by omega
      have HT' : Hid (TS w1.heap.size (.pointer (some ⟨Bt, 0, none⟩)) true 64 (Sl.run (labOf labels by') (labOf gone by') gone.length labels.length) wr) := Lib.hid (by rw [← hke]; exact hts)
      clear hts hbl hrl hke
      obtain ⟨wo, rfl⟩ : ∃ wo : World, wo = wr := ⟨_, rfl⟩
      go_wp2_with fail
      go_loopw [12] (fun i wq => ∃ k : Nat, i = .int .i64 k ∧ k ≤ labels.length ∧ Below wo.heap.size wo wq) (fun i _ => labels.length - (intOf i).toNat)
      case atStart => exact ⟨0, rfl, Nat.zero_le _, Below.refl _ _⟩
      case round =>
        obtain ⟨k, rfl, hk, hbq⟩ := hrel
        have HBq := Lib.hid (HB.out.trans (hbq.mono HB.out.size))
        have HTq := Lib.hid (HT'.out.below hbq)
        have HQ := Lib.hid hbq
        clear hbq
        by_cases hlt2 : k < labels.length
        · obtain ⟨b, off, rfl, hbs, h3⟩ := (HR0.out.below HBq.out (Nat.le_refl _)).at hlt2
          have hbd := HLb.out _ (List.getElem_mem hlt2)
          have hLk := labOf_at (by' := by') hlt2
          obtain ⟨x, hx⟩ : ∃ x, x = labels[k] := ⟨_, rfl⟩
          rw [← hx] at h3 hbd hLk
          have x0 : wr.cell? ⟨b, off + k, none⟩ = some (.int .u16 x) := by simpa using h3 0 _ rfl
          obtain ⟨m0, m1⟩ := mul_bd hbd.1 hbd.2 hy0 hy1
          have HLk := Lib.hid hLk
          have hnb := lab_ok (x * by')
          clear hx h3 hLk
          go_wp2_with fail
          generalize x * by' % 1048576 = nn at HLk hnb ⊢
          clear x0 m0 m1 hbd
          go_loop [14, 15] (fun z j => ∃ (m : Nat) (zz : Int), j = .int .i64 m ∧ k ≤ m ∧ m ≤ labels.length ∧ z = .int .i64 zz ∧ LastAt' (labOf labels by') (labOf gone by') gone.length nn k m zz) (fun _ j => labels.length - (intOf j).toNat)
          case atStart => exact ⟨k, -1, rfl, Nat.le_refl _, hk, rfl, .inl ⟨rfl, rfl⟩⟩
          case round =>
            obtain ⟨m, zz, rfl, hkm, hm, rfl, hla⟩ := hrel
            have HLa := Lib.hid hla
            clear hla
            by_cases hml : m < labels.length
            · have h3 := (HR0.out.below HBq.out (Nat.le_refl _)).in hml
              have hbd := HLb.out _ (List.getElem_mem hml)
              have hLm := labOf_at (by' := by') hml
              obtain ⟨u, hu⟩ : ∃ x, x = labels[m] := ⟨_, rfl⟩
              rw [← hu] at h3 hbd hLm
              have u0 : wr.cell? ⟨b, off + m, none⟩ = some (.int .u16 u) := by simpa using h3 0 _ rfl
              obtain ⟨m0, m1⟩ := mul_bd hbd.1 hbd.2 hy0 hy1
              have HLm := Lib.hid hLm
              have HStep := Lib.hid (HLa.out.step HLk.out)
              clear hu h3 hLm
              by_cases hg : m < gone.length
              · obtain ⟨b', off', rfl, hbs', h3⟩ := (HR1.out.below HBq.out (Nat.le_refl _)).at hg
                have hbd' := HGn.out _ (List.getElem_mem hg)
                have hGk := labOf_at (by' := by') hg
                obtain ⟨y, hy⟩ : ∃ x, x = gone[m] := ⟨_, rfl⟩
                rw [← hy] at h3 hbd' hGk
                have y0 : wr.cell? ⟨b', off' + m, none⟩ = some (.int .u16 y) := by simpa using h3 0 _ rfl
                obtain ⟨m2, m3⟩ := mul_bd hbd'.1 hbd'.2 hy0 hy1
                have HGk := Lib.hid hGk
                have dg : decide ((m : Int) < (gone.length : Int)) = true := by simp; omega
                clear hy h3 hGk
                by_cases hG : y * by' % 1048576 = nn
                · have eG : (y * by' % 1048576 == nn) = true := by simpa using hG
                  have HS : Hid (Sl.stp (labOf labels by') (labOf gone by') gone.length nn zz m = -1) := Lib.hid (if_pos ⟨hg, HGk.out.trans hG⟩)
                  clear hG
                  by_cases hL : u * by' % 1048576 = nn
                  · have eL : (u * by' % 1048576 == nn) = true := by simpa using hL
                    clear hL
                    go_wp2
                    exact ⟨⟨m + 1, _, by simp, by omega, by omega, rfl, by rw [← HS.out]; exact HStep.out⟩, by simp [intOf]; omega⟩
                  · have eL : (u * by' % 1048576 == nn) = false := by simpa using hL
                    clear hL
                    go_wp2
                    exact ⟨⟨m + 1, _, by simp, by omega, by omega, rfl, by rw [← HS.out]; exact HStep.out⟩, by simp [intOf]; omega⟩
                · have eG : (y * by' % 1048576 == nn) = false := by simpa using hG
                  have hS1 : Sl.stp (labOf labels by') (labOf gone by') gone.length nn zz m = if labOf labels by' m = nn then (m : Int) else zz := if_neg (fun h => hG (HGk.out.symm.trans h.2))
                  by_cases hL : u * by' % 1048576 = nn
                  · have eL : (u * by' % 1048576 == nn) = true := by simpa using hL
                    have HS : Hid (Sl.stp (labOf labels by') (labOf gone by') gone.length nn zz m = (m : Int)) := Lib.hid (hS1.trans (if_pos (HLm.out.trans hL)))
                    clear hL hS1 hG
                    go_wp2
                    exact ⟨⟨m + 1, _, by simp, by omega, by omega, rfl, by rw [← HS.out]; exact HStep.out⟩, by simp [intOf]; omega⟩
                  · have eL : (u * by' % 1048576 == nn) = false := by simpa using hL
                    have HS : Hid (Sl.stp (labOf labels by') (labOf gone by') gone.length nn zz m = zz) := Lib.hid (hS1.trans (if_neg (fun h => hL (HLm.out.symm.trans h))))
                    clear hL hS1 hG
                    go_wp2
                    exact ⟨⟨m + 1, _, by simp, by omega, by omega, rfl, by rw [← HS.out]; exact HStep.out⟩, by simp [intOf]; omega⟩
              · have dg : decide ((m : Int) < (gone.length : Int)) = false := by simp; omega
                have hS1 : Sl.stp (labOf labels by') (labOf gone by') gone.length nn zz m = if labOf labels by' m = nn then (m : Int) else zz := if_neg (fun h => hg h.1)
                by_cases hL : u * by' % 1048576 = nn
                · have eL : (u * by' % 1048576 == nn) = true := by simpa using hL
                  have HS : Hid (Sl.stp (labOf labels by') (labOf gone by') gone.length nn zz m = (m : Int)) := Lib.hid (hS1.trans (if_pos (HLm.out.trans hL)))
                  clear hL hS1
                  go_wp2
                  exact ⟨⟨m + 1, _, by simp, by omega, by omega, rfl, by rw [← HS.out]; exact HStep.out⟩, by simp [intOf]; omega⟩
                · have eL : (u * by' % 1048576 == nn) = false := by simpa using hL
                  have HS : Hid (Sl.stp (labOf labels by') (labOf gone by') gone.length nn zz m = zz) := Lib.hid (hS1.trans (if_neg (fun h => hL (HLm.out.symm.trans h))))
                  clear hL hS1
                  go_wp2
                  exact ⟨⟨m + 1, _, by simp, by omega, by omega, rfl, by rw [← HS.out]; exact HStep.out⟩, by simp [intOf]; omega⟩
            · have hme : m = labels.length := by omega
              have hzz : zz = Sl.lst (labOf labels by') (labOf gone by') gone.length nn labels.length := by
                rcases HLa.out with ⟨h, _⟩ | ⟨_, h⟩
                · omega
                · rw [← hme]; exact h
              obtain ⟨g1, g2⟩ := get_run hzz
              have HGt := Lib.hid (get_any _ _ true 64 _ nn _ HTq.out)
              rw [g1, g2] at HGt
              clear hme hzz g1 g2
              by_cases h0z : 0 ≤ zz
              · have d0 : decide (0 ≤ zz) = true := by simpa using h0z
                rw [if_pos h0z, d0] at HGt
                go_wp2_with fail
                refine HGt.out.mono ?_
                rintro e w9 ⟨rfl, hb9⟩
                have HB9 := Lib.hid (HQ.out.trans (hb9.mono HQ.out.size))
                clear hb9
                go_wp2
                exact ⟨⟨k + 1, by simp, by omega, HB9.out⟩, by simp [intOf]; omega⟩
              · have d0 : decide (0 ≤ zz) = false := by simpa using h0z
                rw [if_neg h0z, d0] at HGt
                go_wp2_with fail
                refine HGt.out.mono ?_
                rintro e w9 ⟨rfl, hb9⟩
                have HB9 := Lib.hid (HQ.out.trans (hb9.mono HQ.out.size))
                clear hb9
                go_wp2
                exact ⟨⟨k + 1, by simp, by omega, HB9.out⟩, by simp [intOf]; omega⟩
        · have HLn := Lib.hid (len_any _ _ true 64 _ _ HTq.out)
          have HAl := Lib.hid (all_any _ _ true 64 _ _ HTq.out)
          generalize Sl.run (labOf labels by') (labOf gone by') gone.length labels.length = M at HLn HAl
          go_wp2_with fail
          refine HLn.out.mono ?_
          rintro e w9 ⟨rfl, rfl⟩
          go_wp2_with fail
          refine HAl.out.mono ?_
          rintro e w10 ⟨v10, rfl, ho, hb10⟩
          obtain ⟨p7, c7, rfl, hd1, hd2, hR7⟩ := SlR.of_owns encIt_len ho
          clear ho hR7
          go_wp2
          go_ret
          exact ⟨rfl, HBq.out.trans (hb10.mono HBq.out.size)⟩

set_option maxRecDepth 1000000 in
set_option maxHeartbeats 4000000 in
theorem law_found_long (n0 n1 cap0 cap1 : Nat) (p0 p1 : Option Addr) (st : Int) (w : World) (h0 : n0 ≤ 9223372036854775807) (h1 : n1 ≤ 9223372036854775807) (h : ¬ (n0 ≤ 60 ∧ n1 ≤ 60)) :
    Calls Try.prog 9 #[.slice p0 n0 cap0, .slice p1 n1 cap1, .int .u8 st] w fun e w' => e = .returned (.bool true) ∧ Below w.heap.size w w' := by
  by_cases hl : n0 ≤ 60
  · have e1 : decide (60 < (n0 : Int)) = false := by simp; omega
    have e2 : decide (60 < (n1 : Int)) = true := by simp; omega
    go_enter Try.func9, Try.ntmps9
    go_wp2_with fail
    refine (law13_awake _).mono ?_
    rintro e w1 ⟨rfl, hb1⟩
    go_wp2_with fail
    go_ret
    exact ⟨rfl, hb1⟩
  · have e1 : decide (60 < (n0 : Int)) = true := by simp; omega
    go_enter Try.func9, Try.ntmps9
    go_wp2_with fail
    refine (law13_awake _).mono ?_
    rintro e w1 ⟨rfl, hb1⟩
    go_wp2_with fail
    go_ret
    exact ⟨rfl, hb1⟩

theorem law_found_all (labels gone : List Int) (hlb : ∀ x ∈ labels, 0 ≤ x ∧ x ≤ 65535) (hgn : ∀ x ∈ gone, 0 ≤ x ∧ x ≤ 65535) (st : Int) (hs0 : 0 ≤ st) (hs1 : st ≤ 255) (v0 v1 : Value) (w : World) (hv0 : SlR w 1 encU v0 labels) (hv1 : SlR w 1 encU v1 gone) :
    Calls Try.prog 9 #[v0, v1, .int .u8 st] w fun e w' => e = .returned (.bool true) ∧ Below w.heap.size w w' := by
  by_cases h : labels.length ≤ 60 ∧ gone.length ≤ 60
  · exact law_found labels gone hlb hgn st hs0 hs1 v0 v1 w hv0 hv1 h.1 h.2
  · obtain ⟨p0, cap0, rfl, hq1, hq2, hR0⟩ := hv0
    obtain ⟨p1, cap1, rfl, hq3, hq4, hR1⟩ := hv1
    exact law_found_long _ _ cap0 cap1 p0 p1 st w (by omega) (by omega) h

theorem SlR.map {α β : Type} {w : World} {k : Nat} {enc : β → List Value} {f : α → β} {v : Value} {l : List α} (h : SlR w k (fun y => enc (f y)) v l) : SlR w k enc v (l.map f) := by
  obtain ⟨p, c, rfl, h1, h2, hR⟩ := h
  refine ⟨p, c, by rw [List.length_map], by rw [List.length_map]; exact h1, h2, fun e => by rw [List.length_map]; exact hR.1 e, fun a ha => ?_⟩
  obtain ⟨h6, h7, h8⟩ := hR.2 a ha
  refine ⟨h6, h7, fun i x hx j u hu => ?_⟩
  rw [List.getElem?_map] at hx
  cases hy : l[i]? with
  | none => rw [hy] at hx; cases hx
  | some y =>
    rw [hy] at hx
    cases hx
    exact h8 i y hy j u hu
end Go.Proofs.Ytcioiiobjfblbaa
