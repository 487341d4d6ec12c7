import Derived.Test.YtlefkmgcahpobaaDoorColonRun
import Derived.Test.YtlefkmgcahpobaaDoorOctetRef2
import Derived.Test.YtlefkmgcahpobaaDoorOctetNum2
import Derived.Test.YtlefkmgcahpobaaDoorOctetHex
import Derived.Test.YtlefkmgcahpobaaDoorColonLaw
import Derived.Test.YtlefkmgcahpobaaDoorHeld
import Derived.Test.YtlefkmgcahpobaaDoorColonBack
/- The document's zeros, digits. -/
namespace Go.Proofs.YtlefkmgcahpobaaDoor
set_option linter.unusedVariables false
set_option linter.unusedSimpArgs false
open Go.RowKit Go.Shelf Go.Proofs Go.OctetPlain Go.ColonPlain

set_option maxRecDepth 100000 in
set_option maxHeartbeats 800000 in
theorem ref_zeros (G : List Nat) (hG : G.length = 8) (a : Nat) (ha : a ≤ 8) (w : World) :
    Calls Tryd.prog 54 #[.agg (arrI (ints G)), .int .i64 a] w fun e w' => e = .returned (.int .i64 (zerosB ((zs G).drop a) : Nat)) ∧ Below w.heap.size w w' := by
  go_enter Tryd.func54, Tryd.ntmps54
  go_wp2_with fail
  go_loopw [5] (fun vn wr => ∃ j : Nat, vn = .int .i64 j ∧ a + j ≤ 8 ∧ Hid (zerosB ((zs G).drop a) = j + zerosB ((zs G).drop (a + j))) ∧ Hid (Blk wr w.heap.size 52 (arrI (ints G))) ∧ Hid (Below w.heap.size w wr)) (fun vn _ => 8 - (intOf vn).toNat)
  case atStart => exact ⟨0, rfl, by omega, Lib.hid (by simp), Lib.hid (Blk.new _ _ _), Lib.hid (belowA w _)⟩
  case round =>
    obtain ⟨j, rfl, hj, HE, HA, HB⟩ := hrel
    have e1 : IntKind.i64.wrap ((a : Int) + j) = (a : Int) + j := IntWalk.i64_in _ (by omega)
    by_cases hlt : a + j < 8
    · obtain ⟨n, hn⟩ : ∃ n, G[a + j]? = some n := ⟨G[a + j], List.getElem?_eq_getElem (by omega)⟩
      have hz : (zs G).drop (a + j) = decide (n = 0) :: (zs G).drop (a + j + 1) := by
        have h1 : (zs G)[a + j]? = some (decide (n = 0)) := by simp [zs, hn]
        obtain ⟨h2, h3⟩ := List.getElem?_eq_some_iff.1 h1
        rw [List.drop_eq_getElem_cons h2, h3]
      rw [hz] at HE
      have hc := (HA.out.cell (a + j)).trans (arrI_get (ints_get hn))
      have hl1 : (a : Int) + j < 8 := by omega
      have hl0 : 0 ≤ (a : Int) + j := by omega
      have ht : ((a : Int) + j).toNat = a + j := by omega
      clear hz hn
      by_cases hn0 : n = 0
      · subst hn0
        rw [decide_eq_true rfl, zerosB] at HE
        go_wp2_with fail
        exact ⟨⟨j + 1, by go_num, by omega, Lib.hid (by rw [HE.out, Nat.add_assoc a j 1]; omega), HA, HB⟩, by simp [intOf]; omega⟩
      · have hne : ¬ (n : Int) = 0 := by omega
        rw [decide_eq_false hn0] at HE
        simp only [zerosB, Nat.add_zero] at HE
        clear hn0
        go_wp2_with fail
        go_ret
        exact ⟨by rw [HE.out]; rfl, HB.out⟩
    · have hd : (zs G).drop (a + j) = [] := List.drop_eq_nil_of_le (by rw [zs_length]; omega)
      rw [hd] at HE
      simp only [zerosB, Nat.add_zero] at HE
      have hl1 : ¬ (a : Int) + j < 8 := by omega
      clear hd
      go_wp2_with fail
      go_ret
      exact ⟨by rw [HE.out]; rfl, HB.out⟩

set_option maxRecDepth 100000 in
set_option maxHeartbeats 800000 in
theorem ref_digits (n : Nat) (hn : n < 65536) (w : World) :
    Calls Tryd.prog 67 #[.int .i64 n] w fun e w' => e = .returned (.string (str (hexN n))) ∧ Below w.heap.size w w' := by
  have HB := Lib.hid fun W => ref_Bytes n (by omega) 2 (by omega) W
  have hbl : (OctetPlain.bytes n 2).length ≤ 1073741824 := by rw [bytes_length]; omega
  have HH := Lib.hid fun W => ref_Hex (OctetPlain.bytes n 2) hbl W
  have HS := Lib.hid (strike_hex n hn)
  have hhl : (hex (OctetPlain.bytes n 2)).length = 4 := by rw [hex_length, bytes_length]
  go_enter Tryd.func67, Tryd.ntmps67
  go_wp2_with fail
  refine (HB.out _).mono ?_
  rintro e w1 ⟨rfl, hb1⟩
  go_wp2_with fail
  refine (HH.out _).mono ?_
  rintro e w2 ⟨rfl, hb2⟩
  have HB2 := Lib.hid (hb1.trans (hb2.mono hb1.size))
  clear hb1 hb2
  go_wp2_with fail
  go_loopw [3] (fun vs wr => ∃ s : List UInt8, vs = .string (str s) ∧ s.length ≤ 4 ∧ Hid (strike (hex (OctetPlain.bytes n 2)) = strike s) ∧ Hid (Below w.heap.size w wr)) (fun vs _ => match vs with | .string s => s.size | _ => 0)
  case atStart => exact ⟨_, rfl, by omega, Lib.hid rfl, HB2⟩
  case round =>
    obtain ⟨s, rfl, hs, HE, HBB⟩ := hrel
    have hsz : (str s).size = s.length := str_size s
    match s, hs, HE, hsz with
    | [], hs, HE, hsz =>
      go_wp2_with fail
      go_ret
      exact ⟨by rw [← HS.out, HE.out]; rfl, HBB.out⟩
    | [c], hs, HE, hsz =>
      have hsz' : (str [c]).size = 1 := hsz
      go_wp2_with fail
      go_ret
      exact ⟨by rw [← HS.out, HE.out]; rfl, HBB.out⟩
    | c :: d :: r, hs, HE, hsz =>
      have hg : ∀ h, (str (c :: d :: r))[0]'h = c := fun h => str_get _ _ h
      have hl : (1 : Int) < ((c :: d :: r).length : Int) := by simp only [List.length_cons]; omega
      have hcut : (str (c :: d :: r)).extract 1 (c :: d :: r).length = str (d :: r) := by rw [str_cut]; simp
      by_cases hc : c = 48
      · subst hc
        rw [strike, if_pos rfl] at HE
        generalize hq : (48 : UInt8) :: d :: r = q at hsz hg hl hcut hs ⊢
        go_wp2_with fail
        refine ⟨⟨d :: r, rfl, by rw [← hq] at hs; simp only [List.length_cons] at hs ⊢; omega, HE, HBB⟩, ?_⟩
        show (str (d :: r)).size < (str q).size
        rw [str_size, hsz, ← hq]
        simp
      · have hc2 : ((c.toNat : Int) == 48) = false := by
          rw [beq_eq_false_iff_ne]
          intro h
          exact hc (UInt8.toNat_inj.1 (Int.ofNat.inj h))
        rw [strike, if_neg hc] at HE
        generalize hq : c :: d :: r = q at hsz hg hl hcut hs HE ⊢
        go_wp2_with fail
        go_ret
        exact ⟨by rw [← HS.out, HE.out]; rfl, HBB.out⟩
end Go.Proofs.YtlefkmgcahpobaaDoor

/- The document's joined and Show. -/
namespace Go.Proofs.YtlefkmgcahpobaaDoor
set_option linter.unusedVariables false
set_option linter.unusedSimpArgs false
open Go.RowKit Go.Shelf Go.Proofs Go.OctetPlain Go.ColonPlain

theorem joinF_app1 (f : Nat → List UInt8) (x : Nat) : ∀ (l : List Nat), l ≠ [] → joinF f (l ++ [x]) = joinF f l ++ 58 :: f x
  | [], h => absurd rfl h
  | [n], _ => rfl
  | n :: m :: r, _ => by
    have := joinF_app1 f x (m :: r) (by simp)
    simp only [List.cons_append, joinF] at this ⊢
    rw [this]; simp
theorem win_succ {G : List Nat} {a k n : Nat} (ha : a ≤ k) (hn : G[k]? = some n) : (G.take (k + 1)).drop a = (G.take k).drop a ++ [n] := by
  obtain ⟨h1, h2⟩ := List.getElem?_eq_some_iff.1 hn
  rw [List.take_succ_eq_append_getElem h1, h2, List.drop_append_of_le_length (by rw [List.length_take]; omega)]

set_option maxRecDepth 100000 in
set_option maxHeartbeats 800000 in
theorem ref_joined (G : List Nat) (hG : G.length = 8) (hlt : ∀ n ∈ G, n < 65536) (a b : Nat) (hab : a ≤ b) (hb : b ≤ 8) (w : World) :
    Calls Tryd.prog 55 #[.agg (arrI (ints G)), .int .i64 a, .int .i64 b] w fun e w' => e = .returned (.string (str (joinF hexN ((G.take b).drop a)))) ∧ Below w.heap.size w w' := by
  go_enter Tryd.func55, Tryd.ntmps55
  go_wp2_with fail
  go_loopw [7, 8] (fun vs vi wr => ∃ k : Nat, vi = .int .i64 k ∧ a ≤ k ∧ k ≤ b ∧ vs = .string (str (joinF hexN ((G.take k).drop a))) ∧ Hid (Blk wr w.heap.size 52 (arrI (ints G))) ∧ Hid (Below w.heap.size w wr)) (fun _ vi _ => b - (intOf vi).toNat)
  case atStart =>
    refine ⟨a, rfl, Nat.le_refl _, hab, ?_, Lib.hid (Blk.new _ _ _), Lib.hid (belowA w _)⟩
    rw [List.drop_eq_nil_of_le (by rw [List.length_take]; omega)]; rfl
  case round =>
    obtain ⟨k, rfl, hak, hkb, rfl, HA, HB⟩ := hrel
    by_cases hlt2 : k < b
    · obtain ⟨n, hn⟩ : ∃ n, G[k]? = some n := ⟨G[k], List.getElem?_eq_getElem (by omega)⟩
      have hc := (HA.out.cell k).trans (arrI_get (ints_get hn))
      have hnb := hlt n (List.mem_of_getElem? hn)
      have DG := Lib.hid fun W => ref_digits n hnb W
      have hw := win_succ hak hn
      have hln := hexN_length n
      have hh : (str (hexN n)).size = (hexN n).length := str_size _
      have hk8 : k < 8 := by omega
      have hpl := joinF_le (f := hexN) hexN_length ((G.take k).drop a)
      have hps : (str (joinF hexN ((G.take k).drop a))).size = (joinF hexN ((G.take k).drop a)).length := str_size _
      have hlen : ((G.take k).drop a).length = k - a := by rw [List.length_drop, List.length_take]; omega
      by_cases hka : a < k
      · have hj : joinF hexN ((G.take (k + 1)).drop a) = joinF hexN ((G.take k).drop a) ++ 58 :: hexN n := by
          rw [hw]; exact joinF_app1 _ _ _ (fun h => by rw [h] at hlen; simp at hlen; omega)
        have HJ := Lib.hid hj
        clear hw hj hn
        generalize joinF hexN ((G.take k).drop a) = Pj at HJ hpl hps ⊢
        have h3 : (str (Pj ++ [58])).size = Pj.length + 1 := by rw [str_size]; simp
        have hsep : str Pj ++ ⟨#[58]⟩ = str (Pj ++ [58]) := str_app Pj [58]
        go_wp2_with fail
        refine (DG.out _).mono ?_
        rintro e w1 ⟨rfl, hb1⟩
        have HA1 := Lib.hid (HA.out.below hb1 HA.out.lt)
        have HB1 := Lib.hid (HB.out.trans (hb1.mono HB.out.size))
        clear hb1
        go_wp2_with fail
        refine ⟨⟨k + 1, by go_num, by omega, by omega, by rw [HJ.out, str_app]; simp, HA1, HB1⟩, by simp [intOf]; omega⟩
      · obtain rfl : a = k := by omega
        have hj : joinF hexN ((G.take (a + 1)).drop a) = hexN n := by
          rw [hw, show (G.take a).drop a = [] from List.eq_nil_of_length_eq_zero (by omega)]; rfl
        have hj0 : joinF hexN ((G.take a).drop a) = [] := by
          rw [show (G.take a).drop a = [] from List.eq_nil_of_length_eq_zero (by omega)]; rfl
        have HJ := Lib.hid hj
        rw [hj0] at hps ⊢
        have hps : (str []).size = 0 := rfl
        clear hw hj hn hj0 hpl hlen
        go_wp2_with fail
        refine (DG.out _).mono ?_
        rintro e w1 ⟨rfl, hb1⟩
        have HA1 := Lib.hid (HA.out.below hb1 HA.out.lt)
        have HB1 := Lib.hid (HB.out.trans (hb1.mono HB.out.size))
        clear hb1
        go_wp2_with fail
        refine ⟨⟨a + 1, by go_num, by omega, by omega, by rw [HJ.out, str_app]; simp, HA1, HB1⟩, by simp [intOf]; omega⟩
    · obtain rfl : k = b := by omega
      go_wp2_with fail
      go_ret
      exact ⟨rfl, HB.out⟩

structure TR (w : World) (B : Nat) (X : Array Value) (W : World) : Prop where
  blk : Blk W B 52 X
  below : Below w.heap.size w W
theorem TR.next {w : World} {B : Nat} {X : Array Value} {W W' : World} (h : TR w B X W) (hb : Below W.heap.size W W') : TR w B X W' :=
  ⟨h.blk.below hb h.blk.lt, h.below.trans (hb.mono h.below.size)⟩
theorem TR.drew {w : World} {B : Nat} {X : Array Value} {W : World} (h : TR w B X W) : TR w B X W.drew := h.next (Below.refl _ _).drew

set_option maxRecDepth 100000 in
set_option maxHeartbeats 2000000 in
theorem ref_Show (l : List UInt8) (hl : l.length = 16) (w : World) :
    Calls Tryd.prog 31 #[.agg (arrB l)] w fun e w' => e = .returned (.string (str (show_ l))) ∧ Below w.heap.size w w' := by
  have hu8 := Tryd.underlying52
  have hgl : (groupsOf l).length = 8 := groups_length 8 l (by omega)
  have hlt := groups_lt l
  have GA := Lib.hid fun W => ref_Groups l hl W
  have ZE := fun a ha W => ref_zeros (groupsOf l) hgl a ha W
  have JO := fun a b hab hb W => ref_joined (groupsOf l) hgl hlt a b hab hb W
  have hsh : show_ l = shown (groupsOf l) := rfl
  unfold shown at hsh
  rw [run_ref hgl] at hsh
  have hsp := refRun_spec (zs (groupsOf l)) 0 0 0 (by omega)
  rw [zs_length, hgl] at hsp
  have kL := A16.of hl
  have HSH := Lib.hid hsh
  clear hsh
  generalize arrB l = XA at GA kL ⊢
  generalize show_ l = T at HSH ⊢
  generalize groupsOf l = G at *
  obtain ⟨g0, g1, g2, g3, g4, g5, g6, g7, hg⟩ := list8 hgl
  have hGI : arrI (ints G) = #[.int .i64 (g0 : Int), .int .i64 (g1 : Int), .int .i64 (g2 : Int), .int .i64 (g3 : Int), .int .i64 (g4 : Int), .int .i64 (g5 : Int), .int .i64 (g6 : Int), .int .i64 (g7 : Int)] := by rw [hg]; rfl
  rw [hGI] at GA ZE JO
  have HZ := Lib.hid ZE
  have HJ := Lib.hid JO
  have KL := Lib.hid kL
  have hzl : (zs G).length = 8 := by rw [zs_length, hgl]
  clear ZE JO hg hGI kL
  go_enter Tryd.func31, Tryd.ntmps31
  go_wp2_with (refine wpList_load_want rfl _ _ rfl w.heap.size rfl _ XA (0, 0) _ (Blk.new w _ _) Tryd.underlying50 rfl KL.out.info ?_)
  refine (GA.out _).mono ?_
  rintro e w1 ⟨rfl, hb1⟩
  go_wp2_with fail
  have T1 : TR w w1.heap.size #[.int .i64 (g0 : Int), .int .i64 (g1 : Int), .int .i64 (g2 : Int), .int .i64 (g3 : Int), .int .i64 (g4 : Int), .int .i64 (g5 : Int), .int .i64 (g6 : Int), .int .i64 (g7 : Int)] (w1.alloc (.cells #[.int .i64 (g0 : Int), .int .i64 (g1 : Int), .int .i64 (g2 : Int), .int .i64 (g3 : Int), .int .i64 (g4 : Int), .int .i64 (g5 : Int), .int .i64 (g6 : Int), .int .i64 (g7 : Int)] 52)) :=
    ⟨Blk.new _ _ _, (belowA2 hb1).trans ((belowA w1 _).mono (by have := (belowA2 hb1).size; exact this))⟩
  have HT1 := Lib.hid T1
  clear hb1 T1
  generalize w1.alloc (.cells #[.int .i64 (g0 : Int), .int .i64 (g1 : Int), .int .i64 (g2 : Int), .int .i64 (g3 : Int), .int .i64 (g4 : Int), .int .i64 (g5 : Int), .int .i64 (g6 : Int), .int .i64 (g7 : Int)] 52) = W1 at HT1 ⊢
  go_loopw [4, 5, 6, 7] (fun va vl vi _ wr => ∃ k at_ long : Nat, k ≤ 8 ∧ at_ + long ≤ 8 ∧ vi = .int .i64 k ∧ va = .int .i64 at_ ∧ vl = .int .i64 long ∧ Hid (refRun 0 0 0 (zs G) = refRun k at_ long ((zs G).drop k)) ∧ Hid (TR w w1.heap.size #[.int .i64 (g0 : Int), .int .i64 (g1 : Int), .int .i64 (g2 : Int), .int .i64 (g3 : Int), .int .i64 (g4 : Int), .int .i64 (g5 : Int), .int .i64 (g6 : Int), .int .i64 (g7 : Int)] wr)) (fun _ _ vi _ _ => 8 - (intOf vi).toNat)
  case atStart => exact ⟨0, 0, 0, by omega, by omega, rfl, rfl, rfl, Lib.hid rfl, HT1⟩
  case round =>
    obtain ⟨k, at_, long, hk, hal, rfl, rfl, rfl, HR, HT⟩ := hrel
    by_cases hlt2 : k < 8
    · have ZK := Lib.hid fun W => HZ.out k (by omega) W
      have hdr : (zs G).drop k = (zs G)[k] :: (zs G).drop (k + 1) := List.drop_eq_getElem_cons (by omega)
      have hR := HR.out
      have hzle := zerosB_le ((zs G).drop k)
      rw [List.length_drop, hzl] at hzle
      rw [hdr, refRun, ← hdr] at hR
      have HR2 := Lib.hid hR
      clear hR hdr HR
      obtain ⟨n, hn⟩ : ∃ n, zerosB ((zs G).drop k) = n := ⟨_, rfl⟩
      rw [hn] at HR2 hzle ZK
      clear hn
      go_wp2_with (refine wpList_load_want rfl _ _ rfl w1.heap.size rfl _ _ (0, 0) _ HT.out.blk hu8 rfl info8 ?_)
      refine (ZK.out _).mono ?_
      rintro e w2 ⟨rfl, hb2⟩
      have HT2 := Lib.hid (HT.out.next hb2)
      clear hb2
      by_cases hc : long < n
      · have hc' : (long : Int) < (n : Int) := by omega
        by_cases hc2 : 1 < n
        · have hc2' : (1 : Int) < (n : Int) := by omega
          go_wp2_with fail
          refine ⟨⟨k + 1, k, n, by omega, by omega, by go_num, rfl, rfl, Lib.hid (by rw [HR2.out, if_pos ⟨hc, hc2⟩]), HT2⟩, by simp [intOf]; omega⟩
        · have hc2' : ¬ (1 : Int) < (n : Int) := by omega
          go_wp2_with fail
          refine ⟨⟨k + 1, at_, long, by omega, by omega, by go_num, rfl, rfl, Lib.hid (by rw [HR2.out, if_neg (fun h => hc2 h.2)]), HT2⟩, by simp [intOf]; omega⟩
      · have hc' : ¬ (long : Int) < (n : Int) := by omega
        go_wp2_with fail
        refine ⟨⟨k + 1, at_, long, by omega, by omega, by go_num, rfl, rfl, Lib.hid (by rw [HR2.out, if_neg (fun h => hc h.1)]), HT2⟩, by simp [intOf]; omega⟩
    · obtain rfl : k = 8 := by omega
      have hR := HR.out
      rw [List.drop_eq_nil_of_le (by omega), refRun] at hR
      have HS2 := HSH.out
      rw [hR] at HS2
      simp only at HS2
      by_cases h0 : long = 0
      · subst h0
        rw [if_pos (by omega)] at HS2
        have HS3 := Lib.hid HS2
        clear HS2 hR
        have JA := Lib.hid fun W => HJ.out 0 8 (by omega) (by omega) W
        rw [List.take_of_length_le (by omega), List.drop_zero] at JA
        go_wp2_with (refine wpList_load_want rfl _ _ rfl w1.heap.size rfl _ _ (0, 0) _ HT.out.blk hu8 rfl info8 ?_)
        refine (JA.out _).mono ?_
        rintro e w2 ⟨rfl, hb2⟩
        have HT2 := Lib.hid (HT.out.next hb2)
        clear hb2
        go_wp2_with fail
        go_ret
        exact ⟨by rw [HS3.out]; rfl, HT2.out.below⟩
      · rw [if_neg (by omega)] at HS2
        have HS3 := Lib.hid HS2
        clear HS2
        have JA := Lib.hid fun W => HJ.out 0 at_ (by omega) (by omega) W
        rw [List.drop_zero] at JA
        have JB := Lib.hid fun W => HJ.out (at_ + long) 8 (by omega) (by omega) W
        rw [List.take_of_length_le (l := G) (by omega)] at JB
        have e1 : ((at_ : Int) + (long : Int)) = ((at_ + long : Nat) : Int) := by omega
        have w1' : IntKind.i64.wrap ((at_ : Int) + (long : Int)) = ((at_ + long : Nat) : Int) := by rw [IntWalk.i64_in _ (by omega), e1]
        have hne : ((long : Int) == 0) = false := by rw [beq_eq_false_iff_ne]; omega
        have hp1 := joinF_le (f := hexN) hexN_length (G.take at_)
        have hp2 := joinF_le (f := hexN) hexN_length (G.drop (at_ + long))
        rw [List.length_take] at hp1
        rw [List.length_drop] at hp2
        have hcat : ∀ A Z : List UInt8, str A ++ ⟨#[58, 58]⟩ ++ str Z = str (A ++ 58 :: 58 :: Z) := fun A Z => by
          have h1 : str A ++ ⟨#[58, 58]⟩ = str (A ++ [58, 58]) := str_app A [58, 58]
          rw [h1, str_app]; simp
        have HCAT := Lib.hid hcat
        clear hcat
        generalize hA : joinF hexN (G.take at_) = A at JA hp1
        generalize hZ : joinF hexN (G.drop (at_ + long)) = Z at JB hp2
        have hs1 : (str A).size = A.length := str_size A
        have hs2 : (str Z).size = Z.length := str_size Z
        have hs3 : (str A ++ ⟨#[58, 58]⟩).size = A.length + 2 := by
          have h1 : str A ++ ⟨#[58, 58]⟩ = str (A ++ [58, 58]) := str_app A [58, 58]
          rw [h1, str_size]; simp
        have hb1 : ¬ 9223372036854775807 < A.length + 2 := by omega
        have hb2 : ¬ 9223372036854775807 < A.length + 2 + Z.length := by omega
        clear e1 hR h0
        go_wp2_with fail
        refine wp_region_held_drew (S := fun W => TR w w1.heap.size #[.int .i64 (g0 : Int), .int .i64 (g1 : Int), .int .i64 (g2 : Int), .int .i64 (g3 : Int), .int .i64 (g4 : Int), .int .i64 (g5 : Int), .int .i64 (g6 : Int), .int .i64 (g7 : Int)] W) (by kernel_rfl) HT.out.drew (fun hHeld => ?_)
        refine wpAnyH_take (i := 0) rfl (by kernel_rfl) (by kernel_rfl) (by kernel_rfl) (fun _ _ _ h => h) (yieldsIf_load_row (by rfl) _ _ rfl (w1.heap.size) rfl _ (#[.int .i64 (g0 : Int), .int .i64 (g1 : Int), .int .i64 (g2 : Int), .int .i64 (g3 : Int), .int .i64 (g4 : Int), .int .i64 (g5 : Int), .int .i64 (g6 : Int), .int .i64 (g7 : Int)]) _ (fun w h => h.blk) hu8 rfl info8) (by assumption) ?_
        simp only [Act.put, List.setIfInBounds_toArray, List.set_cons_zero, List.set_cons_succ, List.getElem_toArray, List.getElem_cons_zero, List.getElem_cons_succ]
        refine wpAnyH_take (i := 1) (v := ?_) rfl (by kernel_rfl) (by kernel_rfl) (by kernel_rfl) (fun _ _ _ h => h) (Or.inl ⟨by rfl, ?_⟩) (by assumption) ?_
        rotate_left
        · intro w hSw; go_simp; try with_reducible rfl
        simp only [Act.put, List.setIfInBounds_toArray, List.set_cons_zero, List.set_cons_succ, List.getElem_toArray, List.getElem_cons_zero, List.getElem_cons_succ]
        refine wpAnyH_take (i := 4) rfl (by kernel_rfl) (by kernel_rfl) (by kernel_rfl) (fun _ _ _ h => h) (yieldsIf_load_row (by rfl) _ _ rfl (w1.heap.size) rfl _ (#[.int .i64 (g0 : Int), .int .i64 (g1 : Int), .int .i64 (g2 : Int), .int .i64 (g3 : Int), .int .i64 (g4 : Int), .int .i64 (g5 : Int), .int .i64 (g6 : Int), .int .i64 (g7 : Int)]) _ (fun w h => h.blk) hu8 rfl info8) (by assumption) ?_
        simp only [Act.put, List.setIfInBounds_toArray, List.set_cons_zero, List.set_cons_succ, List.getElem_toArray, List.getElem_cons_zero, List.getElem_cons_succ]
        refine wpAnyH_take (i := 5) (v := ?_) rfl (by kernel_rfl) (by kernel_rfl) (by kernel_rfl) (fun _ _ _ h => h) (Or.inl ⟨by rfl, ?_⟩) (by assumption) ?_
        rotate_left
        · intro w hSw; go_simp; try with_reducible rfl
        simp only [Act.put, List.setIfInBounds_toArray, List.set_cons_zero, List.set_cons_succ, List.getElem_toArray, List.getElem_cons_zero, List.getElem_cons_succ]
        refine wpAnyH_take (i := 6) (v := ?_) rfl (by kernel_rfl) (by kernel_rfl) (by kernel_rfl) (fun _ _ _ h => h) (Or.inl ⟨by rfl, ?_⟩) (by assumption) ?_
        rotate_left
        · intro w hSw; go_simp; try with_reducible rfl
        simp only [Act.put, List.setIfInBounds_toArray, List.set_cons_zero, List.set_cons_succ, List.getElem_toArray, List.getElem_cons_zero, List.getElem_cons_succ]
        refine wpAnyH_take (i := 7) (v := ?_) rfl (by kernel_rfl) (by kernel_rfl) (by kernel_rfl) (fun _ _ _ h => h) (Or.inl ⟨by rfl, ?_⟩) (by assumption) ?_
        rotate_left
        · intro w hSw; go_simp; try with_reducible rfl
        simp only [Act.put, List.setIfInBounds_toArray, List.set_cons_zero, List.set_cons_succ, List.getElem_toArray, List.getElem_cons_zero, List.getElem_cons_succ]
        refine held_step (i := 2) rfl (by kernel_rfl) (by rfl) (fun K hK => ?_)
        go_simp
        refine (JA.out _).mono ?_; rintro e wa ⟨rfl, hba⟩
        go_wp2_with fail
        refine hK.out _ _ (TR.next (by assumption) hba) (fun hHeld => ?_)
        clear hK K
        try simp only [Act.put, List.setIfInBounds_toArray, List.set_cons_zero, List.set_cons_succ, List.getElem_toArray, List.getElem_cons_zero, List.getElem_cons_succ]
        refine wpAnyH_take (i := 3) (v := ?_) rfl (by kernel_rfl) (by kernel_rfl) (by kernel_rfl) (fun _ _ _ h => h) (Or.inl ⟨by rfl, ?_⟩) (by assumption) ?_
        rotate_left
        · intro w hSw; go_simp; try with_reducible rfl
        simp only [Act.put, List.setIfInBounds_toArray, List.set_cons_zero, List.set_cons_succ, List.getElem_toArray, List.getElem_cons_zero, List.getElem_cons_succ]
        refine held_step (i := 8) rfl (by kernel_rfl) (by rfl) (fun K hK => ?_)
        go_simp
        refine (JB.out _).mono ?_; rintro e wb ⟨rfl, hbb⟩
        go_wp2_with fail
        refine hK.out _ _ (TR.next (by assumption) hbb) (fun hHeld => ?_)
        clear hK K
        try simp only [Act.put, List.setIfInBounds_toArray, List.set_cons_zero, List.set_cons_succ, List.getElem_toArray, List.getElem_cons_zero, List.getElem_cons_succ]
        refine wpAnyH_take (i := 9) (v := ?_) rfl (by kernel_rfl) (by kernel_rfl) (by kernel_rfl) (fun _ _ _ h => h) (Or.inl ⟨by rfl, ?_⟩) (by assumption) ?_
        rotate_left
        · intro w hSw; go_simp; try with_reducible rfl
        simp only [Act.put, List.setIfInBounds_toArray, List.set_cons_zero, List.set_cons_succ, List.getElem_toArray, List.getElem_cons_zero, List.getElem_cons_succ]
        refine wpAnyH_take (i := 10) (v := ?_) rfl (by kernel_rfl) (by kernel_rfl) (by kernel_rfl) (fun _ _ _ h => h) (Or.inl ⟨by rfl, ?_⟩) (by assumption) ?_
        rotate_left
        · intro w hSw; go_simp; try with_reducible rfl
        simp only [Act.put, List.setIfInBounds_toArray, List.set_cons_zero, List.set_cons_succ, List.getElem_toArray, List.getElem_cons_zero, List.getElem_cons_succ]
        refine wpAnyH_done (by kernel_rfl) ?_ _
        go_wp2_with fail
        go_ret
        exact ⟨by rw [HS3.out, hA, hZ, ← HCAT.out]; rfl, TR.below (by assumption)⟩
end Go.Proofs.YtlefkmgcahpobaaDoor

/- The laws of layer 7: Tells. -/
namespace Go.Proofs.YtlefkmgcahpobaaDoor
set_option linter.unusedVariables false
set_option linter.unusedSimpArgs false
open Go.RowKit Go.Shelf Go.Proofs Go.OctetPlain Go.ColonPlain

theorem aO : arrB o16 = #[.int .u8 0, .int .u8 0, .int .u8 0, .int .u8 0, .int .u8 0, .int .u8 0, .int .u8 0, .int .u8 0, .int .u8 0, .int .u8 0, .int .u8 0, .int .u8 0, .int .u8 0, .int .u8 0, .int .u8 0, .int .u8 1] := rfl
def multiB (l : List UInt8) : Bool := ((l.headD 0).toNat : Int) == 255
theorem head_get {l : List UInt8} (hl : l.length = 16) : l[0]? = some (l.headD 0) := by
  cases l with
  | nil => simp at hl
  | cons a r => rfl

set_option maxRecDepth 100000 in
theorem ref_Multi (l : List UInt8) (hl : l.length = 16) (w : World) : Calls Tryd.prog 35 #[.agg (arrB l)] w fun e w' => e = .returned (.bool (multiB l)) ∧ Below w.heap.size w w' := by
  have hc := fun W => (Blk.new W 50 (arrB l)).cell 0
  rw [arrB_get (head_get hl)] at hc
  unfold multiB
  generalize arrB l = XA at hc ⊢
  generalize ((l.headD 0).toNat : Int) = c at hc ⊢
  go_enter Tryd.func35, Tryd.ntmps35
  go_wp2_with fail
  go_ret
  exact ⟨rfl, belowA w _⟩

theorem colon_Multi' (l : List UInt8) (hl : l.length = 16) (w : World) : Calls Tryd.prog 34 #[.agg (arrB l)] w fun e w' => e = .returned (.bool (multiB l)) ∧ Below w.heap.size w w' := by
  obtain ⟨y0, y1, y2, y3, y4, y5, y6, y7, y8, y9, y10, y11, y12, y13, y14, y15, rfl⟩ := list16 hl
  exact colon_Multi _ _ _ _ _ _ _ _ _ _ _ _ _ _ _ _ w

set_option maxRecDepth 100000 in
set_option maxHeartbeats 800000 in
theorem ref_Plain (l : List UInt8) (hl : l.length = 16) (w : World) : Calls Tryd.prog 37 #[.agg (arrB l)] w fun e w' => e = .returned (.bool (plainB l)) ∧ Below w.heap.size w w' := by
  have q1 := fun W => eq_bytes hl (show z16.length = 16 by rfl) W
  have q2 := fun W => eq_bytes hl (show o16.length = 16 by rfl) W
  rw [aZ] at q1
  rw [aO] at q2
  have hc := fun W => (Blk.new W 50 (arrB l)).cell 0
  rw [arrB_get (head_get hl)] at hc
  have hP : Hid (plainB l = (!(((l.headD 0).toNat : Int) == 255) && !decide (l = z16) && !decide (l = o16))) := Lib.hid rfl
  have kL := A16.of hl
  generalize decide (l = z16) = e1 at q1 hP
  generalize decide (l = o16) = e2 at q2 hP
  generalize plainB l = pl at hP ⊢
  generalize arrB l = XA at hc q1 q2 kL ⊢
  generalize ((l.headD 0).toNat : Int) = c at hc hP
  have KL := Lib.hid kL
  clear kL
  by_cases h255 : c = 255
  · subst h255
    go_enter Tryd.func37, Tryd.ntmps37
    go_wp2_with fail
    go_ret
    exact ⟨by rw [hP.out]; rfl, belowA w _⟩
  · have hb : (c == 255) = false := by rw [beq_eq_false_iff_ne]; exact h255
    rw [hb] at hP
    have hbn : (c != 255) = true := by simpa using h255
    clear hb h255
    cases e1
    · go_enter Tryd.func37, Tryd.ntmps37
      go_wp2_with (refine wpList_load_want rfl _ _ rfl w.heap.size rfl _ XA (0, 0) _ (Blk.new w _ _) Tryd.underlying50 rfl KL.out.info ?_)
      go_ret
      exact ⟨by rw [hP.out]; simp, belowA w _⟩
    · go_enter Tryd.func37, Tryd.ntmps37
      go_wp2_with (refine wpList_load_want rfl _ _ rfl w.heap.size rfl _ XA (0, 0) _ (Blk.new w _ _) Tryd.underlying50 rfl KL.out.info ?_)
      go_ret
      exact ⟨by rw [hP.out]; simp, belowA w _⟩

set_option maxRecDepth 100000 in
set_option maxHeartbeats 2000000 in
theorem law_tells (a : List UInt8) (ha : a.length = 16) (w : World) (ht : CT w) :
    Calls Tryd.prog 9 #[.agg (arrB a)] w fun e w' => e = .returned (.bool true) ∧ Below w.heap.size w w' := by
  have hu16 := Tryd.underlying50
  have SA := Lib.hid fun W h => colon_Show a ha W h
  have SR := Lib.hid fun W => ref_Show a ha W
  have GA := Lib.hid fun W => colon_Groups a ha W
  have GR := Lib.hid fun W => ref_Groups a ha W
  have MA := Lib.hid fun W => colon_Multi' a ha W
  have MR := Lib.hid fun W => ref_Multi a ha W
  have PA := Lib.hid fun W => colon_Plain a ha W
  have PR := Lib.hid fun W => ref_Plain a ha W
  have hgl : (ints (groupsOf a)).length = 8 := by rw [ints_len']; exact groups_length 8 a (by omega)
  have q8 := fun W => eq_ints hgl hgl W
  simp only [decide_true] at q8
  have kA := A16.of ha
  have h0 : LB w (w.alloc (.cells (arrB a) 50)) w.heap.size (arrB a) := ⟨ht.below (belowA w _), belowA w _, Blk.new _ _ _⟩
  have H0 := Lib.hid h0
  clear h0 ht hgl
  generalize arrB a = XA at SA SR GA GR MA MR PA PR kA H0 ⊢
  generalize arrI (ints (groupsOf a)) = XG at GA GR q8
  generalize show_ a = T at SA SR
  generalize multiB a = mb at MA MR
  generalize plainB a = pb at PA PR
  have KA := Lib.hid kA
  have hi16 := kA.info
  have htl : ∀ T : List UInt8, (str T).toList = T := str_tl
  clear kA
  go_enter Tryd.func9, Tryd.ntmps9
  go_wp2_with fail
  refine (law07_awake _ H0.out.ct).mono ?_
  rintro e w1 ⟨rfl, hb1⟩
  have H1 := Lib.hid (H0.out.next hb1)
  clear hb1
  go_wp2_with fail
  refine wp_region_held_drew (S := fun W => LB w W w.heap.size XA) (by kernel_rfl) (H1.out.next (Below.refl _ _).drew) (fun hHeld => ?_)
  refine wpAnyH_take (i := 0) rfl (by kernel_rfl) (by kernel_rfl) (by kernel_rfl) (fun _ _ _ h => h) (yieldsIf_load_row (by rfl) _ _ rfl (w.heap.size) rfl _ (XA) _ (fun w h => h.a) hu16 rfl hi16) (by assumption) ?_
  simp only [Act.put, List.setIfInBounds_toArray, List.set_cons_zero, List.set_cons_succ, List.getElem_toArray, List.getElem_cons_zero, List.getElem_cons_succ]
  refine wpAnyH_take (i := 2) rfl (by kernel_rfl) (by kernel_rfl) (by kernel_rfl) (fun _ _ _ h => h) (yieldsIf_load_row (by rfl) _ _ rfl (w.heap.size) rfl _ (XA) _ (fun w h => h.a) hu16 rfl hi16) (by assumption) ?_
  simp only [Act.put, List.setIfInBounds_toArray, List.set_cons_zero, List.set_cons_succ, List.getElem_toArray, List.getElem_cons_zero, List.getElem_cons_succ]
  refine held_step (i := 1) rfl (by kernel_rfl) (by rfl) (fun K hK => ?_)
  go_simp
  refine (SA.out _ (LB.ct (by assumption))).mono ?_; rintro e wa ⟨rfl, hba⟩
  go_wp2_with fail
  refine hK.out _ _ (LB.next (by assumption) hba) (fun hHeld => ?_)
  clear hK K
  try simp only [Act.put, List.setIfInBounds_toArray, List.set_cons_zero, List.set_cons_succ, List.getElem_toArray, List.getElem_cons_zero, List.getElem_cons_succ]
  refine held_step (i := 3) rfl (by kernel_rfl) (by rfl) (fun K hK => ?_)
  go_simp
  refine (SR.out _).mono ?_; rintro e wb ⟨rfl, hbb⟩
  go_wp2_with fail
  refine hK.out _ _ (LB.next (by assumption) hbb) (fun hHeld => ?_)
  clear hK K
  try simp only [Act.put, List.setIfInBounds_toArray, List.set_cons_zero, List.set_cons_succ, List.getElem_toArray, List.getElem_cons_zero, List.getElem_cons_succ]
  refine wpAnyH_take (i := 4) (v := ?_) rfl (by kernel_rfl) (by kernel_rfl) (by kernel_rfl) (fun _ _ _ h => h) (Or.inl ⟨by rfl, ?_⟩) (by assumption) ?_
  rotate_left
  · intro w hSw; go_simp; try with_reducible rfl
  simp only [Act.put, List.setIfInBounds_toArray, List.set_cons_zero, List.set_cons_succ, List.getElem_toArray, List.getElem_cons_zero, List.getElem_cons_succ]
  refine wpAnyH_take (i := 5) (v := ?_) rfl (by kernel_rfl) (by kernel_rfl) (by kernel_rfl) (fun _ _ _ h => h) (Or.inl ⟨by rfl, ?_⟩) (by assumption) ?_
  rotate_left
  · intro w hSw; go_simp; try with_reducible rfl
  simp only [Act.put, List.setIfInBounds_toArray, List.set_cons_zero, List.set_cons_succ, List.getElem_toArray, List.getElem_cons_zero, List.getElem_cons_succ]
  refine wpAnyH_take (i := 6) rfl (by kernel_rfl) (by kernel_rfl) (by kernel_rfl) (fun _ _ _ h => h) (yieldsIf_load_row (by rfl) _ _ rfl (w.heap.size) rfl _ (XA) _ (fun w h => h.a) hu16 rfl hi16) (by assumption) ?_
  simp only [Act.put, List.setIfInBounds_toArray, List.set_cons_zero, List.set_cons_succ, List.getElem_toArray, List.getElem_cons_zero, List.getElem_cons_succ]
  refine wpAnyH_take (i := 8) rfl (by kernel_rfl) (by kernel_rfl) (by kernel_rfl) (fun _ _ _ h => h) (yieldsIf_load_row (by rfl) _ _ rfl (w.heap.size) rfl _ (XA) _ (fun w h => h.a) hu16 rfl hi16) (by assumption) ?_
  simp only [Act.put, List.setIfInBounds_toArray, List.set_cons_zero, List.set_cons_succ, List.getElem_toArray, List.getElem_cons_zero, List.getElem_cons_succ]
  refine held_step (i := 7) rfl (by kernel_rfl) (by rfl) (fun K hK => ?_)
  go_simp
  refine (GA.out _).mono ?_; rintro e wc ⟨rfl, hbc⟩
  go_wp2_with fail
  refine hK.out _ _ (LB.next (by assumption) hbc) (fun hHeld => ?_)
  clear hK K
  try simp only [Act.put, List.setIfInBounds_toArray, List.set_cons_zero, List.set_cons_succ, List.getElem_toArray, List.getElem_cons_zero, List.getElem_cons_succ]
  refine held_step (i := 9) rfl (by kernel_rfl) (by rfl) (fun K hK => ?_)
  go_simp
  refine (GR.out _).mono ?_; rintro e wd ⟨rfl, hbd⟩
  go_wp2_with fail
  refine hK.out _ _ (LB.next (by assumption) hbd) (fun hHeld => ?_)
  clear hK K
  try simp only [Act.put, List.setIfInBounds_toArray, List.set_cons_zero, List.set_cons_succ, List.getElem_toArray, List.getElem_cons_zero, List.getElem_cons_succ]
  refine wpAnyH_take (i := 10) (v := ?_) rfl (by kernel_rfl) (by kernel_rfl) (by kernel_rfl) (fun _ _ _ h => h) (Or.inl ⟨by rfl, ?_⟩) (by assumption) ?_
  rotate_left
  · intro w hSw; go_simp; try with_reducible rfl
  simp only [Act.put, List.setIfInBounds_toArray, List.set_cons_zero, List.set_cons_succ, List.getElem_toArray, List.getElem_cons_zero, List.getElem_cons_succ]
  refine wpAnyH_take (i := 11) (v := ?_) rfl (by kernel_rfl) (by kernel_rfl) (by kernel_rfl) (fun _ _ _ h => h) (Or.inl ⟨by rfl, ?_⟩) (by assumption) ?_
  rotate_left
  · intro w hSw; go_simp; try with_reducible rfl
  simp only [Act.put, List.setIfInBounds_toArray, List.set_cons_zero, List.set_cons_succ, List.getElem_toArray, List.getElem_cons_zero, List.getElem_cons_succ]
  refine wpAnyH_take (i := 12) (v := ?_) rfl (by kernel_rfl) (by kernel_rfl) (by kernel_rfl) (fun _ _ _ h => h) (Or.inl ⟨by rfl, ?_⟩) (by assumption) ?_
  rotate_left
  · intro w hSw; go_simp; try with_reducible rfl
  simp only [Act.put, List.setIfInBounds_toArray, List.set_cons_zero, List.set_cons_succ, List.getElem_toArray, List.getElem_cons_zero, List.getElem_cons_succ]
  refine wpAnyH_take (i := 13) rfl (by kernel_rfl) (by kernel_rfl) (by kernel_rfl) (fun _ _ _ h => h) (yieldsIf_load_row (by rfl) _ _ rfl (w.heap.size) rfl _ (XA) _ (fun w h => h.a) hu16 rfl hi16) (by assumption) ?_
  simp only [Act.put, List.setIfInBounds_toArray, List.set_cons_zero, List.set_cons_succ, List.getElem_toArray, List.getElem_cons_zero, List.getElem_cons_succ]
  refine wpAnyH_take (i := 15) rfl (by kernel_rfl) (by kernel_rfl) (by kernel_rfl) (fun _ _ _ h => h) (yieldsIf_load_row (by rfl) _ _ rfl (w.heap.size) rfl _ (XA) _ (fun w h => h.a) hu16 rfl hi16) (by assumption) ?_
  simp only [Act.put, List.setIfInBounds_toArray, List.set_cons_zero, List.set_cons_succ, List.getElem_toArray, List.getElem_cons_zero, List.getElem_cons_succ]
  refine held_step (i := 14) rfl (by kernel_rfl) (by rfl) (fun K hK => ?_)
  go_simp
  refine (MA.out _).mono ?_; rintro e we ⟨rfl, hbe⟩
  go_wp2_with fail
  refine hK.out _ _ (LB.next (by assumption) hbe) (fun hHeld => ?_)
  clear hK K
  try simp only [Act.put, List.setIfInBounds_toArray, List.set_cons_zero, List.set_cons_succ, List.getElem_toArray, List.getElem_cons_zero, List.getElem_cons_succ]
  refine held_step (i := 16) rfl (by kernel_rfl) (by rfl) (fun K hK => ?_)
  go_simp
  refine (MR.out _).mono ?_; rintro e wf ⟨rfl, hbf⟩
  go_wp2_with fail
  refine hK.out _ _ (LB.next (by assumption) hbf) (fun hHeld => ?_)
  clear hK K
  try simp only [Act.put, List.setIfInBounds_toArray, List.set_cons_zero, List.set_cons_succ, List.getElem_toArray, List.getElem_cons_zero, List.getElem_cons_succ]
  refine wpAnyH_take (i := 17) (v := ?_) rfl (by kernel_rfl) (by kernel_rfl) (by kernel_rfl) (fun _ _ _ h => h) (Or.inl ⟨by rfl, ?_⟩) (by assumption) ?_
  rotate_left
  · intro w hSw; go_simp; try with_reducible rfl
  simp only [Act.put, List.setIfInBounds_toArray, List.set_cons_zero, List.set_cons_succ, List.getElem_toArray, List.getElem_cons_zero, List.getElem_cons_succ]
  refine wpAnyH_take (i := 18) (v := ?_) rfl (by kernel_rfl) (by kernel_rfl) (by kernel_rfl) (fun _ _ _ h => h) (Or.inl ⟨by rfl, ?_⟩) (by assumption) ?_
  rotate_left
  · intro w hSw; go_simp; try with_reducible rfl
  simp only [Act.put, List.setIfInBounds_toArray, List.set_cons_zero, List.set_cons_succ, List.getElem_toArray, List.getElem_cons_zero, List.getElem_cons_succ]
  refine wpAnyH_take (i := 19) (v := ?_) rfl (by kernel_rfl) (by kernel_rfl) (by kernel_rfl) (fun _ _ _ h => h) (Or.inl ⟨by rfl, ?_⟩) (by assumption) ?_
  rotate_left
  · intro w hSw; go_simp; try with_reducible rfl
  simp only [Act.put, List.setIfInBounds_toArray, List.set_cons_zero, List.set_cons_succ, List.getElem_toArray, List.getElem_cons_zero, List.getElem_cons_succ]
  refine wpAnyH_take (i := 20) rfl (by kernel_rfl) (by kernel_rfl) (by kernel_rfl) (fun _ _ _ h => h) (yieldsIf_load_row (by rfl) _ _ rfl (w.heap.size) rfl _ (XA) _ (fun w h => h.a) hu16 rfl hi16) (by assumption) ?_
  simp only [Act.put, List.setIfInBounds_toArray, List.set_cons_zero, List.set_cons_succ, List.getElem_toArray, List.getElem_cons_zero, List.getElem_cons_succ]
  refine wpAnyH_take (i := 22) rfl (by kernel_rfl) (by kernel_rfl) (by kernel_rfl) (fun _ _ _ h => h) (yieldsIf_load_row (by rfl) _ _ rfl (w.heap.size) rfl _ (XA) _ (fun w h => h.a) hu16 rfl hi16) (by assumption) ?_
  simp only [Act.put, List.setIfInBounds_toArray, List.set_cons_zero, List.set_cons_succ, List.getElem_toArray, List.getElem_cons_zero, List.getElem_cons_succ]
  refine held_step (i := 21) rfl (by kernel_rfl) (by rfl) (fun K hK => ?_)
  go_simp
  refine (PA.out _).mono ?_; rintro e wg ⟨rfl, hbg⟩
  go_wp2_with fail
  refine hK.out _ _ (LB.next (by assumption) hbg) (fun hHeld => ?_)
  clear hK K
  try simp only [Act.put, List.setIfInBounds_toArray, List.set_cons_zero, List.set_cons_succ, List.getElem_toArray, List.getElem_cons_zero, List.getElem_cons_succ]
  refine held_step (i := 23) rfl (by kernel_rfl) (by rfl) (fun K hK => ?_)
  go_simp
  refine (PR.out _).mono ?_; rintro e wh ⟨rfl, hbh⟩
  go_wp2_with fail
  refine hK.out _ _ (LB.next (by assumption) hbh) (fun hHeld => ?_)
  clear hK K
  try simp only [Act.put, List.setIfInBounds_toArray, List.set_cons_zero, List.set_cons_succ, List.getElem_toArray, List.getElem_cons_zero, List.getElem_cons_succ]
  refine wpAnyH_take (i := 24) (v := ?_) rfl (by kernel_rfl) (by kernel_rfl) (by kernel_rfl) (fun _ _ _ h => h) (Or.inl ⟨by rfl, ?_⟩) (by assumption) ?_
  rotate_left
  · intro w hSw; go_simp; try with_reducible rfl
  simp only [Act.put, List.setIfInBounds_toArray, List.set_cons_zero, List.set_cons_succ, List.getElem_toArray, List.getElem_cons_zero, List.getElem_cons_succ]
  refine wpAnyH_take (i := 25) (v := ?_) rfl (by kernel_rfl) (by kernel_rfl) (by kernel_rfl) (fun _ _ _ h => h) (Or.inl ⟨by rfl, ?_⟩) (by assumption) ?_
  rotate_left
  · intro w hSw; go_simp; try with_reducible rfl
  simp only [Act.put, List.setIfInBounds_toArray, List.set_cons_zero, List.set_cons_succ, List.getElem_toArray, List.getElem_cons_zero, List.getElem_cons_succ]
  refine wpAnyH_take (i := 26) (v := ?_) rfl (by kernel_rfl) (by kernel_rfl) (by kernel_rfl) (fun _ _ _ h => h) (Or.inl ⟨by rfl, ?_⟩) (by assumption) ?_
  rotate_left
  · intro w hSw; go_simp; try with_reducible rfl
  simp only [Act.put, List.setIfInBounds_toArray, List.set_cons_zero, List.set_cons_succ, List.getElem_toArray, List.getElem_cons_zero, List.getElem_cons_succ]
  refine wpAnyH_done (by kernel_rfl) ?_ _
  go_wp2_with fail
  go_ret
  exact ⟨rfl, LB.below (by assumption)⟩
end Go.Proofs.YtlefkmgcahpobaaDoor
