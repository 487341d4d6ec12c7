import Derived.Test.YtjbolphfelakeaaGreatDoorColonRun
import Derived.Test.YtjbolphfelakeaaGreatDoorOctetRef2
import Derived.Test.YtjbolphfelakeaaGreatDoorOctetNum2
import Derived.Test.YtjbolphfelakeaaGreatDoorOctetHex
import Derived.Test.YtjbolphfelakeaaGreatDoorColonShow
import Derived.Test.YtjbolphfelakeaaGreatDoorArrEq
import Derived.Test.YtjbolphfelakeaaGreatDoorHeld
import Derived.Test.YtjbolphfelakeaaGreatDoorColonParse
/- The document's zeros, digits. -/
namespace Go.Proofs.YtjbolphfelakeaaGreatDoor
set_option linter.unusedVariables false
set_option linter.unusedSimpArgs false
open Go.RowKit Go.Shelf Go.Proofs Go.OctetPlain Go.ColonPlain

set_option maxRecDepth 100000 in
set_option maxHeartbeats 800000 in
theorem ref_zeros (G : List Nat) (hG : G.length = 8) (a : Nat) (ha : a ≤ 8) (w : World) :
    Calls Tryz.prog 50 #[.agg (arrI (ints G)), .int .i64 a] w fun e w' => e = .returned (.int .i64 (zerosB ((zs G).drop a) : Nat)) ∧ Below w.heap.size w w' := by
  go_enter Tryz.func50, Tryz.ntmps50
  go_wp2_with fail
  go_loopw [5] (fun vn wr => ∃ j : Nat, vn = .int .i64 j ∧ a + j ≤ 8 ∧ Hid (zerosB ((zs G).drop a) = j + zerosB ((zs G).drop (a + j))) ∧ Hid (Blk wr w.heap.size 64 (arrI (ints G))) ∧ Hid (Below w.heap.size w wr)) (fun vn _ => 8 - (intOf vn).toNat)
  case atStart => exact ⟨0, rfl, by omega, Lib.hid (by simp), Lib.hid (Blk.new _ _ _), Lib.hid (belowA w _)⟩
  case round =>
    obtain ⟨j, rfl, hj, HE, HA, HB⟩ := hrel
    have e1 : IntKind.i64.wrap ((a : Int) + j) = (a : Int) + j := IntWalk.i64_in _ (by omega)
    by_cases hlt : a + j < 8
    · obtain ⟨n, hn⟩ : ∃ n, G[a + j]? = some n := ⟨G[a + j], List.getElem?_eq_getElem (by omega)⟩
      have hz : (zs G).drop (a + j) = decide (n = 0) :: (zs G).drop (a + j + 1) := by
        have h1 : (zs G)[a + j]? = some (decide (n = 0)) := by simp [zs, hn]
        obtain ⟨h2, h3⟩ := List.getElem?_eq_some_iff.1 h1
        rw [List.drop_eq_getElem_cons h2, h3]
      rw [hz] at HE
      have hc := (HA.out.cell (a + j)).trans (arrI_get (ints_get hn))
      have hl1 : (a : Int) + j < 8 := by omega
      have hl0 : 0 ≤ (a : Int) + j := by omega
      have ht : ((a : Int) + j).toNat = a + j := by omega
      clear hz hn
      by_cases hn0 : n = 0
      · subst hn0
        rw [decide_eq_true rfl, zerosB] at HE
        go_wp2_with fail
        exact ⟨⟨j + 1, by go_num, by omega, Lib.hid (by rw [HE.out, Nat.add_assoc a j 1]; omega), HA, HB⟩, by simp [intOf]; omega⟩
      · have hne : ¬ (n : Int) = 0 := by omega
        rw [decide_eq_false hn0] at HE
        simp only [zerosB, Nat.add_zero] at HE
        clear hn0
        go_wp2_with fail
        go_ret
        exact ⟨by rw [HE.out]; rfl, HB.out⟩
    · have hd : (zs G).drop (a + j) = [] := List.drop_eq_nil_of_le (by rw [zs_length]; omega)
      rw [hd] at HE
      simp only [zerosB, Nat.add_zero] at HE
      have hl1 : ¬ (a : Int) + j < 8 := by omega
      clear hd
      go_wp2_with fail
      go_ret
      exact ⟨by rw [HE.out]; rfl, HB.out⟩

set_option maxRecDepth 100000 in
set_option maxHeartbeats 800000 in
theorem ref_digits (n : Nat) (hn : n < 65536) (w : World) :
    Calls Tryz.prog 65 #[.int .i64 n] w fun e w' => e = .returned (.string (str (hexN n))) ∧ Below w.heap.size w w' := by
  have HB := Lib.hid fun W => ref_Bytes n (by omega) 2 (by omega) W
  have hbl : (OctetPlain.bytes n 2).length ≤ 1073741824 := by rw [bytes_length]; omega
  have HH := Lib.hid fun W => ref_Hex (OctetPlain.bytes n 2) hbl W
  have HS := Lib.hid (strike_hex n hn)
  have hhl : (hex (OctetPlain.bytes n 2)).length = 4 := by rw [hex_length, bytes_length]
  go_enter Tryz.func65, Tryz.ntmps65
  go_wp2_with fail
  refine (HB.out _).mono ?_
  rintro e w1 ⟨rfl, hb1⟩
  go_wp2_with fail
  refine (HH.out _).mono ?_
  rintro e w2 ⟨rfl, hb2⟩
  have HB2 := Lib.hid (hb1.trans (hb2.mono hb1.size))
  clear hb1 hb2
  go_wp2_with fail
  go_loopw [3] (fun vs wr => ∃ s : List UInt8, vs = .string (str s) ∧ s.length ≤ 4 ∧ Hid (strike (hex (OctetPlain.bytes n 2)) = strike s) ∧ Hid (Below w.heap.size w wr)) (fun vs _ => match vs with | .string s => s.size | _ => 0)
  case atStart => exact ⟨_, rfl, by omega, Lib.hid rfl, HB2⟩
  case round =>
    obtain ⟨s, rfl, hs, HE, HBB⟩ := hrel
    have hsz : (str s).size = s.length := str_size s
    match s, hs, HE, hsz with
    | [], hs, HE, hsz =>
      go_wp2_with fail
      go_ret
      exact ⟨by rw [← HS.out, HE.out]; rfl, HBB.out⟩
    | [c], hs, HE, hsz =>
      have hsz' : (str [c]).size = 1 := hsz
      go_wp2_with fail
      go_ret
      exact ⟨by rw [← HS.out, HE.out]; rfl, HBB.out⟩
    | c :: d :: r, hs, HE, hsz =>
      have hg : ∀ h, (str (c :: d :: r))[0]'h = c := fun h => str_get _ _ h
      have hl : (1 : Int) < ((c :: d :: r).length : Int) := by simp only [List.length_cons]; omega
      have hcut : (str (c :: d :: r)).extract 1 (c :: d :: r).length = str (d :: r) := by rw [str_cut]; simp
      by_cases hc : c = 48
      · subst hc
        rw [strike, if_pos rfl] at HE
        generalize hq : (48 : UInt8) :: d :: r = q at hsz hg hl hcut hs ⊢
        go_wp2_with fail
        refine ⟨⟨d :: r, rfl, by rw [← hq] at hs; simp only [List.length_cons] at hs ⊢; omega, HE, HBB⟩, ?_⟩
        show (str (d :: r)).size < (str q).size
        rw [str_size, hsz, ← hq]
        simp
      · have hc2 : ((c.toNat : Int) == 48) = false := by
          rw [beq_eq_false_iff_ne]
          intro h
          exact hc (UInt8.toNat_inj.1 (Int.ofNat.inj h))
        rw [strike, if_neg hc] at HE
        generalize hq : c :: d :: r = q at hsz hg hl hcut hs HE ⊢
        go_wp2_with fail
        go_ret
        exact ⟨by rw [← HS.out, HE.out]; rfl, HBB.out⟩
end Go.Proofs.YtjbolphfelakeaaGreatDoor

/- The document's joined and Show. -/
namespace Go.Proofs.YtjbolphfelakeaaGreatDoor
set_option linter.unusedVariables false
set_option linter.unusedSimpArgs false
open Go.RowKit Go.Shelf Go.Proofs Go.OctetPlain Go.ColonPlain

theorem joinF_app1 (f : Nat → List UInt8) (x : Nat) : ∀ (l : List Nat), l ≠ [] → joinF f (l ++ [x]) = joinF f l ++ 58 :: f x
  | [], h => absurd rfl h
  | [n], _ => rfl
  | n :: m :: r, _ => by
    have := joinF_app1 f x (m :: r) (by simp)
    simp only [List.cons_append, joinF] at this ⊢
    rw [this]; simp
theorem win_succ {G : List Nat} {a k n : Nat} (ha : a ≤ k) (hn : G[k]? = some n) : (G.take (k + 1)).drop a = (G.take k).drop a ++ [n] := by
  obtain ⟨h1, h2⟩ := List.getElem?_eq_some_iff.1 hn
  rw [List.take_succ_eq_append_getElem h1, h2, List.drop_append_of_le_length (by rw [List.length_take]; omega)]

set_option maxRecDepth 100000 in
set_option maxHeartbeats 800000 in
theorem ref_joined (G : List Nat) (hG : G.length = 8) (hlt : ∀ n ∈ G, n < 65536) (a b : Nat) (hab : a ≤ b) (hb : b ≤ 8) (w : World) :
    Calls Tryz.prog 51 #[.agg (arrI (ints G)), .int .i64 a, .int .i64 b] w fun e w' => e = .returned (.string (str (joinF hexN ((G.take b).drop a)))) ∧ Below w.heap.size w w' := by
  go_enter Tryz.func51, Tryz.ntmps51
  go_wp2_with fail
  go_loopw [7, 8] (fun vs vi wr => ∃ k : Nat, vi = .int .i64 k ∧ a ≤ k ∧ k ≤ b ∧ vs = .string (str (joinF hexN ((G.take k).drop a))) ∧ Hid (Blk wr w.heap.size 64 (arrI (ints G))) ∧ Hid (Below w.heap.size w wr)) (fun _ vi _ => b - (intOf vi).toNat)
  case atStart =>
    refine ⟨a, rfl, Nat.le_refl _, hab, ?_, Lib.hid (Blk.new _ _ _), Lib.hid (belowA w _)⟩
    rw [List.drop_eq_nil_of_le (by rw [List.length_take]; omega)]; rfl
  case round =>
    obtain ⟨k, rfl, hak, hkb, rfl, HA, HB⟩ := hrel
    by_cases hlt2 : k < b
    · obtain ⟨n, hn⟩ : ∃ n, G[k]? = some n := ⟨G[k], List.getElem?_eq_getElem (by omega)⟩
      have hc := (HA.out.cell k).trans (arrI_get (ints_get hn))
      have hnb := hlt n (List.mem_of_getElem? hn)
      have DG := Lib.hid fun W => ref_digits n hnb W
      have hw := win_succ hak hn
      have hln := hexN_length n
      have hh : (str (hexN n)).size = (hexN n).length := str_size _
      have hk8 : k < 8 := by omega
      have hpl := joinF_le (f := hexN) hexN_length ((G.take k).drop a)
      have hps : (str (joinF hexN ((G.take k).drop a))).size = (joinF hexN ((G.take k).drop a)).length := str_size _
      have hlen : ((G.take k).drop a).length = k - a := by rw [List.length_drop, List.length_take]; omega
      by_cases hka : a < k
      · have hj : joinF hexN ((G.take (k + 1)).drop a) = joinF hexN ((G.take k).drop a) ++ 58 :: hexN n := by
          rw [hw]; exact joinF_app1 _ _ _ (fun h => by rw [h] at hlen; simp at hlen; omega)
        have HJ := Lib.hid hj
        clear hw hj hn
        generalize joinF hexN ((G.take k).drop a) = Pj at HJ hpl hps ⊢
        have h3 : (str (Pj ++ [58])).size = Pj.length + 1 := by rw [str_size]; simp
        have hsep : str Pj ++ ⟨#[58]⟩ = str (Pj ++ [58]) := str_app Pj [58]
        go_wp2_with fail
        refine (DG.out _).mono ?_
        rintro e w1 ⟨rfl, hb1⟩
        have HA1 := Lib.hid (HA.out.below hb1 HA.out.lt)
        have HB1 := Lib.hid (HB.out.trans (hb1.mono HB.out.size))
        clear hb1
        go_wp2_with fail
        refine ⟨⟨k + 1, by go_num, by omega, by omega, by rw [HJ.out, str_app]; simp, HA1, HB1⟩, by simp [intOf]; omega⟩
      · obtain rfl : a = k := by omega
        have hj : joinF hexN ((G.take (a + 1)).drop a) = hexN n := by
          rw [hw, show (G.take a).drop a = [] from List.eq_nil_of_length_eq_zero (by omega)]; rfl
        have hj0 : joinF hexN ((G.take a).drop a) = [] := by
          rw [show (G.take a).drop a = [] from List.eq_nil_of_length_eq_zero (by omega)]; rfl
        have HJ := Lib.hid hj
        rw [hj0] at hps ⊢
        have hps : (str []).size = 0 := rfl
        clear hw hj hn hj0 hpl hlen
        go_wp2_with fail
        refine (DG.out _).mono ?_
        rintro e w1 ⟨rfl, hb1⟩
        have HA1 := Lib.hid (HA.out.below hb1 HA.out.lt)
        have HB1 := Lib.hid (HB.out.trans (hb1.mono HB.out.size))
        clear hb1
        go_wp2_with fail
        refine ⟨⟨a + 1, by go_num, by omega, by omega, by rw [HJ.out, str_app]; simp, HA1, HB1⟩, by simp [intOf]; omega⟩
    · obtain rfl : k = b := by omega
      go_wp2_with fail
      go_ret
      exact ⟨rfl, HB.out⟩

structure TR (w : World) (B : Nat) (X : Array Value) (W : World) : Prop where
  blk : Blk W B 64 X
  below : Below w.heap.size w W
theorem TR.next {w : World} {B : Nat} {X : Array Value} {W W' : World} (h : TR w B X W) (hb : Below W.heap.size W W') : TR w B X W' :=
  ⟨h.blk.below hb h.blk.lt, h.below.trans (hb.mono h.below.size)⟩
theorem TR.drew {w : World} {B : Nat} {X : Array Value} {W : World} (h : TR w B X W) : TR w B X W.drew := h.next (Below.refl _ _).drew

set_option maxRecDepth 100000 in
set_option maxHeartbeats 2000000 in
theorem ref_Show (l : List UInt8) (hl : l.length = 16) (w : World) :
    Calls Tryz.prog 32 #[.agg (arrB l)] w fun e w' => e = .returned (.string (str (show_ l))) ∧ Below w.heap.size w w' := by
  have hu8 := Tryz.underlying64
  have hgl : (groupsOf l).length = 8 := groups_length 8 l (by omega)
  have hlt := groups_lt l
  have GA := Lib.hid fun W => ref_Groups l hl W
  have ZE := fun a ha W => ref_zeros (groupsOf l) hgl a ha W
  have JO := fun a b hab hb W => ref_joined (groupsOf l) hgl hlt a b hab hb W
  have hsh : show_ l = shown (groupsOf l) := rfl
  unfold shown at hsh
  rw [run_ref hgl] at hsh
  have hsp := refRun_spec (zs (groupsOf l)) 0 0 0 (by omega)
  rw [zs_length, hgl] at hsp
  have kL := A16.of hl
  have HSH := Lib.hid hsh
  clear hsh
  generalize arrB l = XA at GA kL ⊢
  generalize show_ l = T at HSH ⊢
  generalize groupsOf l = G at *
  obtain ⟨g0, g1, g2, g3, g4, g5, g6, g7, hg⟩ := list8 hgl
  have hGI : arrI (ints G) = #[.int .i64 (g0 : Int), .int .i64 (g1 : Int), .int .i64 (g2 : Int), .int .i64 (g3 : Int), .int .i64 (g4 : Int), .int .i64 (g5 : Int), .int .i64 (g6 : Int), .int .i64 (g7 : Int)] := by rw [hg]; rfl
  rw [hGI] at GA ZE JO
  have HZ := Lib.hid ZE
  have HJ := Lib.hid JO
  have KL := Lib.hid kL
  have hzl : (zs G).length = 8 := by rw [zs_length, hgl]
  clear ZE JO hg hGI kL
  go_enter Tryz.func32, Tryz.ntmps32
  go_wp2_with (refine wpList_load_want rfl _ _ rfl w.heap.size rfl _ XA (0, 0) _ (Blk.new w _ _) Tryz.underlying22 rfl KL.out.info ?_)
  refine (GA.out _).mono ?_
  rintro e w1 ⟨rfl, hb1⟩
  go_wp2_with fail
  have T1 : TR w w1.heap.size #[.int .i64 (g0 : Int), .int .i64 (g1 : Int), .int .i64 (g2 : Int), .int .i64 (g3 : Int), .int .i64 (g4 : Int), .int .i64 (g5 : Int), .int .i64 (g6 : Int), .int .i64 (g7 : Int)] (w1.alloc (.cells #[.int .i64 (g0 : Int), .int .i64 (g1 : Int), .int .i64 (g2 : Int), .int .i64 (g3 : Int), .int .i64 (g4 : Int), .int .i64 (g5 : Int), .int .i64 (g6 : Int), .int .i64 (g7 : Int)] 64)) :=
    ⟨Blk.new _ _ _, (belowA2 hb1).trans ((belowA w1 _).mono (by have := (belowA2 hb1).size; exact this))⟩
  have HT1 := Lib.hid T1
  clear hb1 T1
  generalize w1.alloc (.cells #[.int .i64 (g0 : Int), .int .i64 (g1 : Int), .int .i64 (g2 : Int), .int .i64 (g3 : Int), .int .i64 (g4 : Int), .int .i64 (g5 : Int), .int .i64 (g6 : Int), .int .i64 (g7 : Int)] 64) = W1 at HT1 ⊢
  go_loopw [4, 5, 6, 7] (fun va vl vi _ wr => ∃ k at_ long : Nat, k ≤ 8 ∧ at_ + long ≤ 8 ∧ vi = .int .i64 k ∧ va = .int .i64 at_ ∧ vl = .int .i64 long ∧ Hid (refRun 0 0 0 (zs G) = refRun k at_ long ((zs G).drop k)) ∧ Hid (TR w w1.heap.size #[.int .i64 (g0 : Int), .int .i64 (g1 : Int), .int .i64 (g2 : Int), .int .i64 (g3 : Int), .int .i64 (g4 : Int), .int .i64 (g5 : Int), .int .i64 (g6 : Int), .int .i64 (g7 : Int)] wr)) (fun _ _ vi _ _ => 8 - (intOf vi).toNat)
  case atStart => exact ⟨0, 0, 0, by omega, by omega, rfl, rfl, rfl, Lib.hid rfl, HT1⟩
  case round =>
    obtain ⟨k, at_, long, hk, hal, rfl, rfl, rfl, HR, HT⟩ := hrel
    by_cases hlt2 : k < 8
    · have ZK := Lib.hid fun W => HZ.out k (by omega) W
      have hdr : (zs G).drop k = (zs G)[k] :: (zs G).drop (k + 1) := List.drop_eq_getElem_cons (by omega)
      have hR := HR.out
      have hzle := zerosB_le ((zs G).drop k)
      rw [List.length_drop, hzl] at hzle
      rw [hdr, refRun, ← hdr] at hR
      have HR2 := Lib.hid hR
      clear hR hdr HR
      obtain ⟨n, hn⟩ : ∃ n, zerosB ((zs G).drop k) = n := ⟨_, rfl⟩
      rw [hn] at HR2 hzle ZK
      clear hn
      go_wp2_with (refine wpList_load_want rfl _ _ rfl w1.heap.size rfl _ _ (0, 0) _ HT.out.blk hu8 rfl info8 ?_)
      refine (ZK.out _).mono ?_
      rintro e w2 ⟨rfl, hb2⟩
      have HT2 := Lib.hid (HT.out.next hb2)
      clear hb2
      by_cases hc : long < n
      · have hc' : (long : Int) < (n : Int) := by omega
        by_cases hc2 : 1 < n
        · have hc2' : (1 : Int) < (n : Int) := by omega
          go_wp2_with fail
          refine ⟨⟨k + 1, k, n, by omega, by omega, by go_num, rfl, rfl, Lib.hid (by rw [HR2.out, if_pos ⟨hc, hc2⟩]), HT2⟩, by simp [intOf]; omega⟩
        · have hc2' : ¬ (1 : Int) < (n : Int) := by omega
          go_wp2_with fail
          refine ⟨⟨k + 1, at_, long, by omega, by omega, by go_num, rfl, rfl, Lib.hid (by rw [HR2.out, if_neg (fun h => hc2 h.2)]), HT2⟩, by simp [intOf]; omega⟩
      · have hc' : ¬ (long : Int) < (n : Int) := by omega
        go_wp2_with fail
        refine ⟨⟨k + 1, at_, long, by omega, by omega, by go_num, rfl, rfl, Lib.hid (by rw [HR2.out, if_neg (fun h => hc h.1)]), HT2⟩, by simp [intOf]; omega⟩
    · obtain rfl : k = 8 := by omega
      have hR := HR.out
      rw [List.drop_eq_nil_of_le (by omega), refRun] at hR
      have HS2 := HSH.out
      rw [hR] at HS2
      simp only at HS2
      by_cases h0 : long = 0
      · subst h0
        rw [if_pos (by omega)] at HS2
        have HS3 := Lib.hid HS2
        clear HS2 hR
        have JA := Lib.hid fun W => HJ.out 0 8 (by omega) (by omega) W
        rw [List.take_of_length_le (by omega), List.drop_zero] at JA
        go_wp2_with (refine wpList_load_want rfl _ _ rfl w1.heap.size rfl _ _ (0, 0) _ HT.out.blk hu8 rfl info8 ?_)
        refine (JA.out _).mono ?_
        rintro e w2 ⟨rfl, hb2⟩
        have HT2 := Lib.hid (HT.out.next hb2)
        clear hb2
        go_wp2_with fail
        go_ret
        exact ⟨by rw [HS3.out]; rfl, HT2.out.below⟩
      · rw [if_neg (by omega)] at HS2
        have HS3 := Lib.hid HS2
        clear HS2
        have JA := Lib.hid fun W => HJ.out 0 at_ (by omega) (by omega) W
        rw [List.drop_zero] at JA
        have JB := Lib.hid fun W => HJ.out (at_ + long) 8 (by omega) (by omega) W
        rw [List.take_of_length_le (l := G) (by omega)] at JB
        have e1 : ((at_ : Int) + (long : Int)) = ((at_ + long : Nat) : Int) := by omega
        have w1' : IntKind.i64.wrap ((at_ : Int) + (long : Int)) = ((at_ + long : Nat) : Int) := by rw [IntWalk.i64_in _ (by omega), e1]
        have hne : ((long : Int) == 0) = false := by rw [beq_eq_false_iff_ne]; omega
        have hp1 := joinF_le (f := hexN) hexN_length (G.take at_)
        have hp2 := joinF_le (f := hexN) hexN_length (G.drop (at_ + long))
        rw [List.length_take] at hp1
        rw [List.length_drop] at hp2
        have hcat : ∀ A Z : List UInt8, str A ++ ⟨#[58, 58]⟩ ++ str Z = str (A ++ 58 :: 58 :: Z) := fun A Z => by
          have h1 : str A ++ ⟨#[58, 58]⟩ = str (A ++ [58, 58]) := str_app A [58, 58]
          rw [h1, str_app]; simp
        have HCAT := Lib.hid hcat
        clear hcat
        generalize hA : joinF hexN (G.take at_) = A at JA hp1
        generalize hZ : joinF hexN (G.drop (at_ + long)) = Z at JB hp2
        have hs1 : (str A).size = A.length := str_size A
        have hs2 : (str Z).size = Z.length := str_size Z
        have hs3 : (str A ++ ⟨#[58, 58]⟩).size = A.length + 2 := by
          have h1 : str A ++ ⟨#[58, 58]⟩ = str (A ++ [58, 58]) := str_app A [58, 58]
          rw [h1, str_size]; simp
        have hb1 : ¬ 9223372036854775807 < A.length + 2 := by omega
        have hb2 : ¬ 9223372036854775807 < A.length + 2 + Z.length := by omega
        clear e1 hR h0
        go_wp2_with fail
        refine wp_region_held_drew (S := fun W => TR w w1.heap.size #[.int .i64 (g0 : Int), .int .i64 (g1 : Int), .int .i64 (g2 : Int), .int .i64 (g3 : Int), .int .i64 (g4 : Int), .int .i64 (g5 : Int), .int .i64 (g6 : Int), .int .i64 (g7 : Int)] W) (by kernel_rfl) HT.out.drew (fun hHeld => ?_)
        refine wpAnyH_take (i := 0) rfl (by kernel_rfl) (by kernel_rfl) (by kernel_rfl) (fun _ _ _ h => h) (yieldsIf_load_row (by rfl) _ _ rfl (w1.heap.size) rfl _ (#[.int .i64 (g0 : Int), .int .i64 (g1 : Int), .int .i64 (g2 : Int), .int .i64 (g3 : Int), .int .i64 (g4 : Int), .int .i64 (g5 : Int), .int .i64 (g6 : Int), .int .i64 (g7 : Int)]) _ (fun w h => h.blk) hu8 rfl info8) (by assumption) ?_
        simp only [Act.put, List.setIfInBounds_toArray, List.set_cons_zero, List.set_cons_succ, List.getElem_toArray, List.getElem_cons_zero, List.getElem_cons_succ]
        refine wpAnyH_take (i := 1) (v := ?_) rfl (by kernel_rfl) (by kernel_rfl) (by kernel_rfl) (fun _ _ _ h => h) (Or.inl ⟨by rfl, ?_⟩) (by assumption) ?_
        rotate_left
        · intro w hSw; go_simp; try with_reducible rfl
        simp only [Act.put, List.setIfInBounds_toArray, List.set_cons_zero, List.set_cons_succ, List.getElem_toArray, List.getElem_cons_zero, List.getElem_cons_succ]
        refine wpAnyH_take (i := 4) rfl (by kernel_rfl) (by kernel_rfl) (by kernel_rfl) (fun _ _ _ h => h) (yieldsIf_load_row (by rfl) _ _ rfl (w1.heap.size) rfl _ (#[.int .i64 (g0 : Int), .int .i64 (g1 : Int), .int .i64 (g2 : Int), .int .i64 (g3 : Int), .int .i64 (g4 : Int), .int .i64 (g5 : Int), .int .i64 (g6 : Int), .int .i64 (g7 : Int)]) _ (fun w h => h.blk) hu8 rfl info8) (by assumption) ?_
        simp only [Act.put, List.setIfInBounds_toArray, List.set_cons_zero, List.set_cons_succ, List.getElem_toArray, List.getElem_cons_zero, List.getElem_cons_succ]
        refine wpAnyH_take (i := 5) (v := ?_) rfl (by kernel_rfl) (by kernel_rfl) (by kernel_rfl) (fun _ _ _ h => h) (Or.inl ⟨by rfl, ?_⟩) (by assumption) ?_
        rotate_left
        · intro w hSw; go_simp; try with_reducible rfl
        simp only [Act.put, List.setIfInBounds_toArray, List.set_cons_zero, List.set_cons_succ, List.getElem_toArray, List.getElem_cons_zero, List.getElem_cons_succ]
        refine wpAnyH_take (i := 6) (v := ?_) rfl (by kernel_rfl) (by kernel_rfl) (by kernel_rfl) (fun _ _ _ h => h) (Or.inl ⟨by rfl, ?_⟩) (by assumption) ?_
        rotate_left
        · intro w hSw; go_simp; try with_reducible rfl
        simp only [Act.put, List.setIfInBounds_toArray, List.set_cons_zero, List.set_cons_succ, List.getElem_toArray, List.getElem_cons_zero, List.getElem_cons_succ]
        refine wpAnyH_take (i := 7) (v := ?_) rfl (by kernel_rfl) (by kernel_rfl) (by kernel_rfl) (fun _ _ _ h => h) (Or.inl ⟨by rfl, ?_⟩) (by assumption) ?_
        rotate_left
        · intro w hSw; go_simp; try with_reducible rfl
        simp only [Act.put, List.setIfInBounds_toArray, List.set_cons_zero, List.set_cons_succ, List.getElem_toArray, List.getElem_cons_zero, List.getElem_cons_succ]
        refine held_step (i := 2) rfl (by kernel_rfl) (by rfl) (fun K hK => ?_)
        go_simp
        refine (JA.out _).mono ?_; rintro e wa ⟨rfl, hba⟩
        go_wp2_with fail
        refine hK.out _ _ (TR.next (by assumption) hba) (fun hHeld => ?_)
        clear hK K
        try simp only [Act.put, List.setIfInBounds_toArray, List.set_cons_zero, List.set_cons_succ, List.getElem_toArray, List.getElem_cons_zero, List.getElem_cons_succ]
        refine wpAnyH_take (i := 3) (v := ?_) rfl (by kernel_rfl) (by kernel_rfl) (by kernel_rfl) (fun _ _ _ h => h) (Or.inl ⟨by rfl, ?_⟩) (by assumption) ?_
        rotate_left
        · intro w hSw; go_simp; try with_reducible rfl
        simp only [Act.put, List.setIfInBounds_toArray, List.set_cons_zero, List.set_cons_succ, List.getElem_toArray, List.getElem_cons_zero, List.getElem_cons_succ]
        refine held_step (i := 8) rfl (by kernel_rfl) (by rfl) (fun K hK => ?_)
        go_simp
        refine (JB.out _).mono ?_; rintro e wb ⟨rfl, hbb⟩
        go_wp2_with fail
        refine hK.out _ _ (TR.next (by assumption) hbb) (fun hHeld => ?_)
        clear hK K
        try simp only [Act.put, List.setIfInBounds_toArray, List.set_cons_zero, List.set_cons_succ, List.getElem_toArray, List.getElem_cons_zero, List.getElem_cons_succ]
        refine wpAnyH_take (i := 9) (v := ?_) rfl (by kernel_rfl) (by kernel_rfl) (by kernel_rfl) (fun _ _ _ h => h) (Or.inl ⟨by rfl, ?_⟩) (by assumption) ?_
        rotate_left
        · intro w hSw; go_simp; try with_reducible rfl
        simp only [Act.put, List.setIfInBounds_toArray, List.set_cons_zero, List.set_cons_succ, List.getElem_toArray, List.getElem_cons_zero, List.getElem_cons_succ]
        refine wpAnyH_take (i := 10) (v := ?_) rfl (by kernel_rfl) (by kernel_rfl) (by kernel_rfl) (fun _ _ _ h => h) (Or.inl ⟨by rfl, ?_⟩) (by assumption) ?_
        rotate_left
        · intro w hSw; go_simp; try with_reducible rfl
        simp only [Act.put, List.setIfInBounds_toArray, List.set_cons_zero, List.set_cons_succ, List.getElem_toArray, List.getElem_cons_zero, List.getElem_cons_succ]
        refine wpAnyH_done (by kernel_rfl) ?_ _
        go_wp2_with fail
        go_ret
        exact ⟨by rw [HS3.out, hA, hZ, ← HCAT.out]; rfl, TR.below (by assumption)⟩
end Go.Proofs.YtjbolphfelakeaaGreatDoor
