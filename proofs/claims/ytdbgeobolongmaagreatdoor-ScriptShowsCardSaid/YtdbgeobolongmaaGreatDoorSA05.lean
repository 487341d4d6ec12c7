/- Part of the proof: ScriptLines, ScriptParses, ScriptShows. -/
import Derived.Test.YtdbgeobolongmaaGreatDoorSA02
set_option linter.unusedVariables false
set_option linter.unusedSimpArgs false
set_option maxRecDepth 1000000
set_option maxHeartbeats 4000000
namespace Go.Proofs.YtdbgeobolongmaaGreatDoor
open Go.RowKit Go.Shelf Go.Proofs Go.OctetPlain Go.Proofs.Tryz
theorem vX (l : List UInt8) : (str l).toList = l := ByteArray.toList_mk l
theorem fP (l : List UInt8) (hl : l.length <= 1073741824) (most : Int) (w : World) (ht : Tabs w) :
  zCB 94 #[.string (str l), .int .i64 most] w (.tuple #[.int .i64 ((number l most).getD 0), .bool (number l most).isSome]) := by
 have hsz : (str l).size = l.length := zZ l; have hll : (str l).data.toList = l := kM l
 match ha : Lib.atoiAll l with
 |Lib.NumEnd.syntax =>
  obtain ⟨tp, p, hv⟩ := ht.syn; have hcon := Any.strconv_Atoi_syntax_var Tryz.atoi (str l) om (by rw [hll]; exact ha) tp p w hv; change Calls prog 134 _ _ _ at hcon; rw [show number l most = none by unfold number; rw [ha]]; have HC := qh hcon; clear hcon hv ha ht
  go_enter func94, ntmps94
  go_wp2_with fail
  refine HC.o.mono ?_; rintro e w1 ⟨g, rfl, _, _, hb⟩; go_wp2_with fail
  exact zC (v := .tuple #[.int .i64 0, .bool false]) (by simp [results, results94, go_sem]) rfl ⟨rfl, hb⟩
 |.range =>
  obtain ⟨tp, p, hv⟩ := ht.rng; have hcon := Any.strconv_Atoi_range_var Tryz.atoi (str l) om (by rw [hll]; exact ha) tp p w hv; change Calls prog 134 _ _ _ at hcon; rw [show number l most = none by unfold number; rw [ha]]; have HC := qh hcon; clear hcon hv ha ht
  go_enter func94, ntmps94
  go_wp2_with fail
  refine HC.o.mono ?_; rintro e w1 ⟨g, rfl, _, _, hb⟩; go_wp2_with fail
  exact zC (v := .tuple #[.int .i64 0, .bool false]) (by simp [results, results94, go_sem]) rfl ⟨rfl, hb⟩
 |.ok v =>
  have hcon := Any.strconv_Atoi_ok Tryz.atoi (str l) om v (by rw [hll]; exact ha) w; change Calls prog 134 _ _ _ at hcon
  have hcon' : zCB 134 #[.string (str l)] w (.tuple #[.int .i64 v, .nilIface]) := by
   refine hcon.mono ?_; rintro e w' ⟨rfl, h⟩; refine ⟨rfl, ?_⟩
   rcases h with rfl | ⟨t, rfl⟩
   ·exact xE _ _
   ·exact Lib.below_freeze ((Below.drew (xE _ w)).alloc zn _) (p := ⟨w.heap.size, _, none⟩) zn 1
  have hnum : number l most = if 0 <= v /\ v <= most /\ Lib.itoa v = l then some v else none := by unfold number; rw [ha]
  obtain ⟨hv0, hv1⟩ := Lib.atoiAll_bounds ha; have HC := qh hcon'; have HN := qh hnum; clear hcon hcon' hnum ha
  by_cases h1 : v < 0
  ·rw [HN.o, zH om]
   go_enter func94, ntmps94
   go_wp2_with fail
   refine zT HC.o fun w1 hb => ?_; go_wp2_with fail
   exact zC (v := .tuple #[.int .i64 0, .bool false]) (by simp [results, results94, go_sem]) rfl ⟨rfl, hb⟩
  by_cases h2 : most < v
  ·rw [HN.o, zH om]
   go_enter func94, ntmps94
   go_wp2_with fail
   refine zT HC.o fun w1 hb => ?_; go_wp2_with fail
   exact zC (v := .tuple #[.int .i64 0, .bool false]) (by simp [results, results94, go_sem]) rfl ⟨rfl, hb⟩
  have HD := qh fun W (h : Tabs W) => jJ v ⟨hv0, hv1⟩ W h
  by_cases h3 : Lib.itoa v = l
  ·rw [HN.o, zN ⟨om, om, h3⟩]
   have h3' : str (Lib.itoa v) = str l := by rw [h3]
   clear h3
   go_enter func94, ntmps94
   go_wp2_with fail
   refine zT HC.o fun w1 hb => ?_; go_wp2_with fail
   refine zT (HD.o _ (ht.below hb)) fun w2 hb2 => ?_; rw [h3']; go_wp2_with fail
   exact zC (v := .tuple #[.int .i64 v, .bool true]) (by simp [results, results94, go_sem]) rfl ⟨rfl, hb.trans (hb2.mono hb.size)⟩
  ·rw [HN.o, zH (fun h => h3 h.2.2)]
   have htl := vX; have hbq : (Lib.itoa v == l) = false := by simp [h3]
   clear h3
   go_enter func94, ntmps94
   go_wp2_with fail
   refine zT HC.o fun w1 hb => ?_; go_wp2_with fail
   refine zT (HD.o _ (ht.below hb)) fun w2 hb2 => ?_; go_wp2_with fail
   exact zC (v := .tuple #[.int .i64 0, .bool false]) (by simp [results, results94, go_sem]) rfl ⟨rfl, hb.trans (hb2.mono hb.size)⟩
theorem pX (l : List UInt8) (hl : l.length <= 1073741824) (most : Int) (w : World) :
  zCQ 60 #[.string (str l), .int .i64 most] w (.tuple #[.int .i64 ((number l most).getD 0), .bool (number l most).isSome]) := by
 rw [← refNumber_eq]; have hsz : (str l).size = l.length := zZ l; have htl := vX
 by_cases h0 : l = []
 ·rw [show kG l most = none by unfold kG; rw [zN (Or.inl h0)]]
  subst h0; have hb : (⟨#[]⟩ : ByteArray).toList = [] := ByteArray.toList_mk []
  go_enter func60, ntmps60
  go_wp2_with fail
  exact zC (v := .tuple #[.int .i64 0, .bool false]) (by simp [results, results60, go_sem]) rfl ⟨rfl, rfl⟩
 have hb : (⟨#[]⟩ : ByteArray).toList = [] := ByteArray.toList_mk []; have hb0 : (l == []) = false := by simp [h0]
 have hlpos : 0 < l.length := kU.2 h0
 by_cases h1 : 19 < l.length
 ·rw [show kG l most = none by unfold kG; rw [zN (Or.inr h1)]]
  go_enter func60, ntmps60
  go_wp2_with fail
  exact zC (v := .tuple #[.int .i64 0, .bool false]) (by simp [results, results60, go_sem]) rfl ⟨rfl, rfl⟩
 have HR : Hid (kG l most = match fE 0 l with | none => none | some k => if Lib.decDigits k = l /\ (k : Int) <= most then some (k : Int) else none) := by
  unfold kG; rw [zH (by rintro (h | h); exact h0 h; exact h1 h)]; exact qh rfl
 go_enter func60, ntmps60
 go_wp2_with fail
 go_loop [6, 7, 8] (fun n i d => ∃ (j k : Nat), j <= l.length /\ i = .int .i64 j /\ n = .int .i64 k /\ k <= 9223372036854775807 /\ Hid (fE 0 l = fE k (l.drop j))) (fun _ i _ => l.length - (intOf i).toNat)
 case atStart => exact ⟨0, 0, yQ _, rfl, rfl, om, qh (by rw [xU])⟩
 case round =>
  obtain ⟨j, k, hj, rfl, rfl, hk, HI⟩ := hrel
  by_cases hlt : j < l.length
  ·have hg' : ∀ h, (str l)[j]'h = l[j] := fun h => jS l j h
   have hc : l[j].toNat < 256 := l[j].toNat_lt
   have HN : Hid (fE 0 l = if l[j].toNat < 48 ∨ 57 < l[j].toNat ∨ (9223372036854775807 - (l[j].toNat - 48)) / 10 < k then none else fE (10 * k + (l[j].toNat - 48)) (l.drop (j + 1))) := by
    rw [HI.o, yE hlt]; exact qh rfl
   by_cases g1 : l[j].toNat < 48
   ·have HF : Hid (kG l most = none) := by rw [HR.o, HN.o, zN (Or.inl g1)]; exact qh rfl
    go_wp2_with fail
    rw [HF.o]; exact zC (v := .tuple #[.int .i64 0, .bool false]) (by simp [results, results60, go_sem]) rfl ⟨rfl, rfl⟩
   by_cases g2 : 57 < l[j].toNat
   ·have HF : Hid (kG l most = none) := by rw [HR.o, HN.o, zN (Or.inr (Or.inl g2))]; exact qh rfl
    go_wp2_with fail
    rw [HF.o]; exact zC (v := .tuple #[.int .i64 0, .bool false]) (by simp [results, results60, go_sem]) rfl ⟨rfl, rfl⟩
   have e1 : IntKind.i64.wrap (9223372036854775807 - ((l[j].toNat : Int) - 48)) = 9223372036854775807 - ((l[j].toNat : Int) - 48) := yT _ om
   by_cases g3 : (9223372036854775807 - (l[j].toNat - 48)) / 10 < k
   ·have HF : Hid (kG l most = none) := by rw [HR.o, HN.o, zN (Or.inr (Or.inr g3))]; exact qh rfl
    have e2 : (9223372036854775807 - ((l[j].toNat : Int) - 48)) / 10 < k := om; go_wp2_with fail
    rw [HF.o]; exact zC (v := .tuple #[.int .i64 0, .bool false]) (by simp [results, results60, go_sem]) rfl ⟨rfl, rfl⟩
   ·have e2 : ¬ (9223372036854775807 - ((l[j].toNat : Int) - 48)) / 10 < k := om
    go_wp2
    exact ⟨⟨j + 1, 10 * k + (l[j].toNat - 48), om, by go_num, by congr 1; omega, om, qh (by rw [HN.o, zH om])⟩, by simp [intOf]; omega⟩
  ·have HE : Hid (fE 0 l = some k) := by
    rw [HI.o, yO om]; exact qh rfl
   have HD := qh fun W => sP (k : Int) om W; have hit : Lib.itoa (k : Int) = Lib.decDigits k := by unfold Lib.itoa; rw [zH om]; rfl
   by_cases h3 : Lib.decDigits k = l
   ·by_cases h4 : (k : Int) <= most
    ·have HF : Hid (kG l most = some (k : Int)) := by rw [HR.o, HE.o]; simp only; rw [zN ⟨h3, h4⟩]; exact qh rfl
     go_wp2_with fail
     refine zU (HD.o _) ?_; rw [hit, h3]; go_wp2_with fail
     rw [HF.o]; exact zC (v := .tuple #[.int .i64 k, .bool true]) (by simp [results, results60, go_sem]) rfl ⟨rfl, rfl⟩
    ·have HF : Hid (kG l most = none) := by rw [HR.o, HE.o]; simp only; rw [zH (fun h => h4 h.2)]; exact qh rfl
     go_wp2_with fail
     refine zU (HD.o _) ?_; rw [hit, h3]; go_wp2_with fail
     rw [HF.o]; exact zC (v := .tuple #[.int .i64 0, .bool false]) (by simp [results, results60, go_sem]) rfl ⟨rfl, rfl⟩
   ·have HF : Hid (kG l most = none) := by rw [HR.o, HE.o]; simp only; rw [zH (fun h => h3 h.1)]; exact qh rfl
    have hbq : (Lib.decDigits k == l) = false := by simp [h3]
    clear h3; go_wp2_with fail
    refine zU (HD.o _) ?_; rw [hit]; go_wp2_with fail
    rw [HF.o]; exact zC (v := .tuple #[.int .i64 0, .bool false]) (by simp [results, results60, go_sem]) rfl ⟨rfl, rfl⟩
theorem hexdig (n : Nat) (hn : n < 16) (h : n < ByteArray.size ⟨#[48, 49, 50, 51, 52, 53, 54, 55, 56, 57, 97, 98, 99, 100, 101, 102]⟩) : (⟨#[48, 49, 50, 51, 52, 53, 54, 55, 56, 57, 97, 98, 99, 100, 101, 102]⟩ : ByteArray)[n]'h = letter n := by
 match n, hn, h with
 | 0, _, _ => rfl
 | 1, _, _ => rfl
 | 2, _, _ => rfl
 | 3, _, _ => rfl
 | 4, _, _ => rfl
 | 5, _, _ => rfl
 | 6, _, _ => rfl
 | 7, _, _ => rfl
 | 8, _, _ => rfl
 | 9, _, _ => rfl
 | 10, _, _ => rfl
 | 11, _, _ => rfl
 | 12, _, _ => rfl
 | 13, _, _ => rfl
 | 14, _, _ => rfl
 | 15, _, _ => rfl
 | n + 16, hn, _ => exact absurd hn om
theorem hex_append : ∀ (xs ys : List UInt8), hex (xs ++ ys) = hex xs ++ hex ys
 | [], ys => rfl
 | c :: r, ys => by simp only [yC, hex]; rw [hex_append r ys]
theorem hex_take {l : List UInt8} {i : Nat} (h : i < l.length) : hex (l.take (i + 1)) = hex (l.take i) ++ [letter (l[i].toNat / 16)] ++ [letter (l[i].toNat % 16)] := by
 rw [yA h, hex_append]; simp [hex]
theorem tL : ∀ l : List UInt8, (hex l).length = 2 * l.length
 | [] => rfl
 | c :: r => by simp only [hex, zI]; rw [tL r]; omega
theorem cells_snoc (l : List UInt8) (c : UInt8) : Lib.byteCells l ++ [.int .u8 (c.toNat : Int)] = Lib.byteCells (l ++ [c]) := by simp [Lib.byteCells]
theorem zCm (l : List UInt8) : (Lib.byteCells l).length = l.length := by simp [Lib.byteCells]
theorem and15 (c : Nat) (hc : c < 256) : bits .and .u8 (c : Int) 15 = ((c % 16 : Nat) : Int) := by
 have : ∀ c : Fin 256, bits .and .u8 ((c : Nat) : Int) 15 = (((c : Nat) % 16 : Nat) : Int) := by decide +kernel
 exact this ⟨c, hc⟩
theorem octet_Hex (l : List UInt8) (hl : l.length <= 1073741824) (v : Value) (w : World) (hv : SlR w 1 encB v l) :
  zCB 113 #[v] w (.string (str (hex l))) := by
 have HV := qh hv; obtain ⟨p, cap, rfl, hc1, hc2, hR⟩ := hv
 go_enter func113, ntmps113
 go_wp2_with fail
 go_loopw [8] (fun i wr => ∃ k : Nat, k <= l.length /\ i = .int .i64 k /\ Hid (IsB w.heap.size w.heap.size (Lib.byteCells (hex (l.take k))) wr /\ zW w wr)) (fun i _ => l.length - (intOf i).toNat)
 case atStart => exact ⟨0, yQ _, rfl, qh ⟨Lib.IsBuilderF.of (Lib.fresh_isBuilder _ _ w), zb.alloc zn _⟩⟩
 case round =>
  obtain ⟨k, hk, rfl, HI⟩ := hrel
  by_cases hlt : k < l.length
  ·obtain ⟨g, off, rfl, hbs, hx⟩ := SlR.atB (hR.below HI.o.2 zn) hlt
   have hc : l[k].toNat < 256 := l[k].toNat_lt; have hA := and15 l[k].toNat hc; have h1 := hexdig (l[k].toNat / 16) om; have h2 := hexdig (l[k].toNat % 16) om; have hn : (hex (l.take k)).length <= 2147483648 := by rw [tL, yV]; omega
   go_wp2_with fail
   refine (writeByte w.heap.size w.heap.size _ _ wr HI.o.1 (by rw [zCm]; omega) HI.o.2.size).mono ?_; rintro e w1 ⟨rfl, hat1, hb1, _⟩; rw [cells_snoc] at hat1; have HB1 := qh (HI.o.2.trans hb1); have HAT := qh hat1; clear hat1 hb1; go_wp2_with fail
   refine (writeByte w.heap.size w.heap.size _ _ w1 (Or.inr HAT.o) (by rw [zCm, zG]; simp; omega) HB1.o.size).mono ?_; rintro e w2 ⟨rfl, hat2, hb2, _⟩; rw [cells_snoc, ← hex_take hlt] at hat2; have HB2 := qh (HB1.o.trans hb2); have HAT2 := qh hat2; clear hat2 hb2
   go_wp2
   exact ⟨⟨k + 1, om, by go_num, qh ⟨Or.inr HAT2.o, HB2.o⟩⟩, by simp [intOf]; omega⟩
  ·have hk' : l.take k = l := xY om
   rw [hk'] at HI; have hcon := Any.Builder_String_any_k Tryz.builderString builderExtra w.heap.size w.heap.size (hex l) wr HI.o.1 HI.o.2.size; change Calls prog 72 _ _ _ at hcon; have HC := qh hcon; clear hcon; go_wp2_with fail
   refine HC.o.mono ?_; rintro e w1 ⟨rfl, _, hb1, _⟩
   go_wp2
   go_ret
   exact ⟨rfl, HI.o.2.trans hb1⟩
theorem hexstr : ∀ m : Nat, m < 16 -> (⟨#[48, 49, 50, 51, 52, 53, 54, 55, 56, 57, 97, 98, 99, 100, 101, 102]⟩ : ByteArray).extract m (m + 1) = str [letter m] := by
 intro m hm
 show (str [48, 49, 50, 51, 52, 53, 54, 55, 56, 57, 97, 98, 99, 100, 101, 102]).extract m (m + 1) = _
 rw [aP]
 match m, hm with
 | 0, _ => rfl
 | 1, _ => rfl
 | 2, _ => rfl
 | 3, _ => rfl
 | 4, _ => rfl
 | 5, _ => rfl
 | 6, _ => rfl
 | 7, _ => rfl
 | 8, _ => rfl
 | 9, _ => rfl
 | 10, _ => rfl
 | 11, _ => rfl
 | 12, _ => rfl
 | 13, _ => rfl
 | 14, _ => rfl
 | 15, _ => rfl
 | n + 16, hn => exact absurd hn om
theorem ref_Hex (l : List UInt8) (hl : l.length <= 1073741824) (w : World) :
  zCB 59 #[.string (str l)] w (.string (str (hex l))) := by
 have hsz : (str l).size = l.length := zZ l
 go_enter func59, ntmps59
 go_wp2_with fail
 go_loopw [4, 5] (fun s i wr => ∃ k : Nat, k <= l.length /\ i = .int .i64 k /\ s = .string (str (hex (l.take k))) /\ zW w wr) (fun _ i _ => l.length - (intOf i).toNat)
 case atStart => exact ⟨0, yQ _, rfl, rfl, xE _ _⟩
 case round =>
  obtain ⟨k, hk, rfl, rfl, hbl⟩ := hrel
  by_cases hlt : k < l.length
  ·obtain ⟨c, hc0⟩ : ∃ c : UInt8, l[k] = c := ⟨_, rfl⟩
   have hc : c.toNat < 256 := c.toNat_lt; have hg' : ∀ h, (str l)[k]'h = c := fun h => (jS l k h).trans hc0; have h1 := hexstr (c.toNat / 16) om; have h2 := hexstr (c.toNat % 16) om; have h3 : ∀ c, (str [c]).size = 1 := fun c => zZ _; have hn : (hex (l.take k)).length <= 2147483648 := by rw [tL, yV]; omega
   have h4 : (str (hex (l.take k))).size = (hex (l.take k)).length := zZ _; have hT := hex_take hlt; rw [hc0] at hT; have HT := qh hT; clear hc0 hT; generalize hex (l.take k) = m at hn h4 HT ⊢; have h5 : ∀ a b : UInt8, str [a] ++ str [b] = str [a, b] := fun a b => xJ _ _; have h6 : ∀ a b : UInt8, (str [a, b]).size = 2 := fun a b => zZ _; go_wp2_with fail
   go_quiet (fail)
   go_wp2
   exact ⟨⟨k + 1, om, by go_num, by rw [xJ, HT.o, xQ, tJ], below_drewN hbl _⟩, by simp [intOf]; omega⟩
  ·go_wp2_with fail
   have hk' : l.take k = l := xY om; rw [hk']; go_ret
   exact ⟨rfl, hbl⟩
theorem encode_big (r : Int) (h : 128 <= r) : 2 <= (Utf8.encode r).size /\ (Utf8.encode r).size <= 4 /\ ∀ i (h : i < (Utf8.encode r).size), 128 <= ((Utf8.encode r)[i]'h).toNat := by
 have key : ∀ c : Nat, 128 <= c -> ∀ s : ByteArray, s = (if c < 0x80 then (⟨#[UInt8.ofNat c]⟩ : ByteArray)
   else if c < 0x800 then ⟨#[UInt8.ofNat (0xC0 + c / 64), UInt8.ofNat (0x80 + c % 64)]⟩
   else if c < 0x10000 then ⟨#[UInt8.ofNat (0xE0 + c / 4096), UInt8.ofNat (0x80 + c / 64 % 64), UInt8.ofNat (0x80 + c % 64)]⟩
   else ⟨#[UInt8.ofNat (0xF0 + c / 262144 % 16), UInt8.ofNat (0x80 + c / 4096 % 64), UInt8.ofNat (0x80 + c / 64 % 64), UInt8.ofNat (0x80 + c % 64)]⟩) ->
   2 <= s.size /\ s.size <= 4 /\ ∀ i (h : i < s.size), 128 <= (s[i]'h).toNat := by
  intro c hc s hs; have hb : ∀ n, 128 <= n -> n < 256 -> 128 <= (UInt8.ofNat n).toNat := fun n h1 h2 => by rw [xM]; omega
  rw [zH om] at hs
  split at hs
  ·subst hs
   refine ⟨show 2 <= 2 from om, show 2 <= 4 from om, fun i hi => ?_⟩
   match i, hi with
   | 0, _ => exact hb _ om om
   | 1, _ => exact hb _ om om
  ·split at hs
   ·subst hs
    refine ⟨show 2 <= 3 from om, show 3 <= 4 from om, fun i hi => ?_⟩
    match i, hi with
    | 0, _ => exact hb _ om om
    | 1, _ => exact hb _ om om
    | 2, _ => exact hb _ om om
   ·subst hs
    refine ⟨show 2 <= 4 from om, show 4 <= 4 from om, fun i hi => ?_⟩
    match i, hi with
    | 0, _ => exact hb _ om om
    | 1, _ => exact hb _ om om
    | 2, _ => exact hb _ om om
    | 3, _ => exact hb _ om om
 have hc : 128 <= (if Utf8.valid r then r.toNat else Utf8.runeError) /\ (if Utf8.valid r then r.toNat else Utf8.runeError) <= 1114111 := by
  split
  ·rename_i hv
   unfold Utf8.valid at hv; simp only [zBk, xO, xP] at hv; omega
  ·decide
 refine key _ hc.1 _ ?_; unfold Utf8.encode; simp only; rw [show (if Utf8.valid r then r.toNat else Utf8.runeError) / 262144 % 16 = (if Utf8.valid r then r.toNat else Utf8.runeError) / 262144 by have := hc.2; omega]
abbrev hexS : ByteArray := ⟨#[48, 49, 50, 51, 52, 53, 54, 55, 56, 57, 97, 98, 99, 100, 101, 102]⟩
theorem hexS_small (i : Nat) (h : i < hexS.size) : (hexS[i]'h).toNat < 128 := by
 rw [hexdig i h h]; have hi : i < 16 := h; unfold letter
 split <;> (rw [xM]; omega)
theorem zCg : ∀ (l : List UInt8) (c : UInt8), (∀ b ∈ l, b.toNat < 128) -> 128 <= c.toNat -> Lib.indexByte l c = -1
 | [], _, _, _ => rfl
 |b :: r, c, h, hc => by
  have hb := h b (yH ..)
  have hne : (b == c) = false := by
   rw [yF]; rintro rfl; omega
  unfold Lib.indexByte; rw [hne, zCg r c (fun x hx => h x (yP _ hx)) hc]
  rfl
def iterPos (w : World) (k : Nat) : Nat := match w.heap[k]? with | some (.stringIter _ pos) => pos | _ => 0
theorem tX {w : World} {k : Nat} {s : ByteArray} {pos : Nat} (hk : w.heap[k]? = some (.stringIter s pos)) (pos' : Nat) : (w.iterAt k s pos').heap[k]? = some (.stringIter s pos') /\ iterPos (w.iterAt k s pos') k = pos' := by
 have h := Lib.iterAt_heap w k s pos pos' hk; exact ⟨h, by unfold iterPos; rw [h]⟩
theorem zBh (s : ByteArray) (hs4 : 4 <= s.size) (hs9 : s.size <= 1000) (hsm : ∀ i (h : i < s.size), (s[i]'h).toNat < 128) (r : Int) (h0 : 128 <= r) (h1 : r <= 1114111) (w : World) :
  zCB 172 #[.string s, .int .i32 r] w (.int .i64 (-1)) := by
 have hVR := fun W => Any.utf8_ValidRune Tryz.validRune r W; have HVR : Hid (∀ W, zCQ 193 #[.int .i32 r] W (.bool (Lib.validRune r))) := hVR; clear hVR
 by_cases hre : r = 65533
 ·subst hre
  go_enter func172, ntmps172
  go_wp2_with fail
  go_loopw [5] (fun _ wr => ∃ pos : Nat, pos <= s.size /\ wr.heap[w.heap.size]? = some (.stringIter s pos) /\ zW w wr) (fun _ wr => s.size - iterPos wr w.heap.size)
  case atStart => exact ⟨0, yQ _, jW w _, zb.alloc zn _⟩
  case round =>
   obtain ⟨pos, hpos, hk, hbl⟩ := hrel; have hip : iterPos wr w.heap.size = pos := by unfold iterPos; rw [hk]
   by_cases hlt : pos < s.size
   ·have hc1 := hsm pos hlt
    have hnx := fun ty => Lib.run_next_ascii_at (P := prog) wr w.heap.size s pos ty hk hlt hc1; have HK := qh (tX hk (pos + 1)); have HB := qh (Lib.below_iterAt hbl zn s (pos + 1)); generalize s[pos].toNat = c at hc1 hnx; clear hk hbl hsm
    go_wp2
    exact ⟨⟨pos + 1, om, HK.o.1, HB.o⟩, by rw [HK.o.2, hip]; omega⟩
   ·have hnx := fun ty => Lib.run_next_end_at (P := prog) wr w.heap.size s pos ty hk hlt
    clear hk
    go_wp2
    go_ret
    exact ⟨rfl, hbl⟩
 cases hval : Lib.validRune r with
 |false =>
  go_enter func172, ntmps172
  go_wp2_with fail
  refine zU (HVR.o _) ?_
  go_wp2
  go_ret
  exact ⟨rfl, xE _ _⟩
 |true =>
  obtain ⟨g1, g2, g3⟩ := encode_big r h0
  go_enter func172, ntmps172
  go_wp2_with fail
  refine zU (HVR.o _) ?_; go_wp2_with fail
  refine wp_scope_straight ?_; have G3 := qh g3; have HSM := qh hsm; clear g3 hsm; obtain ⟨p, hn⟩ : ∃ p, (Utf8.encode r).size = p + 1 := ⟨(Utf8.encode r).size - 1, om⟩; have hp3 : p <= 3 := om; generalize hm : s.size = m at hs4 hs9; have hpm : p < m := om; clear g1 g2; go_wp2_with fail
  refine wp_loop_rounds 1 ?_; rw [mD]; obtain ⟨c, hc⟩ : ∃ c, s[p]'om = c := ⟨_, rfl⟩; obtain ⟨d, hd⟩ : ∃ d, (Utf8.encode r)[p]'om = d := ⟨_, rfl⟩; have hc1 : c.toNat < 128 := by rw [← hc]; exact HSM.o _ _
  have hd1 : 128 <= d.toNat := by rw [← hd]; exact G3.o _ _
  have hc' : ∀ h, s[p]'h = c := fun h => hc; have hd' : ∀ h, (Utf8.encode r)[p]'h = d := fun h => hd; have hcd : ((c.toNat : Int) == (d.toNat : Int)) = false := zo; clear hc hd; have e1 : IntKind.i64.wrap ((p : Int) + 1) = (p : Int) + 1 := yT _ om
  have hsl : ∀ W, (Instr.slice 9 (.string s) (some (.int .i64 ((p : Int) + 1))) none none).run prog W = .ok (.string (s.extract (p + 1) m)) W := fun W => by
   have h := run_slice_string_l (P := prog) W 9 s underlying9 .i64 ((p : Int) + 1) om (by rw [hm]; omega); rw [hm] at h; exact h
  have hd2 : (d.toNat : Int).toNat.toUInt8 = d := zi
  have HIB : Hid (∀ a b W, zCQ 192 #[.string (s.extract a b), .int .u8 (d.toNat : Int)] W (.int .i64 (-1))) := fun a b W => by
   have h := Any.strings_IndexByte Tryz.indexByte (s.extract a b) (d.toNat : Int) W
   rw [hd2, zCg _ d (fun x hx => by
    have hx := mem_extract hx; obtain ⟨i, hi, rfl⟩ := List.mem_iff_getElem.1 hx; rw [Array.getElem_toList]; exact HSM.o i (by rw [bK] at hi; exact hi)) hd1] at h
   exact h
  go_wp2_with fail
  refine wp_scope_straight ?_; go_wp2_with fail
  go_quiet (fail)
  go_wp2_with fail
  go_quiet ((go_at_call 192; go_must (exact (HIB.o _ _ _).mono fun _ _ h => ⟨h.1, _, h.2⟩)))
  go_wp2_with fail
  simp only [Exit.noGoto, Exit.inBlock, Exit.then]
  go_wp2
  go_ret
  exact ⟨rfl, below_drewN zb _⟩
theorem dig_index : ∀ n : Fin 128, Lib.indexByte [48, 49, 50, 51, 52, 53, 54, 55, 56, 57, 97, 98, 99, 100, 101, 102] ((if 65 <= (n : Nat) /\ (n : Nat) <= 70 then (n : Nat) + 32 else (n : Nat)).toUInt8) = dig (UInt8.ofNat n) := by decide +kernel
theorem zEx (r : Int) (h0 : 0 <= r) (h1 : r <= 1114111) (w : World) :
  zCB 149 #[.int .i32 r] w (.int .i64 (if r < 128 then dig (UInt8.ofNat r.toNat) else -1)) := by
 by_cases hr : r < 128
 ·have hd := dig_index ⟨r.toNat, om⟩
  simp only at hd; rw [zN hr]
  by_cases hc : 65 <= r /\ r <= 70
  ·rw [zN om] at hd
   have hcon := Any.strings_IndexRune_ascii Tryz.indexRune hexS (r + 32) w om om; change Calls prog 172 _ _ _ at hcon; rw [show (r + 32).toNat = r.toNat + 32 from om] at hcon; change Calls prog 172 _ _ (fun e w' => e = .returned (.int .i64 (Lib.indexByte [48, 49, 50, 51, 52, 53, 54, 55, 56, 57, 97, 98, 99, 100, 101, 102] _)) /\ w' = w) at hcon; rw [hd] at hcon; have HC := qh hcon; clear hcon hd; obtain ⟨c1, c2⟩ := hc
   go_enter func149, ntmps149
   go_wp2_with fail
   refine zU HC.o ?_
   go_wp2
   go_ret
   exact ⟨rfl, xE _ _⟩
  ·rw [zH om] at hd
   have hcon := Any.strings_IndexRune_ascii Tryz.indexRune hexS r w om om; change Calls prog 172 _ _ (fun e w' => e = .returned (.int .i64 (Lib.indexByte [48, 49, 50, 51, 52, 53, 54, 55, 56, 57, 97, 98, 99, 100, 101, 102] _)) /\ w' = w) at hcon; rw [hd] at hcon; have HC := qh hcon; clear hcon hd; have hc' : r < 65 ∨ 70 < r := om; clear hc
   rcases hc' with hc | hc
   all_goals
    go_enter func149, ntmps149
    go_wp2_with fail
    refine zU HC.o ?_
    go_wp2
    go_ret
    exact ⟨rfl, xE _ _⟩
 ·rw [zH hr]
  have HC := qh (zBh hexS zd zd hexS_small r om h1 w)
  go_enter func149, ntmps149
  go_wp2_with fail
  refine zT HC.o fun w1 hb => ?_
  go_wp2
  go_ret
  exact ⟨rfl, hb⟩
theorem zDs (c : UInt8) (w : World) :
  zCQ 116 #[.int .u8 (c.toNat : Int)] w (.int .i64 (dig c)) := by
 have hc : c.toNat < 256 := c.toNat_lt; unfold dig; generalize c.toNat = n at hc ⊢
 by_cases h1 : 48 <= n
 ·by_cases h2 : n <= 57
  ·rw [zN ⟨h1, h2⟩]
   go_enter func116, ntmps116
   go_wp2
   go_ret
   exact ⟨rfl, rfl⟩
  ·rw [zH om]
   by_cases h3 : 97 <= n
   ·by_cases h4 : n <= 102
    ·rw [zN ⟨h3, h4⟩]
     go_enter func116, ntmps116
     go_wp2
     go_ret
     exact ⟨rfl, rfl⟩
    ·rw [zH om, zH om]
     go_enter func116, ntmps116
     go_wp2
     go_ret
     exact ⟨rfl, rfl⟩
   ·rw [zH om]
    by_cases h5 : 65 <= n
    ·by_cases h6 : n <= 70
     ·rw [zN ⟨h5, h6⟩]
      go_enter func116, ntmps116
      go_wp2
      go_ret
      exact ⟨rfl, rfl⟩
     ·rw [zH om]
      go_enter func116, ntmps116
      go_wp2
      go_ret
      exact ⟨rfl, rfl⟩
    ·rw [zH om]
     go_enter func116, ntmps116
     go_wp2
     go_ret
     exact ⟨rfl, rfl⟩
 ·rw [zH om, zH om, zH om]
  go_enter func116, ntmps116
  go_wp2
  go_ret
  exact ⟨rfl, rfl⟩
theorem ref_Unhex (l : List UInt8) (hl : l.length <= 1073741824) (w : World) :
  zCB 58 #[.string (str l)] w (.tuple #[.string (str ((vE [] l).getD [])), .bool (vE [] l).isSome]) := by
 have hsz : (str l).size = l.length := zZ l
 go_enter func58, ntmps58
 go_wp2_with fail
 go_loopw [4, 5] (fun s i wr => ∃ (k : Nat) (o : List UInt8), k <= l.length /\ o.length <= k /\ i = .int .i64 k /\ s = .string (str o) /\ Hid (vE [] l = vE o (l.drop k)) /\ zW w wr) (fun _ i _ => l.length - (intOf i).toNat)
 case atStart => exact ⟨0, [], yQ _, yZ _, rfl, rfl, qh (by rw [xU]), xE _ _⟩
 case round =>
  obtain ⟨k, o, hk, ho, rfl, rfl, HE, hbl⟩ := hrel
  by_cases hlt : k < l.length
  ·obtain ⟨c, hc0⟩ : ∃ c : UInt8, l[k] = c := ⟨_, rfl⟩
   have hg' : ∀ h, (str l)[k]'h = c := fun h => (jS l k h).trans hc0
   by_cases hlast : k + 1 = l.length
   ·have HE1 : Hid (vE [] l = none) := by
     rw [HE.o, yE hlt, yO om, vE]; exact qh rfl
    go_wp2
    refine zC (v := .tuple #[.string ⟨#[]⟩, .bool false]) ?_ rfl ⟨by rw [HE1.o]; rfl, hbl⟩; simp [results, results58, go_sem]
   ·have hlt2 : k + 1 < l.length := om
    obtain ⟨d, hd0⟩ : ∃ d : UInt8, l[k + 1] = d := ⟨_, rfl⟩; have hg2 : ∀ h, (str l)[k + 1]'h = d := fun h => (jS l (k + 1) h).trans hd0
    have HE1 : Hid (vE [] l = if dig c < 0 ∨ dig d < 0 then none else vE (o ++ [UInt8.ofNat (16 * (dig c).toNat + (dig d).toNat)]) (l.drop (k + 2))) := by
     rw [HE.o, yE hlt, yE hlt2, hc0, hd0, vE]; exact qh rfl
    have HC := qh fun W => zDs c W; have HD := qh fun W => zDs d W; obtain ⟨x1, x2⟩ := tT c; obtain ⟨y1, y2⟩ := tT d; clear hc0 hd0; generalize dig c = x at HE1 HC x1 x2; generalize dig d = y at HE1 HD y1 y2; have e1 : IntKind.i64.wrap ((k : Int) + 1) = (k : Int) + 1 := yT _ om; go_wp2_with fail
    refine zU (HC.o _) ?_; go_wp2_with fail
    refine zU (HD.o _) ?_
    by_cases hx : x < 0
    ·have HE2 : Hid (vE [] l = none) := by rw [HE1.o, zN (Or.inl hx)]; exact qh rfl
     go_wp2
     refine zC (v := .tuple #[.string ⟨#[]⟩, .bool false]) ?_ rfl ⟨by rw [HE2.o]; rfl, hbl⟩; simp [results, results58, go_sem]
    by_cases hy : y < 0
    ·have HE2 : Hid (vE [] l = none) := by rw [HE1.o, zN (Or.inr hy)]; exact qh rfl
     go_wp2
     refine zC (v := .tuple #[.string ⟨#[]⟩, .bool false]) ?_ rfl ⟨by rw [HE2.o]; rfl, hbl⟩; simp [results, results58, go_sem]
    have HE2 : Hid (vE [] l = vE (o ++ [UInt8.ofNat (16 * x.toNat + y.toNat)]) (l.drop (k + 2))) := by rw [HE1.o, zH om]; exact qh rfl
    have h1 : (str o).size = o.length := zZ _; have h2 : ∀ c, (str [c]).size = 1 := fun c => zZ _; have hone := fun W => one_str W (16 * x + y) om om
    go_wp2
    refine ⟨⟨k + 2, o ++ [UInt8.ofNat (16 * x.toNat + y.toNat)], om, zo, by go_num, by rw [xJ, show (16 * x + y).toNat = 16 * x.toNat + y.toNat from om], HE2, hbl.alloc hbl.size _⟩, by simp [intOf]; omega⟩
  ·go_wp2_with fail
   have HE1 : Hid (vE [] l = some o) := by
    rw [HE.o, yO om, vE]; exact qh rfl
   refine zC (v := .tuple #[.string (str o), .bool true]) ?_ rfl ⟨by rw [HE1.o]; rfl, hbl⟩; simp [results, results58, go_sem]
theorem SlR.ofB {w : World} {B : Nat} {v : Value} {l : List UInt8} {e : TypeId} (h : w.ownsRow B e 1 v l.length (flat encB l)) : SlR w 1 encB v l := by
 obtain ⟨p, cap, rfl, h1, h2, h3⟩ := owns_b h; exact ⟨p, cap, rfl, h1, h2, h3⟩
theorem str_conv {w : World} {v : Value} {l : List UInt8} (h : SlR w 1 encB v l) : (convert 33 9 v).run prog w = .ok (.string (str l)) w :=
 h.str underlying33 underlying5 underlying9
open Go.ColonPlain
theorem dig36 (n : Nat) (hn : n < 16) (h : n < ByteArray.size ⟨#[48, 49, 50, 51, 52, 53, 54, 55, 56, 57, 97, 98, 99, 100, 101, 102, 103, 104, 105, 106, 107, 108, 109, 110, 111, 112, 113, 114, 115, 116, 117, 118, 119, 120, 121, 122]⟩) : (⟨#[48, 49, 50, 51, 52, 53, 54, 55, 56, 57, 97, 98, 99, 100, 101, 102, 103, 104, 105, 106, 107, 108, 109, 110, 111, 112, 113, 114, 115, 116, 117, 118, 119, 120, 121, 122]⟩ : ByteArray)[n]'h = letter n := by
 match n, hn, h with
 | 0, _, _ => rfl
 | 1, _, _ => rfl
 | 2, _, _ => rfl
 | 3, _, _ => rfl
 | 4, _, _ => rfl
 | 5, _, _ => rfl
 | 6, _, _ => rfl
 | 7, _, _ => rfl
 | 8, _, _ => rfl
 | 9, _, _ => rfl
 | 10, _, _ => rfl
 | 11, _, _ => rfl
 | 12, _, _ => rfl
 | 13, _, _ => rfl
 | 14, _, _ => rfl
 | 15, _, _ => rfl
 | n + 16, hn, _ => exact absurd hn om
theorem and15_64 (u : Nat) (h : u < 65536) : bits .and .u64 (u : Int) 15 = ((u % 16 : Nat) : Int) := by
 have h1 := bits_and_u64_nat u 15 om om; rw [show u &&& 15 = u % 16 from Nat.and_two_pow_sub_one_eq_mod u 4] at h1; exact h1
theorem tz64 (w : World) (ht : CT w) : zCQ 206 #[.int .u64 16] w (.int .i64 4) := by
 have h0 := ht.tz.cell (show prog.globalNamed "math/bits.deBruijn64tab" = some 8 from kf) 15 zd; rw [show bruijn.getD 15 0 = 4 from rfl] at h0; have hneg : bits .and .u64 16 (IntKind.u64.wrap (-16)) = 16 := by decide +kernel
 go_enter func206, ntmps206
 go_wp2
 go_ret
 exact ⟨rfl, rfl⟩
theorem tz (w : World) (ht : CT w) : zCQ 200 #[.int .u64 16] w (.int .i64 4) := by
 have HC := qh (tz64 w ht)
 go_enter func200, ntmps200
 go_wp2_with fail
 refine zU HC.o ?_
 go_wp2
 go_ret
 exact ⟨rfl, rfl⟩
theorem pow2 (w : World) : zCQ 199 #[.int .i64 16] w (.bool true) := by
 have h : bits .and .i64 16 15 = 0 := by decide +kernel
 go_enter func199, ntmps199
 go_wp2
 go_ret
 exact ⟨rfl, rfl⟩
theorem slr_of_blk {W : World} {g : Nat} {t : TypeId} {X Y : List UInt8} (h : Blk W g t (arrB (X ++ Y))) (hY : Y.length <= 1048576) : SlR W 1 encB (.slice (some ⟨g, X.length, none⟩) Y.length Y.length) Y := by
 refine ⟨_, _, rfl, yZ _, om, (fun e => by cases e), fun a ha _ => ?_⟩
 cases ha; refine ⟨rfl, h.lt, fun i x hx j u hu => ?_⟩; have hj : j = 0 := by have := (zL.1 hu).1; simpa [encB] using this
 subst hj; simp only [encB, xA, uX] at hu; subst hu; simp only [jN, xN]; rw [h.cell (X.length + i)]; apply kQ; rw [vD om, show X.length + i - X.length = i from om]; exact hx
theorem pad_set (m : Nat) (suf : List UInt8) (c : UInt8) : (List.replicate (m + 1) (0 : UInt8) ++ suf).set m c = List.replicate m 0 ++ c :: suf := by
 rw [List.replicate_succ', xQ, tJ, tK _ _ zi, vM, Nat.sub_self, zDl]
theorem pad_get (m : Nat) (suf : List UInt8) : (List.replicate (m + 1) (0 : UInt8) ++ suf)[m]? = some 0 := by
 rw [vV zi, List.getElem?_replicate, zN om]
theorem zero65 : Tryz.zeroCells236 = arrB (List.replicate 65 0) := kf
theorem formatBits16 (n : Nat) (hn : n < 65536) (w : World) (ht : CT w) :
  zCB 182 #[.slice none 0 0, .int .u64 n, .int .i64 16, .bool false, .bool false] w (.tuple #[.slice none 0 0, .string (str (hexN n))]) := by
 have HT := qh (ht.below (yD w (.cells Tryz.zeroCells236 236))); have hB : Blk (w.alloc (.cells Tryz.zeroCells236 236)) w.heap.size 236 (arrB (List.replicate 65 0)) := by rw [← zero65]; exact Blk.new _ _ _
 have HBl := qh hB; clear hB ht
 go_enter func182, ntmps182
 go_wp2_with fail
 refine zU (pow2 _) ?_; go_wp2_with fail
 refine zU (tz _ HT.o) ?_; go_wp2_with fail
 go_loopw [1, 13] (fun vu vi wr => ∃ (u : Nat) (suf : List UInt8), vu = .int .u64 u /\ vi = .int .i64 ((65 : Int) - suf.length) /\ u < 65536 /\ suf.length <= 3 /\ Hid (hexN n = hexN u ++ suf) /\ Hid (Blk wr w.heap.size 236 (arrB (List.replicate (65 - suf.length) 0 ++ suf))) /\ Hid (zW w wr)) (fun vu _ _ => (intOf vu).toNat)
 case atStart => exact ⟨n, [], rfl, rfl, hn, zi, qh zi, qh (by simpa using HBl.o), qh (yD w _)⟩
 case round =>
  obtain ⟨u, suf, rfl, rfl, hu, hsl, HE, HA, HB⟩ := hrel; have hda := dig36; obtain ⟨m, hm⟩ : ∃ m : Nat, 65 - suf.length = m + 1 := ⟨64 - suf.length, om⟩; rw [hm] at HA; have hi : (65 : Int) - suf.length = (m : Int) + 1 := om; rw [hi]; have f0 := HA.o.frozen' m; have c0 : wr.cell? ⟨w.heap.size, m, none⟩ = some (.int .u8 0) := (HA.o.cell m).trans (kQ (pad_get m suf)); have b0 : (m : Int) < 65 := om; have HM := qh hm; have HI := qh hi; have e1 : IntKind.i64.wrap ((m : Int) + 1 - 1) = (m : Int) := by rw [yT _ om]; omega
  have e2 : (m : Int) + 1 - 1 = (m : Int) := om; clear hm hi
  by_cases hlt : 16 <= u
  ·have hand := and15_64 u hu
   have hm : u % 16 < 16 := om; have HST := qh (hexN_step hlt hu); go_wp2_with fail
   have hsl3 : suf.length + 1 <= 3 := by
    have h1 := kT n; rw [HE.o, HST.o, zG, zG] at h1; have h2 := kT (u / 16); simp only [zI, xI] at h1; omega
   refine ⟨⟨u / 16, letter (u % 16) :: suf, by go_num, ?_, om, by simpa using hsl3, qh (by rw [HE.o, HST.o]; simp), qh ?_, qh (HB.o.setCell zi _)⟩, by simp [intOf]; omega⟩
   ·congr 1
    have := HI.o; simp only [zI]; omega
   ·have e : 65 - (letter (u % 16) :: suf).length = m := by have := HM.o; simp only [zI]; omega
    rw [e, ← pad_set, ← wF]; exact HA.o.set _ _
  ·have HH := qh (hexN_low1 (u := u) om)
   have hult : u < 16 := om; have hA2 := (HA.o.set m (.int .u8 ((letter u).toNat : Int))); rw [wF, pad_set] at hA2; have HA2 := qh hA2; clear hA2; have hal : prog.arrayLen 236 = 65 := kf; have hm65 : (m : Int) <= 65 := om; have hne : ¬ 65 = m := om
   have hcv : (convert 33 9 (.slice (some ⟨w.heap.size, m, none⟩) (65 - m) (65 - m))).run prog (wr.setCell ⟨w.heap.size, m, none⟩ (.int .u8 ((letter u).toNat : Int))) = .ok (.string (str (letter u :: suf))) (wr.setCell ⟨w.heap.size, m, none⟩ (.int .u8 ((letter u).toNat : Int))) := by
    have h := slr_of_blk HA2.o zo; have e : (letter u :: suf).length = 65 - m := by have := HM.o; simp only [zI]; omega
    rw [vM, e] at h; exact str_conv h
   go_wp2
   refine zC (v := .tuple #[.slice none 0 0, .string (str (letter u :: suf))]) ?_ rfl ⟨by rw [HE.o, HH.o]; rfl, HB.o.setCell zi _⟩; simp [results, results182, go_sem]
theorem formatInt_lib (n : Nat) (hn : n < 65536) (w : World) (ht : CT w) :
  zCB 164 #[.int .i64 n, .int .i64 16] w (.string (str (hexN n))) := by
 have HC := qh (formatBits16 n hn w ht)
 go_enter func164, ntmps164
 go_wp2_with fail
 refine zT HC.o fun w1 hb => ?_
 go_wp2
 go_ret
 exact ⟨rfl, hb⟩
theorem formatInt (n : Nat) (hn : n < 65536) (w : World) (ht : CT w) :
  zCB 132 #[.int .i64 n, .int .i64 16] w (.string (str (hexN n))) := by
 have HC := qh (formatInt_lib n hn w ht)
 go_enter func132, ntmps132
 go_wp2_with fail
 refine zT HC.o fun w1 hb => ?_
 go_wp2
 go_ret
 exact ⟨rfl, hb⟩
theorem owns_iter {w : World} {base : Nat} {e : TypeId} {size : Nat} {v : Value} {n : Nat} {xs : List Value} (h : w.ownsRow base e size v n xs) {k : Nat} {s : ByteArray} {pos : Nat} (hk : w.heap[k]? = some (.stringIter s pos)) (pos' : Nat) :
  (w.iterAt k s pos').ownsRow base e size v n xs := by
 refine ⟨h.1, ?_⟩
 rcases h.2 with h0 | ⟨g, cap, cur, hv, hb, hg, r⟩
 ·exact .inl h0
 ·refine .inr ⟨g, cap, cur, hv, hb, ?_, r⟩
  rw [Lib.iterAt_other w k g s pos' (fun e => by subst e; rw [hk] at hg; cases hg)]; exact hg
theorem or16 : ∀ a b : Fin 16, bits .or .i64 (((a : Nat) : Int) * 16) ((b : Nat) : Int) = (((a : Nat) * 16 + (b : Nat) : Nat) : Int) := by decide +kernel
theorem zAt (l : List UInt8) (i : Nat) (h : i < l.length) : (str l).get! i = l[i] := by
 have : (str l).get! i = l.toArray[i]! := rfl; rw [this]; simp [h]
theorem dig_big {c : UInt8} (h : 128 <= c.toNat) : dig c = -1 := by
 unfold dig; rw [zH om, zH om, zH om]
structure UH (w : World) (l : List UInt8) (v : Value) (hi : Int) (wr : World) (pos : Nat) (o : List UInt8) : Prop where
 lo : -1 <= hi
 up : hi <= 15
 le : pos <= l.length
 len : o.length <= pos
 iter : wr.heap[w.heap.size]? = some (.stringIter (str l) pos)
 own : wr.ownsRow (w.heap.size + 1) 5 1 v o.length (flat encB o)
 below : zW w wr
 eq : kW (-1) [] l = kW hi o (l.drop pos)
theorem octet_Unhex (l : List UInt8) (hl : l.length <= 1073741824) (w : World) :
  Calls prog 115 #[.string (str l)] w fun e w' => ∃ v', e = .returned (.tuple #[v', .bool (vE [] l).isSome]) /\ w'.ownsRow w.heap.size 5 1 v' ((vE [] l).getD []).length (flat encB ((vE [] l).getD [])) /\ zW w w' := by
 rw [← zCt]
 go_enter func115, ntmps115
 go_wp2_with fail
 go_loopw [4, 5] (fun v h wr => ∃ (hi : Int) (pos : Nat) (o : List UInt8), h = .int .i64 hi /\ Hid (UH w l v hi wr pos o)) (fun _ _ wr => l.length - iterPos wr w.heap.size)
 case atStart => exact ⟨-1, 0, [], rfl, qh ⟨om, om, yQ _, yZ _, jW w _, xL _ _ _ _, zb.alloc zn _, by rw [xU]⟩⟩
 case round =>
  obtain ⟨hi, pos, o, rfl, HU⟩ := hrel; have hlo := HU.o.lo; have hup := HU.o.up; have hip : Hid (iterPos wr w.heap.size = pos) := by unfold iterPos; rw [HU.o.iter]; exact qh rfl
  by_cases hlt : pos < l.length
  ·have hps : pos < (str l).size := by rw [zZ]; exact hlt
   obtain ⟨c, hc0⟩ : ∃ c : UInt8, l[pos]'hlt = c := ⟨_, rfl⟩; have hdr : l.drop pos = c :: l.drop (pos + 1) := by rw [yE hlt, hc0]
   have hgs := zAt l pos hlt; rw [hc0] at hgs
   by_cases hb : 128 <= c.toNat
   ·have hnx := fun ty => Lib.run_next_any_at (P := prog) wr w.heap.size (str l) pos ty HU.o.iter hps
    obtain ⟨d1, d2⟩ := zBl (str l) pos (by rw [hgs]; exact hb)
    have HE : Hid (kW (-1) [] l = none) := by
     rw [HU.o.eq, hdr, kW, zN (by rw [dig_big hb]; omega)]; exact qh rfl
    have HB := qh (Lib.below_iterAt HU.o.below zn (str l) (pos + (Utf8.decode (str l) pos).2)); generalize Utf8.decode (str l) pos = q at d1 d2 hnx HB; obtain ⟨q1, q2⟩ := q; simp only at d1 d2 hnx HB; have HD := qh fun W => zEx (q1 : Int) om om W; rw [zH om] at HD; clear hc0 hdr hgs; go_wp2_with fail
    refine zT (HD.o _) fun w1 hb1 => ?_
    go_wp2
    refine zC (v := .tuple #[.slice none 0 0, .bool false]) ?_ rfl ⟨.slice none 0 0, by rw [HE.o]; rfl, by rw [HE.o]; exact xL _ _ _ _, HB.o.trans (hb1.mono HB.o.size)⟩; simp [results, results115, go_sem]
   ·have hc1 : (str l)[pos].toNat < 128 := by rw [jS, hc0]; omega
    have hnx := fun ty => Lib.run_next_ascii_at (P := prog) wr w.heap.size (str l) pos ty HU.o.iter hps hc1; have hcc : (str l)[pos].toNat = c.toNat := by rw [jS, hc0]
    rw [hcc] at hnx; have HB := qh (Lib.below_iterAt HU.o.below zn (str l) (pos + 1)); have HO := qh (owns_iter HU.o.own HU.o.iter (pos + 1)); have HI := qh (tX HU.o.iter (pos + 1)); have HD := qh fun W => zEx (c.toNat : Int) om om W; rw [zN om, show UInt8.ofNat (c.toNat : Int).toNat = c from zi] at HD; have hol := HU.o.len; obtain ⟨hd1, hd2⟩ := tT c
    have HE : Hid (kW (-1) [] l = if dig c < 0 then none else if hi < 0 then kW (dig c) o (l.drop (pos + 1)) else kW (-1) (o ++ [UInt8.ofNat (hi.toNat * 16 + (dig c).toNat)]) (l.drop (pos + 1))) := by
     rw [HU.o.eq, hdr, kW]; exact qh rfl
    have hc2 : c.toNat < 128 := om; clear hc0 hdr hgs hb hc1 hcc; generalize dig c = d at hd1 hd2 HE HD; generalize c.toNat = cn at hnx hc2 HD
    by_cases hdn : d < 0
    ·go_wp2_with fail
     refine zT (HD.o _) fun w1 hb1 => ?_
     go_wp2
     refine zC (v := .tuple #[.slice none 0 0, .bool false]) ?_ rfl ⟨.slice none 0 0, by rw [HE.o, zN om]; rfl, by rw [HE.o, zN om]; exact xL _ _ _ _, HB.o.trans (hb1.mono HB.o.size)⟩; simp [results, results115, go_sem]
    by_cases hhn : hi < 0
    ·go_wp2_with fail
     refine zT (HD.o _) fun w1 hb1 => ?_; go_wp2_with fail
     have hk1 : w1.heap[w.heap.size]? = some (.stringIter (str l) (pos + 1)) := (hb1.block _ (xB.1 HI.o.1).1).trans HI.o.1; refine ⟨⟨d, pos + 1, o, rfl, qh ⟨hd1, hd2, hlt, om, hk1, vL HO.o hb1 zn, HB.o.trans (hb1.mono HB.o.size), by rw [HE.o, zH om, zN om]⟩⟩, ?_⟩; rw [hip.o]; unfold iterPos; rw [hk1]; simp only; omega
    ·obtain ⟨a, rfl⟩ : ∃ a : Nat, hi = a := ⟨hi.toNat, om⟩
     obtain ⟨b, rfl⟩ : ∃ b : Nat, d = b := ⟨d.toNat, om⟩; have hor := or16 ⟨a, om⟩ ⟨b, om⟩; simp only at hor; go_wp2_with fail
     refine zT (HD.o _) fun w1 hb1 => ?_; have HB1 := qh hb1; have HO1 := qh (vL HO.o hb1 zn); clear hb1
     have hz1 : w.heap.size + 1 <= w1.heap.size := by
      have h1 := (xB.1 HI.o.1).1; have h2 := HB1.o.size; omega
     go_wp2_with (at_builtin; go_loud (refine uR elemB rfl (.tmp 16) (.tmp 22) rfl (w.heap.size + 1) u4 _ _ rfl HO1.o 1 1 [.int .u8 _] rfl rfl (by simp [Value.oneCell']) om hz1 ?_; intro v4 w4 hown4 _ _ hb4))
     have hk1 : w4.heap[w.heap.size]? = some (.stringIter (str l) (pos + 1)) := (hb4.block _ om).trans ((HB1.o.block _ (xB.1 HI.o.1).1).trans HI.o.1); refine ⟨⟨-1, pos + 1, o ++ [UInt8.ofNat (a * 16 + b)], rfl, qh ⟨om, om, hlt, zo, hk1, ?_, ?_, ?_⟩⟩, ?_⟩
     ·have e1 : ((UInt8.ofNat (a * 16 + b)).toNat : Int) = (a : Int) * 16 + b := by rw [xM]; omega
      have e2 : flat encB [UInt8.ofNat (a * 16 + b)] = [.int .u8 ((a : Int) * 16 + b)] := by
       show [Value.int .u8 ((UInt8.ofNat (a * 16 + b)).toNat : Int)] = _
       rw [e1]
      rw [vK, zG, e2]; exact hown4
     ·exact (HB.o.trans (HB1.o.mono HB.o.size)).trans (hb4.mono (wH _))
     ·rw [HE.o, zH om, zH om]; rfl
     ·rw [hip.o]
      unfold iterPos; rw [hk1]; simp only; omega
  ·have hps : ¬ pos < (str l).size := by rw [zZ]; exact hlt
   have hnx := fun ty => Lib.run_next_end_at (P := prog) wr w.heap.size (str l) pos ty HU.o.iter hps
   have HE : Hid (kW (-1) [] l = if 0 <= hi then none else some o) := by
    rw [HU.o.eq, yO om]; exact qh rfl
   by_cases hh : 0 <= hi
   ·go_wp2
    refine zC (v := .tuple #[.slice none 0 0, .bool false]) ?_ rfl ⟨.slice none 0 0, by rw [HE.o, zN om]; rfl, by rw [HE.o, zN om]; exact xL _ _ _ _, HU.o.below⟩; simp [results, results115, go_sem]
   ·go_wp2
    refine zC (v := .tuple #[u4, .bool true]) ?_ rfl ⟨u4, by rw [HE.o, zH om]; rfl, by rw [HE.o, zH om]; exact zAq HU.o.own (wH _), HU.o.below⟩; simp [results, results115, go_sem]
end Go.Proofs.YtdbgeobolongmaaGreatDoor
