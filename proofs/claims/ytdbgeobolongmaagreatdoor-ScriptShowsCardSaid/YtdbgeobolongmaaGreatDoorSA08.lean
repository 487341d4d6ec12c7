/- Part of the proof: ScriptLines, ScriptParses, ScriptShows. -/
import Derived.Maps.OwnSet
import Derived.Test.YtdbgeobolongmaaGreatDoorSA03
import Derived.Test.YtdbgeobolongmaaGreatDoorSA04
import Derived.Test.YtdbgeobolongmaaGreatDoorSA05
set_option linter.unusedVariables false
set_option linter.unusedSimpArgs false
set_option maxRecDepth 100000
set_option maxHeartbeats 2000000
namespace Go.Proofs.YtdbgeobolongmaaGreatDoor
open Go.RowKit Go.Shelf Go.Proofs Go.OctetPlain Go.ColonPlain Go.Proofs.Tryz
theorem ints_len (G : List Nat) : (ints G).length = G.length := by simp [ints]
theorem lL {G : List Nat} {k n : Nat} (h : G[k]? = some n) : (ints G)[k]? = some (n : Int) := by simp [ints, h]
theorem colon_run (G : List Nat) (hG : G.length = 8) (w : World) :
  zCB 86 #[.agg (arrI (ints G))] w (.tuple #[.int .i64 ((run G).1 : Nat), .int .i64 ((run G).2 : Nat)]) := by
 obtain ⟨x0, x1, x2, x3, x4, x5, x6, x7, hx⟩ := list8 ((ints_len G).trans hG); have hX : arrI (ints G) = #[.int .i64 x0, .int .i64 x1, .int .i64 x2, .int .i64 x3, .int .i64 x4, .int .i64 x5, .int .i64 x6, .int .i64 x7] := by rw [hx]; rfl
 rw [hX]; have HX := qh hX; clear hX hx
 go_enter func86, ntmps86
 go_wp2_with fail
 go_loopw [4, 5, 6, 11] (fun vf vt vb vi wr => ∃ k b f t : Nat, vf = .int .i64 f /\ vt = .int .i64 t /\ vb = .int .i64 b /\ vi = .int .i64 k /\ k <= 8 /\ b <= k /\ f <= t /\ t <= k /\ Hid (run G = qJ k b f t ((zs G).drop k)) /\ Hid (zW w wr)) (fun _ _ _ i _ => 8 - (intOf i).toNat)
 case atStart => exact ⟨0, 0, 0, 0, rfl, rfl, rfl, rfl, om, om, om, om, qh rfl, qh (zb.alloc zn _)⟩
 case round =>
  obtain ⟨k, b, f, t, rfl, rfl, rfl, rfl, hk, hb, hft, htk, HE, HB⟩ := hrel
  by_cases hlt : k < 8
  ·obtain ⟨n, hn⟩ : ∃ n, G[k]? = some n := ⟨G[k], zA om⟩
   have hz : (zs G).drop k = decide (n = 0) :: (zs G).drop (k + 1) := by
    have h1 : (zs G)[k]? = some (decide (n = 0)) := by simp [zs, hn]
    obtain ⟨h2, h3⟩ := zL.1 h1; rw [yE h2, h3]
   rw [hz, qJ] at HE; have hidx := sF (lL hn); rw [HX.o] at hidx; have hix := fun W => zAh (w := W) _ k n hlt hidx; clear hidx; clear hz hn; have e1 : IntKind.i64.wrap ((k : Int) + 1) = (k : Int) + 1 := yT _ om; have e2 : IntKind.i64.wrap ((t : Int) - f) = (t : Int) - f := yT _ om; have e3 : IntKind.i64.wrap ((k : Int) + 1 - b) = (k : Int) + 1 - b := yT _ om
   by_cases hn0 : n = 0
   ·subst hn0
    rw [zV rfl] at HE; simp only [aB] at HE
    by_cases h1 : (1 : Int) < (k : Int) + 1 - b
    ·by_cases h2 : (t : Int) - f < (k : Int) + 1 - b
     ·rw [zN om] at HE
      go_wp2
      exact ⟨⟨k + 1, b, b, k + 1, rfl, by go_num, rfl, by go_num, om, om, om, om, HE, HB⟩, by simp [intOf]; omega⟩
     ·rw [zH om] at HE
      go_wp2
      exact ⟨⟨k + 1, b, f, t, rfl, rfl, rfl, by go_num, om, om, om, om, HE, HB⟩, by simp [intOf]; omega⟩
    ·rw [zH om] at HE
     go_wp2
     exact ⟨⟨k + 1, b, f, t, rfl, rfl, rfl, by go_num, om, om, om, om, HE, HB⟩, by simp [intOf]; omega⟩
   ·rw [zM hn0] at HE
    simp only [sZ, zDk] at HE; rw [zH om] at HE; have hne : ¬ (n : Int) = 0 := om; have e4 : IntKind.i64.wrap ((k : Int) + 1 - ((k : Int) + 1)) = 0 := by rw [Int.sub_self]; rfl
    clear hn0
    go_wp2
    exact ⟨⟨k + 1, k + 1, f, t, rfl, rfl, by go_num, by go_num, om, om, om, om, HE, HB⟩, by simp [intOf]; omega⟩
  ·obtain rfl : k = 8 := om
   have hd : (zs G).drop 8 = [] := yO (by rw [mF]; omega); rw [hd, qJ] at HE; have HR := qh HE.o
   go_wp2
   refine zC (v := .tuple #[.int .i64 f, .int .i64 t]) ?_ rfl ⟨by rw [HR.o], HB.o⟩; simp [results, results86, go_sem]
def encN (n : Nat) : List Value := [.int .i64 (n : Int)]
theorem bW (n : Nat) : (encN n).length = 1 := rfl
def encS (s : List UInt8) : List Value := [.string (str s)]
theorem vU (s : List UInt8) : (encS s).length = 1 := rfl
theorem rT : tY prog 79 9 1 16 := .mk underlying79 (z := .string ByteArray.empty) kf om om rfl
theorem join_eq : ∀ L : List Nat, Lib.join (L.map hexN) [58] = uU hexN L
 | [] => rfl
 | [n] => by simp [Lib.join_one, uU]
 |n :: m :: r => by
  have ih := join_eq (m :: r); rw [uU, ← ih]; simp [Lib.join]
theorem zAx : Builder.Extra prog Tryz.join_ren := {
 sizeBuilder := sizeBuilder
 liesBuilder := liesBuilder
 t5 := underlying5
 a5 := fun w => run_isAgg_plain underlying5 rfl w
 z5 := sizeOf5
 v5 := zeroValue5
 infoByte := infoByte
 cellsByte := kf
 sizeByte := kf
 neB5 := by decide }
theorem zGe (L : List Nat) : (L.map hexN).length = L.length := yX ..
theorem wU (L : List Nat) (hL : L.length <= 1000) (hb : ∀ n ∈ L, n < 65536) (v : Value) (w : World) (ht : CT w) (hv : SlR w 1 encN v L) :
  zCB 87 #[v] w (.string (str (uU hexN L))) := by
 have HT := qh ht; have HV := qh hv; obtain ⟨p, cap, rfl, hc1, hc2, hR⟩ := hv; clear ht
 go_enter func87, ntmps87
 go_wp2_with fail
 go_loopw [3, 5, 8] (fun vo _ vi wr => ∃ k : Nat, vi = .int .i64 k /\ k <= L.length /\ Hid (wr.ownsRow w.heap.size 9 1 vo k (flat encS ((L.take k).map hexN))) /\ Hid (zW w wr)) (fun _ _ vi _ => L.length - (intOf vi).toNat)
 case atStart => exact ⟨0, rfl, yQ _, qh (xL _ _ _ _), qh zb⟩
 case round =>
  obtain ⟨k, rfl, hk, HO, HB⟩ := hrel
  by_cases hlt : k < L.length
  ·obtain ⟨n, hn⟩ : ∃ n, L[k]? = some n := ⟨L[k], zA hlt⟩
   have hnb := hb n (uA hn); obtain ⟨b, off, rfl, hbs, hcell⟩ := hR.at hlt; have hLk : L[k] = n := by have := zA hlt; rw [hn] at this; cases this; rfl
   have hc0 := hcell 0 (.int .i64 (n : Int)) (by rw [hLk]; rfl); simp only [jN, xN] at hc0; have hc : wr.cell? ⟨b, off + k, none⟩ = some (.int .i64 (n : Int)) := (HB.o.cell (p := ⟨b, off + k, none⟩) hbs).trans hc0
   have HTK : Hid ((L.take (k + 1)).map hexN = (L.take k).map hexN ++ [hexN n]) := by
    rw [yA hlt, jT, hLk]; exact qh rfl
   have HF := qh (formatInt n hnb wr (HT.o.next HB.o zn)); clear hcell hc0 hLk hn; go_wp2_with fail
   refine zT HF.o fun w1 hb1 => ?_; have HB1 := qh hb1; have HO1 := qh (vL HO.o hb1 zn); have hz1 := hb1.size; have hz := HB.o.size; clear hb1
   go_wp2_with (at_builtin; go_loud (refine uR rT rfl (.tmp 12) (.tmp 15) rfl w.heap.size u3 _ _ rfl HO1.o 1 1 [.string _] rfl rfl (by simp [Value.oneCell']) om om ?_; intro v4 w4 hown4 _ _ hb4))
   exact ⟨⟨k + 1, by go_num, om, qh (by rw [HTK.o, vK]; exact hown4), qh ((HB.o.trans (HB1.o.mono hz)).trans hb4)⟩, by simp [intOf]; omega⟩
  ·have hkl : k = L.length := om
   have hO := HO.o; rw [hkl, xK] at hO; have hml := zGe L; rw [← hml] at hO; have hz := HB.o.size; obtain ⟨p', cap', rfl, hd1, hd2, hR'⟩ := SlR.of_owns vU hO; have hj := join_eq L; have hll : (uU hexN L).length <= 140737488355328 := by have := (sH kT L).1; omega
   have hjs : Lib.join (((L.map hexN).map str).map (·.data.toList)) (⟨#[58]⟩ : ByteArray).data.toList = uU hexN L := by
    rw [kJ]; have : (fun s : ByteArray => s.data.toList) ∘ str = id := by funext l; exact kM l
    rw [this, zGg]; exact hj
   have HC : Hid (zCB 34 #[.slice p' L.length cap', .string ⟨#[58]⟩] wr (.string (str (uU hexN L)))) := by
    cases p' with
    |none =>
     have h0 := hR'.1 rfl; have hL0 : L = [] := zX om; rw [hL0]; exact qh ((Any.strings_Join_none Tryz.join zAx none cap' ⟨#[58]⟩ wr).mono fun e w' h => ⟨h.1, by rw [h.2]; exact xE _ _⟩)
    |some a =>
     by_cases hL0' : L.length = 0
     ·have hL0 : L = [] := zX hL0'
      rw [hL0]; exact qh ((Any.strings_Join_none Tryz.join zAx (some a) cap' ⟨#[58]⟩ wr).mono fun e w' h => ⟨h.1, by rw [h.2]; exact xE _ _⟩)
     obtain ⟨hsp, hbk, hcl⟩ := hR'.2 a rfl (by simpa using hL0'); have ha : a = ⟨a.block, a.off, none⟩ := by cases a; simp_all
     have hcon := Any.strings_Join Tryz.join zAx a.block a.off cap' ((L.map hexN).map str) ⟨#[58]⟩ wr (fun j x hx => by
      rw [jL] at hx
      cases hy : (L.map hexN)[j]? with
      | none => rw [hy] at hx; cases hx
      |some y =>
       rw [hy] at hx
       cases hx; have := hcl j y hy 0 (.string (str y)) rfl
       simpa using this) hbk zo (by simpa using hd1) (by rw [hjs]; exact hll)
     rw [hjs, yX, hml] at hcon; rw [ha]; exact qh hcon
   have hll2 : (L.map hexN).length = L.length := hml; clear hj hjs hO hR'; go_wp2_with fail
   refine zT HC.o fun w1 hb1 => ?_
   go_wp2
   go_ret
   exact ⟨rfl, HB.o.trans (hb1.mono HB.o.size)⟩
def encI (n : Int) : List Value := [.int .i64 n]
theorem mI (n : Int) : (encI n).length = 1 := rfl
theorem elemI : tY prog 27 3 1 8 := .mk underlying27 (z := .int .i64 0) kf om om rfl
theorem nO (n : Int) (w : World) :
  zCB 136 #[.int .i64 n] w (.string (str (Hp.opW n))) := by
 by_cases h1 : n < 0
 ·have hr : Hid (Hp.opW n = []) := by unfold Hp.opW; rw [zH om, zH om, zH om, zH om]; exact qh rfl
  rw [hr.o]
  go_enter func136, ntmps136
  go_wp2
  go_ret
  exact ⟨rfl, yD w _⟩
 by_cases h2 : 4 <= n
 ·have hr : Hid (Hp.opW n = []) := by unfold Hp.opW; rw [zH om, zH om, zH om, zH om]; exact qh rfl
  rw [hr.o]
  go_enter func136, ntmps136
  go_wp2
  go_ret
  exact ⟨rfl, yD w _⟩
 have hcs : n = 0 ∨ n = 1 ∨ n = 2 ∨ n = 3 := om
 rcases hcs with rfl | rfl | rfl | rfl
 all_goals
  clear h1 h2
  go_enter func136, ntmps136
  go_wp2
  go_ret
  exact ⟨rfl, yD w _⟩
theorem hop_pushed (n : Int) (w : World) :
  zCQ 190 #[.int .i64 n] w (.bool (Hp.pushed n)) := by
 have hr : Hid (Hp.pushed n = (decide (n = 0) || decide (n = 2) || (decide (16 <= n) && decide (n <= 1048575)))) := qh rfl; rw [hr.o]
 by_cases c0 : n = 0
 ·subst c0
  go_enter func190, ntmps190
  go_wp2
  go_ret
  exact ⟨rfl, rfl⟩
 by_cases c2 : n = 2
 ·subst c2
  go_enter func190, ntmps190
  go_wp2
  go_ret
  exact ⟨rfl, rfl⟩
 have e0 : (n == 0) = false := by simpa using c0
 have e2 : (n == 2) = false := by simpa using c2
 rw [zM c0, zM c2, Bool.false_or, Bool.false_or]; clear c0 c2
 by_cases c3 : 16 <= n <;> by_cases c4 : n <= 1048575
 all_goals
  simp only [c3, c4, decide_true, decide_false, Bool.and_true, Bool.and_false, Bool.false_and, zAl]
  first | (have e3 : decide (16 <= n) = true := by simpa using c3) | (have e3 : decide (16 <= n) = false := by simpa using c3)
  first | (have e4 : decide (n <= 1048575) = true := by simpa using c4) | (have e4 : decide (n <= 1048575) = false := by simpa using c4)
  go_enter func190, ntmps190
  go_wp2
  go_ret
  exact ⟨rfl, rfl⟩
theorem zDy (n : Int) (w : World) :
  zCQ 189 #[.int .i64 n] w (.bool (!Hp.pushed n)) := by
 have HC := qh fun W => hop_pushed n W; generalize Hp.pushed n = b at *
 go_enter func189, ntmps189
 go_wp2_with fail
 refine zU (HC.o _) ?_
 go_wp2
 go_ret
 exact ⟨rfl, rfl⟩
theorem containsI_any (g : Nat) (lb : Array Value) (q : Int -> Bool) (l : List Int) (hl : l.length <= 1073741824) (v : Value) (w : World) (hv : SlR w 1 encI v l) (eg : ∀ args w, (callFunc g args).run prog w = .ok (.enter g args) w)
  (hq : ∀ (W : World) (x : Int), zW w W -> Calls prog g (#[.int .i64 x] ++ lb) W fun e w' => e = .returned (.bool (q x)) /\ w' = W) :
  zCB 188 #[v, .func (.func g) #[] lb] w (.bool (l.any q)) := by
 obtain ⟨p, cap, rfl, hc1, hc2, hR⟩ := hv
 cases p with
 |none =>
  have h0 := hR.1 rfl; have hl0 : l = [] := zX h0; subst hl0; have hcon := AnyE.slices_ContainsFunc_empty Tryz.containsI none cap (.func (.func g) #[] lb) w; change Calls prog 188 _ _ _ at hcon; exact hcon.mono fun e w' ⟨he, hw⟩ => ⟨he, by rw [hw]; exact xE _ _⟩
 |some a =>
  by_cases hl0 : l.length = 0
  ·obtain rfl : l = [] := zX hl0
   have hcon := AnyE.slices_ContainsFunc_empty Tryz.containsI (some a) cap (.func (.func g) #[] lb) w; change Calls prog 188 _ _ _ at hcon; exact hcon.mono fun e w' ⟨he, hw⟩ => ⟨he, by rw [hw]; exact xE _ _⟩
  obtain ⟨hsp, hbk, hcell⟩ := hR.2 a rfl hl0; have ha : a = ⟨a.block, a.off, none⟩ := by cases a; simp_all
  have hcon := AnyE.slices_ContainsFunc Tryz.containsI (fun x : Int => Value.int .i64 x) q g lb eg a.block a.off l.length cap l w
   (fun W x hW => (hq W x hW).mono fun e w' ⟨he, hw⟩ => ⟨he, 0, by rw [hw]; rfl⟩) zn om
   (fun j hj => by
    have := hcell j l[j]! (by simp [hj]) 0 (.int .i64 l[j]!) rfl
    simpa using this)
  change Calls prog 188 _ _ _ at hcon; rw [ha]; rw [xK] at hcon; refine hcon.mono ?_; rintro e w' ⟨rfl, q, rfl⟩; exact ⟨rfl, below_drewN zb q⟩
theorem zDa (l : List Int) (hl : l.length <= 1073741824) (v : Value) (w : World) (hv : SlR w 1 encI v l) :
  zCB 168 #[v] w (.bool (!(l.all Hp.pushed))) := by
 have HC := qh (containsI_any 189 #[] (fun n => !Hp.pushed n) l hl v w hv (enters_of func189 kf rfl) (fun W x _ => by simpa using zDy x W)); have he : Hid ((l.any fun n => !Hp.pushed n) = !(l.all Hp.pushed)) := by rw [List.not_all_eq_any_not]; exact qh rfl
 rw [← he.o]; obtain ⟨p, cap, rfl, _, _, _⟩ := hv
 go_enter func168, ntmps168
 go_wp2_with fail
 refine zT HC.o fun w1 hb => ?_
 go_wp2
 go_ret
 exact ⟨rfl, hb⟩
theorem jM (w : World) (row : Option Nat) : w.grownBy w row := ⟨rfl, rfl, rfl, yZ _, fun _ _ _ => rfl⟩
theorem uK {a b c : World} {row : Option Nat} (h : a.grownBy b row) (h2 : b.grownBy c row) : a.grownBy c row :=
 ⟨h2.os.trans h.os, h2.tape.trans h.tape, h2.output.trans h.output, yK h.size h2.size, fun k hk hne => (h2.block k (xC hk h.size) hne).trans (h.block k hk hne)⟩
theorem uE {w w' : World} (h : zW w w') (row : Option Nat) : w.grownBy w' row := ⟨h.os, h.tape, h.output, h.size, fun k hk _ => h.block k hk⟩
theorem vH (w : World) (g i : Nat) (v : Value) : w.grownBy (w.setCell ⟨g, i, none⟩ v) (some g) := by
 refine ⟨rfl, rfl, rfl, ?_, fun k hk hne => zBd w ⟨g, i, none⟩ v k (fun e => hne (by rw [e]))⟩
 show w.heap.size <= (w.heap.modify g _).size
 rw [Array.size_modify]; exact yZ _
theorem Blk.grown {w w' : World} {k g : Nat} {t : TypeId} {cs : Array Value} (h : Blk w k t cs) (hg : w.grownBy w' (some g)) (hne : k ≠ g) : Blk w' k t cs := (hg.block k h.lt (by simpa using hne)).trans h
theorem jB {B : Nat} {w w' : World} {g : Nat} (h : w.grownBy w' (some g)) (hB : B <= w.heap.size) (hg : B <= g) : Below B w w' := (xE B w).grown h hB (fun k e => by cases e; exact hg)
def SlP {α : Type} (Pr : Nat -> Prop) (w : World) (k : Nat) (enc : α -> List Value) (v : Value) (xs : List α) : Prop :=
 ∃ (p : Option Addr) (cap : Nat), v = .slice p xs.length cap /\ xs.length <= cap /\ cap <= 9223372036854775807 /\ RdP w k enc p xs /\ ∀ a, p = some a -> xs.length ≠ 0 -> Pr a.block
section
variable {α : Type} {Pr Qr : Nat -> Prop} {w w' : World} {k : Nat} {enc : α -> List Value} {v : Value} {xs : List α}
theorem SlP.sl (h : SlP Pr w k enc v xs) : SlR w k enc v xs := by obtain ⟨p, cap, h1, h2, h3, h4, _⟩ := h; exact ⟨p, cap, h1, h2, h3, h4⟩
theorem SlP.imp (h : SlP Pr w k enc v xs) (hi : ∀ b, Pr b -> Qr b) : SlP Qr w k enc v xs := by obtain ⟨p, cap, h1, h2, h3, h4, h5⟩ := h; exact ⟨p, cap, h1, h2, h3, h4, fun a ha hn => hi _ (h5 a ha hn)⟩
theorem SlP.grown (h : SlP Pr w k enc v xs) {row : Option Nat} (hg : w.grownBy w' row) (hr : ∀ b, Pr b -> row ≠ some b) : SlP Pr w' k enc v xs := by
 obtain ⟨p, cap, h1, h2, h3, h4, h5⟩ := h; exact ⟨p, cap, h1, h2, h3, h4.grown hg (fun a ha hn => hr _ (h5 a ha hn)), h5⟩
theorem SlP.below (h : SlP Pr w k enc v xs) {B : Nat} (hb : Below B w w') (hB : w.heap.size <= B) : SlP Pr w' k enc v xs := by
 obtain ⟨p, cap, h1, h2, h3, h4, h5⟩ := h; exact ⟨p, cap, h1, h2, h3, h4.below hb hB, h5⟩
theorem SlP.of_owns {base : Nat} {e : TypeId} (hk : ∀ x, (enc x).length = k) (h : w.ownsRow base e k v xs.length (flat enc xs)) : SlP (base <= ·) w k enc v xs := by
 obtain ⟨p, cap, h1, h2, h3, h4⟩ := SlR.of_owns hk h; refine ⟨p, cap, h1, h2, h3, h4, fun a ha _ => ?_⟩; subst h1; subst ha; exact (h.lt a.block rfl).1
theorem SlP.nil (w : World) (k : Nat) (enc : α -> List Value) : SlP Pr w k enc (.slice none 0 0) [] := ⟨none, 0, rfl, yZ _, om, ⟨fun _ => rfl, fun a ha _ => by cases ha⟩, fun a ha _ => by cases ha⟩
theorem SlP.tailA {enc : α -> List Value} {x : α} {xs : List α} {b off : Nat} (h2 : xs.length + 1 <= 1) (h4 : RdP w 1 enc (some ⟨b, off, none⟩) (x :: xs)) (h5 : Pr b) :
  SlP Pr w 1 enc (.slice (some ⟨b, off, none⟩) 0 0) xs := by
 obtain ⟨hsp, hlt, hc⟩ := h4.2 _ rfl zi; have hx : xs = [] := zX om; subst hx; exact ⟨some ⟨b, off, none⟩, 0, rfl, zi, om, ⟨fun _ => rfl, fun a hb hn => absurd rfl hn⟩, fun a ha _ => by cases ha; exact h5⟩
theorem SlP.tailB {enc : α -> List Value} {x : α} {xs : List α} {b off cap : Nat} (h2 : xs.length + 1 <= cap) (h3 : cap <= 9223372036854775807) (h4 : RdP w 1 enc (some ⟨b, off, none⟩) (x :: xs)) (h5 : Pr b) :
  SlP Pr w 1 enc (.slice (some ⟨b, off + 1, none⟩) xs.length (cap - 1)) xs := by
 obtain ⟨hsp, hlt, hc⟩ := h4.2 _ rfl zi; refine ⟨some ⟨b, off + 1, none⟩, cap - 1, rfl, om, om, ⟨(fun hb => by cases hb), fun a hb _ => ?_⟩, fun a hb _ => by cases hb; exact h5⟩
 cases hb; refine ⟨rfl, hlt, fun i y hy j u hu => ?_⟩; have := hc (i + 1) y (by simpa using hy) j u hu; rw [← this]
 congr 2
 simp only; omega
end
theorem pK {n : Int} (h : 0 <= n) : Lib.itoa n = Hp.dec n := by unfold Lib.itoa Hp.dec; rw [zH om]
structure Rdr (g A : Nat) (w : World) (ws : List Hp.Wd) (bad : Bool) : Prop where
 ex : ∃ v, Blk w g 185 #[v, .bool bad] /\ SlP (· = A) w 1 encS v ws
 ne : A ≠ g
 la : A < w.heap.size
theorem SlP.belowAt {α : Type} {A B k : Nat} {w w' : World} {enc : α -> List Value} {v : Value} {xs : List α} (h : SlP (· = A) w k enc v xs) (hb : Below B w w') (hA : A < B) : SlP (· = A) w' k enc v xs := by
 obtain ⟨p, cap, h1, h2, h3, h4, h5⟩ := h; refine ⟨p, cap, h1, h2, h3, ⟨h4.1, fun a ha hn => ?_⟩, h5⟩; obtain ⟨g1, g2, g3⟩ := h4.2 a ha hn; have hAa := h5 a ha hn; exact ⟨g1, xC g2 hb.size, fun i x hx j u hu => (hb.cell (p := ⟨a.block, _, none⟩) (by show a.block < B; omega)).trans (g3 i x hx j u hu)⟩
theorem Rdr.belowAt {g A B : Nat} {w w' : World} {ws : List Hp.Wd} {bad : Bool} (h : Rdr g A w ws bad) (hb : Below B w w') (hg : g < B) (hA : A < B) : Rdr g A w' ws bad := by
 obtain ⟨v, hk, hs⟩ := h.ex; exact ⟨⟨v, hk.below hb hg, hs.belowAt hb hA⟩, h.ne, xC h.la hb.size⟩
theorem Rdr.grown {g A k : Nat} {w w' : World} {ws : List Hp.Wd} {bad : Bool} (h : Rdr g A w ws bad) (hg : w.grownBy w' (some k)) (h1 : k ≠ g) (h2 : k ≠ A) : Rdr g A w' ws bad := by
 obtain ⟨v, hb, hs⟩ := h.ex; exact ⟨⟨v, hb.grown hg (bD h1), hs.grown hg (fun b hb => by subst hb; simpa using h2)⟩, h.ne, xC h.la hg.size⟩
theorem Rdr.below {g A B : Nat} {w w' : World} {ws : List Hp.Wd} {bad : Bool} (h : Rdr g A w ws bad) (hb : Below B w w') (hB : w.heap.size <= B) : Rdr g A w' ws bad := by
 obtain ⟨v, hk, hs⟩ := h.ex; exact ⟨⟨v, hk.below hb (xC hk.lt hB), hs.below hb hB⟩, h.ne, xC h.la hb.size⟩
theorem Rdr.alloc {g A : Nat} {w : World} {ws : List Hp.Wd} {bad : Bool} (h : Rdr g A w ws bad) (o : Obj) : Rdr g A (w.alloc o) ws bad := h.below (yD w o) zn
theorem Rdr.drew {g A : Nat} {w : World} {ws : List Hp.Wd} {bad : Bool} (h : Rdr g A w ws bad) : Rdr g A w.drew ws bad := h.below (xE w.heap.size w).drew zn
theorem Rdr.setW {g A : Nat} {w : World} {ws ws' : List Hp.Wd} {bad : Bool} {v' : Value} (h : Rdr g A w ws bad) (hs : SlP (· = A) w 1 encS v' ws') : Rdr g A (w.setCell ⟨g, 0, none⟩ v') ws' bad := by
 obtain ⟨v, hb, -⟩ := h.ex; exact ⟨⟨v', hb.set 0 v', hs.grown (vH w g 0 v') (fun b hb => by subst hb; simpa using h.ne.symm)⟩, h.ne, xC h.la (vH w g _ _).size⟩
theorem Rdr.setB {g A : Nat} {w : World} {ws : List Hp.Wd} {bad : Bool} (b : Bool) (h : Rdr g A w ws bad) : Rdr g A (w.setCell ⟨g, 1, none⟩ (.bool b)) ws b := by
 obtain ⟨v, hb, hs⟩ := h.ex; exact ⟨⟨v, hb.set 1 (.bool b), hs.grown (vH w g 1 (.bool b)) (fun b hb => by subst hb; simpa using h.ne.symm)⟩, h.ne, xC h.la (vH w g _ _).size⟩
theorem zDw (g A : Nat) (s : Hp.Wd) (ws : List Hp.Wd) (hl : ws.length <= 1073741824) (bad : Bool) (w : World) (h : Rdr g A w ws bad) :
  Calls prog 140 #[.pointer (some ⟨g, 0, none⟩), .string (str s)] w fun e w' => e = .returned (.bool (decide (ws.head? = some s))) /\ Rdr g A w' (if ws.head? = some s then ws.tail else ws) bad /\ w.grownBy w' (some g) := by
 have HR := qh h; have htl := vX; obtain ⟨v, hb, hs⟩ := h.ex; obtain ⟨p, cap, rfl, h1, h2, h3, h4⟩ := hs; have c0 := hb.cell 0; have f0 := hb.frozen' 0; simp only [xD, xA] at c0; have hgl := hb.lt; clear hb h
 cases ws with
 |nil =>
  simp only [xI] at c0 h1
  go_enter func140, ntmps140
  go_wp2
  go_ret
  exact ⟨rfl, HR.o, jM _ _⟩
 |cons x xs =>
  obtain ⟨b, off, rfl, hbl, hc⟩ := h3.at (i := 0) zi; have hx := hc 0 (.string (str x)) rfl; simp only [jP, xN] at hx; simp only [zI] at c0 h1 hl; have hA : b = A := h4 _ rfl zi; have HA := qh (fun h : xs.length + 1 <= 1 => SlP.tailA (Pr := (· = A)) h h3 hA); have HB := qh (SlP.tailB (Pr := (· = A)) h1 h2 h3 hA); clear hc h3 h4 hA; have hlen : 0 < xs.length + 1 := om
  by_cases hxs : x = s
  ·subst hxs
   have hd : Hid (decide ((x :: xs).head? = some x) = true /\ (if (x :: xs).head? = some x then (x :: xs).tail else (x :: xs)) = xs) := qh ⟨zi, zi⟩; rw [hd.o.1, hd.o.2]
   by_cases hcap : cap = 1
   ·subst hcap
    go_enter func140, ntmps140
    go_wp2
    go_ret
    exact ⟨rfl, HR.o.setW (HA.o h1), vH _ _ _ _⟩
   ·go_enter func140, ntmps140
    go_wp2
    go_ret
    exact ⟨rfl, HR.o.setW HB.o, vH _ _ _ _⟩
  ·have hd : Hid (decide ((x :: xs).head? = some s) = false /\ (if (x :: xs).head? = some s then (x :: xs).tail else (x :: xs)) = (x :: xs)) := qh ⟨by simp [hxs], by simp [hxs]⟩
   rw [hd.o.1, hd.o.2]; have hne : (x == s) = false := by simpa using hxs
   clear hxs
   go_enter func140, ntmps140
   go_wp2
   go_ret
   exact ⟨rfl, HR.o, jM _ _⟩
theorem hidx_no {d : UInt8} : ∀ {l : List UInt8}, d ∉ l -> Lib.index l [d] = -1
 | [], _ => by simp [Lib.index]
 |c :: r, h => by
  have h1 : ¬ c = d := fun e => h (by simp [e]); have h2 : d ∉ r := fun e => h (by simp [e]); rw [Lib.index, hidx_no h2]; simp [List.isPrefixOf, bD h1]
theorem hidx_app {d : UInt8} : ∀ {a : List UInt8} (b : List UInt8), d ∉ a -> Lib.index (a ++ d :: b) [d] = a.length
 | [], b, _ => by simp [Lib.index, List.isPrefixOf]
 |c :: r, b, h => by
  have h1 : ¬ c = d := fun e => h (by simp [e]); have h2 : d ∉ r := fun e => h (by simp [e]); rw [yC, Lib.index, hidx_app b h2]; simp [List.isPrefixOf, bD h1]
theorem hno {a : List UInt8} (h : (32 : UInt8) ∉ a) : ∀ c ∈ a, c ≠ 32 := fun c hc e => h (by rw [← e]; exact hc)
theorem hsplitK_eq : ∀ (k : Nat) (s : List UInt8), s.count 32 <= k -> Lib.splitK [32] 0 k s = Hp.spl s
 |0, s, h => by
  have : (32 : UInt8) ∉ s := fun e => by have := List.count_pos_iff.2 e; omega
  rw [Hp.spl_word s (hno this)]; rfl
 |k + 1, s, h => by
  unfold Lib.splitK
  by_cases hd : (32 : UInt8) ∈ s
  ·obtain ⟨a, b, rfl, ha⟩ := zDo hd
   rw [hidx_app b ha, Hp.spl_app a b (hno ha)]
   have hc : b.count 32 <= k := by
    rw [List.count_append, zBf] at h; omega
   rw [zH zi]; simp only [xN, bE, zDn, zI, xI, zCe]; rw [List.drop_append, yO om, yJ, show a.length + 1 - a.length = 1 from om, List.drop_one, bZ, hsplitK_eq k b hc]
  ·rw [hidx_no hd, Hp.spl_word s (hno hd)]; rfl
theorem hsplit_eq (s : List UInt8) : Lib.splitK [32] 0 (Lib.count s [32]) s = Hp.spl s := hsplitK_eq _ s (by rw [Lib.count_one]; exact yZ _)
theorem zCl : ∀ s : List UInt8, (Hp.spl s).length = s.count 32 + 1
 | [] => rfl
 |c :: r => by
  have ih := zCl r; unfold Hp.spl
  by_cases h : c = 32
  ·rw [zN h]; subst h; rw [zBf, zI, ih]
  ·rw [zH h, List.count_cons_of_ne (by simpa using h)]
   cases hs : Hp.spl r with
   | nil => exact absurd hs (Hp.spl_ne r)
   | cons w ws => rw [hs] at ih; simpa using ih
theorem spl_le : ∀ s : List UInt8, ∀ w ∈ Hp.spl s, w.length <= s.length
 | [], w, h => by simp [Hp.spl] at h; subst h; simp
 |c :: r, w, h => by
  have ih := spl_le r; unfold Hp.spl at h
  by_cases hc : c = 32
  ·rw [zN hc] at h
   rcases yR.1 h with rfl | h
   ·simp
   ·have := ih w h; simp; omega
  ·rw [zH hc] at h
   cases hs : Hp.spl r with
   | nil => exact absurd hs (Hp.spl_ne r)
   |cons v vs =>
    rw [hs] at h ih
    rcases yR.1 h with rfl | h
    ·have := ih v yH; simp; omega
    ·have := ih w (yP _ h); simp; omega
theorem hpieces_eq (l : List UInt8) : Lib.splitB (str [32]) 0 (Lib.countB (str l) (str [32])) (str l) = (Hp.spl l).map str := by
 have h := Lib.splitB_data (str [32]) 0 (Lib.countB (str l) (str [32])) (str l); have hc : Lib.countB (str l) (str [32]) = Lib.count l [32] := by unfold Lib.countB; rw [kM, kM]
 rw [kM, kM, hc, hsplit_eq] at h; have h2 := yG (List.map str) h; rw [kJ] at h2; have : str ∘ (fun s : ByteArray => s.data.toList) = id := by funext s; exact lG s
 rw [this, zGg] at h2; rw [hc]; exact h2
theorem hpieces_count (l : List UInt8) : Lib.countB (str l) (str [32]) + 1 = (Hp.spl l).length := by
 have hc : Lib.countB (str l) (str [32]) = Lib.count l [32] := by unfold Lib.countB; rw [kM, kM]
 rw [hc, Lib.count_one, zCl]
theorem flat_encS (ws : List Hp.Wd) : flat encS ws = (ws.map str).map Value.string := by
 induction ws with
 | nil => rfl
 | cons x xs ih => simp only [flat, vT, yM] at ih ⊢; rw [ih]; rfl
theorem splitS_any (l : List UInt8) (hl : l.length <= 1000000) (m : Int) (w : World) (hm : w.cell? ⟨1, 0, none⟩ = some (.int .i64 m)) :
  Calls prog 37 #[.string (str l), .string ⟨#[32]⟩] w fun e w' => e = .returned (.slice (some ⟨w.heap.size, 0, none⟩) (Hp.spl l).length (Hp.spl l).length) /\ w' = w.alloc (.cells (flat encS (Hp.spl l)).toArray 9) := by
 have hcon := Any.strings_Split { Tryz.split with } Tryz.split.i9 (str l) ⟨#[32]⟩ m w (by rw [zZ]; omega) hm zd; change Calls prog 37 _ _ _ at hcon; rw [flat_encS, ← hpieces_count, ← hpieces_eq]; exact hcon
end Go.Proofs.YtdbgeobolongmaaGreatDoor
namespace Go.Proofs.YtdbgeobolongmaaGreatDoor
open Go.RowKit Go.Shelf Go.Proofs Go.OctetPlain
theorem zEy (s : ByteArray) (i : Nat) (hi : i < s.size) (hb : 128 <= (s.get! i).toNat) :
  128 <= (Utf8.decode s i).1 /\ (Utf8.decode s i).1 < 2097152 /\ 1 <= (Utf8.decode s i).2 /\ i + (Utf8.decode s i).2 <= s.size /\ ∀ k, k < (Utf8.decode s i).2 -> 128 <= (s.get! (i + k)).toNat := by
 unfold Utf8.decode; simp only [xN]; have h0 : (s.get! i).toNat < 256 := UInt8.toNat_lt _; rw [zH om]
 have e1 : ∀ k, k < 1 -> 128 <= (s.get! (i + k)).toNat := fun k hk => by
  obtain rfl : k = 0 := om; exact hb
 have ER : (128 <= Utf8.runeError /\ Utf8.runeError < 2097152 /\ 1 <= 1 /\ i + 1 <= s.size /\ ∀ k, k < 1 -> 128 <= (s.get! (i + k)).toNat) := ⟨zd, zd, yZ _, hi, e1⟩
 split
 ·rename_i h1
  simp only [xO, xP, uP] at h1
  split
  ·rename_i h2
   refine ⟨h2, om, zi, by simp only; omega, fun k hk => ?_⟩; simp only at hk; obtain rfl | rfl : k = 0 ∨ k = 1 := om
   ·exact hb
   ·omega
  ·exact ER
 ·split
  ·rename_i h1
   simp only [xO, xP, uP] at h1
   split
   ·rename_i h2
    simp only [xO, xP] at h2; refine ⟨by simp only; omega, by simp only; omega, zi, by simp only; omega, fun k hk => ?_⟩; simp only at hk; obtain rfl | rfl | rfl : k = 0 ∨ k = 1 ∨ k = 2 := om
    ·exact hb
    ·omega
    ·omega
   ·exact ER
  ·split
   ·rename_i h1
    simp only [xO, xP, uP] at h1
    split
    ·rename_i h2
     simp only [xO, xP] at h2; refine ⟨by simp only; omega, by simp only; omega, zi, by simp only; omega, fun k hk => ?_⟩; simp only at hk; obtain rfl | rfl | rfl | rfl : k = 0 ∨ k = 1 ∨ k = 2 ∨ k = 3 := om
     ·exact hb
     ·omega
     ·omega
     ·omega
    ·exact ER
   ·exact ER
theorem cut_more (l : List UInt8) {fr pos : Nat} (m : Nat) (h : fr <= pos) : (l.drop fr).take (pos - fr) ++ (l.drop pos).take m = (l.drop fr).take (pos + m - fr) := by
 rw [show pos + m - fr = (pos - fr) + m from om, List.take_add, List.drop_drop, show fr + (pos - fr) = pos from om]
def splG (out : List Hp.Wd) (part : Hp.Wd) : List UInt8 -> List Hp.Wd
 | [] => out ++ [part]
 | c :: r => if c = 32 then splG (out ++ [part]) [] r else splG out (part ++ [c]) r
theorem splG_spl : ∀ (r : List UInt8) (out : List Hp.Wd) (part : Hp.Wd), splG out part r = out ++ (part ++ (Hp.spl r).headD []) :: (Hp.spl r).tail
 | [], out, part => by simp [splG, Hp.spl]
 |c :: r, out, part => by
  unfold splG Hp.spl
  split
  ·rw [splG_spl r]
   cases hs : Hp.spl r with
   | nil => exact absurd hs (Hp.spl_ne r)
   | cons w ws => simp
  ·rw [splG_spl r]
   cases hs : Hp.spl r with
   | nil => exact absurd hs (Hp.spl_ne r)
   | cons w ws => simp
theorem spl_G (l : List UInt8) : Hp.spl l = splG [] [] l := by
 rw [splG_spl]
 cases hs : Hp.spl l with
 | nil => exact absurd hs (Hp.spl_ne l)
 | cons w ws => simp
theorem splG_skip : ∀ (d r : List UInt8) (out : List Hp.Wd) (part : Hp.Wd), (∀ c ∈ d, c ≠ 32) -> splG out part (d ++ r) = splG out (part ++ d) r
 | [], r, out, part, _ => zi
 |c :: d, r, out, part, h => by
  have hc := h c zi; rw [yC, splG, zH hc, splG_skip d r out _ fun x hx => h x (by simp [hx])]; simp
open Go.ColonPlain Go.Proofs.Tryz
structure GS (w : World) (l : List UInt8) (wr : World) (n signs pos : Nat) : Prop where
 le : pos <= l.length
 sl : signs <= 4
 nl : n < 16 ^ signs
 iter : wr.heap[w.heap.size]? = some (.stringIter (str l) pos)
 below : zW w wr
 eq : group l = jC n signs (l.drop pos)
theorem colon_group (l : List UInt8) (hl : l.length <= 1073741824) (w : World) :
  zCB 178 #[.string (str l)] w (.tuple #[.int .i64 ((group l).getD 0 : Nat), .bool (group l).isSome]) := by
 go_enter func178, ntmps178
 go_wp2_with fail
 go_loopw [4, 5] (fun vn vs wr => ∃ n signs pos : Nat, vn = .int .i64 n /\ vs = .int .i64 signs /\ Hid (GS w l wr n signs pos)) (fun _ _ wr => l.length - iterPos wr w.heap.size)
 case atStart => exact ⟨0, 0, 0, rfl, rfl, qh ⟨yQ _, om, om, jW w _, zb.alloc zn _, by rw [xU]; rfl⟩⟩
 case round =>
  obtain ⟨n, signs, pos, rfl, rfl, HU⟩ := hrel; have hsl := HU.o.sl
  have hnl : n < 65536 := by
   have h1 := HU.o.nl; have : 16 ^ signs <= 16 ^ 4 := Nat.pow_le_pow_right om hsl; omega
  have hip : Hid (iterPos wr w.heap.size = pos) := by unfold iterPos; rw [HU.o.iter]; exact qh rfl
  by_cases hlt : pos < l.length
  ·have hps : pos < (str l).size := by rw [zZ]; exact hlt
   obtain ⟨c, hc0⟩ : ∃ c : UInt8, l[pos]'hlt = c := ⟨_, rfl⟩; have hdr : l.drop pos = c :: l.drop (pos + 1) := by rw [yE hlt, hc0]
   have hgs := zAt l pos hlt; rw [hc0] at hgs
   by_cases hb : 128 <= c.toNat
   ·have hnx := fun ty => Lib.run_next_any_at (P := prog) wr w.heap.size (str l) pos ty HU.o.iter hps
    obtain ⟨d1, d2⟩ := zBl (str l) pos (by rw [hgs]; exact hb)
    have HE : Hid (group l = none) := by
     rw [HU.o.eq, hdr, jC, zN (by rw [dig_big hb]; omega)]; exact qh rfl
    have HB := qh (Lib.below_iterAt HU.o.below zn (str l) (pos + (Utf8.decode (str l) pos).2)); generalize Utf8.decode (str l) pos = q at d1 d2 hnx HB; obtain ⟨q1, q2⟩ := q; simp only at d1 d2 hnx HB; have HD := qh fun W => zBh hexS zd zd hexS_small (q1 : Int) om om W; clear hc0 hdr hgs; go_wp2_with fail
    refine zT (HD.o _) fun w1 hb1 => ?_
    go_wp2
    refine zC (v := .tuple #[.int .i64 0, .bool false]) ?_ rfl ⟨by rw [HE.o]; rfl, HB.o.trans (hb1.mono HB.o.size)⟩; simp [results, results178, go_sem]
   ·have hc1 : (str l)[pos].toNat < 128 := by rw [jS, hc0]; omega
    have hnx := fun ty => Lib.run_next_ascii_at (P := prog) wr w.heap.size (str l) pos ty HU.o.iter hps hc1; have hcc : (str l)[pos].toNat = c.toNat := by rw [jS, hc0]
    rw [hcc] at hnx; have HB := qh (Lib.below_iterAt HU.o.below zn (str l) (pos + 1)); have HI := qh (tX HU.o.iter (pos + 1)); have hix := dig_idx ⟨c.toNat, om⟩; simp only [UInt8.ofNat_toNat] at hix; have hcon := fun W => Any.strings_IndexRune_ascii Tryz.indexRune hexS (c.toNat : Int) W om om; simp only [bE] at hcon; change ∀ W, Calls prog 172 _ W (fun e w' => e = .returned (.int .i64 (Lib.indexByte [48, 49, 50, 51, 52, 53, 54, 55, 56, 57, 97, 98, 99, 100, 101, 102] (UInt8.ofNat c.toNat))) /\ w' = W) at hcon; simp only [UInt8.ofNat_toNat] at hcon; obtain ⟨hd1, hd2⟩ := tT c
    have HE : Hid (group l = if dig c < 0 ∨ 4 < signs + 1 then none else jC (n * 16 + (dig c).toNat) (signs + 1) (l.drop (pos + 1))) := by
     rw [HU.o.eq, hdr, jC]; exact qh rfl
    have hc2 : c.toNat < 128 := om; generalize Lib.indexByte [48, 49, 50, 51, 52, 53, 54, 55, 56, 57, 97, 98, 99, 100, 101, 102] c = j at hix hcon; have HC := qh hcon; have HIX := qh hix; clear hc0 hdr hgs hb hc1 hcc hcon hix; generalize dig c = d at hd1 hd2 HE HIX; generalize c.toNat = cn at hnx hc2 HC HIX
    by_cases hd0 : d < 0
    ·have HN : Hid (group l = none) := by rw [HE.o, zN (Or.inl hd0)]; exact qh rfl
     have hcap : ¬ (65 <= cn /\ cn <= 70) := fun h => by have := HIX.o; rw [zN h] at this; omega
     have hj : j = d := by have := HIX.o; rw [zH hcap] at this; exact this
     subst hj; have hcap' : cn < 65 ∨ 70 < cn := om; clear hcap
     rcases hcap' with h | h
     all_goals
      go_wp2_with fail
      refine zU (HC.o _) ?_
      go_wp2
      refine zC (v := .tuple #[.int .i64 0, .bool false]) ?_ rfl ⟨by rw [HN.o]; rfl, HB.o⟩; simp [results, results178, go_sem]
    ·obtain ⟨b, rfl⟩ : ∃ b : Nat, d = b := ⟨d.toNat, om⟩
     have hor := or_16 n b om om; have hw1 : IntKind.i64.wrap ((n : Int) * 16) = (n : Int) * 16 := yT _ om; have hbb : b < 16 := om
     by_cases hs4 : signs = 4
     ·subst hs4
      have HN : Hid (group l = none) := by rw [HE.o, zN (Or.inr om)]; exact qh rfl
      by_cases hcap : 65 <= cn /\ cn <= 70
      ·obtain ⟨h1, h2⟩ := hcap
       have hd : (cn : Int) - 65 + 10 = b := by have := HIX.o; rw [zN ⟨h1, h2⟩] at this; exact this
       go_wp2_with fail
       refine zU (HC.o _) ?_
       go_wp2
       refine zC (v := .tuple #[.int .i64 0, .bool false]) ?_ rfl ⟨by rw [HN.o]; rfl, HB.o⟩; simp [results, results178, go_sem]
      ·have hj : j = b := by have := HIX.o; rw [zH hcap] at this; exact this
       subst hj; have hcap' : cn < 65 ∨ 70 < cn := om; clear hcap
       rcases hcap' with h | h
       all_goals
        go_wp2_with fail
        refine zU (HC.o _) ?_
        go_wp2
        refine zC (v := .tuple #[.int .i64 0, .bool false]) ?_ rfl ⟨by rw [HN.o]; rfl, HB.o⟩; simp [results, results178, go_sem]
     ·have HN : Hid (group l = jC (n * 16 + b) (signs + 1) (l.drop (pos + 1))) := by rw [HE.o, zH om]; exact qh rfl
      have hs3 : signs < 4 := om; have hpow : n * 16 + b < 16 ^ (signs + 1) := by have := HU.o.nl; rw [zCf]; omega
      have hP := qh hpow; clear hpow; have hG : Hid (GS w l (wr.iterAt w.heap.size (str l) (pos + 1)) (n * 16 + b) (signs + 1) (pos + 1)) := qh ⟨hlt, om, hP.o, HI.o.1, HB.o, HN.o⟩; have hme : Hid (l.length - iterPos (wr.iterAt w.heap.size (str l) (pos + 1)) w.heap.size < l.length - iterPos wr w.heap.size) := by rw [hip.o, HI.o.2]; exact qh om
      by_cases hcap : 65 <= cn /\ cn <= 70
      ·obtain ⟨h1, h2⟩ := hcap
       have hd : (cn : Int) - 65 + 10 = b := by have := HIX.o; rw [zN ⟨h1, h2⟩] at this; exact this
       go_wp2_with fail
       refine zU (HC.o _) ?_
       go_wp2
       exact ⟨⟨n * 16 + b, signs + 1, pos + 1, rfl, by go_num, hG⟩, hme.o⟩
      ·have hj : j = b := by have := HIX.o; rw [zH hcap] at this; exact this
       subst hj; have hcap' : cn < 65 ∨ 70 < cn := om; clear hcap
       rcases hcap' with h | h
       all_goals
        go_wp2_with fail
        refine zU (HC.o _) ?_
        go_wp2
        exact ⟨⟨n * 16 + b, signs + 1, pos + 1, rfl, by go_num, hG⟩, hme.o⟩
  ·have hps : ¬ pos < (str l).size := by rw [zZ]; exact hlt
   have hnx := fun ty => Lib.run_next_end_at (P := prog) wr w.heap.size (str l) pos ty HU.o.iter hps
   have HE : Hid (group l = if 0 < signs then some n else none) := by
    rw [HU.o.eq, yO om]; exact qh rfl
   by_cases h0 : 0 < signs
   ·have HN : Hid (group l = some n) := by rw [HE.o, zN h0]; exact qh rfl
    go_wp2
    refine zC (v := .tuple #[.int .i64 n, .bool true]) ?_ rfl ⟨by rw [HN.o]; rfl, HU.o.below⟩; simp [results, results178, go_sem, h0]
   ·have HN : Hid (group l = none) := by rw [HE.o, zH h0]; exact qh rfl
    obtain rfl : signs = 0 := om; have hn0 : n = 0 := by have := HU.o.nl; simpa using this
    subst hn0
    go_wp2
    refine zC (v := .tuple #[.int .i64 0, .bool false]) ?_ rfl ⟨by rw [HN.o]; rfl, HU.o.below⟩; simp [results, results178, go_sem]
structure WdL (w : World) (l : List UInt8) (out : List Hp.Wd) (fr pos : Nat) (vo : Value) (wr : World) : Prop where
 it : wr.heap[w.heap.size]? = some (.stringIter (str l) pos)
 own : wr.ownsRow (w.heap.size + 1) 9 1 vo out.length (flat encS out)
 bel : zW w wr
 fp : fr <= pos
 pl : pos <= l.length
 ol : out.length <= fr
 eq : Hp.spl l = splG out ((l.drop fr).take (pos - fr)) (l.drop pos)
theorem WdL.iter {w wr : World} {l : List UInt8} {out : List Hp.Wd} {fr pos : Nat} {vo : Value} (h : WdL w l out fr pos vo wr) (pos' : Nat) :
  (wr.iterAt w.heap.size (str l) pos').heap[w.heap.size]? = some (.stringIter (str l) pos') /\ (wr.iterAt w.heap.size (str l) pos').ownsRow (w.heap.size + 1) 9 1 vo out.length (flat encS out) /\ zW w (wr.iterAt w.heap.size (str l) pos') :=
 ⟨Lib.iterAt_heap wr _ (str l) pos pos' h.it, owns_iter h.own h.it _, Lib.below_iterAt h.bel zn (str l) pos'⟩
theorem WdL.start (w : World) (l : List UInt8) : WdL w l [] 0 0 (.slice none 0 0) (w.alloc (.stringIter (str l) 0)) :=
 ⟨jW w _, xL _ _ _ _, yD w _, yZ _, yQ _, yQ _, by simp [spl_G l]⟩
theorem zEa (l : List UInt8) (hl : l.length <= 1048576) (w : World) :
  Calls prog 23 #[.string (str l)] w fun e w' => ∃ v, e = .returned v /\ w'.ownsRow (w.heap.size + 1) 9 1 v (Hp.spl l).length (flat encS (Hp.spl l)) /\ zW w w' := by
 have HS0 := qh (WdL.start w l); have HX : Hid (∀ i j : Nat, (str l).extract i j = str ((l.drop i).take (j - i))) := qh fun i j => aP l i j; have hsz : (str l).size = l.length := zZ l
 go_enter func23, ntmps23
 go_wp2_with fail
 go_loopw [3, 4, 5, 6] (fun vo vf _ _ wr => ∃ (out : List Hp.Wd) (fr pos : Nat), vf = .int .i64 (fr : Int) /\ Hid (WdL w l out fr pos vo wr)) (fun _ _ _ _ wr => l.length - iterPos wr w.heap.size)
 case atStart => exact ⟨[], 0, 0, rfl, HS0⟩
 case round =>
  obtain ⟨out, fr, pos, rfl, HU⟩ := hrel; have hip : Hid (iterPos wr w.heap.size = pos) := by unfold iterPos; rw [HU.o.it]; exact qh rfl
  have hfp := HU.o.fp; have hpl := HU.o.pl; have hol := HU.o.ol
  by_cases hlt : pos < l.length
  ·have hps : pos < (str l).size := by rw [zZ]; exact hlt
   obtain ⟨c, hc0⟩ : ∃ c : UInt8, l[pos]'hlt = c := ⟨_, rfl⟩; have HDR : Hid (l.drop pos = c :: l.drop (pos + 1)) := qh (by rw [yE hlt, hc0]); have hgs := zAt l pos hlt; rw [hc0] at hgs
   by_cases hb : 128 <= c.toNat
   ·have hnx := fun ty => Lib.run_next_any_at (P := prog) wr w.heap.size (str l) pos ty HU.o.it hps
    obtain ⟨d1, d2, d3, d4, d5⟩ := zEy (str l) pos hps (by rw [hgs]; exact hb); generalize Utf8.decode (str l) pos = q at d1 d2 d3 d4 d5 hnx; obtain ⟨q1, q2⟩ := q; simp only at d1 d2 d3 d4 d5 hnx; obtain ⟨i1, i2, i3⟩ := HU.o.iter (pos + q2)
    have HN := qh (WdL.mk (fr := fr) i1 i2 i3 om om hol (by
     have hd : l.drop pos = (l.drop pos).take q2 ++ l.drop (pos + q2) := by rw [← List.drop_drop, kC]
     rw [HU.o.eq]
     conv => lhs; rw [hd]
     rw [splG_skip _ _ _ _ fun x hx => ?_, cut_more l q2 hfp]; obtain ⟨i, hi, rfl⟩ := List.getElem_of_mem hx; have hi2 : i < q2 := by rw [yV] at hi; omega
     have := d5 i hi2; rw [zAt l (pos + i) om] at this; rw [List.getElem_take, List.getElem_drop]; intro e; rw [e] at this; exact absurd this zd))
    have hme : Hid (l.length - iterPos (wr.iterAt w.heap.size (str l) (pos + q2)) w.heap.size < l.length - iterPos wr w.heap.size) := by
     rw [hip.o, (tX HU.o.it (pos + q2)).2]; exact qh om
    have hne : ((q1 : Int) == 32) = false := by simp only [yF, qR]; omega
    clear d5 hgs hc0 HDR hb i1 i2 i3
    go_wp2
    exact ⟨⟨out, fr, pos + q2, rfl, HN⟩, hme.o⟩
   ·have hc1 : (str l)[pos].toNat < 128 := by rw [jS, hc0]; omega
    have hnx := fun ty => Lib.run_next_ascii_at (P := prog) wr w.heap.size (str l) pos ty HU.o.it hps hc1; have hcc : (str l)[pos].toNat = c.toNat := by rw [jS, hc0]
    rw [hcc] at hnx; obtain ⟨i1, i2, i3⟩ := HU.o.iter (pos + 1)
    have hme : Hid (l.length - iterPos (wr.iterAt w.heap.size (str l) (pos + 1)) w.heap.size < l.length - iterPos wr w.heap.size) := by
     rw [hip.o, (tX HU.o.it (pos + 1)).2]; exact qh om
    clear hc1 hcc hgs hc0
    by_cases h32 : c = 32
    ·subst h32
     have HE := HU.o.eq; rw [HDR.o, splG, zN rfl] at HE; have HE := qh HE; have hxs := HX.o fr pos; have HI := qh (And.intro i1 (And.intro i2 i3)); have hfits : Hid (out.length + 1 <= 1048577) := qh om; have HQ := qh HI.o.1; clear i1 i2 i3; generalize (l.drop fr).take (pos - fr) = part at *; have hwr : IntKind.i64.wrap ((pos : Int) + 1) = ((pos + 1 : Nat) : Int) := by rw [yT _ om]; omega
     go_wp2_with (at_builtin; go_loud (refine uR rT rfl (.tmp 15) (.tmp 20) rfl (w.heap.size + 1) u3 _ _ rfl HI.o.2.1 1 1 [.string (str part)] rfl rfl (by simp [Value.oneCell']) (by have := hfits.o; omega) (by have := (xB.1 HQ.o).1; simp; omega) ?_; intro v4 w4 hown4 _ _ hb4))
     have hsz4 := (xB.1 HI.o.1).1; have hit4 : w4.heap[w.heap.size]? = some (.stringIter (str l) (pos + 1)) := (hb4.block _ om).trans HI.o.1
     have hme2 : l.length - iterPos w4 w.heap.size < l.length - iterPos wr w.heap.size := by
      rw [hip.o]; unfold iterPos; rw [hit4]; simp only; omega
     refine ⟨⟨out ++ [part], pos + 1, pos + 1, rfl, qh (WdL.mk hit4 ?_ (HI.o.2.2.trans (hb4.mono om)) zn hlt zo (by rw [HE.o]; simp))⟩, hme2⟩; rw [vK, zG]; exact hown4
    ·have hne : ((c.toNat : Int) == 32) = false := by
      simp only [yF, qR]; exact fun h => h32 (uH.1 (by have : c.toNat = 32 := om; rw [this]; rfl))
     have HN := qh (WdL.mk (fr := fr) i1 i2 i3 om hlt hol (by
      have h1 : (l.drop pos).take 1 = [c] := by rw [HDR.o]; rfl
      rw [HU.o.eq, HDR.o, splG, zH h32, ← h1, cut_more l 1 hfp]))
     clear h32 i1 i2 i3
     go_wp2
     exact ⟨⟨out, fr, pos + 1, rfl, HN⟩, hme.o⟩
  ·obtain rfl : pos = l.length := om
   have hps : ¬ l.length < (str l).size := by rw [zZ]; exact hlt
   have hnx := fun ty => Lib.run_next_end_at (P := prog) wr w.heap.size (str l) l.length ty HU.o.it hps; have HE := HU.o.eq; rw [qO, splG] at HE; have HE := qh HE; have hxs := HX.o fr l.length; have HO := qh (And.intro HU.o.it (And.intro HU.o.own HU.o.bel)); have hfits : Hid (out.length + 1 <= 1048577) := qh om; have HQ := qh HO.o.1; generalize (l.drop fr).take (l.length - fr) = part at *
   go_wp2_with (at_builtin; go_loud (refine uR rT rfl (.tmp 24) (.tmp 28) rfl (w.heap.size + 1) u3 _ _ rfl HO.o.2.1 1 1 [.string (str part)] rfl rfl (by simp [Value.oneCell']) (by have := hfits.o; omega) (by have := (xB.1 HQ.o).1; simp; omega) ?_; intro v4 w4 hown4 _ _ hb4))
   go_ret
   refine ⟨v4, rfl, ?_, HO.o.2.2.trans (hb4.mono (by have := (xB.1 HO.o.1).1; omega))⟩; rw [HE.o, vK, zG]; exact hown4
end Go.Proofs.YtdbgeobolongmaaGreatDoor
