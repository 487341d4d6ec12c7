/- Part of the proof: contracts of the functions that the statements of layer 32 reach. -/
import Derived.Test.YtdbgeobolongmaaGreatDoorV34
import Derived.Test.YtdbgeobolongmaaGreatDoorV38
import Derived.Test.YtdbgeobolongmaaGreatDoorV39
import Derived.Test.YtdbgeobolongmaaGreatDoorV40
set_option linter.unusedVariables false
set_option linter.unusedSimpArgs false
set_option maxRecDepth 100000
set_option maxHeartbeats 4000000
namespace Go.Proofs.YtdbgeobolongmaaGreatDoor
open Go.RowKit Go.Shelf Go.Proofs Go.OctetPlain Go.PrefixPlain
def wlen : List Hp.Wd → Nat
 | [] => 0
 | w :: l => w.length + 1 + wlen l
theorem wlen_spl : ∀ s : List UInt8, wlen (Hp.spl s) = s.length + 1
 | [] => rfl
 | c :: r => by
  have ih := wlen_spl r
  unfold Hp.spl
  split
  ·simp only [wlen, List.length_nil, List.length_cons, ih]; omega
  ·cases hs : Hp.spl r with
   | nil => exact absurd hs (Hp.spl_ne r)
   | cons w ws =>
    rw [hs] at ih
    simp only [wlen, List.headD_cons, List.tail_cons, List.length_cons] at ih ⊢
    omega
structure SBx (A : Nat) (t : Sc.Stp) : Prop where
 a : I64 t.a
 n : I64 t.n
 o : I64 t.owner
 s1 : I64 t.s1
 s2 : I64 t.s2
 q : I64 t.port
 pl : I64 t.pf.len
 hop : HB t.hop
 wi : ∀ p ∈ t.ways, I64 p.1 ∧ I64 p.2
 tl : t.text.length ≤ A
 bl : t.bytes.length ≤ A
theorem num_I {n : Int} (h : 0 ≤ n ∧ n ≤ 1073741824) : I64 n := ⟨by omega, by omega⟩
theorem itoa_pos1 {n : Int} (h : 0 ≤ n) : 1 ≤ (Lib.itoa n).length := by
 cases hh : Lib.itoa n with
 | nil =>
  exfalso
  unfold Lib.itoa at hh
  rw [if_neg (by omega)] at hh
  exact decDigits_ne _ hh
 | cons a l => simp
theorem waysP_wlen : ∀ {l : List Hp.Wd} {r : List (Int × Int)}, Sc.waysP l = some r → 4 * r.length ≤ wlen l ∧ ∀ p ∈ r, I64 p.1 ∧ I64 p.2
 | [], r, h => by injection h with h; subst h; exact ⟨by simp, fun p hp => by cases hp⟩
 | w :: l, r, h => by
  unfold Sc.waysP at h
  cases h1 : Sc.two 42 w with
  | none => rw [h1] at h; simp at h
  | some p =>
   cases h2 : Sc.waysP l with
   | none => rw [h1, h2] at h; simp at h
   | some q =>
    rw [h1, h2] at h
    injection h with h
    subst h
    obtain ⟨e1, e2⟩ := waysP_wlen h2
    obtain ⟨ew, b1, b2⟩ := Sc.two_some h1
    have k1 := itoa_pos1 b1.1
    have k2 := itoa_pos1 b2.1
    have kw : 3 ≤ w.length := by rw [ew, List.length_append, List.length_cons]; omega
    refine ⟨by simp only [wlen, List.length_cons]; omega, fun v hv => ?_⟩
    rcases List.mem_cons.1 hv with rfl | hv
    ·exact ⟨num_I b1, num_I b2⟩
    ·exact e2 v hv
theorem parseP_I {w : Hp.Wd} {p : Pf} (h : parseP w = some p) : I64 p.len := by
 unfold parseP at h
 split at h
 ·cases h
 ·split at h
  ·cases h
  ·rename_i n hn
   split at h
   ·injection h with h
    subst h
    obtain ⟨h0, -, h2, -⟩ := number_some.1 hn
    exact ⟨by show -9223372036854775808 ≤ n; omega, by show n ≤ 9223372036854775807; omega⟩
   ·cases h
theorem read_SBx {A : Nat} {p : Sc.Part} {x y : Sc.Stp} {l r : List Hp.Wd} (h : Sc.read p x l = some (y, r)) (f : SBx A x) (hl : wlen l ≤ A) :
  SBx A y ∧ wlen r ≤ wlen l ∧ 4 * y.ways.length + wlen r ≤ 4 * x.ways.length + wlen l := by
 have num : ∀ {w : Hp.Wd} {l : List Hp.Wd} {g : Int → Sc.Stp}, (match Sc.num30 w with | some n => some (g n, l) | none => none) = some (y, r) → ∃ n, y = g n ∧ r = l ∧ I64 n := by
  intro w l g h
  cases hn : Sc.num30 w with
  | none => rw [hn] at h; cases h
  | some n =>
   rw [hn] at h
   injection h with h
   injection h with h1 h2
   exact ⟨n, h1.symm, h2.symm, num_I (Sc.num30_some hn).2⟩
 cases p with
 | A => cases l with
  | nil => cases h
  | cons w l => obtain ⟨n, rfl, rfl, hn⟩ := num h; exact ⟨⟨hn, f.n, f.o, f.s1, f.s2, f.q, f.pl, f.hop, f.wi, f.tl, f.bl⟩, by simp only [wlen]; omega, by simp only [wlen]; omega⟩
 | N => cases l with
  | nil => cases h
  | cons w l => obtain ⟨n, rfl, rfl, hn⟩ := num h; exact ⟨⟨f.a, hn, f.o, f.s1, f.s2, f.q, f.pl, f.hop, f.wi, f.tl, f.bl⟩, by simp only [wlen]; omega, by simp only [wlen]; omega⟩
 | O => cases l with
  | nil => cases h
  | cons w l => obtain ⟨n, rfl, rfl, hn⟩ := num h; exact ⟨⟨f.a, f.n, hn, f.s1, f.s2, f.q, f.pl, f.hop, f.wi, f.tl, f.bl⟩, by simp only [wlen]; omega, by simp only [wlen]; omega⟩
 | Q => cases l with
  | nil => cases h
  | cons w l => obtain ⟨n, rfl, rfl, hn⟩ := num h; exact ⟨⟨f.a, f.n, f.o, f.s1, f.s2, hn, f.pl, f.hop, f.wi, f.tl, f.bl⟩, by simp only [wlen]; omega, by simp only [wlen]; omega⟩
 | S => cases l with
  | nil => cases h
  | cons w l =>
   simp only [Sc.read] at h
   split at h
   ·rename_i q hq
    injection h with h
    injection h with h1 h2
    subst h1 h2
    obtain ⟨-, b1, b2⟩ := Sc.two_some hq
    exact ⟨⟨f.a, f.n, f.o, num_I b1, num_I b2, f.q, f.pl, f.hop, f.wi, f.tl, f.bl⟩, by simp only [wlen]; omega, by simp only [wlen]; omega⟩
   ·cases h
 | W => cases l with
  | nil => cases h
  | cons w l =>
   simp only [Sc.read] at h
   split at h
   ·rename_i q hq
    injection h with h
    injection h with h1 h2
    subst h1 h2
    obtain ⟨e1, e2⟩ := waysP_wlen hq
    refine ⟨⟨f.a, f.n, f.o, f.s1, f.s2, f.q, f.pl, f.hop, fun p hp => ?_, f.tl, f.bl⟩, by simp [wlen], ?_⟩
    ·rcases List.mem_append.1 hp with hp | hp
     ·exact f.wi p hp
     ·exact e2 p hp
    ·simp only [List.length_append]
     have : wlen ([] : List Hp.Wd) = 0 := rfl
     omega
   ·cases h
 | P => cases l with
  | nil => cases h
  | cons w l =>
   simp only [Sc.read] at h
   cases hn : parseP w with
   | none => rw [hn] at h; cases h
   | some q =>
    rw [hn] at h
    simp only at h
    split at h
    ·injection h with h
     injection h with h1 h2
     subst h1 h2
     exact ⟨⟨f.a, f.n, f.o, f.s1, f.s2, f.q, parseP_I hn, f.hop, f.wi, f.tl, f.bl⟩, by simp only [wlen]; omega, by simp only [wlen]; omega⟩
    ·cases h
 | H =>
  have h : (match Hp.parseR (Hp.join l) with | some h => some ({ x with hop := h }, []) | none => none) = some (y, r) := by cases l <;> exact h
  cases hn : Hp.parseR (Hp.join l) with
  | none => rw [hn] at h; cases h
  | some q =>
   rw [hn] at h
   injection h with h
   injection h with h1 h2
   subst h1 h2
   exact ⟨⟨f.a, f.n, f.o, f.s1, f.s2, f.q, f.pl, HB.of_valid ((Hp.check_iff _).1 ((Hp.parseR_iff _ _).1 hn).1), f.wi, f.tl, f.bl⟩, by simp [wlen], by have : wlen ([] : List Hp.Wd) = 0 := rfl; show 4 * x.ways.length + _ ≤ _; omega⟩
 | T => cases l with
  | nil => cases h
  | cons w l =>
   simp only [Sc.read] at h
   split at h
   ·injection h with h
    injection h with h1 h2
    subst h1 h2
    simp only [wlen] at hl
    exact ⟨⟨f.a, f.n, f.o, f.s1, f.s2, f.q, f.pl, f.hop, f.wi, by show w.length ≤ A; omega, f.bl⟩, by simp only [wlen]; omega, by simp only [wlen]; omega⟩
   ·cases h
 | B => cases l with
  | nil => cases h
  | cons w l =>
   simp only [Sc.read] at h
   split at h
   ·cases h
   ·split at h
    ·injection h with h
     injection h with h1 h2
     subst h1 h2
     exact ⟨f, by simp only [wlen]; omega, by simp only [wlen]; omega⟩
    ·split at h
     ·rename_i b hb
      split at h
      ·injection h with h
       injection h with h1 h2
       subst h1 h2
       have k := unhex_len0 w
       rw [hb] at k
       simp only [Option.getD_some] at k
       simp only [wlen] at hl
       exact ⟨⟨f.a, f.n, f.o, f.s1, f.s2, f.q, f.pl, f.hop, f.wi, f.tl, by show b.length ≤ A; omega⟩, by simp only [wlen]; omega, by simp only [wlen]; omega⟩
      ·cases h
     ·cases h
theorem reads_SBx {A : Nat} : ∀ {ps : List Sc.Part} {x y : Sc.Stp} {l r : List Hp.Wd}, Sc.reads ps x l = some (y, r) → SBx A x → wlen l ≤ A → SBx A y ∧ 4 * y.ways.length + wlen r ≤ 4 * x.ways.length + wlen l
 | [], x, y, l, r, h, f, hl => by injection h with h; injection h with h1 h2; subst h1 h2; exact ⟨f, Nat.le_refl _⟩
 | p :: ps, x, y, l, r, h, f, hl => by
  unfold Sc.reads at h
  split at h
  ·rename_i z q hz
   obtain ⟨h1, h2, h3⟩ := read_SBx hz f hl
   obtain ⟨h4, h5⟩ := reads_SBx h h1 (by omega)
   exact ⟨h4, by omega⟩
  ·cases h
instance decI64 (n : Int) : Decidable (I64 n) := by unfold I64; infer_instance
theorem I64_0 : I64 0 := ⟨by decide, by decide⟩
theorem x0_SBx (A : Nat) (w : Hp.Wd) : SBx A (Sc.x0 w) := ⟨I64_0, I64_0, I64_0, I64_0, I64_0, I64_0, I64_0, ⟨Nat.zero_le _, Nat.zero_le _, (fun n hn => by cases hn), (fun n hn => by cases hn), I64_0, I64_0⟩, (fun p hp => by cases hp), Nat.zero_le _, Nat.zero_le _⟩
theorem one_SB {s : List UInt8} {t : Sc.Stp} (h : Sc.oneR s = some t) (hs : s.length ≤ 4001) : SB t := by
 obtain ⟨w, l, h1, h2, h3⟩ := Sc.oneR_some h
 have hw := wlen_spl s
 rw [h1] at hw
 simp only [wlen] at hw
 obtain ⟨f, hg⟩ := reads_SBx (A := 4001) h3 (x0_SBx _ w) (by omega)
 have h0 : (Sc.x0 w).ways.length = 0 := rfl
 exact ⟨f.a, f.n, f.o, f.s1, f.s2, f.q, f.pl, f.hop, by omega, f.wi, Nat.le_trans f.tl (by decide), Nat.le_trans f.bl (by decide)⟩
theorem one_textA {s : List UInt8} {t : Sc.Stp} (h : Sc.oneR s = some t) : textA t = s := by
 rw [← Sc.one_text h]
 unfold textA Sc.textR
 cases hw : Sc.wordOf t with
 | none => rfl
 | some x =>
  simp only
  rw [wsA_eq fun hm => (by
   obtain ⟨hi, hk⟩ := line_noH hw hm
   exact Sc.one_hop h hi hk)]
theorem one_textD {s : List UInt8} {t : Sc.Stp} (h : Sc.oneR s = some t) : Sc.textD t = s := by
 rw [Sc.textD_eq fun hi hk => Sc.one_hop h hi hk]
 exact Sc.one_text h
theorem body_mem : ∀ {ws : List Hp.Wd} {w : Hp.Wd}, w ∈ ws → w.length + 1 ≤ (Sc.body ws).length
 | v :: ws, w, h => by
  rw [Sc.body, List.length_append, List.length_cons]
  rcases List.mem_cons.1 h with rfl | h
  ·omega
  ·have := body_mem h; omega
theorem parsed_step {l : List UInt8} {x : Sc.Scr} (h : Sc.parseX l = .ok x) (hl : l.length ≤ 4001) {t : Sc.Stp} (ht : t ∈ x.steps) : ∃ s, Sc.oneR s = some t ∧ s.length ≤ 4001 := by
 obtain ⟨i, hw⟩ := Sc.parse_inv h
 refine ⟨Sc.lineR t, i.s t ht, ?_⟩
 have := body_mem (List.mem_map_of_mem (f := Sc.lineR) ht)
 unfold Sc.wt at hw
 omega
theorem parsed_fit {l : List UInt8} {x : Sc.Scr} (h : Sc.parseX l = .ok x) (hl : l.length ≤ 4001) {t : Sc.Stp} (ht : t ∈ x.steps) : t.hop.labels.length ≤ 1073741824 ∧ t.hop.repair.length ≤ 1073741824 ∧ t.ways.length ≤ 1073741824 := by
 obtain ⟨s, h1, h2⟩ := parsed_step h hl ht
 have f := one_SB h1 (by omega)
 exact ⟨Nat.le_trans f.hop.n1 (by decide), Nat.le_trans f.hop.n2 (by decide), Nat.le_trans f.wl (by decide)⟩
theorem SlR.low {α : Type} {w : World} {k : Nat} {enc : α → List Value} {v : Value} {xs : List α} (h : SlR w k enc v xs) : SlP (· < w.heap.size) w k enc v xs := by
 obtain ⟨p, c, rfl, h1, h2, hR⟩ := h
 exact ⟨p, c, rfl, h1, h2, hR, fun a ha hn => (hR.2 a ha hn).2.1⟩
theorem ScIn.low {w : World} {x : Sc.Scr} {sa : List StV} {v : Value} (h : ScIn Inner w x sa v) : SlP (· < w.heap.size) w 36 stepL v sa ∧ ∀ s ∈ sa, Inner (· < w.heap.size) w s := ⟨h.sl.low, fun s hs => (h.inn s hs).bd2.imp fun _ hb => hb.2⟩
structure ShOK (x : Sc.Scr) : Prop where
 h1 : I64 x.r1
 h2 : I64 x.r2
 h3 : I64 x.r3
 D : ∀ t ∈ x.steps, SB t ∧ (textA t).length ≤ 65536 ∧ (Sc.textD t).length ≤ 65536
 na : x.steps.length ≤ 1000
 hT : (Sc.body (Sc.linesOf x)).length ≤ 1000000
theorem ScIn.len {IN : (Nat → Prop) → World → StV → Prop} {w : World} {x : Sc.Scr} {sa : List StV} {v : Value} (h : ScIn IN w x sa v) : sa.length = x.steps.length := by rw [← h.st, List.length_map]
theorem ScIn.mem {IN : (Nat → Prop) → World → StV → Prop} {w : World} {x : Sc.Scr} {sa : List StV} {v : Value} (h : ScIn IN w x sa v) {s : StV} (hs : s ∈ sa) : s.t ∈ x.steps := by rw [← h.st]; exact List.mem_map_of_mem hs
theorem show_in {x : Sc.Scr} (O : ShOK x) {sa : List StV} {v : Value} {w : World} (ht : ST w) (A : ScIn Inner w x sa v) :
  Calls Tryz.prog 21 #[.agg (scA x v)] w fun e w' => e = .returned (.string (str (Sc.showX x))) ∧ Below w.heap.size w w' :=
 scr_Show x sa v w ht A.z A.st A.low.1 A.low.2 A.p16 O.h1 O.h2 O.h3 (fun s hs => ⟨(O.D _ (A.mem hs)).1, (O.D _ (A.mem hs)).2.1⟩) (by have := A.len; have := O.na; omega) O.hT
theorem plain_in {x : Sc.Scr} (na : x.steps.length ≤ 1000000) {sa : List StV} {v : Value} {w : World} (A : ScIn Inner w x sa v) :
  Calls Tryz.prog 19 #[.agg (scA x v)] w fun e w' => ∃ v, e = .returned (.agg (scA x v)) ∧ ScIn InnerD w' x (sa.map svS) v ∧ Below w.heap.size w w' :=
 law32_plain x sa v w A A.low.1 A.low.2 (by have := A.len; omega)
structure Bx (T : TypeId) (IN : (Nat → Prop) → World → StV → Prop) (w : World) (X : Nat) (s : StV) (W : World) : Prop where
 b : Blk W X T (stepA s)
 p16 : s.t.pf.addr.length = 16
 inn : IN (fun _ => True) W s
 bel : Below w.heap.size w W
theorem Bx.next {T : TypeId} {IN : (Nat → Prop) → World → StV → Prop} (G : Good IN) {w : World} {X : Nat} {s : StV} {W W' : World} (h : Bx T IN w X s W) (hb : Below W.heap.size W W') : Bx T IN w X s W' := ⟨h.b.below hb h.b.lt, h.p16, G.below h.inn hb, h.bel.trans (hb.mono h.bel.size)⟩
theorem Bx.new {T : TypeId} {IN : (Nat → Prop) → World → StV → Prop} (G : Good IN) {w W wa wb : World} {s : StV} {old : Array Value} (hi : IN (fun _ => True) W s) (p16 : s.t.pf.addr.length = 16) (hB : Below w.heap.size w W) (h1 : wa = W.alloc (.cells old T)) (h2 : wb = wa.setRow W.heap.size (stepA s)) : Bx T IN w W.heap.size s wb ∧ Below W.heap.size W wb := by
 subst h1 h2
 have hb : Below W.heap.size W ((W.alloc (.cells old T)).setRow W.heap.size (stepA s)) := below_setRow (belowA _ _) (Nat.le_refl _) _
 exact ⟨⟨(Blk.new _ _ _).setRow _, p16, G.below hi hb, hB.trans (hb.mono hB.size)⟩, hb⟩
structure BxS (T : TypeId) (IN : (Nat → Prop) → World → StV → Prop) (w : World) (X : Nat) (x : Sc.Scr) (sa : List StV) (v : Value) (W : World) : Prop where
 b : Blk W X T (scA x v)
 inn : ScIn IN W x sa v
 bel : Below w.heap.size w W
theorem BxS.next {T : TypeId} {IN : (Nat → Prop) → World → StV → Prop} (G : Good IN) {w : World} {X : Nat} {x : Sc.Scr} {sa : List StV} {v : Value} {W W' : World} (h : BxS T IN w X x sa v W) (hb : Below W.heap.size W W') : BxS T IN w X x sa v W' := ⟨h.b.below hb h.b.lt, h.inn.below G hb, h.bel.trans (hb.mono h.bel.size)⟩
theorem BxS.new {T : TypeId} {IN : (Nat → Prop) → World → StV → Prop} (G : Good IN) {w W wa wb : World} {x : Sc.Scr} {sa : List StV} {v : Value} {old : Array Value} (hi : ScIn IN W x sa v) (hB : Below w.heap.size w W) (h1 : wa = W.alloc (.cells old T)) (h2 : wb = wa.setRow W.heap.size (scA x v)) : BxS T IN w W.heap.size x sa v wb ∧ Below W.heap.size W wb := by
 subst h1 h2
 have hb : Below W.heap.size W ((W.alloc (.cells old T)).setRow W.heap.size (scA x v)) := below_setRow (belowA _ _) (Nat.le_refl _) _
 exact ⟨⟨(Blk.new _ _ _).setRow _, hi.below G hb, hB.trans (hb.mono hB.size)⟩, hb⟩
theorem ScIn.one {IN : (Nat → Prop) → World → StV → Prop} {w : World} {x : Sc.Scr} {sa : List StV} {v : Value} (h : ScIn IN w x sa v) : (scA x v).all (·.oneCell') = true := scA_one (by obtain ⟨p, d, rfl, -⟩ := h.sl; rfl)
theorem ScIn.sz {IN : (Nat → Prop) → World → StV → Prop} {w : World} {x : Sc.Scr} {sa : List StV} {v : Value} (h : ScIn IN w x sa v) : (scA x v).size = 24 := scA_size h.z v
theorem ScIn.iS {IN : (Nat → Prop) → World → StV → Prop} {w : World} {x : Sc.Scr} {sa : List StV} {v : Value} (h : ScIn IN w x sa v) : (Tryz.prog.info? 61).map (·.size) = some (scA x v).size := by rw [h.sz]; exact infoSc
theorem ScIn.iX {IN : (Nat → Prop) → World → StV → Prop} {w : World} {x : Sc.Scr} {sa : List StV} {v : Value} (h : ScIn IN w x sa v) : (Tryz.prog.info? 69).map (·.size) = some (scA x v).size := by rw [h.sz]; exact infoX
theorem ScIn.zz {IN : (Nat → Prop) → World → StV → Prop} {w : World} {x : Sc.Scr} {sa : List StV} {v : Value} (h : ScIn IN w x sa v) : (scA scrZ (.slice none 0 0)).size = (scA x v).size := by rw [h.sz, scA_size scrZ_z]
theorem wpList_build_want {P : Program} {ops : Array Oper} {rest : List Oper} {o : Oper} {a : Act} {w : World} {Q : Exit → Act → World → Prop} (hw : Region.wanted o (yielded ops a.tmps) = true) (t : TypeId) (parts : Array (Nat × Operand)) (ho : o.op = .build t parts)
  (pl : List (Nat × Operand)) (hp : parts.toList = pl) (cells : Array Value) (hf : P.built t (pl.map fun (i, x) => (i, a.eval x)) = some cells)
  (h : wpList P ops Q rest (a.put o.dst (.agg cells)) w) : wpList P ops Q (o :: rest) a w := by
 have hf' : P.built t (parts.map fun (i, x) => (i, a.eval x)).toList = some cells := by rw [Array.toList_map, hp]; exact hf
 refine BigFrame.wpList_want hw fun _ hK => wp_build t parts ho (by rw [hf']; rfl) (by rw [hf']; exact hK _ _ h)
theorem sb_A : SB stA := ⟨by decide, by decide, by decide, by decide, by decide, by decide, by decide, ⟨by decide, by decide, (fun n hn => by cases hn), (fun n hn => by cases hn), by decide, by decide⟩, by decide, by decide, by decide, by decide⟩
theorem sb_H : SB stH := ⟨by decide, by decide, by decide, by decide, by decide, by decide, by decide, ⟨by decide, by decide, (fun n hn => by cases hn), (fun n hn => by cases hn), by decide, by decide⟩, by decide, by decide, by decide, by decide⟩
theorem sb_P : SB stP := ⟨by decide, by decide, by decide, by decide, by decide, by decide, by decide, ⟨by decide, by decide, (fun n hn => by cases hn), (fun n hn => by cases hn), by decide, by decide⟩, by decide, by decide, by decide, by decide⟩
theorem sml_A : Sml stA := ⟨sb_A, by decide, by decide, by decide, by decide, by decide, by decide⟩
theorem sml_H : Sml stH := ⟨sb_H, by decide, by decide, by decide, by decide, by decide, by decide⟩
theorem sml_P : Sml stP := ⟨sb_P, by decide, by decide, by decide, by decide, by decide, by decide⟩
theorem ok_X : ShOK scX := ⟨by decide, by decide, by decide, fun t ht => by
 have h : Sml t := by
  rcases List.mem_cons.1 ht with rfl | ht
  ·exact sml_H
  ·rw [List.mem_singleton.1 ht]; exact sml_P
 exact ⟨h.sb, Nat.le_trans (textA_small h) (by decide), Nat.le_trans (textD_small h) (by decide)⟩, by decide, by rw [ex_Z]; decide⟩
theorem ex_S : Sc.showX scX = exZ := by
 have := Sc.parse_inv ex_X
 rw [(Sc.inv_back this.1 (Nat.le_trans this.2 (by decide))).1, ex_Z]
def slX : Array Value := slA [10, 0, 0, 1] [0, 0, 0, 0, 0, 0, 0, 0, 0, 0, 0, 0, 0, 0, 0, 1]
theorem selfF_eq (w : World) : (Op.equalIn 10000 58 (.agg slX) (.agg slX)).run Tryz.prog w = .ok true w := by kernel_rfl
theorem built_F : Tryz.prog.built 56 [(0, .int .u8 10), (1, .int .u8 0), (2, .int .u8 0), (3, .int .u8 1)] = some #[.int .u8 10, .int .u8 0, .int .u8 0, .int .u8 1] := by kernel_rfl
theorem built_G : Tryz.prog.built 24 [(15, .int .u8 1)] = some (cellsB [0, 0, 0, 0, 0, 0, 0, 0, 0, 0, 0, 0, 0, 0, 0, 1]).toArray := by kernel_rfl
theorem built_H : Tryz.prog.built 58 [(0, .agg #[.int .u8 10, .int .u8 0, .int .u8 0, .int .u8 1]), (1, .agg (cellsB [0, 0, 0, 0, 0, 0, 0, 0, 0, 0, 0, 0, 0, 0, 0, 1]).toArray)] = some slX := by kernel_rfl
structure Aw (w : World) (X1 X2 X3 : Nat) (s1 s2 : StV) (sa : List StV) (v : Value) (W : World) : Prop where
 a : Bx 37 Inner w X1 s1 W
 b : Bx 37 Inner w X2 s2 W
 x : BxS 61 Inner w X3 scX sa v W
theorem Aw.next {w : World} {X1 X2 X3 : Nat} {s1 s2 : StV} {sa : List StV} {v : Value} {W W' : World} (h : Aw w X1 X2 X3 s1 s2 sa v W) (hb : Below W.heap.size W W') : Aw w X1 X2 X3 s1 s2 sa v W' := ⟨h.a.next goodI hb, h.b.next goodI hb, h.x.next goodI hb⟩
theorem law_awake (w : World) (ht : ST w) : Calls Tryz.prog 8 #[] w fun e w' => e = .returned (.bool true) ∧ Below w.heap.size w w' := by
 have HT := qh fun (W : World) (hb : Below w.heap.size w W) => ht.below hb
 have PA : Hid (∀ W, Below w.heap.size w W → Calls Tryz.prog 10 #[.string ⟨#[98, 105, 110, 100, 32, 49, 48, 48, 32, 48, 42, 49, 32, 50, 42, 51]⟩] W (RetOne (some stA) W)) := qh fun W hb => by
  have h := scr_One exA (by decide) W (HT.out W hb)
  rw [ex_A] at h
  exact h
 have PB : Hid (∀ W, Below w.heap.size w W → Calls Tryz.prog 10 #[.string ⟨#[109, 112, 108, 115, 32, 49, 32, 48, 48, 48, 54, 52, 48, 48, 53]⟩] W (RetOne (some stB) W)) := qh fun W hb => by
  have h := scr_One exB (by decide) W (HT.out W hb)
  rw [ex_B] at h
  exact h
 have PC : Hid (∀ W, Below w.heap.size w W → Calls Tryz.prog 10 #[.string ⟨#[98, 105, 110, 100, 32, 49, 48, 48]⟩] W (RetOne (none) W)) := qh fun W hb => by
  have h := scr_One exC (by decide) W (HT.out W hb)
  rw [ex_C] at h
  exact h
 have PX : Hid (∀ W, Below w.heap.size w W → Calls Tryz.prog 16 #[.string ⟨#[35, 32, 120, 10, 114, 111, 111, 109, 115, 32, 52, 32, 53, 32, 54, 10, 115, 101, 108, 102, 32, 49, 48, 46, 48, 46, 48, 46, 49, 32, 58, 58, 49, 10, 104, 111, 112, 32, 112, 111, 112, 32, 112, 111, 114, 116, 32, 50, 10, 105, 112, 32, 48, 32, 45]⟩] W (RetScr Inner (.ok scX) W)) := qh fun W hb => by
  have h := scr_Parse exX (by decide) W (HT.out W hb)
  rw [ex_X] at h
  exact h
 have PY : Hid (∀ W, Below w.heap.size w W → Calls Tryz.prog 16 #[.string ⟨#[112, 111, 114, 116, 32, 49, 32, 50, 10, 112, 111, 114, 116, 32, 49]⟩] W (RetScr Inner (.error (20, 2)) W)) := qh fun W hb => by
  have h := scr_Parse exY (by decide) W (HT.out W hb)
  rw [ex_Y] at h
  exact h
 have PL : Hid (∀ W s, s.t = stA → Below w.heap.size w W → Inner (fun _ => True) W s → Calls Tryz.prog 14 #[.agg (stepA s)] W fun e w' => e = .returned (.string ⟨#[98, 105, 110, 100, 32, 49, 48, 48, 32, 48, 42, 49, 32, 50, 42, 51]⟩) ∧ Below W.heap.size W w') := qh fun W s hs hb hi => by
  have h := scr_Line s W (HT.out W hb) hi (by rw [hs]; decide) (by rw [hs]; exact sb_A) (by rw [hs]; exact Nat.le_trans (textA_small sml_A) (by decide))
  rw [lineA_eq, hs, Sc.one_line ex_A] at h
  exact h
 have PS : Hid (∀ W sa v, Below w.heap.size w W → ScIn Inner W scX sa v → Calls Tryz.prog 21 #[.agg (scA scX v)] W fun e w' => e = .returned (.string ⟨#[114, 111, 111, 109, 115, 32, 52, 32, 53, 32, 54, 10, 115, 101, 108, 102, 32, 49, 48, 46, 48, 46, 48, 46, 49, 32, 58, 58, 49, 10, 104, 111, 112, 32, 112, 111, 112, 32, 112, 111, 114, 116, 32, 50, 10, 105, 112, 32, 48, 32, 45, 10]⟩) ∧ Below W.heap.size W w') := qh fun W sa v hb hi => by
  have h := show_in ok_X (HT.out W hb) hi
  rw [ex_S] at h
  exact h
 have hq := fun w => selfF_eq w
 have hg := fun w op a b => GuardAt.agg (P := Tryz.prog) (T := 58) (fun c : Array Value => c) (by kernel_rfl) op a b slX slX w
 clear ht HT
 go_enter Tryz.func8, Tryz.ntmps8
 have HV0 := qh (Below.refl w.heap.size w)
 go_upto_region 2 with (first
  | (refine (PA.out _ HV0.out).mono ?_; rintro e w1 ⟨s1, rfl, hs1, hp1, hi1, hb1⟩; have HI1 : Hid (Inner (fun _ => True) w1 s1) := qh (hi1.imp fun _ _ => trivial); have HB1 := qh (HV0.out.trans (hb1.mono HV0.out.size)); have HQ1 := qh hp1; have HE1 := qh hs1; have HC1 := qh hb1; clear hi1 hb1 hp1 hs1)
  | (refine wpList_alloc_as rfl 37 (by rfl) _ zeroSt ?_; intro wa Ea; have HEa := qh Ea; have HXa : Hid (Blk wa w1.heap.size 37 (stepA (sv Sc.z))) := (by rw [Ea]; exact qh (Blk.new _ _ _)); clear Ea)
  | (refine wpList_store_row_as rfl 37 (.tmp 1) (.tmp 15) (by rfl) w1.heap.size (stepA s1) (by rfl) (by rfl) _ _ HXa.out (by rw [stepA_size]; exact infoSt) (by rw [stepA_size, stepA_size]) HI1.out.one ?_; intro v1 Ev; have HN1 := qh (Bx.new goodI HI1.out HQ1.out HB1.out HEa.out Ev).1; have HK1 := qh (HC1.out.trans ((Bx.new goodI HI1.out HQ1.out HB1.out HEa.out Ev).2.mono HC1.out.size)); clear Ev))
 have HV1 := qh HN1.out.bel
 clear HXa HEa HI1 HQ1 HB1 HC1 HK1 PA
 go_upto_region 3 with (first
  | (refine (PB.out _ HV1.out).mono ?_; rintro e w2 ⟨s2, rfl, hs2, hp2, hi2, hb2⟩; have HI2 : Hid (Inner (fun _ => True) w2 s2) := qh (hi2.imp fun _ _ => trivial); have HB2 := qh (HV1.out.trans (hb2.mono HV1.out.size)); have HQ2 := qh hp2; have HE2 := qh hs2; have HC2 := qh hb2; clear hi2 hb2 hp2 hs2)
  | (refine wpList_alloc_as rfl 37 (by rfl) _ zeroSt ?_; intro wa Ea; have HEa := qh Ea; have HXa : Hid (Blk wa w2.heap.size 37 (stepA (sv Sc.z))) := (by rw [Ea]; exact qh (Blk.new _ _ _)); clear Ea)
  | (refine wpList_store_row_as rfl 37 (.tmp 3) (.tmp 19) (by rfl) w2.heap.size (stepA s2) (by rfl) (by rfl) _ _ HXa.out (by rw [stepA_size]; exact infoSt) (by rw [stepA_size, stepA_size]) HI2.out.one ?_; intro v2 Ev; have HN2 := qh (Bx.new goodI HI2.out HQ2.out HB2.out HEa.out Ev).1; have HK2 := qh (HC2.out.trans ((Bx.new goodI HI2.out HQ2.out HB2.out HEa.out Ev).2.mono HC2.out.size)); clear Ev))
 have HV2 := qh HN2.out.bel
 have HN1 := qh (HN1.out.next goodI HK2.out)
 clear HXa HEa HI2 HQ2 HB2 HC2 HK2 PB
 go_upto_region 4 with (first
  | (refine (PC.out _ HV2.out).mono ?_; rintro e w3 ⟨s3, rfl, hs3, hp3, hi3, hb3⟩; have HI3 : Hid (Inner (fun _ => True) w3 s3) := qh (hi3.imp fun _ _ => trivial); have HB3 := qh (HV2.out.trans (hb3.mono HV2.out.size)); have HQ3 := qh hp3; have HE3 := qh hs3; have HC3 := qh hb3; clear hi3 hb3 hp3 hs3)
  | (refine wpList_alloc_as rfl 37 (by rfl) _ zeroSt ?_; intro wa Ea; have HEa := qh Ea; have HXa : Hid (Blk wa w3.heap.size 37 (stepA (sv Sc.z))) := (by rw [Ea]; exact qh (Blk.new _ _ _)); clear Ea)
  | (refine wpList_store_row_as rfl 37 (.tmp 5) (.tmp 23) (by rfl) w3.heap.size (stepA s3) (by rfl) (by rfl) _ _ HXa.out (by rw [stepA_size]; exact infoSt) (by rw [stepA_size, stepA_size]) HI3.out.one ?_; intro v3 Ev; have HN3 := qh (Bx.new goodI HI3.out HQ3.out HB3.out HEa.out Ev).1; have HK3 := qh (HC3.out.trans ((Bx.new goodI HI3.out HQ3.out HB3.out HEa.out Ev).2.mono HC3.out.size)); clear Ev))
 have HV3 := qh HN3.out.bel
 have HN1 := qh (HN1.out.next goodI HK3.out)
 have HN2 := qh (HN2.out.next goodI HK3.out)
 clear HXa HEa HI3 HQ3 HB3 HC3 HK3 PC
 have HE3 := HE3.out
 clear HE3 HN3
 go_upto_region 5 with (first
  | (refine (PX.out _ HV3.out).mono ?_; rintro e w4 ⟨x4, sa4, va4, c4, n4, rfl, hi4, hb4, ho4, he4⟩; obtain ⟨rfl, rfl, rfl⟩ := ho4 _ rfl; have HI4 := qh hi4; have HB4 := qh (HV3.out.trans (hb4.mono HV3.out.size)); have HC4 := qh hb4; clear hi4 hb4 ho4 he4)
  | (refine wpList_alloc_as rfl 61 (by rfl) _ zeroSc ?_; intro wa Ea; have HEa := qh Ea; have HXa : Hid (Blk wa w4.heap.size 61 (scA scrZ (.slice none 0 0))) := (by rw [Ea]; exact qh (Blk.new _ _ _)); clear Ea)
  | (refine wpList_store_row_as rfl 61 (.tmp 7) (.tmp 27) (by rfl) w4.heap.size (scA scX va4) (by rfl) (by rfl) _ _ HXa.out HI4.out.iS HI4.out.zz HI4.out.one ?_; intro v4 Ev; have HN4 := qh (BxS.new goodI HI4.out HB4.out HEa.out Ev).1; have HK4 := qh (HC4.out.trans ((BxS.new goodI HI4.out HB4.out HEa.out Ev).2.mono HC4.out.size)); clear Ev))
 have HV4 := qh HN4.out.bel
 have HN1 := qh (HN1.out.next goodI HK4.out)
 have HN2 := qh (HN2.out.next goodI HK4.out)
 clear HXa HEa HI4 HB4 HC4 HK4 PX
 have HA4 : Hid (Aw w w1.heap.size w2.heap.size w4.heap.size s1 s2 sa4 va4 v4) := qh ⟨HN1.out, HN2.out, HN4.out⟩
 clear HN1 HN2 HN4
 have HW1 : Hid (s1.t = stA) := qh HE1.out
 have HW2 : Hid (s2.t = stB) := qh HE2.out
 obtain ⟨p1, k1, hvw1, -⟩ := HA4.out.a.inn.ws
 have HVW : Hid (s1.vw = .slice p1 2 k1) := qh (by rw [hvw1, HW1.out]; rfl)
 obtain ⟨p2, k2, hvb2, -⟩ := HA4.out.b.inn.b
 have HVB : Hid (s2.vb = .slice p2 4 k2) := qh (by rw [hvb2, HW2.out]; rfl)
 obtain ⟨p9, c9, hv9, -⟩ := HA4.out.x.inn.sl
 have HL9 : sa4.length = 2 := by have := HA4.out.x.inn.len; simpa [scX] using this
 have HV9 : Hid (va4 = .slice p9 2 c9) := qh (by rw [hv9, HL9])
 clear hvw1 hvb2 hv9 HL9
 have HC1 : Hid (∀ W, Aw w w1.heap.size w2.heap.size w4.heap.size s1 s2 sa4 va4 W → W.cell? ⟨w1.heap.size, 1, none⟩ = some (.int .i64 10) ∧ W.cell? ⟨w1.heap.size, 2, none⟩ = some (.int .i64 100) ∧ W.cell? ⟨w1.heap.size, 31, none⟩ = some (.slice p1 2 k1)) := qh fun W h => by
  have h1 := (StAt.mk h.a.b h.a.p16).c1
  have h2 := (StAt.mk h.a.b h.a.p16).c2
  have h3 := (StAt.mk h.a.b h.a.p16).c31
  rw [HW1.out] at h1 h2
  rw [HVW.out] at h3
  exact ⟨h1, h2, h3⟩
 have HC2 : Hid (∀ W, Aw w w1.heap.size w2.heap.size w4.heap.size s1 s2 sa4 va4 W → W.cell? ⟨w2.heap.size, 0, none⟩ = some (.bool true) ∧ W.cell? ⟨w2.heap.size, 34, none⟩ = some (.bool true) ∧ W.cell? ⟨w2.heap.size, 35, none⟩ = some (.slice p2 4 k2)) := qh fun W h => by
  have h1 := (StAt.mk h.b.b h.b.p16).c0
  have h2 := (StAt.mk h.b.b h.b.p16).c34
  have h3 := (StAt.mk h.b.b h.b.p16).c35
  rw [HW2.out] at h1 h2
  rw [HVB.out] at h3
  exact ⟨h1, h2, h3⟩
 have HC3 : Hid (∀ W, Aw w w1.heap.size w2.heap.size w4.heap.size s1 s2 sa4 va4 W → W.cell? ⟨w4.heap.size, 1, none⟩ = some (.int .i64 5) ∧ W.cell? ⟨w4.heap.size, 23, none⟩ = some (.slice p9 2 c9) ∧ W.rangeAt w4.heap.size 3 slX.toList) := qh fun W h => by
  have h1 := (ScAt.mk h.x.b h.x.inn.z).c1
  have h2 := (ScAt.mk h.x.b h.x.inn.z).c23
  have h3 := (ScAt.mk h.x.b h.x.inn.z).sl
  rw [HV9.out] at h2
  exact ⟨h1, h2, h3⟩
 have HIF : Hid ((Tryz.prog.info? 58).map (·.size) = some slX.toList.length) := qh (by kernel_rfl)
 have HIS := qh HA4.out.x.inn.iS
 have HBF := qh built_F
 have HBG := qh built_G
 have HBH := qh built_H
 generalize slX = SX at *
 generalize (cellsB [0, 0, 0, 0, 0, 0, 0, 0, 0, 0, 0, 0, 0, 0, 0, 1]).toArray = GX at *
 go_wp2_with fail
 refine (PY.out _ HV4.out).mono ?_
 rintro e w5 ⟨x5, sa5, va5, c5, n5, rfl, hi5, hb5, ho5, he5⟩
 obtain ⟨rfl, rfl, rfl⟩ := he5 _ rfl
 have HA5 := qh (HA4.out.next hb5)
 have HI5 := qh hi5
 have HK5 : Hid (∀ wa wb, wa = w5.alloc (.cells (scA scrZ (.slice none 0 0)) 61) → wb = wa.setRow w5.heap.size (scA scrZ va5) → Below w5.heap.size w5 wb) := qh fun wa wb h1 h2 => by
  subst h1 h2
  exact below_setRow (belowA _ _) (Nat.le_refl _) _
 clear hi5 hb5 ho5 he5 HA4 HV4 PY HE1 HE2
 dsimp only
 rename_i K hK
 refine hK _ _ ?_
 clear hK K
 try simp only [qA, qB, qC, qD, qE, qF, qG]
 iterate 12 go_step
 refine wpList_alloc_as rfl 61 (by rfl) _ zeroSc ?_
 intro wa Ea
 have HEa := qh Ea
 have HXa : Hid (Blk wa w5.heap.size 61 (scA scrZ (.slice none 0 0))) := (by rw [Ea]; exact qh (Blk.new _ _ _))
 clear Ea
 try simp only [qA, qB, qC, qD, qE, qF, qG]
 refine wpList_store_row_as rfl 61 (.tmp 10) (.tmp 32) (by rfl) w5.heap.size (scA scrZ va5) (by rfl) (by rfl) _ _ HXa.out HI5.out.iS HI5.out.zz HI5.out.one ?_
 intro v5 Ev
 have HA6 := qh (HA5.out.next (HK5.out _ _ HEa.out Ev))
 clear Ev
 obtain ⟨a1, a2, a31⟩ := HC1.out _ HA6.out
 try simp only [qA, qB, qC, qD, qE, qF, qG]
 iterate 53 go_step
 refine wpList_load_want (by rfl) 37 (.tmp 1) (by rfl) w1.heap.size (by rfl) _ (stepA s1) (0, 0) _ HA6.out.a.b Tryz.underlying37 rfl (by rw [stepA_size]; exact infoSt) ?_
 try simp only [qA, qB, qC, qD, qE, qF, qG]
 go_wp2_with fail
 refine (PL.out _ _ HW1.out HA6.out.a.bel HA6.out.a.inn).mono ?_
 rintro e w6 ⟨rfl, hb6⟩
 have HA7 := qh (HA6.out.next hb6)
 clear hb6 a1 a2 a31
 obtain ⟨b0, b34, b35⟩ := HC2.out _ HA7.out
 obtain ⟨x1, x23, xr⟩ := HC3.out _ HA7.out
 have HXR := qh xr
 clear xr
 dsimp only
 rename_i K hK
 refine hK _ _ ?_
 clear hK K
 try simp only [qA, qB, qC, qD, qE, qF, qG]
 iterate 81 go_step
 refine wpList_load_midW 58 (.tmp 94) (by rfl) (by rfl) w4.heap.size 3 (by rfl) SX.toList _ HXR.out Tryz.underlying58 rfl HIF.out ?_
 try simp only [qA, qB, qC, qD, qE, qF, qG]
 refine wpList_build_want (by rfl) 56 #[(0, .const (.int .u8 10)), (1, .const (.int .u8 0)), (2, .const (.int .u8 0)), (3, .const (.int .u8 1))] (by rfl) [(0, .const (.int .u8 10)), (1, .const (.int .u8 0)), (2, .const (.int .u8 0)), (3, .const (.int .u8 1))] rfl _ HBF.out ?_
 try simp only [qA, qB, qC, qD, qE, qF, qG]
 refine wpList_build_want (by rfl) 24 #[(15, .const (.int .u8 1))] (by rfl) [(15, .const (.int .u8 1))] rfl _ HBG.out ?_
 try simp only [qA, qB, qC, qD, qE, qF, qG]
 refine wpList_build_want (by rfl) 58 #[(0, .tmp 96), (1, .tmp 97)] (by rfl) [(0, .tmp 96), (1, .tmp 97)] rfl _ HBH.out ?_
 try simp only [qA, qB, qC, qD, qE, qF, qG]
 iterate 22 go_step
 refine wpList_load_want (by rfl) 61 (.tmp 7) (by rfl) w4.heap.size (by rfl) _ (scA scX va4) (0, 0) _ HA7.out.x.b Tryz.underlying61 rfl HIS.out ?_
 try simp only [qA, qB, qC, qD, qE, qF, qG]
 go_wp2_with fail
 refine (PS.out _ _ _ HA7.out.x.bel HA7.out.x.inn).mono ?_
 rintro e w7 ⟨rfl, hb7⟩
 have HA8 := qh (HA7.out.next hb7)
 clear hb7
 go_wp2_with fail
 go_ret
 exact ⟨rfl, HA8.out.a.bel⟩
end Go.Proofs.YtdbgeobolongmaaGreatDoor
namespace Go.Proofs.YtdbgeobolongmaaGreatDoor
open Go.RowKit Go.Shelf Go.Proofs Go.OctetPlain Go.PrefixPlain Go.ColonPlain
structure Got (o : Except (Int × Nat) Sc.Scr) (x : Sc.Scr) (c : Int) (n : Nat) : Prop where
 ok : ∀ y, o = .ok y → x = y ∧ c = 0 ∧ n = 0
 er : ∀ k, o = .error k → x = scrZ ∧ c = k.1 ∧ n = k.2
def SzT (t : Sc.Stp) : Prop := t.hop.labels.length ≤ 1073741824 ∧ t.hop.repair.length ≤ 1073741824 ∧ t.ways.length ≤ 1073741824
structure CmpOK (x : Sc.Scr) : Prop where
 z : ∀ t ∈ x.steps, SzT t
 n : x.steps.length ≤ 1000
theorem parsed_cmp {l : List UInt8} {x : Sc.Scr} (h : Sc.parseX l = .ok x) (hl : l.length ≤ 4001) : CmpOK x := ⟨fun t ht => parsed_fit h hl ht, (Sc.parse_inv h).1.n⟩
theorem same_in {x : Sc.Scr} (O : CmpOK x) {sa sb : List StV} {va vb : Value} {w : World} (A : ScIn InnerD w x sa va) (B : ScIn InnerD w x sb vb) :
  Calls Tryz.prog 18 #[.agg (scA x va), .agg (scA x vb)] w fun e w' => e = .returned (.bool true) ∧ Below w.heap.size w w' := by
 have h := r32_Same x x sa sb va vb w A B (fun s hs => O.z _ (A.mem hs)) (fun s hs => O.z _ (B.mem hs)) (by have := A.len; have := O.n; omega) (by have := B.len; have := O.n; omega)
 rw [decide_eq_true rfl] at h
 exact h
theorem ShOK.parsed {l : List UInt8} {x : Sc.Scr} (h : Sc.parseX l = .ok x) (hl : l.length ≤ 4001) : ShOK x := by
 obtain ⟨i, hw⟩ := Sc.parse_inv h
 refine ⟨num_I i.b1, num_I i.b2, num_I i.b3, fun t ht => ?_, i.n, ?_⟩
 ·obtain ⟨s, h1, h2⟩ := parsed_step h hl ht
  exact ⟨one_SB h1 (by omega), by rw [one_textA h1]; omega, by rw [one_textD h1]; omega⟩
 ·have a := Sc.rooms_len i
  have b := Sc.self_len i.z
  unfold Sc.wt at hw
  unfold Sc.linesOf
  simp only [Sc.body, List.length_append, List.length_cons]
  omega
structure Pr2 (w : World) (Xa Xb : Nat) (x : Sc.Scr) (sa sb : List StV) (va vb : Value) (W : World) : Prop where
 a : BxS 61 Inner w Xa x sa va W
 b : BxS 69 InnerD w Xb x sb vb W
theorem Pr2.next {w : World} {Xa Xb : Nat} {x : Sc.Scr} {sa sb : List StV} {va vb : Value} {W W' : World} (h : Pr2 w Xa Xb x sa sb va vb W) (hb : Below W.heap.size W W') : Pr2 w Xa Xb x sa sb va vb W' := ⟨h.a.next goodI hb, h.b.next goodD hb⟩
structure Pr1 (w : World) (Xa Xb : Nat) (x : Sc.Scr) (sa sb : List StV) (va vb : Value) (W : World) : Prop where
 a : BxS 61 Inner w Xa x sa va W
 b : BxS 61 Inner w Xb x sb vb W
theorem Pr1.next {w : World} {Xa Xb : Nat} {x : Sc.Scr} {sa sb : List StV} {va vb : Value} {W W' : World} (h : Pr1 w Xa Xb x sa sb va vb W) (hb : Below W.heap.size W W') : Pr1 w Xa Xb x sa sb va vb W' := ⟨h.a.next goodI hb, h.b.next goodI hb⟩
end Go.Proofs.YtdbgeobolongmaaGreatDoor
