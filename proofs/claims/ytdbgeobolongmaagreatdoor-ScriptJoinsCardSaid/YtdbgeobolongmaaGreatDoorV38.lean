/- Part of the proof: contracts of the functions that the statements of layer 32 reach. -/
import Derived.Deep.QuietTactic
import Derived.BigQuiet
import Derived.Test.YtdbgeobolongmaaGreatDoorV10
import Derived.Test.YtdbgeobolongmaaGreatDoorV12
import Derived.Test.YtdbgeobolongmaaGreatDoorV22
import Derived.Test.YtdbgeobolongmaaGreatDoorV30
import Derived.Test.YtdbgeobolongmaaGreatDoorV32
import Derived.Test.YtdbgeobolongmaaGreatDoorV34
import Derived.Test.YtdbgeobolongmaaGreatDoorV35
import Derived.Test.YtdbgeobolongmaaGreatDoorV36
import Derived.Test.YtdbgeobolongmaaGreatDoorV37
set_option linter.unusedVariables false
set_option linter.unusedSimpArgs false
set_option maxRecDepth 100000
set_option maxHeartbeats 4000000
namespace Go.Proofs.YtdbgeobolongmaaGreatDoor
open Go.RowKit Go.Shelf Go.Proofs Go.OctetPlain Go.PrefixPlain
def svS (s : StV) : StV := { s with vb := .string (str s.t.bytes) }
theorem wpList_build_as {P : Program} {ops : Array Oper} {rest : List Oper} {o : Oper} {a : Act} {w : World} {Q : Exit → Act → World → Prop} (hg : o.guard = none) (t : TypeId) (parts : Array (Nat × Operand)) (ho : o.op = .build t parts)
  (pl : List (Nat × Operand)) (hp : parts.toList = pl) (cells : Array Value) (hf : P.built t (pl.map fun (i, x) => (i, a.eval x)) = some cells)
  (h : wpList P ops Q rest (a.put o.dst (.agg cells)) w) : wpList P ops Q (o :: rest) a w := by
 have hf' : P.built t (parts.map fun (i, x) => (i, a.eval x)).toList = some cells := by rw [Array.toList_map, hp]; exact hf
 exact wpList_build hg t parts ho (by rw [hf']; rfl) (by rw [hf']; exact h)
structure OBk (t : TypeId) (w : World) (X : Nat) (s : StV) : Prop where
 b : Blk w X t (oA s)
namespace OBk
variable {t : TypeId} {w : World} {X : Nat} {s : StV}
theorem pre (h : OBk t w X s) : w.rangeAt X 0 (oPre s.t) := by
 have hb := h.b
 unfold oA at hb
 exact Blk.rng (A := []) hb rfl
theorem sp (h : OBk t w X s) : w.rangeAt X 4 (oSp s.t) := by
 have hb := h.b
 unfold oA at hb
 exact hb.rng rfl
theorem pf (h : OBk t w X s) : w.rangeAt X 6 (pfL s.t.pf) := by
 have hb := h.b
 unfold oA at hb
 rw [OAt.e6] at hb
 exact hb.rng (OAt.l6 _).symm
theorem hop (h : OBk t w X s) : w.rangeAt X 24 (hopL s.t.hop s.vl s.vr) := by
 have hb := h.b
 unfold oA at hb
 rw [OAt.e24] at hb
 exact hb.rng (OAt.l24 _).symm
theorem vw (h : OBk t w X s) : w.rangeAt X 30 [s.vw] := by
 have hb := h.b
 unfold oA at hb
 rw [OAt.e30] at hb
 exact hb.rng (OAt.l30 _).symm
theorem tx (h : OBk t w X s) : w.rangeAt X 31 [.string (str s.t.text)] := by
 have hb := h.b
 unfold oA at hb
 rw [OAt.e31] at hb
 exact hb.rng (OAt.l31 _).symm
theorem c0 (h : OBk t w X s) : w.cell? ⟨X, 0, none⟩ = some (.int .i64 s.t.kind) := h.pre 0 _ rfl
theorem c1 (h : OBk t w X s) : w.cell? ⟨X, 1, none⟩ = some (.int .i64 s.t.a) := h.pre 1 _ rfl
theorem c2 (h : OBk t w X s) : w.cell? ⟨X, 2, none⟩ = some (.int .i64 s.t.n) := h.pre 2 _ rfl
theorem c3 (h : OBk t w X s) : w.cell? ⟨X, 3, none⟩ = some (.int .i64 s.t.owner) := h.pre 3 _ rfl
theorem c30 (h : OBk t w X s) : w.cell? ⟨X, 30, none⟩ = some s.vw := h.vw 0 _ rfl
theorem c31 (h : OBk t w X s) : w.cell? ⟨X, 31, none⟩ = some (.string (str s.t.text)) := h.tx 0 _ rfl
end OBk
theorem zeroCO (w : World) : (zeroValue 32).run Tryz.prog w = .ok (.agg (oA (sv Sc.z))) w := by kernel_rfl
theorem infoCO : (Tryz.prog.info? 32).map (·.size) = some 32 := by kernel_rfl
theorem StAt.op {w : World} {X : Nat} {s : StV} (h : StAt w X s) : w.rangeAt X 1 (oL s) := by
 have hb := h.b
 unfold stepA at hb
 rw [step_oL] at hb
 exact hb.rng rfl
theorem built_O {s : StV} (p16 : s.t.pf.addr.length = 16) {p : Option Addr} {n c : Nat} (hw : s.vw = .slice p n c) :
  Tryz.prog.built 42 [(0, .int .i64 s.t.kind), (1, .int .i64 s.t.a), (2, .int .i64 s.t.n), (3, .int .i64 s.t.owner), (4, .agg (oSp s.t).toArray), (5, .agg (pfL s.t.pf).toArray), (6, .agg (hopL s.t.hop s.vl s.vr).toArray), (7, .slice p n c), (8, .string (str s.t.text))] = some (oA s) := by
 obtain ⟨⟨is, kind, a, nn, owner, s1, s2, ⟨six, addr, len⟩, ⟨op, labels, port, backup, repair, pipe⟩, ways, text, prt, mpls, bytes⟩, vl, vr, vw, vb⟩ := s
 simp only at p16 hw
 subst hw
 obtain ⟨x0, x1, x2, x3, x4, x5, x6, x7, x8, x9, x10, x11, x12, x13, x14, x15, rfl⟩ := list16 p16
 kernel_rfl
theorem built_T {s : StV} (p16 : s.t.pf.addr.length = 16) {p : Option Addr} {n c : Nat} (hw : s.vw = .slice p n c) :
  Tryz.prog.built 46 [(0, .bool s.t.is), (1, .agg (oA s)), (2, .agg #[.int .i64 s.t.port, .bool s.t.mpls, .string (str s.t.bytes)])] = some (stepA (svS s)) := by
 obtain ⟨⟨is, kind, a, nn, owner, s1, s2, ⟨six, addr, len⟩, ⟨op, labels, port, backup, repair, pipe⟩, ways, text, prt, mpls, bytes⟩, vl, vr, vw, vb⟩ := s
 simp only at p16 hw
 subst hw
 obtain ⟨x0, x1, x2, x3, x4, x5, x6, x7, x8, x9, x10, x11, x12, x13, x14, x15, rfl⟩ := list16 p16
 kernel_rfl
theorem built_P (q : Int) (m : Bool) (b : ByteArray) : Tryz.prog.built 44 [(0, .int .i64 q), (1, .bool m), (2, .string b)] = some #[.int .i64 q, .bool m, .string b] := by kernel_rfl
theorem Inner.svS {q : Nat → Prop} {w : World} {s : StV} (h : Inner q w s) : InnerD q w (svS s) := ⟨h.l, h.r, h.ws, rfl⟩
theorem oA_one3 {s : StV} (h1 : s.vl.oneCell' = true) (h2 : s.vr.oneCell' = true) (h3 : s.vw.oneCell' = true) : (oA s).all (·.oneCell') = true := by
 have h := stepA_one (s := { s with vb := .string (str []) }) h1 h2 h3 rfl
 have e : stepL { s with vb := .string (str []) } = [.bool s.t.is] ++ (oL s ++ ([.int .i64 s.t.port, .bool s.t.mpls, .string (str [])] ++ [])) := step_oL _
 unfold stepA at h
 rw [e] at h
 unfold oA
 rw [List.all_toArray] at h ⊢
 rw [List.all_eq_true] at h ⊢
 exact fun v hv => h v (List.mem_append_right _ (List.mem_append_left _ hv))
theorem law32_step (s : StV) (w : World) (p16 : s.t.pf.addr.length = 16) (hin : Inner (fun _ => True) w s) :
  Calls Tryz.prog 13 #[.agg (stepA s)] w fun e w' => e = .returned (.agg (stepA (svS s))) ∧ Below w.heap.size w w' := by
 obtain ⟨p3, k3, hvw, -⟩ := hin.ws
 obtain ⟨p4, k4, hvb, -⟩ := hin.b
 have HVW := qh hvw
 have HVB := qh hvb
 have HB0 : Hid (∀ w1, w1 = w.alloc (.cells (stepA s) 37) → StAt w1 w.heap.size s ∧ Below w.heap.size w w1) := qh fun w1 h => by subst h; exact ⟨⟨Blk.new _ _ _, p16⟩, belowA w _⟩
 have HBO := qh (built_O p16 hvw)
 have HBT := qh (built_T p16 hvw)
 have HBP := qh (built_P s.t.port s.t.mpls (str s.t.bytes))
 have HC : Hid (∀ W, Below w.heap.size w W → (convert 33 9 (.slice p4 s.t.bytes.length k4)).run Tryz.prog W = .ok (.string (str s.t.bytes)) W) := qh fun W hb => by
  have h := (hin.b.sl.below hb (Nat.le_refl _)).str (src := 33) (dst := 9) Tryz.underlying33 Tryz.underlying5 Tryz.underlying9
  rw [hvb] at h
  exact h
 have HON := qh (InnerD.one hin.svS)
 have HO1 : Hid ((oA s).all (·.oneCell') = true) := qh (oA_one3 hin.l.one hin.r.one hin.ws.one)
 have HIO : Hid ((Tryz.prog.info? 32).map (·.size) = some (oL s).length) := qh (by rw [oL_len]; exact infoCO)
 have HIO2 : Hid ((Tryz.prog.info? 32).map (·.size) = some (oA s).size) := qh (by rw [oA_size]; exact infoCO)
 have HZO : Hid ((oA (sv Sc.z)).size = (oA s).size) := qh (by rw [oA_size, oA_size])
 have HIT : Hid ((Tryz.prog.info? 46).map (·.size) = some (stepA (svS s)).size) := qh (by rw [stepA_size]; exact infoT)
 have HZT : Hid ((stepA (svD Sc.z)).size = (stepA (svS s)).size) := qh (by rw [stepA_size, stepA_size])
 have HLP : Hid ((Tryz.prog.info? 26).map (·.size) = some (pfL s.t.pf).length) := qh (by rw [pfL_len]; kernel_rfl)
 clear hvw hvb p16 hin
 go_enter Tryz.func13, Tryz.ntmps13
 go_upto_region 1 with (first
  | (refine wpList_box_as (w := w) rfl _ (.tmp 0) (by rfl) (stepA s) (by rfl) ?_; intro w1 E1; have HS1 := qh (HB0.out w1 E1).1; have HB1 := qh (HB0.out w1 E1).2; clear E1)
  | (refine wpList_alloc_as (w := w1) rfl 46 (by rfl) _ zeroT ?_; intro w2 E2; have HT2 : Hid (Blk w2 w1.heap.size 46 (stepA (svD Sc.z))) := (by rw [E2]; exact qh (Blk.new _ _ _)); have HB2 : Hid (Below w1.heap.size w1 w2) := (by rw [E2]; exact qh (belowA _ _)); have HS2 := qh (HS1.out.next HB2.out); clear E2))
 refine wp_region_lit ?_
 iterate 3 go_step
 refine wpList_load_midW 32 (.tmp 4) (by rfl) (by rfl) w.heap.size 1 (by rfl) (oL s) _ HS2.out.op Tryz.underlying32 rfl HIO.out ?_
 simp only [qA, qB, qC, qD, qE, qF, qG]
 refine wpList_alloc_as (w := w2) rfl 32 (by rfl) _ zeroCO ?_
 intro w3 E3
 have HX3 : Hid (Blk w3 w2.heap.size 32 (oA (sv Sc.z))) := (by rw [E3]; exact qh (Blk.new _ _ _))
 have HB3 : Hid (Below w2.heap.size w2 w3) := (by rw [E3]; exact qh (belowA _ _))
 clear E3
 simp only [qA, qB, qC, qD, qE, qF, qG]
 refine wpList_store_row_as rfl 32 (.tmp 3) (.tmp 5) (by rfl) w2.heap.size (oA s) (by rfl) (by rfl) _ _ HX3.out HIO2.out HZO.out HO1.out ?_
 intro w4 E4
 have HX4 : Hid (OBk 32 w4 w2.heap.size s) := (by rw [E4]; exact qh ⟨HX3.out.setRow _⟩)
 have HB4 : Hid (Below w2.heap.size w2 w4) := (by rw [E4]; exact qh (below_setRow HB3.out (Nat.le_refl _) _))
 clear E4
 have HS4 := qh (HS2.out.next HB4.out)
 have HT4 := qh (HT2.out.below HB4.out HT2.out.lt)
 have HB5 := qh ((HB1.out.trans (HB2.out.mono HB1.out.size)).trans (HB4.out.mono (HB1.out.trans (HB2.out.mono HB1.out.size)).size))
 have hz1 := HB1.out.size
 have a0 := HS4.out.c0
 have a33 := HS4.out.c33
 have a34 := HS4.out.c34
 have a35 := HS4.out.c35
 rw [HVB.out] at a35
 have c0 := HX4.out.c0
 have c1 := HX4.out.c1
 have c2 := HX4.out.c2
 have c3 := HX4.out.c3
 have c30 := HX4.out.c30
 rw [HVW.out] at c30
 have c31 := HX4.out.c31
 have hcv := HC.out w4 HB5.out
 clear HS1 HS2 HT2 HX3 HB0 HB1 HB2 HB3 HB4 HC HVW HVB HO1 HIO HIO2 HZO
 go_upto_region 2 with fail
 refine wp_region_lit ?_
 iterate 33 go_step
 refine wpList_load_midW 23 (.tmp 16) (by rfl) (by rfl) w2.heap.size 4 (by rfl) (oSp s.t) _ HX4.out.sp Tryz.underlying23 rfl (by kernel_rfl) ?_
 simp only [qA, qB, qC, qD, qE, qF, qG]
 iterate 3 go_step
 refine wpList_load_midW 26 (.tmp 18) (by rfl) (by rfl) w2.heap.size 6 (by rfl) (pfL s.t.pf) _ HX4.out.pf Tryz.underlying26 rfl HLP.out ?_
 simp only [qA, qB, qC, qD, qE, qF, qG]
 iterate 3 go_step
 refine wpList_load_midW 29 (.tmp 20) (by rfl) (by rfl) w2.heap.size 24 (by rfl) (hopL s.t.hop s.vl s.vr) _ HX4.out.hop Tryz.underlying29 rfl (by kernel_rfl) ?_
 simp only [qA, qB, qC, qD, qE, qF, qG]
 iterate 12 go_step
 refine wpList_build_as rfl 42 #[(0, .tmp 9), (1, .tmp 11), (2, .tmp 13), (3, .tmp 15), (4, .tmp 17), (5, .tmp 19), (6, .tmp 21), (7, .tmp 23), (8, .tmp 25)] (by rfl) [(0, .tmp 9), (1, .tmp 11), (2, .tmp 13), (3, .tmp 15), (4, .tmp 17), (5, .tmp 19), (6, .tmp 21), (7, .tmp 23), (8, .tmp 25)] rfl (oA s) HBO.out ?_
 simp only [qA, qB, qC, qD, qE, qF, qG]
 iterate 30 go_step
 refine wpList_build_as rfl 44 #[(0, .tmp 29), (1, .tmp 32), (2, .tmp 36)] (by rfl) [(0, .tmp 29), (1, .tmp 32), (2, .tmp 36)] rfl #[.int .i64 s.t.port, .bool s.t.mpls, .string (str s.t.bytes)] HBP.out ?_
 simp only [qA, qB, qC, qD, qE, qF, qG]
 refine wpList_build_as rfl 46 #[(0, .tmp 7), (1, .tmp 26), (2, .tmp 37)] (by rfl) [(0, .tmp 7), (1, .tmp 26), (2, .tmp 37)] rfl (stepA (svS s)) HBT.out ?_
 simp only [qA, qB, qC, qD, qE, qF, qG]
 refine wpList_store_row_as rfl 46 (.tmp 2) (.tmp 38) (by rfl) w1.heap.size (stepA (svS s)) (by rfl) (by rfl) _ _ HT4.out HIT.out HZT.out HON.out ?_
 intro w5 E5
 have HT5 : Hid (Blk w5 w1.heap.size 46 (stepA (svS s))) := (by rw [E5]; exact qh (HT4.out.setRow _))
 have HB6 : Hid (Below w.heap.size w w5) := (by rw [E5]; exact qh (below_setRow HB5.out hz1 _))
 clear E5
 go_wp2_with fail
 exact bodyPost_ret (results_cell_row rfl _ _ _ _ _ _ _ rfl HT5.out Tryz.underlying46 rfl HIT.out) rfl ⟨rfl, HB6.out⟩
structure InS (w : World) (x : Sc.Scr) (sa : List StV) (va : Value) (W : World) : Prop where
 A : ScAt 61 W w.heap.size x va
 sl : SlP (· < w.heap.size) W 36 stepL va sa
 inn : ∀ s ∈ sa, Inner (· < w.heap.size) W s
 bel : Below w.heap.size w W
theorem InS.grown {w W W' : World} {x : Sc.Scr} {sa : List StV} {va : Value} (h : InS w x sa va W) {row : Option Nat} (hg : W.grownBy W' row) (hr : ∀ b, row = some b → w.heap.size + 1 ≤ b) : InS w x sa va W' :=
 ⟨h.A.grown hg (fun e => by have := hr _ e; omega), h.sl.grown hg (fun b hb e => by have := hr _ e; omega), fun s hs => (h.inn s hs).grown hg (fun b hb e => by have := hr _ e; omega),
  h.bel.grown hg h.bel.size (fun k e => by have := hr k e; omega)⟩
theorem InS.next {w W W' : World} {x : Sc.Scr} {sa : List StV} {va : Value} (h : InS w x sa va W) (hb : Below W.heap.size W W') : InS w x sa va W' := h.grown (row := none) (grown_below hb _) (fun b e => by cases e)
theorem InS.new {w : World} {x : Sc.Scr} {sa : List StV} {va : Value} (z : Sc.Sized x) (hsl : SlP (· < w.heap.size) w 36 stepL va sa) (hin : ∀ s ∈ sa, Inner (· < w.heap.size) w s) : InS w x sa va (w.alloc (.cells (scA x va) 61)) :=
 ⟨⟨Blk.new _ _ _, z⟩, hsl.below (belowA w _) (Nat.le_refl _), fun s hs => (hin s hs).below (belowA w _) (Nat.le_refl _), belowA w _⟩
theorem InS.range {w W : World} {x : Sc.Scr} {sa : List StV} {va : Value} (h : InS w x sa va W) {p : Option Addr} {n c : Nat} (hv : va = .slice p n c) {k : Nat} (hk : k < sa.length) : ∃ b off, p = some ⟨b, off, none⟩ ∧ ∀ W', InS w x sa va W' → W'.rangeAt b (off + k * 36) (stepL sa[k]) := by
 obtain ⟨q, d, e, -, -, hR, -⟩ := h.sl
 rw [hv] at e; cases e
 obtain ⟨b, off, rfl, -⟩ := hR.range hk
 refine ⟨b, off, rfl, fun W' h' => ?_⟩
 obtain ⟨q2, d2, e2, -, -, hR2, -⟩ := h'.sl
 rw [hv] at e2; cases e2
 obtain ⟨g1, f1, e1, u0⟩ := hR2.range hk
 cases e1
 exact u0
end Go.Proofs.YtdbgeobolongmaaGreatDoor
namespace Go.Proofs.YtdbgeobolongmaaGreatDoor
open Go.RowKit Go.Shelf Go.Proofs Go.OctetPlain Go.PrefixPlain
theorem showD_le {a : List UInt8} (h : a.length = 4) : (showD a).length ≤ 87 := by
 match hx : a, h with
 | [a, b, c, d], _ =>
  have := Sc.dec_le a
  have := Sc.dec_le b
  have := Sc.dec_le c
  have := Sc.dec_le d
  simp only [showD, dotJ, List.map_cons, List.map_nil, List.length_append, List.length_cons]
  omega
theorem showP_le {p : Pf} (h : p.addr.length = 16) (hl : I64 p.len) : (showP p).length ≤ 120 := by
 have h1 : (textP p).length ≤ 87 := by
  unfold textP
  split
  ·exact Nat.le_trans (ColonPlain.show_le h).2 (by decide)
  ·exact showD_le (by rw [List.length_take, h]; rfl)
 have h2 := itoa_leI hl
 unfold showP
 rw [List.length_append, List.length_cons]
 omega
structure Sml (t : Sc.Stp) : Prop where
 sb : SB t
 ws : t.ways.length ≤ 20
 tx : t.text.length ≤ 100
 h1 : t.hop.labels.length ≤ 20
 h2 : t.hop.repair.length ≤ 20
 by_ : t.bytes.length ≤ 300
 p16 : t.pf.addr.length = 16
def flw (l : List Hp.Wd) : List UInt8 := l.flatMap fun v => (32 : UInt8) :: v
theorem flw_app (a b : List Hp.Wd) : flw (a ++ b) = flw a ++ flw b := by unfold flw; rw [List.flatMap_append]
theorem flw_le {k : Nat} : ∀ {l : List Hp.Wd}, (∀ w ∈ l, w.length ≤ k) → (flw l).length ≤ l.length * (k + 1)
 | [], _ => by simp [flw]
 | w :: l, h => by
  have h1 := h w List.mem_cons_self
  have h2 := flw_le (l := l) fun v hv => h v (List.mem_cons_of_mem _ hv)
  have e : flw (w :: l) = (32 :: w) ++ flw l := rfl
  rw [e, List.length_append, List.length_cons, List.length_cons, Nat.succ_mul]
  omega
theorem showWA_few {h : Hp.Hop} (h1 : h.labels.length ≤ 20) (h2 : h.repair.length ≤ 20) : (showWA h).length ≤ 46 := by
 unfold showWA
 simp only [List.length_append, List.length_map, List.length_cons, List.length_nil]
 split <;> split <;> split <;> simp <;> omega
theorem shwA_le {t : Sc.Stp} (h : Sml t) (p : Sc.Part) : (flw (shwA p t)).length ≤ 1300 := by
 have one : ∀ {v : Hp.Wd}, v.length ≤ 1200 → (flw [v]).length ≤ 1300 := fun {v} hv => by
  have := flw_le (k := 1200) (l := [v]) (fun w hw => by rw [List.mem_singleton.1 hw]; exact hv)
  simp only [List.length_cons, List.length_nil] at this
  omega
 cases p with
 | H =>
  have e : flw (shwA .H t) = 32 :: Hp.join (showWA t.hop) := Sc.flat_spl _
  rw [e, List.length_cons]
  have v := showWA_len h.sb.hop
  have h3 := hjoin_le _ v.2
  have h4 := showWA_few h.h1 h.h2
  omega
 | A => exact one (by have := itoa_leI h.sb.a; omega)
 | N => exact one (by have := itoa_leI h.sb.n; omega)
 | O => exact one (by have := itoa_leI h.sb.o; omega)
 | Q => exact one (by have := itoa_leI h.sb.q; omega)
 | S => exact one (by
   have := itoa_leI h.sb.s1
   have := itoa_leI h.sb.s2
   simp only [Sc.dash, List.length_append, List.length_cons]
   omega)
 | P => exact one (by have := showP_le h.p16 h.sb.pl; omega)
 | T => exact one (by have := h.tx; omega)
 | B => exact one (by
   split
   ·simp
   ·have := h.by_
    rw [hex_length]
    omega)
 | W =>
  have h0 := flw_le (k := 61) (l := shwA .W t) (fun w hw => by
   obtain ⟨q, hq, rfl⟩ := List.mem_map.1 hw
   have h1 := itoa_leI (h.sb.wi q hq).1
   have h2 := itoa_leI (h.sb.wi q hq).2
   simp only [Sc.star, List.length_append, List.length_cons]
   omega)
  have h1 : (shwA .W t).length ≤ 20 := by show (t.ways.map Sc.star).length ≤ 20; rw [List.length_map]; exact h.ws
  omega
theorem flat_le {t : Sc.Stp} (h : Sml t) : ∀ (ps : List Sc.Part), (flw (ps.flatMap fun p => shwA p t)).length ≤ ps.length * 1300
 | [] => by simp [flw]
 | p :: ps => by
  have h1 := shwA_le h p
  have h2 := flat_le h ps
  rw [List.flatMap_cons, flw_app, List.length_append, List.length_cons, Nat.succ_mul]
  omega
theorem names_leK : ∀ w ∈ Sc.names, w.length ≤ 7 := by decide
theorem word_le {t : Sc.Stp} {x : Hp.Wd} (h : Sc.wordOf t = some x) : x.length ≤ 7 := by
 unfold Sc.wordOf at h
 split at h
 ·split at h
  ·cases h; decide
  ·cases h; decide
 ·split at h
  ·exact names_leK x (List.mem_of_getElem? h)
  ·cases h
theorem textA_small {t : Sc.Stp} (h : Sml t) : (textA t).length ≤ 4000 := by
 unfold textA
 cases hw : Sc.wordOf t with
 | none => exact Nat.zero_le _
 | some x =>
  have h7 := word_le hw
  have h3 := parts_le x
  have h2 := flat_le h (Sc.partsOf x)
  have h4 : (Sc.partsOf x).length * 1300 ≤ 3 * 1300 := Nat.mul_le_mul_right _ h3
  show (Hp.join (x :: (Sc.partsOf x).flatMap fun p => shwA p t)).length ≤ 4000
  rw [Sc.join_cons, List.length_append]
  unfold flw at h2
  omega
theorem textD_small {t : Sc.Stp} (h : Sml t) : (Sc.textD t).length ≤ 4000 := by
 by_cases hc : t.is = false → t.kind = 8 → Hp.checkR t.hop = 0
 ·rw [Sc.textD_eq hc]
  have : Sc.textR t = textA t := by
   unfold Sc.textR textA
   cases hw : Sc.wordOf t with
   | none => rfl
   | some x =>
    simp only
    rw [wsA_eq fun hH => hc (line_noH hw hH).1 (line_noH hw hH).2]
  rw [this]
  exact textA_small h
 ·have hb : t.is = false ∧ t.kind = 8 ∧ Hp.checkR t.hop ≠ 0 := ⟨Classical.byContradiction fun k => hc fun a => absurd a k, Classical.byContradiction fun k => hc fun _ a => absurd a k, fun k => hc fun _ _ => k⟩
  unfold Sc.textD
  rw [if_neg (by rw [hb.1]; decide), if_neg (by rw [hb.2.1]; decide), if_pos ⟨by rw [hb.2.1]; decide, hb.2.2⟩]
  exact Nat.zero_le _
theorem slA_split (a b : List UInt8) : (slA a b).toList = cellsB a ++ cellsB b := by simp [slA, cellsB]
theorem ScAt.fourR {t : TypeId} {w : World} {X : Nat} {x : Sc.Scr} {v : Value} (h : ScAt t w X x v) : w.rangeAt X 3 (cellsB x.four) := by
 have h3 := h.sl
 rw [slA_split] at h3
 intro i v hv
 exact h3 i v (by rw [List.getElem?_append_left (List.getElem?_eq_some_iff.1 hv).1]; exact hv)
theorem ScAt.sixR {t : TypeId} {w : World} {X : Nat} {x : Sc.Scr} {v : Value} (h : ScAt t w X x v) : w.rangeAt X 7 (cellsB x.six) := by
 have h3 := h.sl
 rw [slA_split] at h3
 intro i v hv
 have h4 := h3 (4 + i) v (by rw [List.getElem?_append_right (by rw [cellsB_len, h.z.four]; omega), cellsB_len, h.z.four, Nat.add_sub_cancel_left]; exact hv)
 rw [← Nat.add_assoc] at h4
 exact h4
theorem parse_code {s : List UInt8} {k : Int × Nat} (h : Sc.parseX s = .error k) : k.1 ≠ 0 := by
 unfold Sc.parseX at h
 split at h
 ·cases h; decide
 ·split at h
  ·cases h
  ·cases h; exact (by decide : (20 : Int) ≠ 0)
end Go.Proofs.YtdbgeobolongmaaGreatDoor
