/- Part of the proof: contracts of the functions that the statements of layer 32 reach. -/
import Derived.Test.YtdbgeobolongmaaGreatDoorV22
import Derived.Test.YtdbgeobolongmaaGreatDoorV30
set_option linter.unusedVariables false
set_option linter.unusedSimpArgs false
set_option maxRecDepth 100000
set_option maxHeartbeats 4000000
namespace Go.Proofs.YtdbgeobolongmaaGreatDoor
open Go.RowKit Go.Shelf Go.Proofs Go.OctetPlain Go.PrefixPlain
structure SameOK (W : World) (s : StV) : Prop where
 I : Inner (fun _ => True) W s
 p16 : s.t.pf.addr.length = 16
 nl : s.t.hop.labels.length ≤ 1073741824
 nr : s.t.hop.repair.length ≤ 1073741824
 nw : s.t.ways.length ≤ 1073741824
 nb : s.t.bytes.length ≤ 1073741824
theorem SameOK.below {W w : World} {s : StV} (h : SameOK W s) (hb : Below W.heap.size W w) : SameOK w s := ⟨h.I.below hb (Nat.le_refl _), h.p16, h.nl, h.nr, h.nw, h.nb⟩
theorem SameOK.hop {W : World} {s : StV} (h : SameOK W s) : HopIs W s.t.hop s.vl s.vr := ⟨h.nl, h.nr, h.I.l.sl, h.I.r.sl⟩
structure TwoS (W : World) (a b : StV) (g k : Nat) (w : World) : Prop where
 A : StAt w g a
 B : StAt w k b
 bel : Below W.heap.size W w
 ok : SameOK W a
 ok2 : SameOK W b
theorem TwoS.next {W w w' : World} {a b : StV} {g k : Nat} (h : TwoS W a b g k w) (hb : Below w.heap.size w w') : TwoS W a b g k w' := ⟨h.A.next hb, h.B.next hb, h.bel.trans (hb.mono h.bel.size), h.ok, h.ok2⟩
theorem wp_region_gen {P : Program} {ops : Array Oper} {id : Nat} {a : Act} {w : World} {Q : Exit → Act → World → Prop} (l : List Oper) (hl : ops.toList = l) (h : ∀ OPS : Array Oper, (∀ j : Nat, OPS[j]? = ops[j]?) → wpList P OPS Q l a w) : (Code.region id ops false).wp P Q a w :=
 wp_region_list (by rw [hl]; exact h ops fun _ => rfl)
def Fills (OPS : Array Oper) (j d : Nat) : Prop := ∃ o, OPS[j]? = some o ∧ o.dst = some d
theorem Fills.y {OPS : Array Oper} {j d : Nat} (h : Fills OPS j d) {t : Array Value} {b : Bool} (ht : t[d]? = some (.bool b)) : yielded OPS t j = some b := by
 obtain ⟨o, h1, h2⟩ := h
 unfold yielded
 rw [h1]
 simp only [Option.bind_some, h2, ht]
theorem Oper.wp_keeps {P : Program} {o : Oper} {a : Act} {w : World} {K : Act → World → Prop} {Q : Exit → Act → World → Prop} {d : Nat} (hd : o.dst ≠ some d) (h : o.wp P a w K Q) : o.wp P a w (fun a' w' => K a' w' ∧ a'.tmps[d]? = a.tmps[d]?) Q := by
 have keep : ∀ (b : Act) v, b.tmps = a.tmps → (b.put o.dst v).tmps[d]? = a.tmps[d]? := fun b v hb => by
  cases hdd : o.dst with
  | none => simp [Act.put, hb]
  | some e =>
   simp only [Act.put, hb]
   rw [Array.getElem?_setIfInBounds, if_neg (fun e2 => hd (by rw [hdd, e2]))]
 unfold Oper.wp at *
 generalize (execOp a.eval o).run P w = r at *
 cases r with
 | ok n w' =>
  cases n <;> simp only [Oper.upon] at h ⊢
  case value u => exact ⟨h, keep _ _ rfl⟩
  case skip => exact ⟨h, keep _ _ rfl⟩
  case defer q => exact ⟨h, keep _ _ rfl⟩
  case enter f args =>
   refine Calls.mono h fun e w2 he => ?_
   cases e with
   | returned u => exact ⟨he, keep _ _ rfl⟩
   | panicked c => exact he
   | outgrown => exact he
  case row row args => exact Rows.mono h fun u w2 he => ⟨he, keep _ _ rfl⟩
 | halt x w' => cases x <;> simp only [Oper.upon] at h ⊢ <;> exact h
theorem wpList_ung {P : Program} {OPS : Array Oper} {Q : Exit → Act → World → Prop} {j d : Nat} (hF : Fills OPS j d) : ∀ (l rest : List Oper) (a : Act) (w : World), (∀ o ∈ l, o.guard = some (j, true) ∧ o.dst ≠ some d) → a.tmps[d]? = some (.bool true) →
  wpList P OPS Q (l.map (fun o => { o with guard := none }) ++ rest) a w → wpList P OPS Q (l ++ rest) a w
 | [], rest, a, w, _, _, h => h
 | o :: l, rest, a, w, hl, ha, h => by
  obtain ⟨h1, h2⟩ := hl o List.mem_cons_self
  simp only [List.map_cons, List.cons_append] at h ⊢
  unfold wpList at h ⊢
  rw [if_pos (by simp [Region.wanted])] at h
  rw [if_pos (by unfold Region.wanted; rw [h1]; simp only [hF.y ha]; rfl)]
  rcases h with h | ⟨h, h'⟩
  ·refine Or.inl (Oper.wp_mono ?_ (Oper.wp_keeps (d := d) h2 (show o.wp P a w _ Q from h)))
   rintro a' w' ⟨k, e⟩
   exact wpList_ung hF l rest a' w' (fun o ho => hl o (List.mem_cons_of_mem _ ho)) (by rw [e]; exact ha) k
  ·exact Or.inr ⟨h, h'⟩
theorem wpList_off {P : Program} {OPS : Array Oper} {Q : Exit → Act → World → Prop} {j d : Nat} {o : Oper} {rest : List Oper} {a : Act} {w : World} (hF : Fills OPS j d) (hg : o.guard = some (j, true)) (ha : a.tmps[d]? = some (.bool false)) (h : wpList P OPS Q rest (a.put o.dst undef) w) : wpList P OPS Q (o :: rest) a w := by
 unfold wpList
 rw [if_neg (by unfold Region.wanted; rw [hg]; simp only [hF.y ha]; decide)]
 exact h
theorem Fills.of {ops OPS : Array Oper} (h : ∀ j : Nat, OPS[j]? = ops[j]?) {j d : Nat} {o : Oper} (h1 : ops[j]? = some o) (h2 : o.dst = some d) : Fills OPS j d := ⟨o, by rw [h, h1], h2⟩
structure TwoD (W : World) (a b : StV) (g k : Nat) (w : World) : Prop where
 A : TAt w g a
 B : TAt w k b
 bel : Below W.heap.size W w
 ok : InnerD (fun _ => True) W a ∧ a.t.pf.addr.length = 16
 ok2 : InnerD (fun _ => True) W b ∧ b.t.pf.addr.length = 16
theorem TwoD.next {W w w' : World} {a b : StV} {g k : Nat} (h : TwoD W a b g k w) (hb : Below w.heap.size w w') : TwoD W a b g k w' := ⟨h.A.next hb, h.B.next hb, h.bel.trans (hb.mono h.bel.size), h.ok, h.ok2⟩
theorem TAt.pfA {w : World} {X : Nat} {s : StV} (h : TAt w X s) : w.rangeAt X 7 (pfA s.t.pf).toList := by
 rw [← pfL_eq h.p16]; exact h.pf
theorem run_pk (p q : Int) (m n : Bool) (x y : List UInt8) (w : World) : (Op.equalIn 10000 44 (.agg #[.int .i64 p, .bool m, .string (str x)]) (.agg #[.int .i64 q, .bool n, .string (str y)])).run Tryz.prog w = .ok (decide ((p, m, x) = (q, n, y))) w := by
 have u3 := Tryz.underlying3
 have a3 := Tryz.isAgg3
 have z3 := Tryz.sizeOf3
 have u4 := Tryz.underlying4
 have a4 := Tryz.isAgg4
 have z4 := Tryz.sizeOf4
 have u9 := Tryz.underlying9
 have a9 := Tryz.isAgg9
 have z9 := Tryz.sizeOf9
 have htl := str_tl
 have hS : Tryz.prog.underlying 44 = some (.struct (Tryz.prog.fieldsOf 44)) := by kernel_rfl
 have hp : Tryz.prog.stoodInHeld 44 = false := by kernel_rfl
 rw [show (10000 : Nat) = 9999 + 1 from rfl, run_equalIn_agg w 9999 44 _ _ hS hp]
 simp only [Program.fieldsOf, Tryz.underlying44]
 go_simp
 by_cases h1 : p = q <;> by_cases h2 : m = n <;> by_cases h3 : x = y <;> simp [h1, h2, h3]
theorem segD_hw (a b : StV) (W w : World) (g k : Nat) (HT0 : TwoD W a b g k w) (h0 w0 : Bool) {OPS : Array Oper} {Q : Exit → Act → World → Prop} {rest : List Oper} (hg : Fills OPS 1 22) {y0 y1 y2 y3 y4 : TypeId} {p0 p1 p2 p3 p4 : String} {f0 f1 f2 f3 f4 : Array Edge} {u4 u7 u8 u9 u10 u11 u12 u13 u14 u15 u16 u17 u18 u19 u20 u21 u22 u23 u24 u25 u26 u27 u28 u29 u30 u31 u32 u33 u34 u35 u36 u37 u38 u39 u40 u41 u42 u43 u44 u45 u46 u47 u48 u49 u50 u51 u52 u53 u54 u55 u56 u57 u58 u59 u60 u61 u62 u63 u64 u65 u66 u67 u68 u69 u70 u71 u72 u73 u74 u75 u76 u77 u78 u79 u80 u81 u82 u83 u84 u85 u86 u87 u88 u89 u90 u91 u92 u93 u94 u95 u96 u97 u98 u99 u100 u101 : Value}
  (h : ∀ n21 n22 n23 n24 : Value, wpList Tryz.prog OPS Q rest ⟨#[.agg (stepA a), .agg (stepA b), .pointer (some ⟨g, 0, none⟩), .pointer (some ⟨k, 0, none⟩), u4, .bool h0, .bool w0, u7, u8, u9, u10, u11, u12, u13, u14, u15, u16, u17, u18, u19, u20, n21, n22, n23, n24, .bool (h0 && w0), u26, u27, u28, u29, u30, u31, u32, u33, u34, u35, u36, u37, u38, u39, u40, u41, u42, u43, u44, u45, u46, u47, u48, u49, u50, u51, u52, u53, u54, u55, u56, u57, u58, u59, u60, u61, u62, u63, u64, u65, u66, u67, u68, u69, u70, u71, u72, u73, u74, u75, u76, u77, u78, u79, u80, u81, u82, u83, u84, u85, u86, u87, u88, u89, u90, u91, u92, u93, u94, u95, u96, u97, u98, u99, u100, u101], []⟩ w) :
  wpList Tryz.prog OPS Q (⟨some 21, .move (.tmp 5), y0, p0, f0, none⟩ :: ⟨some 22, .move (.tmp 21), y1, p1, f1, none⟩ :: ⟨some 23, .move (.tmp 6), y2, p2, f2, some (1, true)⟩ :: ⟨some 24, .pick (.tmp 22) (.tmp 23) (.const (.bool false)), y3, p3, f3, none⟩ :: ⟨some 25, .move (.tmp 24), y4, p4, f4, none⟩ :: rest) ⟨#[.agg (stepA a), .agg (stepA b), .pointer (some ⟨g, 0, none⟩), .pointer (some ⟨k, 0, none⟩), u4, .bool h0, .bool w0, u7, u8, u9, u10, u11, u12, u13, u14, u15, u16, u17, u18, u19, u20, u21, u22, u23, u24, u25, u26, u27, u28, u29, u30, u31, u32, u33, u34, u35, u36, u37, u38, u39, u40, u41, u42, u43, u44, u45, u46, u47, u48, u49, u50, u51, u52, u53, u54, u55, u56, u57, u58, u59, u60, u61, u62, u63, u64, u65, u66, u67, u68, u69, u70, u71, u72, u73, u74, u75, u76, u77, u78, u79, u80, u81, u82, u83, u84, u85, u86, u87, u88, u89, u90, u91, u92, u93, u94, u95, u96, u97, u98, u99, u100, u101], []⟩ w := by
 have HT := qh HT0
 have p1 := HT0.ok.2
 have p2 := HT0.ok2.2
 have HG := qh hg
 have H := qh h
 clear h HT0 hg
 clear p1 p2
 iterate 6 go_step
 cases h0
 ·refine wpList_off HG.out rfl rfl ?_
  go_wp2_with fail
  exact H.out _ _ _ _
 ·refine wpList_ung HG.out [_] _ _ _ (by simp) rfl ?_
  simp only [List.map_cons, List.map_nil, List.cons_append, List.nil_append]
  go_wp2_with fail
  exact H.out _ _ _ _
theorem segD_is (a b : StV) (W w : World) (g k : Nat) (HT0 : TwoD W a b g k w) (c : Bool) {OPS : Array Oper} {Q : Exit → Act → World → Prop} {rest : List Oper} (hg : Fills OPS 4 25) {y0 y1 y2 y3 y4 y5 y6 : TypeId} {p0 p1 p2 p3 p4 p5 p6 : String} {f0 f1 f2 f3 f4 f5 f6 : Array Edge} {u4 u5 u6 u7 u8 u9 u10 u11 u12 u13 u14 u15 u16 u17 u18 u19 u20 u21 u22 u23 u24 u26 u27 u28 u29 u30 u31 u32 u33 u34 u35 u36 u37 u38 u39 u40 u41 u42 u43 u44 u45 u46 u47 u48 u49 u50 u51 u52 u53 u54 u55 u56 u57 u58 u59 u60 u61 u62 u63 u64 u65 u66 u67 u68 u69 u70 u71 u72 u73 u74 u75 u76 u77 u78 u79 u80 u81 u82 u83 u84 u85 u86 u87 u88 u89 u90 u91 u92 u93 u94 u95 u96 u97 u98 u99 u100 u101 : Value}
  (h : ∀ n26 n27 n28 n29 n30 n31 : Value, wpList Tryz.prog OPS Q rest ⟨#[.agg (stepA a), .agg (stepA b), .pointer (some ⟨g, 0, none⟩), .pointer (some ⟨k, 0, none⟩), u4, u5, u6, u7, u8, u9, u10, u11, u12, u13, u14, u15, u16, u17, u18, u19, u20, u21, u22, u23, u24, .bool c, n26, n27, n28, n29, n30, n31, .bool (c && (a.t.is == b.t.is)), u33, u34, u35, u36, u37, u38, u39, u40, u41, u42, u43, u44, u45, u46, u47, u48, u49, u50, u51, u52, u53, u54, u55, u56, u57, u58, u59, u60, u61, u62, u63, u64, u65, u66, u67, u68, u69, u70, u71, u72, u73, u74, u75, u76, u77, u78, u79, u80, u81, u82, u83, u84, u85, u86, u87, u88, u89, u90, u91, u92, u93, u94, u95, u96, u97, u98, u99, u100, u101], []⟩ w) :
  wpList Tryz.prog OPS Q (⟨some 26, .fieldAddr 46 (.tmp 2) 0, y0, p0, f0, some (4, true)⟩ :: ⟨some 27, .load 4 (.tmp 26), y1, p1, f1, some (4, true)⟩ :: ⟨some 28, .fieldAddr 46 (.tmp 3) 0, y2, p2, f2, some (4, true)⟩ :: ⟨some 29, .load 4 (.tmp 28), y3, p3, f3, some (4, true)⟩ :: ⟨some 30, .binOp .eql 4 (.tmp 27) (.tmp 29) 4, y4, p4, f4, some (4, true)⟩ :: ⟨some 31, .pick (.tmp 25) (.tmp 30) (.const (.bool false)), y5, p5, f5, none⟩ :: ⟨some 32, .move (.tmp 31), y6, p6, f6, none⟩ :: rest) ⟨#[.agg (stepA a), .agg (stepA b), .pointer (some ⟨g, 0, none⟩), .pointer (some ⟨k, 0, none⟩), u4, u5, u6, u7, u8, u9, u10, u11, u12, u13, u14, u15, u16, u17, u18, u19, u20, u21, u22, u23, u24, .bool c, u26, u27, u28, u29, u30, u31, u32, u33, u34, u35, u36, u37, u38, u39, u40, u41, u42, u43, u44, u45, u46, u47, u48, u49, u50, u51, u52, u53, u54, u55, u56, u57, u58, u59, u60, u61, u62, u63, u64, u65, u66, u67, u68, u69, u70, u71, u72, u73, u74, u75, u76, u77, u78, u79, u80, u81, u82, u83, u84, u85, u86, u87, u88, u89, u90, u91, u92, u93, u94, u95, u96, u97, u98, u99, u100, u101], []⟩ w := by
 have HT := qh HT0
 have p1 := HT0.ok.2
 have p2 := HT0.ok2.2
 have HG := qh hg
 have H := qh h
 clear h HT0 hg
 have cA0 := HT.out.A.c0
 have cB0 := HT.out.B.c0
 clear p1 p2
 cases c
 ·refine wpList_off HG.out rfl rfl ?_; refine wpList_off HG.out rfl rfl ?_; refine wpList_off HG.out rfl rfl ?_; refine wpList_off HG.out rfl rfl ?_; refine wpList_off HG.out rfl rfl ?_
  go_wp2_with fail
  exact H.out _ _ _ _ _ _
 ·refine wpList_ung HG.out [_, _, _, _, _] _ _ _ (by simp) rfl ?_
  simp only [List.map_cons, List.map_nil, List.cons_append, List.nil_append]
  go_wp2_with fail
  exact H.out _ _ _ _ _ _
theorem segD_pk (a b : StV) (W w : World) (g k : Nat) (HT0 : TwoD W a b g k w) (c : Bool) {OPS : Array Oper} {Q : Exit → Act → World → Prop} {rest : List Oper} (hg : Fills OPS 11 32) {y0 y1 y2 y3 y4 y5 y6 : TypeId} {p0 p1 p2 p3 p4 p5 p6 : String} {f0 f1 f2 f3 f4 f5 f6 : Array Edge} {u4 u5 u6 u7 u8 u9 u10 u11 u12 u13 u14 u15 u16 u17 u18 u19 u20 u21 u22 u23 u24 u25 u26 u27 u28 u29 u30 u31 u33 u34 u35 u36 u37 u38 u39 u40 u41 u42 u43 u44 u45 u46 u47 u48 u49 u50 u51 u52 u53 u54 u55 u56 u57 u58 u59 u60 u61 u62 u63 u64 u65 u66 u67 u68 u69 u70 u71 u72 u73 u74 u75 u76 u77 u78 u79 u80 u81 u82 u83 u84 u85 u86 u87 u88 u89 u90 u91 u92 u93 u94 u95 u96 u97 u98 u99 u100 u101 : Value}
  (h : ∀ n33 n34 n35 n36 n37 n38 : Value, wpList Tryz.prog OPS Q rest ⟨#[.agg (stepA a), .agg (stepA b), .pointer (some ⟨g, 0, none⟩), .pointer (some ⟨k, 0, none⟩), u4, u5, u6, u7, u8, u9, u10, u11, u12, u13, u14, u15, u16, u17, u18, u19, u20, u21, u22, u23, u24, u25, u26, u27, u28, u29, u30, u31, .bool c, n33, n34, n35, n36, n37, n38, .bool (c && (decide ((a.t.port, a.t.mpls, a.t.bytes) = (b.t.port, b.t.mpls, b.t.bytes)))), u40, u41, u42, u43, u44, u45, u46, u47, u48, u49, u50, u51, u52, u53, u54, u55, u56, u57, u58, u59, u60, u61, u62, u63, u64, u65, u66, u67, u68, u69, u70, u71, u72, u73, u74, u75, u76, u77, u78, u79, u80, u81, u82, u83, u84, u85, u86, u87, u88, u89, u90, u91, u92, u93, u94, u95, u96, u97, u98, u99, u100, u101], []⟩ w) :
  wpList Tryz.prog OPS Q (⟨some 33, .fieldAddr 46 (.tmp 2) 2, y0, p0, f0, some (11, true)⟩ :: ⟨some 34, .load 44 (.tmp 33), y1, p1, f1, some (11, true)⟩ :: ⟨some 35, .fieldAddr 46 (.tmp 3) 2, y2, p2, f2, some (11, true)⟩ :: ⟨some 36, .load 44 (.tmp 35), y3, p3, f3, some (11, true)⟩ :: ⟨some 37, .binOp .eql 44 (.tmp 34) (.tmp 36) 44, y4, p4, f4, some (11, true)⟩ :: ⟨some 38, .pick (.tmp 32) (.tmp 37) (.const (.bool false)), y5, p5, f5, none⟩ :: ⟨some 39, .move (.tmp 38), y6, p6, f6, none⟩ :: rest) ⟨#[.agg (stepA a), .agg (stepA b), .pointer (some ⟨g, 0, none⟩), .pointer (some ⟨k, 0, none⟩), u4, u5, u6, u7, u8, u9, u10, u11, u12, u13, u14, u15, u16, u17, u18, u19, u20, u21, u22, u23, u24, u25, u26, u27, u28, u29, u30, u31, .bool c, u33, u34, u35, u36, u37, u38, u39, u40, u41, u42, u43, u44, u45, u46, u47, u48, u49, u50, u51, u52, u53, u54, u55, u56, u57, u58, u59, u60, u61, u62, u63, u64, u65, u66, u67, u68, u69, u70, u71, u72, u73, u74, u75, u76, u77, u78, u79, u80, u81, u82, u83, u84, u85, u86, u87, u88, u89, u90, u91, u92, u93, u94, u95, u96, u97, u98, u99, u100, u101], []⟩ w := by
 have HT := qh HT0
 have p1 := HT0.ok.2
 have p2 := HT0.ok2.2
 have HG := qh hg
 have H := qh h
 clear h HT0 hg
 have cA33 := HT.out.A.c33
 have cB33 := HT.out.B.c33
 have cA34 := HT.out.A.c34
 have cB34 := HT.out.B.c34
 have cA35 := HT.out.A.c35
 have cB35 := HT.out.B.c35
 rw [HT.out.ok.1.b] at cA35
 rw [HT.out.ok2.1.b] at cB35
 have hsp := fun w => run_pk a.t.port b.t.port a.t.mpls b.t.mpls a.t.bytes b.t.bytes w
 have hgs := fun w op x y => GuardAt.agg (P := Tryz.prog) (T := 44) (fun c : Array Value => c) (by kernel_rfl) op x y #[.int .i64 a.t.port, .bool a.t.mpls, .string (str a.t.bytes)] #[.int .i64 b.t.port, .bool b.t.mpls, .string (str b.t.bytes)] w
 generalize decide ((a.t.port, a.t.mpls, a.t.bytes) = (b.t.port, b.t.mpls, b.t.bytes)) = v at *
 clear p1 p2
 cases c
 ·refine wpList_off HG.out rfl rfl ?_; refine wpList_off HG.out rfl rfl ?_; refine wpList_off HG.out rfl rfl ?_; refine wpList_off HG.out rfl rfl ?_; refine wpList_off HG.out rfl rfl ?_
  go_wp2_with fail
  exact H.out _ _ _ _ _ _
 ·refine wpList_ung HG.out [_, _, _, _, _] _ _ _ (by simp) rfl ?_
  simp only [List.map_cons, List.map_nil, List.cons_append, List.nil_append]
  go_wp2_with fail
  exact H.out _ _ _ _ _ _
theorem segD_kind (a b : StV) (W w : World) (g k : Nat) (HT0 : TwoD W a b g k w) (c : Bool) {OPS : Array Oper} {Q : Exit → Act → World → Prop} {rest : List Oper} (hg : Fills OPS 18 39) {y0 y1 y2 y3 y4 y5 y6 y7 y8 : TypeId} {p0 p1 p2 p3 p4 p5 p6 p7 p8 : String} {f0 f1 f2 f3 f4 f5 f6 f7 f8 : Array Edge} {u4 u5 u6 u7 u8 u9 u10 u11 u12 u13 u14 u15 u16 u17 u18 u19 u20 u21 u22 u23 u24 u25 u26 u27 u28 u29 u30 u31 u32 u33 u34 u35 u36 u37 u38 u40 u41 u42 u43 u44 u45 u46 u47 u48 u49 u50 u51 u52 u53 u54 u55 u56 u57 u58 u59 u60 u61 u62 u63 u64 u65 u66 u67 u68 u69 u70 u71 u72 u73 u74 u75 u76 u77 u78 u79 u80 u81 u82 u83 u84 u85 u86 u87 u88 u89 u90 u91 u92 u93 u94 u95 u96 u97 u98 u99 u100 u101 : Value}
  (h : ∀ n40 n41 n42 n43 n44 n45 n46 n47 : Value, wpList Tryz.prog OPS Q rest ⟨#[.agg (stepA a), .agg (stepA b), .pointer (some ⟨g, 0, none⟩), .pointer (some ⟨k, 0, none⟩), u4, u5, u6, u7, u8, u9, u10, u11, u12, u13, u14, u15, u16, u17, u18, u19, u20, u21, u22, u23, u24, u25, u26, u27, u28, u29, u30, u31, u32, u33, u34, u35, u36, u37, u38, .bool c, n40, n41, n42, n43, n44, n45, n46, n47, .bool (c && (a.t.kind == b.t.kind)), u49, u50, u51, u52, u53, u54, u55, u56, u57, u58, u59, u60, u61, u62, u63, u64, u65, u66, u67, u68, u69, u70, u71, u72, u73, u74, u75, u76, u77, u78, u79, u80, u81, u82, u83, u84, u85, u86, u87, u88, u89, u90, u91, u92, u93, u94, u95, u96, u97, u98, u99, u100, u101], []⟩ w) :
  wpList Tryz.prog OPS Q (⟨some 40, .fieldAddr 46 (.tmp 2) 1, y0, p0, f0, some (18, true)⟩ :: ⟨some 41, .fieldAddr 42 (.tmp 40) 0, y1, p1, f1, some (18, true)⟩ :: ⟨some 42, .load 3 (.tmp 41), y2, p2, f2, some (18, true)⟩ :: ⟨some 43, .fieldAddr 46 (.tmp 3) 1, y3, p3, f3, some (18, true)⟩ :: ⟨some 44, .fieldAddr 42 (.tmp 43) 0, y4, p4, f4, some (18, true)⟩ :: ⟨some 45, .load 3 (.tmp 44), y5, p5, f5, some (18, true)⟩ :: ⟨some 46, .binOp .eql 3 (.tmp 42) (.tmp 45) 3, y6, p6, f6, some (18, true)⟩ :: ⟨some 47, .pick (.tmp 39) (.tmp 46) (.const (.bool false)), y7, p7, f7, none⟩ :: ⟨some 48, .move (.tmp 47), y8, p8, f8, none⟩ :: rest) ⟨#[.agg (stepA a), .agg (stepA b), .pointer (some ⟨g, 0, none⟩), .pointer (some ⟨k, 0, none⟩), u4, u5, u6, u7, u8, u9, u10, u11, u12, u13, u14, u15, u16, u17, u18, u19, u20, u21, u22, u23, u24, u25, u26, u27, u28, u29, u30, u31, u32, u33, u34, u35, u36, u37, u38, .bool c, u40, u41, u42, u43, u44, u45, u46, u47, u48, u49, u50, u51, u52, u53, u54, u55, u56, u57, u58, u59, u60, u61, u62, u63, u64, u65, u66, u67, u68, u69, u70, u71, u72, u73, u74, u75, u76, u77, u78, u79, u80, u81, u82, u83, u84, u85, u86, u87, u88, u89, u90, u91, u92, u93, u94, u95, u96, u97, u98, u99, u100, u101], []⟩ w := by
 have HT := qh HT0
 have p1 := HT0.ok.2
 have p2 := HT0.ok2.2
 have HG := qh hg
 have H := qh h
 clear h HT0 hg
 have cA1 := HT.out.A.c1
 have cB1 := HT.out.B.c1
 clear p1 p2
 cases c
 ·refine wpList_off HG.out rfl rfl ?_; refine wpList_off HG.out rfl rfl ?_; refine wpList_off HG.out rfl rfl ?_; refine wpList_off HG.out rfl rfl ?_; refine wpList_off HG.out rfl rfl ?_; refine wpList_off HG.out rfl rfl ?_; refine wpList_off HG.out rfl rfl ?_
  go_wp2_with fail
  exact H.out _ _ _ _ _ _ _ _
 ·refine wpList_ung HG.out [_, _, _, _, _, _, _] _ _ _ (by simp) rfl ?_
  simp only [List.map_cons, List.map_nil, List.cons_append, List.nil_append]
  go_wp2_with fail
  exact H.out _ _ _ _ _ _ _ _
theorem segD_a (a b : StV) (W w : World) (g k : Nat) (HT0 : TwoD W a b g k w) (c : Bool) {OPS : Array Oper} {Q : Exit → Act → World → Prop} {rest : List Oper} (hg : Fills OPS 27 48) {y0 y1 y2 y3 y4 y5 y6 y7 y8 : TypeId} {p0 p1 p2 p3 p4 p5 p6 p7 p8 : String} {f0 f1 f2 f3 f4 f5 f6 f7 f8 : Array Edge} {u4 u5 u6 u7 u8 u9 u10 u11 u12 u13 u14 u15 u16 u17 u18 u19 u20 u21 u22 u23 u24 u25 u26 u27 u28 u29 u30 u31 u32 u33 u34 u35 u36 u37 u38 u39 u40 u41 u42 u43 u44 u45 u46 u47 u49 u50 u51 u52 u53 u54 u55 u56 u57 u58 u59 u60 u61 u62 u63 u64 u65 u66 u67 u68 u69 u70 u71 u72 u73 u74 u75 u76 u77 u78 u79 u80 u81 u82 u83 u84 u85 u86 u87 u88 u89 u90 u91 u92 u93 u94 u95 u96 u97 u98 u99 u100 u101 : Value}
  (h : ∀ n49 n50 n51 n52 n53 n54 n55 n56 : Value, wpList Tryz.prog OPS Q rest ⟨#[.agg (stepA a), .agg (stepA b), .pointer (some ⟨g, 0, none⟩), .pointer (some ⟨k, 0, none⟩), u4, u5, u6, u7, u8, u9, u10, u11, u12, u13, u14, u15, u16, u17, u18, u19, u20, u21, u22, u23, u24, u25, u26, u27, u28, u29, u30, u31, u32, u33, u34, u35, u36, u37, u38, u39, u40, u41, u42, u43, u44, u45, u46, u47, .bool c, n49, n50, n51, n52, n53, n54, n55, n56, .bool (c && (a.t.a == b.t.a)), u58, u59, u60, u61, u62, u63, u64, u65, u66, u67, u68, u69, u70, u71, u72, u73, u74, u75, u76, u77, u78, u79, u80, u81, u82, u83, u84, u85, u86, u87, u88, u89, u90, u91, u92, u93, u94, u95, u96, u97, u98, u99, u100, u101], []⟩ w) :
  wpList Tryz.prog OPS Q (⟨some 49, .fieldAddr 46 (.tmp 2) 1, y0, p0, f0, some (27, true)⟩ :: ⟨some 50, .fieldAddr 42 (.tmp 49) 1, y1, p1, f1, some (27, true)⟩ :: ⟨some 51, .load 3 (.tmp 50), y2, p2, f2, some (27, true)⟩ :: ⟨some 52, .fieldAddr 46 (.tmp 3) 1, y3, p3, f3, some (27, true)⟩ :: ⟨some 53, .fieldAddr 42 (.tmp 52) 1, y4, p4, f4, some (27, true)⟩ :: ⟨some 54, .load 3 (.tmp 53), y5, p5, f5, some (27, true)⟩ :: ⟨some 55, .binOp .eql 3 (.tmp 51) (.tmp 54) 3, y6, p6, f6, some (27, true)⟩ :: ⟨some 56, .pick (.tmp 48) (.tmp 55) (.const (.bool false)), y7, p7, f7, none⟩ :: ⟨some 57, .move (.tmp 56), y8, p8, f8, none⟩ :: rest) ⟨#[.agg (stepA a), .agg (stepA b), .pointer (some ⟨g, 0, none⟩), .pointer (some ⟨k, 0, none⟩), u4, u5, u6, u7, u8, u9, u10, u11, u12, u13, u14, u15, u16, u17, u18, u19, u20, u21, u22, u23, u24, u25, u26, u27, u28, u29, u30, u31, u32, u33, u34, u35, u36, u37, u38, u39, u40, u41, u42, u43, u44, u45, u46, u47, .bool c, u49, u50, u51, u52, u53, u54, u55, u56, u57, u58, u59, u60, u61, u62, u63, u64, u65, u66, u67, u68, u69, u70, u71, u72, u73, u74, u75, u76, u77, u78, u79, u80, u81, u82, u83, u84, u85, u86, u87, u88, u89, u90, u91, u92, u93, u94, u95, u96, u97, u98, u99, u100, u101], []⟩ w := by
 have HT := qh HT0
 have p1 := HT0.ok.2
 have p2 := HT0.ok2.2
 have HG := qh hg
 have H := qh h
 clear h HT0 hg
 have cA2 := HT.out.A.c2
 have cB2 := HT.out.B.c2
 clear p1 p2
 cases c
 ·refine wpList_off HG.out rfl rfl ?_; refine wpList_off HG.out rfl rfl ?_; refine wpList_off HG.out rfl rfl ?_; refine wpList_off HG.out rfl rfl ?_; refine wpList_off HG.out rfl rfl ?_; refine wpList_off HG.out rfl rfl ?_; refine wpList_off HG.out rfl rfl ?_
  go_wp2_with fail
  exact H.out _ _ _ _ _ _ _ _
 ·refine wpList_ung HG.out [_, _, _, _, _, _, _] _ _ _ (by simp) rfl ?_
  simp only [List.map_cons, List.map_nil, List.cons_append, List.nil_append]
  go_wp2_with fail
  exact H.out _ _ _ _ _ _ _ _
end Go.Proofs.YtdbgeobolongmaaGreatDoor
