/- Part of the proof: contracts of the functions that the statements of layer 32 reach. -/
import Derived.Test.YtdbgeobolongmaaGreatDoorV31
import Derived.Test.YtdbgeobolongmaaGreatDoorV32
import Derived.Test.YtdbgeobolongmaaGreatDoorV33
set_option linter.unusedVariables false
set_option linter.unusedSimpArgs false
set_option maxRecDepth 100000
set_option maxHeartbeats 4000000
namespace Go.Proofs.YtdbgeobolongmaaGreatDoor
open Go.RowKit Go.Shelf Go.Proofs Go.OctetPlain Go.PrefixPlain
theorem seg_hop (a b : StV) (W w : World) (g k : Nat) (HT0 : TwoS W a b g k w) (c : Bool) {OPS : Array Oper} {Q : Exit → Act → World → Prop} {rest : List Oper} (hg : Fills OPS 68 73) {y0 y1 y2 y3 y4 y5 y6 y7 y8 : TypeId} {p0 p1 p2 p3 p4 p5 p6 p7 p8 : String} {f0 f1 f2 f3 f4 f5 f6 f7 f8 : Array Edge} {u4 u5 u6 u7 u8 u9 u10 u11 u12 u13 u14 u15 u16 u17 u18 u19 u20 u21 u22 u23 u24 u25 u26 u27 u28 u29 u30 u31 u32 u33 u34 u35 u36 u37 u38 u39 u40 u41 u42 u43 u44 u45 u46 u47 u48 u49 u50 u51 u52 u53 u54 u55 u56 u57 u58 u59 u60 u61 u62 u63 u64 u65 u66 u67 u68 u69 u70 u71 u72 u74 u75 u76 u77 u78 u79 u80 u81 u82 u83 u84 u85 u86 u87 u88 u89 u90 u91 u92 u93 u94 u95 u96 u97 u98 u99 u100 u101 u102 u103 u104 u105 u106 u107 u108 u109 u110 u111 u112 u113 u114 u115 u116 u117 : Value}
  (h : ∀ w', TwoS W a b g k w' → ∀ n74 n75 n76 n77 n78 n79 n80 n81 : Value, wpList Tryz.prog OPS Q rest ⟨#[.agg (stepA a), .agg (stepA b), .pointer (some ⟨g, 0, none⟩), .pointer (some ⟨k, 0, none⟩), u4, u5, u6, u7, u8, u9, u10, u11, u12, u13, u14, u15, u16, u17, u18, u19, u20, u21, u22, u23, u24, u25, u26, u27, u28, u29, u30, u31, u32, u33, u34, u35, u36, u37, u38, u39, u40, u41, u42, u43, u44, u45, u46, u47, u48, u49, u50, u51, u52, u53, u54, u55, u56, u57, u58, u59, u60, u61, u62, u63, u64, u65, u66, u67, u68, u69, u70, u71, u72, .bool c, n74, n75, n76, n77, n78, n79, n80, n81, .bool (c && (decide (a.t.hop = b.t.hop))), u83, u84, u85, u86, u87, u88, u89, u90, u91, u92, u93, u94, u95, u96, u97, u98, u99, u100, u101, u102, u103, u104, u105, u106, u107, u108, u109, u110, u111, u112, u113, u114, u115, u116, u117], []⟩ w') :
  wpList Tryz.prog OPS Q (⟨some 74, .fieldAddr 37 (.tmp 2) 1, y0, p0, f0, some (68, true)⟩ :: ⟨some 75, .fieldAddr 32 (.tmp 74) 6, y1, p1, f1, some (68, true)⟩ :: ⟨some 76, .load 29 (.tmp 75), y2, p2, f2, some (68, true)⟩ :: ⟨some 77, .fieldAddr 37 (.tmp 3) 1, y3, p3, f3, some (68, true)⟩ :: ⟨some 78, .fieldAddr 32 (.tmp 77) 6, y4, p4, f4, some (68, true)⟩ :: ⟨some 79, .load 29 (.tmp 78), y5, p5, f5, some (68, true)⟩ :: ⟨some 80, .call { callee := .value (.func 73), args := #[.tmp 76, .tmp 79], argTypes := #[29, 29] }, y6, p6, f6, some (68, true)⟩ :: ⟨some 81, .pick (.tmp 73) (.tmp 80) (.const (.bool false)), y7, p7, f7, none⟩ :: ⟨some 82, .move (.tmp 81), y8, p8, f8, none⟩ :: rest) ⟨#[.agg (stepA a), .agg (stepA b), .pointer (some ⟨g, 0, none⟩), .pointer (some ⟨k, 0, none⟩), u4, u5, u6, u7, u8, u9, u10, u11, u12, u13, u14, u15, u16, u17, u18, u19, u20, u21, u22, u23, u24, u25, u26, u27, u28, u29, u30, u31, u32, u33, u34, u35, u36, u37, u38, u39, u40, u41, u42, u43, u44, u45, u46, u47, u48, u49, u50, u51, u52, u53, u54, u55, u56, u57, u58, u59, u60, u61, u62, u63, u64, u65, u66, u67, u68, u69, u70, u71, u72, .bool c, u74, u75, u76, u77, u78, u79, u80, u81, u82, u83, u84, u85, u86, u87, u88, u89, u90, u91, u92, u93, u94, u95, u96, u97, u98, u99, u100, u101, u102, u103, u104, u105, u106, u107, u108, u109, u110, u111, u112, u113, u114, u115, u116, u117], []⟩ w := by
 have HT := qh HT0
 have p1 := HT0.ok.p16
 have p2 := HT0.ok2.p16
 have HG := qh hg
 have H := qh h
 clear h HT0 hg
 have HC := qh (hop_Same a.t.hop b.t.hop a.vl a.vr b.vl b.vr w (HT.out.ok.below HT.out.bel).hop (HT.out.ok2.below HT.out.bel).hop)
 have HRA := qh HT.out.A.hop
 have HRB := qh HT.out.B.hop
 have HIA := qh (infoHL a.t.hop a.vl a.vr)
 have HIB := qh (infoHL b.t.hop b.vl b.vr)
 rw [← hopL_eq, ← hopL_eq] at HC
 generalize hopL a.t.hop a.vl a.vr = PA at *
 generalize hopL b.t.hop b.vl b.vr = PB at *
 clear p1 p2
 cases c
 ·refine wpList_off HG.out rfl rfl ?_; refine wpList_off HG.out rfl rfl ?_; refine wpList_off HG.out rfl rfl ?_; refine wpList_off HG.out rfl rfl ?_; refine wpList_off HG.out rfl rfl ?_; refine wpList_off HG.out rfl rfl ?_; refine wpList_off HG.out rfl rfl ?_
  go_wp2_with fail
  exact H.out w HT.out _ _ _ _ _ _ _ _
 ·refine wpList_ung HG.out [_, _, _, _, _, _, _] _ _ _ (by simp) rfl ?_
  simp only [List.map_cons, List.map_nil, List.cons_append, List.nil_append]
  go_wp2_with (first
   | (refine wpList_load_mid rfl _ (.tmp 75) (by rfl) g 25 (by rfl) PA _ HRA.out Tryz.underlying29 rfl HIA.out ?_)
   | (refine wpList_load_mid rfl _ (.tmp 78) (by rfl) k 25 (by rfl) PB _ HRB.out Tryz.underlying29 rfl HIB.out ?_))
  refine HC.out.mono ?_
  rintro e w1 ⟨rfl, hb1⟩
  replace HT := qh (HT.out.next hb1)
  clear hb1
  go_wp2_with fail
  exact H.out _ HT.out _ _ _ _ _ _ _ _
theorem seg_ways (a b : StV) (W w : World) (g k : Nat) (HT0 : TwoS W a b g k w) (c : Bool) {OPS : Array Oper} {Q : Exit → Act → World → Prop} {rest : List Oper} (hg : Fills OPS 77 82) {y0 y1 y2 y3 y4 y5 y6 y7 y8 : TypeId} {p0 p1 p2 p3 p4 p5 p6 p7 p8 : String} {f0 f1 f2 f3 f4 f5 f6 f7 f8 : Array Edge} {u4 u5 u6 u7 u8 u9 u10 u11 u12 u13 u14 u15 u16 u17 u18 u19 u20 u21 u22 u23 u24 u25 u26 u27 u28 u29 u30 u31 u32 u33 u34 u35 u36 u37 u38 u39 u40 u41 u42 u43 u44 u45 u46 u47 u48 u49 u50 u51 u52 u53 u54 u55 u56 u57 u58 u59 u60 u61 u62 u63 u64 u65 u66 u67 u68 u69 u70 u71 u72 u73 u74 u75 u76 u77 u78 u79 u80 u81 u83 u84 u85 u86 u87 u88 u89 u90 u91 u92 u93 u94 u95 u96 u97 u98 u99 u100 u101 u102 u103 u104 u105 u106 u107 u108 u109 u110 u111 u112 u113 u114 u115 u116 u117 : Value}
  (h : ∀ w', TwoS W a b g k w' → ∀ n83 n84 n85 n86 n87 n88 n89 n90 : Value, wpList Tryz.prog OPS Q rest ⟨#[.agg (stepA a), .agg (stepA b), .pointer (some ⟨g, 0, none⟩), .pointer (some ⟨k, 0, none⟩), u4, u5, u6, u7, u8, u9, u10, u11, u12, u13, u14, u15, u16, u17, u18, u19, u20, u21, u22, u23, u24, u25, u26, u27, u28, u29, u30, u31, u32, u33, u34, u35, u36, u37, u38, u39, u40, u41, u42, u43, u44, u45, u46, u47, u48, u49, u50, u51, u52, u53, u54, u55, u56, u57, u58, u59, u60, u61, u62, u63, u64, u65, u66, u67, u68, u69, u70, u71, u72, u73, u74, u75, u76, u77, u78, u79, u80, u81, .bool c, n83, n84, n85, n86, n87, n88, n89, n90, .bool (c && (decide (a.t.ways = b.t.ways))), u92, u93, u94, u95, u96, u97, u98, u99, u100, u101, u102, u103, u104, u105, u106, u107, u108, u109, u110, u111, u112, u113, u114, u115, u116, u117], []⟩ w') :
  wpList Tryz.prog OPS Q (⟨some 83, .fieldAddr 37 (.tmp 2) 1, y0, p0, f0, some (77, true)⟩ :: ⟨some 84, .fieldAddr 32 (.tmp 83) 7, y1, p1, f1, some (77, true)⟩ :: ⟨some 85, .load 30 (.tmp 84), y2, p2, f2, some (77, true)⟩ :: ⟨some 86, .fieldAddr 37 (.tmp 3) 1, y3, p3, f3, some (77, true)⟩ :: ⟨some 87, .fieldAddr 32 (.tmp 86) 7, y4, p4, f4, some (77, true)⟩ :: ⟨some 88, .load 30 (.tmp 87), y5, p5, f5, some (77, true)⟩ :: ⟨some 89, .call { callee := .value (.func 74), args := #[.tmp 85, .tmp 88], argTypes := #[30, 30] }, y6, p6, f6, some (77, true)⟩ :: ⟨some 90, .pick (.tmp 82) (.tmp 89) (.const (.bool false)), y7, p7, f7, none⟩ :: ⟨some 91, .move (.tmp 90), y8, p8, f8, none⟩ :: rest) ⟨#[.agg (stepA a), .agg (stepA b), .pointer (some ⟨g, 0, none⟩), .pointer (some ⟨k, 0, none⟩), u4, u5, u6, u7, u8, u9, u10, u11, u12, u13, u14, u15, u16, u17, u18, u19, u20, u21, u22, u23, u24, u25, u26, u27, u28, u29, u30, u31, u32, u33, u34, u35, u36, u37, u38, u39, u40, u41, u42, u43, u44, u45, u46, u47, u48, u49, u50, u51, u52, u53, u54, u55, u56, u57, u58, u59, u60, u61, u62, u63, u64, u65, u66, u67, u68, u69, u70, u71, u72, u73, u74, u75, u76, u77, u78, u79, u80, u81, .bool c, u83, u84, u85, u86, u87, u88, u89, u90, u91, u92, u93, u94, u95, u96, u97, u98, u99, u100, u101, u102, u103, u104, u105, u106, u107, u108, u109, u110, u111, u112, u113, u114, u115, u116, u117], []⟩ w := by
 have HT := qh HT0
 have p1 := HT0.ok.p16
 have p2 := HT0.ok2.p16
 have HG := qh hg
 have H := qh h
 clear h HT0 hg
 have cA31 := HT.out.A.c31
 have cB31 := HT.out.B.c31
 have HC := qh (equalW_any a.t.ways b.t.ways HT.out.ok.nw HT.out.ok2.nw a.vw b.vw w (HT.out.ok.below HT.out.bel).I.ws.sl (HT.out.ok2.below HT.out.bel).I.ws.sl)
 clear p1 p2
 cases c
 ·refine wpList_off HG.out rfl rfl ?_; refine wpList_off HG.out rfl rfl ?_; refine wpList_off HG.out rfl rfl ?_; refine wpList_off HG.out rfl rfl ?_; refine wpList_off HG.out rfl rfl ?_; refine wpList_off HG.out rfl rfl ?_; refine wpList_off HG.out rfl rfl ?_
  go_wp2_with fail
  exact H.out w HT.out _ _ _ _ _ _ _ _
 ·refine wpList_ung HG.out [_, _, _, _, _, _, _] _ _ _ (by simp) rfl ?_
  simp only [List.map_cons, List.map_nil, List.cons_append, List.nil_append]
  go_wp2_with fail
  refine HC.out.mono ?_
  rintro e w1 ⟨rfl, hb1⟩
  replace HT := qh (HT.out.next hb1)
  clear hb1
  go_wp2_with fail
  exact H.out _ HT.out _ _ _ _ _ _ _ _
theorem seg_port (a b : StV) (W w : World) (g k : Nat) (HT0 : TwoS W a b g k w) (c : Bool) {OPS : Array Oper} {Q : Exit → Act → World → Prop} {rest : List Oper} (hg : Fills OPS 86 91) {y0 y1 y2 y3 y4 y5 y6 y7 y8 : TypeId} {p0 p1 p2 p3 p4 p5 p6 p7 p8 : String} {f0 f1 f2 f3 f4 f5 f6 f7 f8 : Array Edge} {u4 u5 u6 u7 u8 u9 u10 u11 u12 u13 u14 u15 u16 u17 u18 u19 u20 u21 u22 u23 u24 u25 u26 u27 u28 u29 u30 u31 u32 u33 u34 u35 u36 u37 u38 u39 u40 u41 u42 u43 u44 u45 u46 u47 u48 u49 u50 u51 u52 u53 u54 u55 u56 u57 u58 u59 u60 u61 u62 u63 u64 u65 u66 u67 u68 u69 u70 u71 u72 u73 u74 u75 u76 u77 u78 u79 u80 u81 u82 u83 u84 u85 u86 u87 u88 u89 u90 u92 u93 u94 u95 u96 u97 u98 u99 u100 u101 u102 u103 u104 u105 u106 u107 u108 u109 u110 u111 u112 u113 u114 u115 u116 u117 : Value}
  (h : ∀ n92 n93 n94 n95 n96 n97 n98 n99 : Value, wpList Tryz.prog OPS Q rest ⟨#[.agg (stepA a), .agg (stepA b), .pointer (some ⟨g, 0, none⟩), .pointer (some ⟨k, 0, none⟩), u4, u5, u6, u7, u8, u9, u10, u11, u12, u13, u14, u15, u16, u17, u18, u19, u20, u21, u22, u23, u24, u25, u26, u27, u28, u29, u30, u31, u32, u33, u34, u35, u36, u37, u38, u39, u40, u41, u42, u43, u44, u45, u46, u47, u48, u49, u50, u51, u52, u53, u54, u55, u56, u57, u58, u59, u60, u61, u62, u63, u64, u65, u66, u67, u68, u69, u70, u71, u72, u73, u74, u75, u76, u77, u78, u79, u80, u81, u82, u83, u84, u85, u86, u87, u88, u89, u90, .bool c, n92, n93, n94, n95, n96, n97, n98, n99, .bool (c && (a.t.port == b.t.port)), u101, u102, u103, u104, u105, u106, u107, u108, u109, u110, u111, u112, u113, u114, u115, u116, u117], []⟩ w) :
  wpList Tryz.prog OPS Q (⟨some 92, .fieldAddr 37 (.tmp 2) 2, y0, p0, f0, some (86, true)⟩ :: ⟨some 93, .fieldAddr 35 (.tmp 92) 0, y1, p1, f1, some (86, true)⟩ :: ⟨some 94, .load 3 (.tmp 93), y2, p2, f2, some (86, true)⟩ :: ⟨some 95, .fieldAddr 37 (.tmp 3) 2, y3, p3, f3, some (86, true)⟩ :: ⟨some 96, .fieldAddr 35 (.tmp 95) 0, y4, p4, f4, some (86, true)⟩ :: ⟨some 97, .load 3 (.tmp 96), y5, p5, f5, some (86, true)⟩ :: ⟨some 98, .binOp .eql 3 (.tmp 94) (.tmp 97) 3, y6, p6, f6, some (86, true)⟩ :: ⟨some 99, .pick (.tmp 91) (.tmp 98) (.const (.bool false)), y7, p7, f7, none⟩ :: ⟨some 100, .move (.tmp 99), y8, p8, f8, none⟩ :: rest) ⟨#[.agg (stepA a), .agg (stepA b), .pointer (some ⟨g, 0, none⟩), .pointer (some ⟨k, 0, none⟩), u4, u5, u6, u7, u8, u9, u10, u11, u12, u13, u14, u15, u16, u17, u18, u19, u20, u21, u22, u23, u24, u25, u26, u27, u28, u29, u30, u31, u32, u33, u34, u35, u36, u37, u38, u39, u40, u41, u42, u43, u44, u45, u46, u47, u48, u49, u50, u51, u52, u53, u54, u55, u56, u57, u58, u59, u60, u61, u62, u63, u64, u65, u66, u67, u68, u69, u70, u71, u72, u73, u74, u75, u76, u77, u78, u79, u80, u81, u82, u83, u84, u85, u86, u87, u88, u89, u90, .bool c, u92, u93, u94, u95, u96, u97, u98, u99, u100, u101, u102, u103, u104, u105, u106, u107, u108, u109, u110, u111, u112, u113, u114, u115, u116, u117], []⟩ w := by
 have HT := qh HT0
 have p1 := HT0.ok.p16
 have p2 := HT0.ok2.p16
 have HG := qh hg
 have H := qh h
 clear h HT0 hg
 have cA33 := HT.out.A.c33
 have cB33 := HT.out.B.c33
 clear p1 p2
 cases c
 ·refine wpList_off HG.out rfl rfl ?_; refine wpList_off HG.out rfl rfl ?_; refine wpList_off HG.out rfl rfl ?_; refine wpList_off HG.out rfl rfl ?_; refine wpList_off HG.out rfl rfl ?_; refine wpList_off HG.out rfl rfl ?_; refine wpList_off HG.out rfl rfl ?_
  go_wp2_with fail
  exact H.out _ _ _ _ _ _ _ _
 ·refine wpList_ung HG.out [_, _, _, _, _, _, _] _ _ _ (by simp) rfl ?_
  simp only [List.map_cons, List.map_nil, List.cons_append, List.nil_append]
  go_wp2_with fail
  exact H.out _ _ _ _ _ _ _ _
theorem seg_mpls (a b : StV) (W w : World) (g k : Nat) (HT0 : TwoS W a b g k w) (c : Bool) {OPS : Array Oper} {Q : Exit → Act → World → Prop} {rest : List Oper} (hg : Fills OPS 95 100) {y0 y1 y2 y3 y4 y5 y6 y7 y8 : TypeId} {p0 p1 p2 p3 p4 p5 p6 p7 p8 : String} {f0 f1 f2 f3 f4 f5 f6 f7 f8 : Array Edge} {u4 u5 u6 u7 u8 u9 u10 u11 u12 u13 u14 u15 u16 u17 u18 u19 u20 u21 u22 u23 u24 u25 u26 u27 u28 u29 u30 u31 u32 u33 u34 u35 u36 u37 u38 u39 u40 u41 u42 u43 u44 u45 u46 u47 u48 u49 u50 u51 u52 u53 u54 u55 u56 u57 u58 u59 u60 u61 u62 u63 u64 u65 u66 u67 u68 u69 u70 u71 u72 u73 u74 u75 u76 u77 u78 u79 u80 u81 u82 u83 u84 u85 u86 u87 u88 u89 u90 u91 u92 u93 u94 u95 u96 u97 u98 u99 u101 u102 u103 u104 u105 u106 u107 u108 u109 u110 u111 u112 u113 u114 u115 u116 u117 : Value}
  (h : ∀ n101 n102 n103 n104 n105 n106 n107 n108 : Value, wpList Tryz.prog OPS Q rest ⟨#[.agg (stepA a), .agg (stepA b), .pointer (some ⟨g, 0, none⟩), .pointer (some ⟨k, 0, none⟩), u4, u5, u6, u7, u8, u9, u10, u11, u12, u13, u14, u15, u16, u17, u18, u19, u20, u21, u22, u23, u24, u25, u26, u27, u28, u29, u30, u31, u32, u33, u34, u35, u36, u37, u38, u39, u40, u41, u42, u43, u44, u45, u46, u47, u48, u49, u50, u51, u52, u53, u54, u55, u56, u57, u58, u59, u60, u61, u62, u63, u64, u65, u66, u67, u68, u69, u70, u71, u72, u73, u74, u75, u76, u77, u78, u79, u80, u81, u82, u83, u84, u85, u86, u87, u88, u89, u90, u91, u92, u93, u94, u95, u96, u97, u98, u99, .bool c, n101, n102, n103, n104, n105, n106, n107, n108, .bool (c && (a.t.mpls == b.t.mpls)), u110, u111, u112, u113, u114, u115, u116, u117], []⟩ w) :
  wpList Tryz.prog OPS Q (⟨some 101, .fieldAddr 37 (.tmp 2) 2, y0, p0, f0, some (95, true)⟩ :: ⟨some 102, .fieldAddr 35 (.tmp 101) 1, y1, p1, f1, some (95, true)⟩ :: ⟨some 103, .load 4 (.tmp 102), y2, p2, f2, some (95, true)⟩ :: ⟨some 104, .fieldAddr 37 (.tmp 3) 2, y3, p3, f3, some (95, true)⟩ :: ⟨some 105, .fieldAddr 35 (.tmp 104) 1, y4, p4, f4, some (95, true)⟩ :: ⟨some 106, .load 4 (.tmp 105), y5, p5, f5, some (95, true)⟩ :: ⟨some 107, .binOp .eql 4 (.tmp 103) (.tmp 106) 4, y6, p6, f6, some (95, true)⟩ :: ⟨some 108, .pick (.tmp 100) (.tmp 107) (.const (.bool false)), y7, p7, f7, none⟩ :: ⟨some 109, .move (.tmp 108), y8, p8, f8, none⟩ :: rest) ⟨#[.agg (stepA a), .agg (stepA b), .pointer (some ⟨g, 0, none⟩), .pointer (some ⟨k, 0, none⟩), u4, u5, u6, u7, u8, u9, u10, u11, u12, u13, u14, u15, u16, u17, u18, u19, u20, u21, u22, u23, u24, u25, u26, u27, u28, u29, u30, u31, u32, u33, u34, u35, u36, u37, u38, u39, u40, u41, u42, u43, u44, u45, u46, u47, u48, u49, u50, u51, u52, u53, u54, u55, u56, u57, u58, u59, u60, u61, u62, u63, u64, u65, u66, u67, u68, u69, u70, u71, u72, u73, u74, u75, u76, u77, u78, u79, u80, u81, u82, u83, u84, u85, u86, u87, u88, u89, u90, u91, u92, u93, u94, u95, u96, u97, u98, u99, .bool c, u101, u102, u103, u104, u105, u106, u107, u108, u109, u110, u111, u112, u113, u114, u115, u116, u117], []⟩ w := by
 have HT := qh HT0
 have p1 := HT0.ok.p16
 have p2 := HT0.ok2.p16
 have HG := qh hg
 have H := qh h
 clear h HT0 hg
 have cA34 := HT.out.A.c34
 have cB34 := HT.out.B.c34
 clear p1 p2
 cases c
 ·refine wpList_off HG.out rfl rfl ?_; refine wpList_off HG.out rfl rfl ?_; refine wpList_off HG.out rfl rfl ?_; refine wpList_off HG.out rfl rfl ?_; refine wpList_off HG.out rfl rfl ?_; refine wpList_off HG.out rfl rfl ?_; refine wpList_off HG.out rfl rfl ?_
  go_wp2_with fail
  exact H.out _ _ _ _ _ _ _ _
 ·refine wpList_ung HG.out [_, _, _, _, _, _, _] _ _ _ (by simp) rfl ?_
  simp only [List.map_cons, List.map_nil, List.cons_append, List.nil_append]
  go_wp2_with fail
  exact H.out _ _ _ _ _ _ _ _
theorem seg_bytes (a b : StV) (W w : World) (g k : Nat) (HT0 : TwoS W a b g k w) (c : Bool) {OPS : Array Oper} {Q : Exit → Act → World → Prop} {rest : List Oper} (hg : Fills OPS 104 109) {y0 y1 y2 y3 y4 y5 y6 y7 y8 : TypeId} {p0 p1 p2 p3 p4 p5 p6 p7 p8 : String} {f0 f1 f2 f3 f4 f5 f6 f7 f8 : Array Edge} {u4 u5 u6 u7 u8 u9 u10 u11 u12 u13 u14 u15 u16 u17 u18 u19 u20 u21 u22 u23 u24 u25 u26 u27 u28 u29 u30 u31 u32 u33 u34 u35 u36 u37 u38 u39 u40 u41 u42 u43 u44 u45 u46 u47 u48 u49 u50 u51 u52 u53 u54 u55 u56 u57 u58 u59 u60 u61 u62 u63 u64 u65 u66 u67 u68 u69 u70 u71 u72 u73 u74 u75 u76 u77 u78 u79 u80 u81 u82 u83 u84 u85 u86 u87 u88 u89 u90 u91 u92 u93 u94 u95 u96 u97 u98 u99 u100 u101 u102 u103 u104 u105 u106 u107 u108 u110 u111 u112 u113 u114 u115 u116 u117 : Value}
  (h : ∀ w', TwoS W a b g k w' → ∀ n110 n111 n112 n113 n114 n115 n116 n117 : Value, wpList Tryz.prog OPS Q rest ⟨#[.agg (stepA a), .agg (stepA b), .pointer (some ⟨g, 0, none⟩), .pointer (some ⟨k, 0, none⟩), .bool (c && (decide (a.t.bytes = b.t.bytes))), u5, u6, u7, u8, u9, u10, u11, u12, u13, u14, u15, u16, u17, u18, u19, u20, u21, u22, u23, u24, u25, u26, u27, u28, u29, u30, u31, u32, u33, u34, u35, u36, u37, u38, u39, u40, u41, u42, u43, u44, u45, u46, u47, u48, u49, u50, u51, u52, u53, u54, u55, u56, u57, u58, u59, u60, u61, u62, u63, u64, u65, u66, u67, u68, u69, u70, u71, u72, u73, u74, u75, u76, u77, u78, u79, u80, u81, u82, u83, u84, u85, u86, u87, u88, u89, u90, u91, u92, u93, u94, u95, u96, u97, u98, u99, u100, u101, u102, u103, u104, u105, u106, u107, u108, .bool c, n110, n111, n112, n113, n114, n115, n116, n117], []⟩ w') :
  wpList Tryz.prog OPS Q (⟨some 110, .fieldAddr 37 (.tmp 2) 2, y0, p0, f0, some (104, true)⟩ :: ⟨some 111, .fieldAddr 35 (.tmp 110) 2, y1, p1, f1, some (104, true)⟩ :: ⟨some 112, .load 33 (.tmp 111), y2, p2, f2, some (104, true)⟩ :: ⟨some 113, .fieldAddr 37 (.tmp 3) 2, y3, p3, f3, some (104, true)⟩ :: ⟨some 114, .fieldAddr 35 (.tmp 113) 2, y4, p4, f4, some (104, true)⟩ :: ⟨some 115, .load 33 (.tmp 114), y5, p5, f5, some (104, true)⟩ :: ⟨some 116, .call { callee := .value (.func 75), args := #[.tmp 112, .tmp 115], argTypes := #[33, 33] }, y6, p6, f6, some (104, true)⟩ :: ⟨some 117, .pick (.tmp 109) (.tmp 116) (.const (.bool false)), y7, p7, f7, none⟩ :: ⟨some 4, .assign (.tmp 117), y8, p8, f8, none⟩ :: rest) ⟨#[.agg (stepA a), .agg (stepA b), .pointer (some ⟨g, 0, none⟩), .pointer (some ⟨k, 0, none⟩), u4, u5, u6, u7, u8, u9, u10, u11, u12, u13, u14, u15, u16, u17, u18, u19, u20, u21, u22, u23, u24, u25, u26, u27, u28, u29, u30, u31, u32, u33, u34, u35, u36, u37, u38, u39, u40, u41, u42, u43, u44, u45, u46, u47, u48, u49, u50, u51, u52, u53, u54, u55, u56, u57, u58, u59, u60, u61, u62, u63, u64, u65, u66, u67, u68, u69, u70, u71, u72, u73, u74, u75, u76, u77, u78, u79, u80, u81, u82, u83, u84, u85, u86, u87, u88, u89, u90, u91, u92, u93, u94, u95, u96, u97, u98, u99, u100, u101, u102, u103, u104, u105, u106, u107, u108, .bool c, u110, u111, u112, u113, u114, u115, u116, u117], []⟩ w := by
 have HT := qh HT0
 have p1 := HT0.ok.p16
 have p2 := HT0.ok2.p16
 have HG := qh hg
 have H := qh h
 clear h HT0 hg
 have cA35 := HT.out.A.c35
 have cB35 := HT.out.B.c35
 have HC := qh (equalB_any a.t.bytes b.t.bytes HT.out.ok.nb HT.out.ok2.nb a.vb b.vb w (HT.out.ok.below HT.out.bel).I.b.sl (HT.out.ok2.below HT.out.bel).I.b.sl)
 clear p1 p2
 cases c
 ·refine wpList_off HG.out rfl rfl ?_; refine wpList_off HG.out rfl rfl ?_; refine wpList_off HG.out rfl rfl ?_; refine wpList_off HG.out rfl rfl ?_; refine wpList_off HG.out rfl rfl ?_; refine wpList_off HG.out rfl rfl ?_; refine wpList_off HG.out rfl rfl ?_
  go_wp2_with fail
  exact H.out w HT.out _ _ _ _ _ _ _ _
 ·refine wpList_ung HG.out [_, _, _, _, _, _, _] _ _ _ (by simp) rfl ?_
  simp only [List.map_cons, List.map_nil, List.cons_append, List.nil_append]
  go_wp2_with fail
  refine HC.out.mono ?_
  rintro e w1 ⟨rfl, hb1⟩
  replace HT := qh (HT.out.next hb1)
  clear hb1
  go_wp2_with fail
  exact H.out _ HT.out _ _ _ _ _ _ _ _
theorem scr_same0 (a b : StV) (W : World) (A : SameOK W a) (B : SameOK W b) : Calls Tryz.prog 35 #[.agg (stepA a), .agg (stepA b)] W fun e w' => e = .returned (.bool ((((((((((((((a.t.is == b.t.is) && (a.t.kind == b.t.kind)) && (a.t.a == b.t.a)) && (a.t.n == b.t.n)) && (a.t.owner == b.t.owner)) && (decide ((a.t.s1, a.t.s2) = (b.t.s1, b.t.s2)))) && (decide (a.t.pf = b.t.pf))) && (a.t.text == b.t.text)) && (decide (a.t.hop = b.t.hop))) && (decide (a.t.ways = b.t.ways))) && (a.t.port == b.t.port)) && (a.t.mpls == b.t.mpls)) && (decide (a.t.bytes = b.t.bytes))))) ∧ Below W.heap.size W w' := by
 have HT0 : Hid (∀ w1 w2, w1 = W.alloc (.cells (stepA a) 37) → w2 = w1.alloc (.cells (stepA b) 37) → TwoS W a b W.heap.size w1.heap.size w2) := qh fun w1 w2 h1 h2 => by
  subst h2
  subst h1
  exact ⟨⟨(Blk.new W _ _).alloc _, A.p16⟩, ⟨Blk.new _ _ _, B.p16⟩, (belowA W _).alloc (by simp) _, A, B⟩
 clear A B
 go_enter Tryz.func35, Tryz.ntmps35
 go_upto_region 1 with (first
  | (refine wpList_box_as rfl _ (.tmp 0) (by rfl) (stepA a) (by rfl) ?_; intro w1 E1; have HE1 := qh E1; clear E1)
  | (refine wpList_box_as rfl _ (.tmp 1) (by rfl) (stepA b) (by rfl) ?_; intro w2 E2; have HT := qh (HT0.out w1 w2 HE1.out E2); clear E2))
 refine wp_region_gen _ (by rfl) (fun OPS hO => ?_)
 have G5 : Hid (Fills OPS 5 10) := qh (Fills.of hO (by rfl) (by rfl))
 have G14 : Hid (Fills OPS 14 19) := qh (Fills.of hO (by rfl) (by rfl))
 have G23 : Hid (Fills OPS 23 28) := qh (Fills.of hO (by rfl) (by rfl))
 have G32 : Hid (Fills OPS 32 37) := qh (Fills.of hO (by rfl) (by rfl))
 have G41 : Hid (Fills OPS 41 46) := qh (Fills.of hO (by rfl) (by rfl))
 have G50 : Hid (Fills OPS 50 55) := qh (Fills.of hO (by rfl) (by rfl))
 have G59 : Hid (Fills OPS 59 64) := qh (Fills.of hO (by rfl) (by rfl))
 have G68 : Hid (Fills OPS 68 73) := qh (Fills.of hO (by rfl) (by rfl))
 have G77 : Hid (Fills OPS 77 82) := qh (Fills.of hO (by rfl) (by rfl))
 have G86 : Hid (Fills OPS 86 91) := qh (Fills.of hO (by rfl) (by rfl))
 have G95 : Hid (Fills OPS 95 100) := qh (Fills.of hO (by rfl) (by rfl))
 have G104 : Hid (Fills OPS 104 109) := qh (Fills.of hO (by rfl) (by rfl))
 clear hO
 refine seg_is a b W _ _ _ HT.out ?_
 intro n5 n6 n7 n8 n9
 refine seg_kind a b W _ _ _ HT.out _ G5.out ?_
 intro n11 n12 n13 n14 n15 n16 n17 n18
 refine seg_a a b W _ _ _ HT.out _ G14.out ?_
 intro n20 n21 n22 n23 n24 n25 n26 n27
 refine seg_n a b W _ _ _ HT.out _ G23.out ?_
 intro n29 n30 n31 n32 n33 n34 n35 n36
 refine seg_owner a b W _ _ _ HT.out _ G32.out ?_
 intro n38 n39 n40 n41 n42 n43 n44 n45
 refine seg_sp a b W _ _ _ HT.out _ G41.out ?_
 intro n47 n48 n49 n50 n51 n52 n53 n54
 refine seg_pf a b W _ _ _ HT.out _ G50.out ?_
 intro n56 n57 n58 n59 n60 n61 n62 n63
 refine seg_text a b W _ _ _ HT.out _ G59.out ?_
 intro n65 n66 n67 n68 n69 n70 n71 n72
 refine seg_hop a b W _ _ _ HT.out _ G68.out ?_
 clear HT
 intro w_hop HT1 n74 n75 n76 n77 n78 n79 n80 n81
 have HT := qh HT1
 clear HT1
 refine seg_ways a b W _ _ _ HT.out _ G77.out ?_
 clear HT
 intro w_ways HT1 n83 n84 n85 n86 n87 n88 n89 n90
 have HT := qh HT1
 clear HT1
 refine seg_port a b W _ _ _ HT.out _ G86.out ?_
 intro n92 n93 n94 n95 n96 n97 n98 n99
 refine seg_mpls a b W _ _ _ HT.out _ G95.out ?_
 intro n101 n102 n103 n104 n105 n106 n107 n108
 refine seg_bytes a b W _ _ _ HT.out _ G104.out ?_
 clear HT
 intro w_bytes HT1 n110 n111 n112 n113 n114 n115 n116 n117
 have HT := qh HT1
 clear HT1
 go_wp2_with fail
 go_ret
 exact ⟨rfl, HT.out.bel⟩
theorem scr_same (a b : StV) (W : World) (A : SameOK W a) (B : SameOK W b) : Calls Tryz.prog 35 #[.agg (stepA a), .agg (stepA b)] W fun e w' => e = .returned (.bool (decide (a.t = b.t))) ∧ Below W.heap.size W w' := by
 have h := scr_same0 a b W A B
 have he : ((((((((((((((a.t.is == b.t.is) && (a.t.kind == b.t.kind)) && (a.t.a == b.t.a)) && (a.t.n == b.t.n)) && (a.t.owner == b.t.owner)) && (decide ((a.t.s1, a.t.s2) = (b.t.s1, b.t.s2)))) && (decide (a.t.pf = b.t.pf))) && (a.t.text == b.t.text)) && (decide (a.t.hop = b.t.hop))) && (decide (a.t.ways = b.t.ways))) && (a.t.port == b.t.port)) && (a.t.mpls == b.t.mpls)) && (decide (a.t.bytes = b.t.bytes)))) = decide (a.t = b.t) := by
  rw [Bool.eq_iff_iff]
  simp only [Bool.and_eq_true, beq_iff_eq, decide_eq_true_eq, Prod.mk.injEq]
  obtain ⟨ta, x1, x2, x3, x4⟩ := a
  obtain ⟨tb, y1, y2, y3, y4⟩ := b
  cases ta; cases tb
  simp only [Sc.Stp.mk.injEq]
  constructor
  ·rintro ⟨⟨⟨⟨⟨⟨⟨⟨⟨⟨⟨⟨h1, h2⟩, h3⟩, h4⟩, h5⟩, h6, h7⟩, h8⟩, h9⟩, h10⟩, h11⟩, h12⟩, h13⟩, h14⟩
   exact ⟨h1, h2, h3, h4, h5, h6, h7, h8, h10, h11, h9, h12, h13, h14⟩
  ·rintro ⟨h1, h2, h3, h4, h5, h6, h7, h8, h10, h11, h9, h12, h13, h14⟩
   exact ⟨⟨⟨⟨⟨⟨⟨⟨⟨⟨⟨⟨h1, h2⟩, h3⟩, h4⟩, h5⟩, h6, h7⟩, h8⟩, h9⟩, h10⟩, h11⟩, h12⟩, h13⟩, h14⟩
 rw [he] at h
 exact h
theorem read_sz {p : Sc.Part} {x y : Sc.Stp} {l r : List Hp.Wd} {A : Nat} (h : Sc.read p x l = some (y, r)) (hl : l.length ≤ A) (hw : ∀ w ∈ l, w.length ≤ A) (hb : x.bytes.length ≤ A) :
  y.ways.length ≤ x.ways.length + A ∧ y.bytes.length ≤ A ∧ r.length ≤ A ∧ ∀ w ∈ r, w.length ≤ A := by
 have hr : r.length ≤ A ∧ ∀ w ∈ r, w.length ≤ A := by
  rcases read_tail h with rfl | rfl
  ·exact ⟨Nat.zero_le _, fun w hw => by cases hw⟩
  ·exact ⟨by rw [List.length_tail]; omega, fun w h => hw w (List.mem_of_mem_tail h)⟩
 refine ⟨?_, ?_, hr⟩
 ·by_cases hp : p = .W
  ·subst hp
   cases l with
   | nil => cases h
   | cons a t =>
    simp only [Sc.read] at h
    split at h
    ·rename_i q hq
     cases h
     have := waysP_len hq
     simp only [List.length_append]
     simp only [List.length_cons] at this hl
     omega
    ·cases h
  ·rw [read_ways hp h]; omega
 ·by_cases hp : p = .B
  ·subst hp
   cases l with
   | nil => cases h
   | cons a t =>
    simp only [Sc.read] at h
    split at h
    ·cases h
    ·split at h
     ·cases h; exact hb
     ·split at h
      ·rename_i b hq
       split at h
       ·cases h
        have h1 := unhex_len0 a
        rw [hq] at h1
        have h2 := hw a List.mem_cons_self
        exact Nat.le_trans h1 h2
       ·cases h
      ·cases h
  ·have : y.bytes = x.bytes := by
    cases p <;> cases l <;> simp only [Sc.read] at h
    all_goals first
     | (exact absurd rfl hp)
     | (cases h; done)
     | (repeat' split at h) <;> first | (cases h; done) | (cases h; rfl)
   rw [this]; exact hb
theorem reads_sz {A : Nat} : ∀ {ps : List Sc.Part} {x y : Sc.Stp} {l r : List Hp.Wd}, Sc.reads ps x l = some (y, r) → l.length ≤ A → (∀ w ∈ l, w.length ≤ A) → x.bytes.length ≤ A → y.ways.length ≤ x.ways.length + ps.length * A ∧ y.bytes.length ≤ A
 | [], x, y, l, r, h, _, _, hb => by cases h; exact ⟨by simp, hb⟩
 | p :: ps, x, y, l, r, h, hl, hw, hb => by
  rw [Sc.reads] at h
  split at h
  ·rename_i z q hz
   obtain ⟨h1, h2, h3, h4⟩ := read_sz hz hl hw hb
   obtain ⟨h5, h6⟩ := reads_sz h h3 h4 h2
   refine ⟨?_, h6⟩
   rw [List.length_cons, Nat.succ_mul]
   omega
  ·cases h
theorem one_sz {s : List UInt8} {x : Sc.Stp} (h : Sc.oneR s = some x) (hs : s.length ≤ 65536) : x.ways.length ≤ 1073741824 ∧ x.bytes.length ≤ 1073741824 := by
 obtain ⟨w, l, h1, h2, h3⟩ := Sc.oneR_some h
 have hf := Fine8.spl hs
 rw [h1] at hf
 have hl : l.length ≤ 1048576 := by have := hf.1; simp at this; omega
 have hp := parts_le w
 obtain ⟨a, b⟩ := reads_sz (A := 1048576) h3 hl (fun v hv => by have := hf.2.1 v (List.mem_cons_of_mem _ hv); omega) (by simp [Sc.x0, Sc.z])
 refine ⟨?_, by omega⟩
 have h0 : (Sc.x0 w).ways.length = 0 := rfl
 have : (Sc.partsOf w).length * 1048576 ≤ 3 * 1048576 := Nat.mul_le_mul_right _ hp
 omega
end Go.Proofs.YtdbgeobolongmaaGreatDoor
