/- Part of the proof: contracts of the functions that the statements of layer 32 reach. -/
import Derived.Test.YtdbgeobolongmaaGreatDoorV31
set_option linter.unusedVariables false
set_option linter.unusedSimpArgs false
set_option maxRecDepth 100000
set_option maxHeartbeats 4000000
namespace Go.Proofs.YtdbgeobolongmaaGreatDoor
open Go.RowKit Go.Shelf Go.Proofs Go.OctetPlain Go.PrefixPlain
theorem seg_is (a b : StV) (W w : World) (g k : Nat) (HT0 : TwoS W a b g k w) {OPS : Array Oper} {Q : Exit → Act → World → Prop} {rest : List Oper} {y0 y1 y2 y3 y4 y5 : TypeId} {p0 p1 p2 p3 p4 p5 : String} {f0 f1 f2 f3 f4 f5 : Array Edge} {u4 u5 u6 u7 u8 u9 u10 u11 u12 u13 u14 u15 u16 u17 u18 u19 u20 u21 u22 u23 u24 u25 u26 u27 u28 u29 u30 u31 u32 u33 u34 u35 u36 u37 u38 u39 u40 u41 u42 u43 u44 u45 u46 u47 u48 u49 u50 u51 u52 u53 u54 u55 u56 u57 u58 u59 u60 u61 u62 u63 u64 u65 u66 u67 u68 u69 u70 u71 u72 u73 u74 u75 u76 u77 u78 u79 u80 u81 u82 u83 u84 u85 u86 u87 u88 u89 u90 u91 u92 u93 u94 u95 u96 u97 u98 u99 u100 u101 u102 u103 u104 u105 u106 u107 u108 u109 u110 u111 u112 u113 u114 u115 u116 u117 : Value}
  (h : ∀ n5 n6 n7 n8 n9 : Value, wpList Tryz.prog OPS Q rest ⟨#[.agg (stepA a), .agg (stepA b), .pointer (some ⟨g, 0, none⟩), .pointer (some ⟨k, 0, none⟩), u4, n5, n6, n7, n8, n9, .bool (a.t.is == b.t.is), u11, u12, u13, u14, u15, u16, u17, u18, u19, u20, u21, u22, u23, u24, u25, u26, u27, u28, u29, u30, u31, u32, u33, u34, u35, u36, u37, u38, u39, u40, u41, u42, u43, u44, u45, u46, u47, u48, u49, u50, u51, u52, u53, u54, u55, u56, u57, u58, u59, u60, u61, u62, u63, u64, u65, u66, u67, u68, u69, u70, u71, u72, u73, u74, u75, u76, u77, u78, u79, u80, u81, u82, u83, u84, u85, u86, u87, u88, u89, u90, u91, u92, u93, u94, u95, u96, u97, u98, u99, u100, u101, u102, u103, u104, u105, u106, u107, u108, u109, u110, u111, u112, u113, u114, u115, u116, u117], []⟩ w) :
  wpList Tryz.prog OPS Q (⟨some 5, .fieldAddr 37 (.tmp 2) 0, y0, p0, f0, none⟩ :: ⟨some 6, .load 4 (.tmp 5), y1, p1, f1, none⟩ :: ⟨some 7, .fieldAddr 37 (.tmp 3) 0, y2, p2, f2, none⟩ :: ⟨some 8, .load 4 (.tmp 7), y3, p3, f3, none⟩ :: ⟨some 9, .binOp .eql 4 (.tmp 6) (.tmp 8) 4, y4, p4, f4, none⟩ :: ⟨some 10, .move (.tmp 9), y5, p5, f5, none⟩ :: rest) ⟨#[.agg (stepA a), .agg (stepA b), .pointer (some ⟨g, 0, none⟩), .pointer (some ⟨k, 0, none⟩), u4, u5, u6, u7, u8, u9, u10, u11, u12, u13, u14, u15, u16, u17, u18, u19, u20, u21, u22, u23, u24, u25, u26, u27, u28, u29, u30, u31, u32, u33, u34, u35, u36, u37, u38, u39, u40, u41, u42, u43, u44, u45, u46, u47, u48, u49, u50, u51, u52, u53, u54, u55, u56, u57, u58, u59, u60, u61, u62, u63, u64, u65, u66, u67, u68, u69, u70, u71, u72, u73, u74, u75, u76, u77, u78, u79, u80, u81, u82, u83, u84, u85, u86, u87, u88, u89, u90, u91, u92, u93, u94, u95, u96, u97, u98, u99, u100, u101, u102, u103, u104, u105, u106, u107, u108, u109, u110, u111, u112, u113, u114, u115, u116, u117], []⟩ w := by
 have HT := qh HT0
 have p1 := HT0.ok.p16
 have p2 := HT0.ok2.p16
 have H := qh h
 clear h HT0
 have cA0 := HT.out.A.c0
 have cB0 := HT.out.B.c0
 clear p1 p2
 go_wp2_with fail
 exact H.out _ _ _ _ _
theorem seg_kind (a b : StV) (W w : World) (g k : Nat) (HT0 : TwoS W a b g k w) (c : Bool) {OPS : Array Oper} {Q : Exit → Act → World → Prop} {rest : List Oper} (hg : Fills OPS 5 10) {y0 y1 y2 y3 y4 y5 y6 y7 y8 : TypeId} {p0 p1 p2 p3 p4 p5 p6 p7 p8 : String} {f0 f1 f2 f3 f4 f5 f6 f7 f8 : Array Edge} {u4 u5 u6 u7 u8 u9 u11 u12 u13 u14 u15 u16 u17 u18 u19 u20 u21 u22 u23 u24 u25 u26 u27 u28 u29 u30 u31 u32 u33 u34 u35 u36 u37 u38 u39 u40 u41 u42 u43 u44 u45 u46 u47 u48 u49 u50 u51 u52 u53 u54 u55 u56 u57 u58 u59 u60 u61 u62 u63 u64 u65 u66 u67 u68 u69 u70 u71 u72 u73 u74 u75 u76 u77 u78 u79 u80 u81 u82 u83 u84 u85 u86 u87 u88 u89 u90 u91 u92 u93 u94 u95 u96 u97 u98 u99 u100 u101 u102 u103 u104 u105 u106 u107 u108 u109 u110 u111 u112 u113 u114 u115 u116 u117 : Value}
  (h : ∀ n11 n12 n13 n14 n15 n16 n17 n18 : Value, wpList Tryz.prog OPS Q rest ⟨#[.agg (stepA a), .agg (stepA b), .pointer (some ⟨g, 0, none⟩), .pointer (some ⟨k, 0, none⟩), u4, u5, u6, u7, u8, u9, .bool c, n11, n12, n13, n14, n15, n16, n17, n18, .bool (c && (a.t.kind == b.t.kind)), u20, u21, u22, u23, u24, u25, u26, u27, u28, u29, u30, u31, u32, u33, u34, u35, u36, u37, u38, u39, u40, u41, u42, u43, u44, u45, u46, u47, u48, u49, u50, u51, u52, u53, u54, u55, u56, u57, u58, u59, u60, u61, u62, u63, u64, u65, u66, u67, u68, u69, u70, u71, u72, u73, u74, u75, u76, u77, u78, u79, u80, u81, u82, u83, u84, u85, u86, u87, u88, u89, u90, u91, u92, u93, u94, u95, u96, u97, u98, u99, u100, u101, u102, u103, u104, u105, u106, u107, u108, u109, u110, u111, u112, u113, u114, u115, u116, u117], []⟩ w) :
  wpList Tryz.prog OPS Q (⟨some 11, .fieldAddr 37 (.tmp 2) 1, y0, p0, f0, some (5, true)⟩ :: ⟨some 12, .fieldAddr 32 (.tmp 11) 0, y1, p1, f1, some (5, true)⟩ :: ⟨some 13, .load 3 (.tmp 12), y2, p2, f2, some (5, true)⟩ :: ⟨some 14, .fieldAddr 37 (.tmp 3) 1, y3, p3, f3, some (5, true)⟩ :: ⟨some 15, .fieldAddr 32 (.tmp 14) 0, y4, p4, f4, some (5, true)⟩ :: ⟨some 16, .load 3 (.tmp 15), y5, p5, f5, some (5, true)⟩ :: ⟨some 17, .binOp .eql 3 (.tmp 13) (.tmp 16) 3, y6, p6, f6, some (5, true)⟩ :: ⟨some 18, .pick (.tmp 10) (.tmp 17) (.const (.bool false)), y7, p7, f7, none⟩ :: ⟨some 19, .move (.tmp 18), y8, p8, f8, none⟩ :: rest) ⟨#[.agg (stepA a), .agg (stepA b), .pointer (some ⟨g, 0, none⟩), .pointer (some ⟨k, 0, none⟩), u4, u5, u6, u7, u8, u9, .bool c, u11, u12, u13, u14, u15, u16, u17, u18, u19, u20, u21, u22, u23, u24, u25, u26, u27, u28, u29, u30, u31, u32, u33, u34, u35, u36, u37, u38, u39, u40, u41, u42, u43, u44, u45, u46, u47, u48, u49, u50, u51, u52, u53, u54, u55, u56, u57, u58, u59, u60, u61, u62, u63, u64, u65, u66, u67, u68, u69, u70, u71, u72, u73, u74, u75, u76, u77, u78, u79, u80, u81, u82, u83, u84, u85, u86, u87, u88, u89, u90, u91, u92, u93, u94, u95, u96, u97, u98, u99, u100, u101, u102, u103, u104, u105, u106, u107, u108, u109, u110, u111, u112, u113, u114, u115, u116, u117], []⟩ w := by
 have HT := qh HT0
 have p1 := HT0.ok.p16
 have p2 := HT0.ok2.p16
 have HG := qh hg
 have H := qh h
 clear h HT0 hg
 have cA1 := HT.out.A.c1
 have cB1 := HT.out.B.c1
 clear p1 p2
 cases c
 ·refine wpList_off HG.out rfl rfl ?_; refine wpList_off HG.out rfl rfl ?_; refine wpList_off HG.out rfl rfl ?_; refine wpList_off HG.out rfl rfl ?_; refine wpList_off HG.out rfl rfl ?_; refine wpList_off HG.out rfl rfl ?_; refine wpList_off HG.out rfl rfl ?_
  go_wp2_with fail
  exact H.out _ _ _ _ _ _ _ _
 ·refine wpList_ung HG.out [_, _, _, _, _, _, _] _ _ _ (by simp) rfl ?_
  simp only [List.map_cons, List.map_nil, List.cons_append, List.nil_append]
  go_wp2_with fail
  exact H.out _ _ _ _ _ _ _ _
theorem seg_a (a b : StV) (W w : World) (g k : Nat) (HT0 : TwoS W a b g k w) (c : Bool) {OPS : Array Oper} {Q : Exit → Act → World → Prop} {rest : List Oper} (hg : Fills OPS 14 19) {y0 y1 y2 y3 y4 y5 y6 y7 y8 : TypeId} {p0 p1 p2 p3 p4 p5 p6 p7 p8 : String} {f0 f1 f2 f3 f4 f5 f6 f7 f8 : Array Edge} {u4 u5 u6 u7 u8 u9 u10 u11 u12 u13 u14 u15 u16 u17 u18 u20 u21 u22 u23 u24 u25 u26 u27 u28 u29 u30 u31 u32 u33 u34 u35 u36 u37 u38 u39 u40 u41 u42 u43 u44 u45 u46 u47 u48 u49 u50 u51 u52 u53 u54 u55 u56 u57 u58 u59 u60 u61 u62 u63 u64 u65 u66 u67 u68 u69 u70 u71 u72 u73 u74 u75 u76 u77 u78 u79 u80 u81 u82 u83 u84 u85 u86 u87 u88 u89 u90 u91 u92 u93 u94 u95 u96 u97 u98 u99 u100 u101 u102 u103 u104 u105 u106 u107 u108 u109 u110 u111 u112 u113 u114 u115 u116 u117 : Value}
  (h : ∀ n20 n21 n22 n23 n24 n25 n26 n27 : Value, wpList Tryz.prog OPS Q rest ⟨#[.agg (stepA a), .agg (stepA b), .pointer (some ⟨g, 0, none⟩), .pointer (some ⟨k, 0, none⟩), u4, u5, u6, u7, u8, u9, u10, u11, u12, u13, u14, u15, u16, u17, u18, .bool c, n20, n21, n22, n23, n24, n25, n26, n27, .bool (c && (a.t.a == b.t.a)), u29, u30, u31, u32, u33, u34, u35, u36, u37, u38, u39, u40, u41, u42, u43, u44, u45, u46, u47, u48, u49, u50, u51, u52, u53, u54, u55, u56, u57, u58, u59, u60, u61, u62, u63, u64, u65, u66, u67, u68, u69, u70, u71, u72, u73, u74, u75, u76, u77, u78, u79, u80, u81, u82, u83, u84, u85, u86, u87, u88, u89, u90, u91, u92, u93, u94, u95, u96, u97, u98, u99, u100, u101, u102, u103, u104, u105, u106, u107, u108, u109, u110, u111, u112, u113, u114, u115, u116, u117], []⟩ w) :
  wpList Tryz.prog OPS Q (⟨some 20, .fieldAddr 37 (.tmp 2) 1, y0, p0, f0, some (14, true)⟩ :: ⟨some 21, .fieldAddr 32 (.tmp 20) 1, y1, p1, f1, some (14, true)⟩ :: ⟨some 22, .load 3 (.tmp 21), y2, p2, f2, some (14, true)⟩ :: ⟨some 23, .fieldAddr 37 (.tmp 3) 1, y3, p3, f3, some (14, true)⟩ :: ⟨some 24, .fieldAddr 32 (.tmp 23) 1, y4, p4, f4, some (14, true)⟩ :: ⟨some 25, .load 3 (.tmp 24), y5, p5, f5, some (14, true)⟩ :: ⟨some 26, .binOp .eql 3 (.tmp 22) (.tmp 25) 3, y6, p6, f6, some (14, true)⟩ :: ⟨some 27, .pick (.tmp 19) (.tmp 26) (.const (.bool false)), y7, p7, f7, none⟩ :: ⟨some 28, .move (.tmp 27), y8, p8, f8, none⟩ :: rest) ⟨#[.agg (stepA a), .agg (stepA b), .pointer (some ⟨g, 0, none⟩), .pointer (some ⟨k, 0, none⟩), u4, u5, u6, u7, u8, u9, u10, u11, u12, u13, u14, u15, u16, u17, u18, .bool c, u20, u21, u22, u23, u24, u25, u26, u27, u28, u29, u30, u31, u32, u33, u34, u35, u36, u37, u38, u39, u40, u41, u42, u43, u44, u45, u46, u47, u48, u49, u50, u51, u52, u53, u54, u55, u56, u57, u58, u59, u60, u61, u62, u63, u64, u65, u66, u67, u68, u69, u70, u71, u72, u73, u74, u75, u76, u77, u78, u79, u80, u81, u82, u83, u84, u85, u86, u87, u88, u89, u90, u91, u92, u93, u94, u95, u96, u97, u98, u99, u100, u101, u102, u103, u104, u105, u106, u107, u108, u109, u110, u111, u112, u113, u114, u115, u116, u117], []⟩ w := by
 have HT := qh HT0
 have p1 := HT0.ok.p16
 have p2 := HT0.ok2.p16
 have HG := qh hg
 have H := qh h
 clear h HT0 hg
 have cA2 := HT.out.A.c2
 have cB2 := HT.out.B.c2
 clear p1 p2
 cases c
 ·refine wpList_off HG.out rfl rfl ?_; refine wpList_off HG.out rfl rfl ?_; refine wpList_off HG.out rfl rfl ?_; refine wpList_off HG.out rfl rfl ?_; refine wpList_off HG.out rfl rfl ?_; refine wpList_off HG.out rfl rfl ?_; refine wpList_off HG.out rfl rfl ?_
  go_wp2_with fail
  exact H.out _ _ _ _ _ _ _ _
 ·refine wpList_ung HG.out [_, _, _, _, _, _, _] _ _ _ (by simp) rfl ?_
  simp only [List.map_cons, List.map_nil, List.cons_append, List.nil_append]
  go_wp2_with fail
  exact H.out _ _ _ _ _ _ _ _
theorem seg_n (a b : StV) (W w : World) (g k : Nat) (HT0 : TwoS W a b g k w) (c : Bool) {OPS : Array Oper} {Q : Exit → Act → World → Prop} {rest : List Oper} (hg : Fills OPS 23 28) {y0 y1 y2 y3 y4 y5 y6 y7 y8 : TypeId} {p0 p1 p2 p3 p4 p5 p6 p7 p8 : String} {f0 f1 f2 f3 f4 f5 f6 f7 f8 : Array Edge} {u4 u5 u6 u7 u8 u9 u10 u11 u12 u13 u14 u15 u16 u17 u18 u19 u20 u21 u22 u23 u24 u25 u26 u27 u29 u30 u31 u32 u33 u34 u35 u36 u37 u38 u39 u40 u41 u42 u43 u44 u45 u46 u47 u48 u49 u50 u51 u52 u53 u54 u55 u56 u57 u58 u59 u60 u61 u62 u63 u64 u65 u66 u67 u68 u69 u70 u71 u72 u73 u74 u75 u76 u77 u78 u79 u80 u81 u82 u83 u84 u85 u86 u87 u88 u89 u90 u91 u92 u93 u94 u95 u96 u97 u98 u99 u100 u101 u102 u103 u104 u105 u106 u107 u108 u109 u110 u111 u112 u113 u114 u115 u116 u117 : Value}
  (h : ∀ n29 n30 n31 n32 n33 n34 n35 n36 : Value, wpList Tryz.prog OPS Q rest ⟨#[.agg (stepA a), .agg (stepA b), .pointer (some ⟨g, 0, none⟩), .pointer (some ⟨k, 0, none⟩), u4, u5, u6, u7, u8, u9, u10, u11, u12, u13, u14, u15, u16, u17, u18, u19, u20, u21, u22, u23, u24, u25, u26, u27, .bool c, n29, n30, n31, n32, n33, n34, n35, n36, .bool (c && (a.t.n == b.t.n)), u38, u39, u40, u41, u42, u43, u44, u45, u46, u47, u48, u49, u50, u51, u52, u53, u54, u55, u56, u57, u58, u59, u60, u61, u62, u63, u64, u65, u66, u67, u68, u69, u70, u71, u72, u73, u74, u75, u76, u77, u78, u79, u80, u81, u82, u83, u84, u85, u86, u87, u88, u89, u90, u91, u92, u93, u94, u95, u96, u97, u98, u99, u100, u101, u102, u103, u104, u105, u106, u107, u108, u109, u110, u111, u112, u113, u114, u115, u116, u117], []⟩ w) :
  wpList Tryz.prog OPS Q (⟨some 29, .fieldAddr 37 (.tmp 2) 1, y0, p0, f0, some (23, true)⟩ :: ⟨some 30, .fieldAddr 32 (.tmp 29) 2, y1, p1, f1, some (23, true)⟩ :: ⟨some 31, .load 3 (.tmp 30), y2, p2, f2, some (23, true)⟩ :: ⟨some 32, .fieldAddr 37 (.tmp 3) 1, y3, p3, f3, some (23, true)⟩ :: ⟨some 33, .fieldAddr 32 (.tmp 32) 2, y4, p4, f4, some (23, true)⟩ :: ⟨some 34, .load 3 (.tmp 33), y5, p5, f5, some (23, true)⟩ :: ⟨some 35, .binOp .eql 3 (.tmp 31) (.tmp 34) 3, y6, p6, f6, some (23, true)⟩ :: ⟨some 36, .pick (.tmp 28) (.tmp 35) (.const (.bool false)), y7, p7, f7, none⟩ :: ⟨some 37, .move (.tmp 36), y8, p8, f8, none⟩ :: rest) ⟨#[.agg (stepA a), .agg (stepA b), .pointer (some ⟨g, 0, none⟩), .pointer (some ⟨k, 0, none⟩), u4, u5, u6, u7, u8, u9, u10, u11, u12, u13, u14, u15, u16, u17, u18, u19, u20, u21, u22, u23, u24, u25, u26, u27, .bool c, u29, u30, u31, u32, u33, u34, u35, u36, u37, u38, u39, u40, u41, u42, u43, u44, u45, u46, u47, u48, u49, u50, u51, u52, u53, u54, u55, u56, u57, u58, u59, u60, u61, u62, u63, u64, u65, u66, u67, u68, u69, u70, u71, u72, u73, u74, u75, u76, u77, u78, u79, u80, u81, u82, u83, u84, u85, u86, u87, u88, u89, u90, u91, u92, u93, u94, u95, u96, u97, u98, u99, u100, u101, u102, u103, u104, u105, u106, u107, u108, u109, u110, u111, u112, u113, u114, u115, u116, u117], []⟩ w := by
 have HT := qh HT0
 have p1 := HT0.ok.p16
 have p2 := HT0.ok2.p16
 have HG := qh hg
 have H := qh h
 clear h HT0 hg
 have cA3 := HT.out.A.c3
 have cB3 := HT.out.B.c3
 clear p1 p2
 cases c
 ·refine wpList_off HG.out rfl rfl ?_; refine wpList_off HG.out rfl rfl ?_; refine wpList_off HG.out rfl rfl ?_; refine wpList_off HG.out rfl rfl ?_; refine wpList_off HG.out rfl rfl ?_; refine wpList_off HG.out rfl rfl ?_; refine wpList_off HG.out rfl rfl ?_
  go_wp2_with fail
  exact H.out _ _ _ _ _ _ _ _
 ·refine wpList_ung HG.out [_, _, _, _, _, _, _] _ _ _ (by simp) rfl ?_
  simp only [List.map_cons, List.map_nil, List.cons_append, List.nil_append]
  go_wp2_with fail
  exact H.out _ _ _ _ _ _ _ _
theorem seg_owner (a b : StV) (W w : World) (g k : Nat) (HT0 : TwoS W a b g k w) (c : Bool) {OPS : Array Oper} {Q : Exit → Act → World → Prop} {rest : List Oper} (hg : Fills OPS 32 37) {y0 y1 y2 y3 y4 y5 y6 y7 y8 : TypeId} {p0 p1 p2 p3 p4 p5 p6 p7 p8 : String} {f0 f1 f2 f3 f4 f5 f6 f7 f8 : Array Edge} {u4 u5 u6 u7 u8 u9 u10 u11 u12 u13 u14 u15 u16 u17 u18 u19 u20 u21 u22 u23 u24 u25 u26 u27 u28 u29 u30 u31 u32 u33 u34 u35 u36 u38 u39 u40 u41 u42 u43 u44 u45 u46 u47 u48 u49 u50 u51 u52 u53 u54 u55 u56 u57 u58 u59 u60 u61 u62 u63 u64 u65 u66 u67 u68 u69 u70 u71 u72 u73 u74 u75 u76 u77 u78 u79 u80 u81 u82 u83 u84 u85 u86 u87 u88 u89 u90 u91 u92 u93 u94 u95 u96 u97 u98 u99 u100 u101 u102 u103 u104 u105 u106 u107 u108 u109 u110 u111 u112 u113 u114 u115 u116 u117 : Value}
  (h : ∀ n38 n39 n40 n41 n42 n43 n44 n45 : Value, wpList Tryz.prog OPS Q rest ⟨#[.agg (stepA a), .agg (stepA b), .pointer (some ⟨g, 0, none⟩), .pointer (some ⟨k, 0, none⟩), u4, u5, u6, u7, u8, u9, u10, u11, u12, u13, u14, u15, u16, u17, u18, u19, u20, u21, u22, u23, u24, u25, u26, u27, u28, u29, u30, u31, u32, u33, u34, u35, u36, .bool c, n38, n39, n40, n41, n42, n43, n44, n45, .bool (c && (a.t.owner == b.t.owner)), u47, u48, u49, u50, u51, u52, u53, u54, u55, u56, u57, u58, u59, u60, u61, u62, u63, u64, u65, u66, u67, u68, u69, u70, u71, u72, u73, u74, u75, u76, u77, u78, u79, u80, u81, u82, u83, u84, u85, u86, u87, u88, u89, u90, u91, u92, u93, u94, u95, u96, u97, u98, u99, u100, u101, u102, u103, u104, u105, u106, u107, u108, u109, u110, u111, u112, u113, u114, u115, u116, u117], []⟩ w) :
  wpList Tryz.prog OPS Q (⟨some 38, .fieldAddr 37 (.tmp 2) 1, y0, p0, f0, some (32, true)⟩ :: ⟨some 39, .fieldAddr 32 (.tmp 38) 3, y1, p1, f1, some (32, true)⟩ :: ⟨some 40, .load 3 (.tmp 39), y2, p2, f2, some (32, true)⟩ :: ⟨some 41, .fieldAddr 37 (.tmp 3) 1, y3, p3, f3, some (32, true)⟩ :: ⟨some 42, .fieldAddr 32 (.tmp 41) 3, y4, p4, f4, some (32, true)⟩ :: ⟨some 43, .load 3 (.tmp 42), y5, p5, f5, some (32, true)⟩ :: ⟨some 44, .binOp .eql 3 (.tmp 40) (.tmp 43) 3, y6, p6, f6, some (32, true)⟩ :: ⟨some 45, .pick (.tmp 37) (.tmp 44) (.const (.bool false)), y7, p7, f7, none⟩ :: ⟨some 46, .move (.tmp 45), y8, p8, f8, none⟩ :: rest) ⟨#[.agg (stepA a), .agg (stepA b), .pointer (some ⟨g, 0, none⟩), .pointer (some ⟨k, 0, none⟩), u4, u5, u6, u7, u8, u9, u10, u11, u12, u13, u14, u15, u16, u17, u18, u19, u20, u21, u22, u23, u24, u25, u26, u27, u28, u29, u30, u31, u32, u33, u34, u35, u36, .bool c, u38, u39, u40, u41, u42, u43, u44, u45, u46, u47, u48, u49, u50, u51, u52, u53, u54, u55, u56, u57, u58, u59, u60, u61, u62, u63, u64, u65, u66, u67, u68, u69, u70, u71, u72, u73, u74, u75, u76, u77, u78, u79, u80, u81, u82, u83, u84, u85, u86, u87, u88, u89, u90, u91, u92, u93, u94, u95, u96, u97, u98, u99, u100, u101, u102, u103, u104, u105, u106, u107, u108, u109, u110, u111, u112, u113, u114, u115, u116, u117], []⟩ w := by
 have HT := qh HT0
 have p1 := HT0.ok.p16
 have p2 := HT0.ok2.p16
 have HG := qh hg
 have H := qh h
 clear h HT0 hg
 have cA4 := HT.out.A.c4
 have cB4 := HT.out.B.c4
 clear p1 p2
 cases c
 ·refine wpList_off HG.out rfl rfl ?_; refine wpList_off HG.out rfl rfl ?_; refine wpList_off HG.out rfl rfl ?_; refine wpList_off HG.out rfl rfl ?_; refine wpList_off HG.out rfl rfl ?_; refine wpList_off HG.out rfl rfl ?_; refine wpList_off HG.out rfl rfl ?_
  go_wp2_with fail
  exact H.out _ _ _ _ _ _ _ _
 ·refine wpList_ung HG.out [_, _, _, _, _, _, _] _ _ _ (by simp) rfl ?_
  simp only [List.map_cons, List.map_nil, List.cons_append, List.nil_append]
  go_wp2_with fail
  exact H.out _ _ _ _ _ _ _ _
theorem seg_sp (a b : StV) (W w : World) (g k : Nat) (HT0 : TwoS W a b g k w) (c : Bool) {OPS : Array Oper} {Q : Exit → Act → World → Prop} {rest : List Oper} (hg : Fills OPS 41 46) {y0 y1 y2 y3 y4 y5 y6 y7 y8 : TypeId} {p0 p1 p2 p3 p4 p5 p6 p7 p8 : String} {f0 f1 f2 f3 f4 f5 f6 f7 f8 : Array Edge} {u4 u5 u6 u7 u8 u9 u10 u11 u12 u13 u14 u15 u16 u17 u18 u19 u20 u21 u22 u23 u24 u25 u26 u27 u28 u29 u30 u31 u32 u33 u34 u35 u36 u37 u38 u39 u40 u41 u42 u43 u44 u45 u47 u48 u49 u50 u51 u52 u53 u54 u55 u56 u57 u58 u59 u60 u61 u62 u63 u64 u65 u66 u67 u68 u69 u70 u71 u72 u73 u74 u75 u76 u77 u78 u79 u80 u81 u82 u83 u84 u85 u86 u87 u88 u89 u90 u91 u92 u93 u94 u95 u96 u97 u98 u99 u100 u101 u102 u103 u104 u105 u106 u107 u108 u109 u110 u111 u112 u113 u114 u115 u116 u117 : Value}
  (h : ∀ n47 n48 n49 n50 n51 n52 n53 n54 : Value, wpList Tryz.prog OPS Q rest ⟨#[.agg (stepA a), .agg (stepA b), .pointer (some ⟨g, 0, none⟩), .pointer (some ⟨k, 0, none⟩), u4, u5, u6, u7, u8, u9, u10, u11, u12, u13, u14, u15, u16, u17, u18, u19, u20, u21, u22, u23, u24, u25, u26, u27, u28, u29, u30, u31, u32, u33, u34, u35, u36, u37, u38, u39, u40, u41, u42, u43, u44, u45, .bool c, n47, n48, n49, n50, n51, n52, n53, n54, .bool (c && (decide ((a.t.s1, a.t.s2) = (b.t.s1, b.t.s2)))), u56, u57, u58, u59, u60, u61, u62, u63, u64, u65, u66, u67, u68, u69, u70, u71, u72, u73, u74, u75, u76, u77, u78, u79, u80, u81, u82, u83, u84, u85, u86, u87, u88, u89, u90, u91, u92, u93, u94, u95, u96, u97, u98, u99, u100, u101, u102, u103, u104, u105, u106, u107, u108, u109, u110, u111, u112, u113, u114, u115, u116, u117], []⟩ w) :
  wpList Tryz.prog OPS Q (⟨some 47, .fieldAddr 37 (.tmp 2) 1, y0, p0, f0, some (41, true)⟩ :: ⟨some 48, .fieldAddr 32 (.tmp 47) 4, y1, p1, f1, some (41, true)⟩ :: ⟨some 49, .load 23 (.tmp 48), y2, p2, f2, some (41, true)⟩ :: ⟨some 50, .fieldAddr 37 (.tmp 3) 1, y3, p3, f3, some (41, true)⟩ :: ⟨some 51, .fieldAddr 32 (.tmp 50) 4, y4, p4, f4, some (41, true)⟩ :: ⟨some 52, .load 23 (.tmp 51), y5, p5, f5, some (41, true)⟩ :: ⟨some 53, .binOp .eql 23 (.tmp 49) (.tmp 52) 23, y6, p6, f6, some (41, true)⟩ :: ⟨some 54, .pick (.tmp 46) (.tmp 53) (.const (.bool false)), y7, p7, f7, none⟩ :: ⟨some 55, .move (.tmp 54), y8, p8, f8, none⟩ :: rest) ⟨#[.agg (stepA a), .agg (stepA b), .pointer (some ⟨g, 0, none⟩), .pointer (some ⟨k, 0, none⟩), u4, u5, u6, u7, u8, u9, u10, u11, u12, u13, u14, u15, u16, u17, u18, u19, u20, u21, u22, u23, u24, u25, u26, u27, u28, u29, u30, u31, u32, u33, u34, u35, u36, u37, u38, u39, u40, u41, u42, u43, u44, u45, .bool c, u47, u48, u49, u50, u51, u52, u53, u54, u55, u56, u57, u58, u59, u60, u61, u62, u63, u64, u65, u66, u67, u68, u69, u70, u71, u72, u73, u74, u75, u76, u77, u78, u79, u80, u81, u82, u83, u84, u85, u86, u87, u88, u89, u90, u91, u92, u93, u94, u95, u96, u97, u98, u99, u100, u101, u102, u103, u104, u105, u106, u107, u108, u109, u110, u111, u112, u113, u114, u115, u116, u117], []⟩ w := by
 have HT := qh HT0
 have p1 := HT0.ok.p16
 have p2 := HT0.ok2.p16
 have HG := qh hg
 have H := qh h
 clear h HT0 hg
 have cA5 := HT.out.A.c5
 have cB5 := HT.out.B.c5
 have cA6 := HT.out.A.c6
 have cB6 := HT.out.B.c6
 have hsp : ∀ w, (Op.equalIn 10000 23 (.agg #[.int .i64 a.t.s1, .int .i64 a.t.s2]) (.agg #[.int .i64 b.t.s1, .int .i64 b.t.s2])).run Tryz.prog w = .ok (decide ((a.t.s1, a.t.s2) = (b.t.s1, b.t.s2))) w := fun w => run_span (a.t.s1, a.t.s2) (b.t.s1, b.t.s2) w
 have hgs := fun w op x y => GuardAt.agg (P := Tryz.prog) (T := 23) (fun c : Array Value => c) (by kernel_rfl) op x y #[.int .i64 a.t.s1, .int .i64 a.t.s2] #[.int .i64 b.t.s1, .int .i64 b.t.s2] w
 generalize decide ((a.t.s1, a.t.s2) = (b.t.s1, b.t.s2)) = v at *
 clear p1 p2
 cases c
 ·refine wpList_off HG.out rfl rfl ?_; refine wpList_off HG.out rfl rfl ?_; refine wpList_off HG.out rfl rfl ?_; refine wpList_off HG.out rfl rfl ?_; refine wpList_off HG.out rfl rfl ?_; refine wpList_off HG.out rfl rfl ?_; refine wpList_off HG.out rfl rfl ?_
  go_wp2_with fail
  exact H.out _ _ _ _ _ _ _ _
 ·refine wpList_ung HG.out [_, _, _, _, _, _, _] _ _ _ (by simp) rfl ?_
  simp only [List.map_cons, List.map_nil, List.cons_append, List.nil_append]
  go_wp2_with fail
  exact H.out _ _ _ _ _ _ _ _
theorem seg_pf (a b : StV) (W w : World) (g k : Nat) (HT0 : TwoS W a b g k w) (c : Bool) {OPS : Array Oper} {Q : Exit → Act → World → Prop} {rest : List Oper} (hg : Fills OPS 50 55) {y0 y1 y2 y3 y4 y5 y6 y7 y8 : TypeId} {p0 p1 p2 p3 p4 p5 p6 p7 p8 : String} {f0 f1 f2 f3 f4 f5 f6 f7 f8 : Array Edge} {u4 u5 u6 u7 u8 u9 u10 u11 u12 u13 u14 u15 u16 u17 u18 u19 u20 u21 u22 u23 u24 u25 u26 u27 u28 u29 u30 u31 u32 u33 u34 u35 u36 u37 u38 u39 u40 u41 u42 u43 u44 u45 u46 u47 u48 u49 u50 u51 u52 u53 u54 u56 u57 u58 u59 u60 u61 u62 u63 u64 u65 u66 u67 u68 u69 u70 u71 u72 u73 u74 u75 u76 u77 u78 u79 u80 u81 u82 u83 u84 u85 u86 u87 u88 u89 u90 u91 u92 u93 u94 u95 u96 u97 u98 u99 u100 u101 u102 u103 u104 u105 u106 u107 u108 u109 u110 u111 u112 u113 u114 u115 u116 u117 : Value}
  (h : ∀ n56 n57 n58 n59 n60 n61 n62 n63 : Value, wpList Tryz.prog OPS Q rest ⟨#[.agg (stepA a), .agg (stepA b), .pointer (some ⟨g, 0, none⟩), .pointer (some ⟨k, 0, none⟩), u4, u5, u6, u7, u8, u9, u10, u11, u12, u13, u14, u15, u16, u17, u18, u19, u20, u21, u22, u23, u24, u25, u26, u27, u28, u29, u30, u31, u32, u33, u34, u35, u36, u37, u38, u39, u40, u41, u42, u43, u44, u45, u46, u47, u48, u49, u50, u51, u52, u53, u54, .bool c, n56, n57, n58, n59, n60, n61, n62, n63, .bool (c && (decide (a.t.pf = b.t.pf))), u65, u66, u67, u68, u69, u70, u71, u72, u73, u74, u75, u76, u77, u78, u79, u80, u81, u82, u83, u84, u85, u86, u87, u88, u89, u90, u91, u92, u93, u94, u95, u96, u97, u98, u99, u100, u101, u102, u103, u104, u105, u106, u107, u108, u109, u110, u111, u112, u113, u114, u115, u116, u117], []⟩ w) :
  wpList Tryz.prog OPS Q (⟨some 56, .fieldAddr 37 (.tmp 2) 1, y0, p0, f0, some (50, true)⟩ :: ⟨some 57, .fieldAddr 32 (.tmp 56) 5, y1, p1, f1, some (50, true)⟩ :: ⟨some 58, .load 26 (.tmp 57), y2, p2, f2, some (50, true)⟩ :: ⟨some 59, .fieldAddr 37 (.tmp 3) 1, y3, p3, f3, some (50, true)⟩ :: ⟨some 60, .fieldAddr 32 (.tmp 59) 5, y4, p4, f4, some (50, true)⟩ :: ⟨some 61, .load 26 (.tmp 60), y5, p5, f5, some (50, true)⟩ :: ⟨some 62, .binOp .eql 26 (.tmp 58) (.tmp 61) 26, y6, p6, f6, some (50, true)⟩ :: ⟨some 63, .pick (.tmp 55) (.tmp 62) (.const (.bool false)), y7, p7, f7, none⟩ :: ⟨some 64, .move (.tmp 63), y8, p8, f8, none⟩ :: rest) ⟨#[.agg (stepA a), .agg (stepA b), .pointer (some ⟨g, 0, none⟩), .pointer (some ⟨k, 0, none⟩), u4, u5, u6, u7, u8, u9, u10, u11, u12, u13, u14, u15, u16, u17, u18, u19, u20, u21, u22, u23, u24, u25, u26, u27, u28, u29, u30, u31, u32, u33, u34, u35, u36, u37, u38, u39, u40, u41, u42, u43, u44, u45, u46, u47, u48, u49, u50, u51, u52, u53, u54, .bool c, u56, u57, u58, u59, u60, u61, u62, u63, u64, u65, u66, u67, u68, u69, u70, u71, u72, u73, u74, u75, u76, u77, u78, u79, u80, u81, u82, u83, u84, u85, u86, u87, u88, u89, u90, u91, u92, u93, u94, u95, u96, u97, u98, u99, u100, u101, u102, u103, u104, u105, u106, u107, u108, u109, u110, u111, u112, u113, u114, u115, u116, u117], []⟩ w := by
 have HT := qh HT0
 have p1 := HT0.ok.p16
 have p2 := HT0.ok2.p16
 have HG := qh hg
 have H := qh h
 clear h HT0 hg
 have hpf : ∀ w, (Op.equalIn 10000 26 (.agg (pfA a.t.pf)) (.agg (pfA b.t.pf))).run Tryz.prog w = .ok (decide (a.t.pf = b.t.pf)) w := fun w => eq_pf p1 p2 w
 have hgp := fun w op x y => GuardAt.agg (P := Tryz.prog) (T := 26) (fun c : Array Value => c) (by kernel_rfl) op x y (pfA a.t.pf) (pfA b.t.pf) w
 have HRA := qh HT.out.A.pfA
 have HRB := qh HT.out.B.pfA
 have HIA := qh (infoPL p1)
 have HIB := qh (infoPL p2)
 generalize pfA a.t.pf = PA at *
 generalize pfA b.t.pf = PB at *
 generalize decide (a.t.pf = b.t.pf) = v at *
 clear p1 p2
 cases c
 ·refine wpList_off HG.out rfl rfl ?_; refine wpList_off HG.out rfl rfl ?_; refine wpList_off HG.out rfl rfl ?_; refine wpList_off HG.out rfl rfl ?_; refine wpList_off HG.out rfl rfl ?_; refine wpList_off HG.out rfl rfl ?_; refine wpList_off HG.out rfl rfl ?_
  go_wp2_with fail
  exact H.out _ _ _ _ _ _ _ _
 ·refine wpList_ung HG.out [_, _, _, _, _, _, _] _ _ _ (by simp) rfl ?_
  simp only [List.map_cons, List.map_nil, List.cons_append, List.nil_append]
  go_wp2_with (first
   | (refine wpList_load_mid rfl _ (.tmp 57) (by rfl) g 7 (by rfl) PA.toList _ HRA.out Tryz.underlying26 rfl HIA.out ?_)
   | (refine wpList_load_mid rfl _ (.tmp 60) (by rfl) k 7 (by rfl) PB.toList _ HRB.out Tryz.underlying26 rfl HIB.out ?_))
  exact H.out _ _ _ _ _ _ _ _
theorem seg_text (a b : StV) (W w : World) (g k : Nat) (HT0 : TwoS W a b g k w) (c : Bool) {OPS : Array Oper} {Q : Exit → Act → World → Prop} {rest : List Oper} (hg : Fills OPS 59 64) {y0 y1 y2 y3 y4 y5 y6 y7 y8 : TypeId} {p0 p1 p2 p3 p4 p5 p6 p7 p8 : String} {f0 f1 f2 f3 f4 f5 f6 f7 f8 : Array Edge} {u4 u5 u6 u7 u8 u9 u10 u11 u12 u13 u14 u15 u16 u17 u18 u19 u20 u21 u22 u23 u24 u25 u26 u27 u28 u29 u30 u31 u32 u33 u34 u35 u36 u37 u38 u39 u40 u41 u42 u43 u44 u45 u46 u47 u48 u49 u50 u51 u52 u53 u54 u55 u56 u57 u58 u59 u60 u61 u62 u63 u65 u66 u67 u68 u69 u70 u71 u72 u73 u74 u75 u76 u77 u78 u79 u80 u81 u82 u83 u84 u85 u86 u87 u88 u89 u90 u91 u92 u93 u94 u95 u96 u97 u98 u99 u100 u101 u102 u103 u104 u105 u106 u107 u108 u109 u110 u111 u112 u113 u114 u115 u116 u117 : Value}
  (h : ∀ n65 n66 n67 n68 n69 n70 n71 n72 : Value, wpList Tryz.prog OPS Q rest ⟨#[.agg (stepA a), .agg (stepA b), .pointer (some ⟨g, 0, none⟩), .pointer (some ⟨k, 0, none⟩), u4, u5, u6, u7, u8, u9, u10, u11, u12, u13, u14, u15, u16, u17, u18, u19, u20, u21, u22, u23, u24, u25, u26, u27, u28, u29, u30, u31, u32, u33, u34, u35, u36, u37, u38, u39, u40, u41, u42, u43, u44, u45, u46, u47, u48, u49, u50, u51, u52, u53, u54, u55, u56, u57, u58, u59, u60, u61, u62, u63, .bool c, n65, n66, n67, n68, n69, n70, n71, n72, .bool (c && (a.t.text == b.t.text)), u74, u75, u76, u77, u78, u79, u80, u81, u82, u83, u84, u85, u86, u87, u88, u89, u90, u91, u92, u93, u94, u95, u96, u97, u98, u99, u100, u101, u102, u103, u104, u105, u106, u107, u108, u109, u110, u111, u112, u113, u114, u115, u116, u117], []⟩ w) :
  wpList Tryz.prog OPS Q (⟨some 65, .fieldAddr 37 (.tmp 2) 1, y0, p0, f0, some (59, true)⟩ :: ⟨some 66, .fieldAddr 32 (.tmp 65) 8, y1, p1, f1, some (59, true)⟩ :: ⟨some 67, .load 9 (.tmp 66), y2, p2, f2, some (59, true)⟩ :: ⟨some 68, .fieldAddr 37 (.tmp 3) 1, y3, p3, f3, some (59, true)⟩ :: ⟨some 69, .fieldAddr 32 (.tmp 68) 8, y4, p4, f4, some (59, true)⟩ :: ⟨some 70, .load 9 (.tmp 69), y5, p5, f5, some (59, true)⟩ :: ⟨some 71, .binOp .eql 9 (.tmp 67) (.tmp 70) 9, y6, p6, f6, some (59, true)⟩ :: ⟨some 72, .pick (.tmp 64) (.tmp 71) (.const (.bool false)), y7, p7, f7, none⟩ :: ⟨some 73, .move (.tmp 72), y8, p8, f8, none⟩ :: rest) ⟨#[.agg (stepA a), .agg (stepA b), .pointer (some ⟨g, 0, none⟩), .pointer (some ⟨k, 0, none⟩), u4, u5, u6, u7, u8, u9, u10, u11, u12, u13, u14, u15, u16, u17, u18, u19, u20, u21, u22, u23, u24, u25, u26, u27, u28, u29, u30, u31, u32, u33, u34, u35, u36, u37, u38, u39, u40, u41, u42, u43, u44, u45, u46, u47, u48, u49, u50, u51, u52, u53, u54, u55, u56, u57, u58, u59, u60, u61, u62, u63, .bool c, u65, u66, u67, u68, u69, u70, u71, u72, u73, u74, u75, u76, u77, u78, u79, u80, u81, u82, u83, u84, u85, u86, u87, u88, u89, u90, u91, u92, u93, u94, u95, u96, u97, u98, u99, u100, u101, u102, u103, u104, u105, u106, u107, u108, u109, u110, u111, u112, u113, u114, u115, u116, u117], []⟩ w := by
 have HT := qh HT0
 have p1 := HT0.ok.p16
 have p2 := HT0.ok2.p16
 have HG := qh hg
 have H := qh h
 clear h HT0 hg
 have cA32 := HT.out.A.c32
 have cB32 := HT.out.B.c32
 have htl := str_tl
 clear p1 p2
 cases c
 ·refine wpList_off HG.out rfl rfl ?_; refine wpList_off HG.out rfl rfl ?_; refine wpList_off HG.out rfl rfl ?_; refine wpList_off HG.out rfl rfl ?_; refine wpList_off HG.out rfl rfl ?_; refine wpList_off HG.out rfl rfl ?_; refine wpList_off HG.out rfl rfl ?_
  go_wp2_with fail
  exact H.out _ _ _ _ _ _ _ _
 ·refine wpList_ung HG.out [_, _, _, _, _, _, _] _ _ _ (by simp) rfl ?_
  simp only [List.map_cons, List.map_nil, List.cons_append, List.nil_append]
  go_wp2_with fail
  exact H.out _ _ _ _ _ _ _ _
end Go.Proofs.YtdbgeobolongmaaGreatDoor
