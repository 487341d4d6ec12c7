/- Part of the proof: contracts of the functions that the statements of layer 32 reach. -/
import Derived.Test.YtdbgeobolongmaaGreatDoorV12
import Derived.Test.YtdbgeobolongmaaGreatDoorV23
import Derived.Test.YtdbgeobolongmaaGreatDoorV27
import Derived.Test.YtdbgeobolongmaaGreatDoorV29
import Derived.Test.YtdbgeobolongmaaGreatDoorV30
import Derived.Test.YtdbgeobolongmaaGreatDoorV31
set_option linter.unusedVariables false
set_option linter.unusedSimpArgs false
set_option maxRecDepth 100000
set_option maxHeartbeats 4000000
namespace Go.Proofs.YtdbgeobolongmaaGreatDoor
open Go.RowKit Go.Shelf Go.Proofs Go.OctetPlain Go.PrefixPlain
theorem segD_n (a b : StV) (W w : World) (g k : Nat) (HT0 : TwoD W a b g k w) (c : Bool) {OPS : Array Oper} {Q : Exit → Act → World → Prop} {rest : List Oper} (hg : Fills OPS 36 57) {y0 y1 y2 y3 y4 y5 y6 y7 y8 : TypeId} {p0 p1 p2 p3 p4 p5 p6 p7 p8 : String} {f0 f1 f2 f3 f4 f5 f6 f7 f8 : Array Edge} {u4 u5 u6 u7 u8 u9 u10 u11 u12 u13 u14 u15 u16 u17 u18 u19 u20 u21 u22 u23 u24 u25 u26 u27 u28 u29 u30 u31 u32 u33 u34 u35 u36 u37 u38 u39 u40 u41 u42 u43 u44 u45 u46 u47 u48 u49 u50 u51 u52 u53 u54 u55 u56 u58 u59 u60 u61 u62 u63 u64 u65 u66 u67 u68 u69 u70 u71 u72 u73 u74 u75 u76 u77 u78 u79 u80 u81 u82 u83 u84 u85 u86 u87 u88 u89 u90 u91 u92 u93 u94 u95 u96 u97 u98 u99 u100 u101 : Value}
  (h : ∀ n58 n59 n60 n61 n62 n63 n64 n65 : Value, wpList Tryz.prog OPS Q rest ⟨#[.agg (stepA a), .agg (stepA b), .pointer (some ⟨g, 0, none⟩), .pointer (some ⟨k, 0, none⟩), u4, u5, u6, u7, u8, u9, u10, u11, u12, u13, u14, u15, u16, u17, u18, u19, u20, u21, u22, u23, u24, u25, u26, u27, u28, u29, u30, u31, u32, u33, u34, u35, u36, u37, u38, u39, u40, u41, u42, u43, u44, u45, u46, u47, u48, u49, u50, u51, u52, u53, u54, u55, u56, .bool c, n58, n59, n60, n61, n62, n63, n64, n65, .bool (c && (a.t.n == b.t.n)), u67, u68, u69, u70, u71, u72, u73, u74, u75, u76, u77, u78, u79, u80, u81, u82, u83, u84, u85, u86, u87, u88, u89, u90, u91, u92, u93, u94, u95, u96, u97, u98, u99, u100, u101], []⟩ w) :
  wpList Tryz.prog OPS Q (⟨some 58, .fieldAddr 46 (.tmp 2) 1, y0, p0, f0, some (36, true)⟩ :: ⟨some 59, .fieldAddr 42 (.tmp 58) 2, y1, p1, f1, some (36, true)⟩ :: ⟨some 60, .load 3 (.tmp 59), y2, p2, f2, some (36, true)⟩ :: ⟨some 61, .fieldAddr 46 (.tmp 3) 1, y3, p3, f3, some (36, true)⟩ :: ⟨some 62, .fieldAddr 42 (.tmp 61) 2, y4, p4, f4, some (36, true)⟩ :: ⟨some 63, .load 3 (.tmp 62), y5, p5, f5, some (36, true)⟩ :: ⟨some 64, .binOp .eql 3 (.tmp 60) (.tmp 63) 3, y6, p6, f6, some (36, true)⟩ :: ⟨some 65, .pick (.tmp 57) (.tmp 64) (.const (.bool false)), y7, p7, f7, none⟩ :: ⟨some 66, .move (.tmp 65), y8, p8, f8, none⟩ :: rest) ⟨#[.agg (stepA a), .agg (stepA b), .pointer (some ⟨g, 0, none⟩), .pointer (some ⟨k, 0, none⟩), u4, u5, u6, u7, u8, u9, u10, u11, u12, u13, u14, u15, u16, u17, u18, u19, u20, u21, u22, u23, u24, u25, u26, u27, u28, u29, u30, u31, u32, u33, u34, u35, u36, u37, u38, u39, u40, u41, u42, u43, u44, u45, u46, u47, u48, u49, u50, u51, u52, u53, u54, u55, u56, .bool c, u58, u59, u60, u61, u62, u63, u64, u65, u66, u67, u68, u69, u70, u71, u72, u73, u74, u75, u76, u77, u78, u79, u80, u81, u82, u83, u84, u85, u86, u87, u88, u89, u90, u91, u92, u93, u94, u95, u96, u97, u98, u99, u100, u101], []⟩ w := by
 have HT := qh HT0
 have p1 := HT0.ok.2
 have p2 := HT0.ok2.2
 have HG := qh hg
 have H := qh h
 clear h HT0 hg
 have cA3 := HT.out.A.c3
 have cB3 := HT.out.B.c3
 clear p1 p2
 cases c
 ·refine wpList_off HG.out rfl rfl ?_; refine wpList_off HG.out rfl rfl ?_; refine wpList_off HG.out rfl rfl ?_; refine wpList_off HG.out rfl rfl ?_; refine wpList_off HG.out rfl rfl ?_; refine wpList_off HG.out rfl rfl ?_; refine wpList_off HG.out rfl rfl ?_
  go_wp2_with fail
  exact H.out _ _ _ _ _ _ _ _
 ·refine wpList_ung HG.out [_, _, _, _, _, _, _] _ _ _ (by simp) rfl ?_
  simp only [List.map_cons, List.map_nil, List.cons_append, List.nil_append]
  go_wp2_with fail
  exact H.out _ _ _ _ _ _ _ _
theorem segD_owner (a b : StV) (W w : World) (g k : Nat) (HT0 : TwoD W a b g k w) (c : Bool) {OPS : Array Oper} {Q : Exit → Act → World → Prop} {rest : List Oper} (hg : Fills OPS 45 66) {y0 y1 y2 y3 y4 y5 y6 y7 y8 : TypeId} {p0 p1 p2 p3 p4 p5 p6 p7 p8 : String} {f0 f1 f2 f3 f4 f5 f6 f7 f8 : Array Edge} {u4 u5 u6 u7 u8 u9 u10 u11 u12 u13 u14 u15 u16 u17 u18 u19 u20 u21 u22 u23 u24 u25 u26 u27 u28 u29 u30 u31 u32 u33 u34 u35 u36 u37 u38 u39 u40 u41 u42 u43 u44 u45 u46 u47 u48 u49 u50 u51 u52 u53 u54 u55 u56 u57 u58 u59 u60 u61 u62 u63 u64 u65 u67 u68 u69 u70 u71 u72 u73 u74 u75 u76 u77 u78 u79 u80 u81 u82 u83 u84 u85 u86 u87 u88 u89 u90 u91 u92 u93 u94 u95 u96 u97 u98 u99 u100 u101 : Value}
  (h : ∀ n67 n68 n69 n70 n71 n72 n73 n74 : Value, wpList Tryz.prog OPS Q rest ⟨#[.agg (stepA a), .agg (stepA b), .pointer (some ⟨g, 0, none⟩), .pointer (some ⟨k, 0, none⟩), u4, u5, u6, u7, u8, u9, u10, u11, u12, u13, u14, u15, u16, u17, u18, u19, u20, u21, u22, u23, u24, u25, u26, u27, u28, u29, u30, u31, u32, u33, u34, u35, u36, u37, u38, u39, u40, u41, u42, u43, u44, u45, u46, u47, u48, u49, u50, u51, u52, u53, u54, u55, u56, u57, u58, u59, u60, u61, u62, u63, u64, u65, .bool c, n67, n68, n69, n70, n71, n72, n73, n74, .bool (c && (a.t.owner == b.t.owner)), u76, u77, u78, u79, u80, u81, u82, u83, u84, u85, u86, u87, u88, u89, u90, u91, u92, u93, u94, u95, u96, u97, u98, u99, u100, u101], []⟩ w) :
  wpList Tryz.prog OPS Q (⟨some 67, .fieldAddr 46 (.tmp 2) 1, y0, p0, f0, some (45, true)⟩ :: ⟨some 68, .fieldAddr 42 (.tmp 67) 3, y1, p1, f1, some (45, true)⟩ :: ⟨some 69, .load 3 (.tmp 68), y2, p2, f2, some (45, true)⟩ :: ⟨some 70, .fieldAddr 46 (.tmp 3) 1, y3, p3, f3, some (45, true)⟩ :: ⟨some 71, .fieldAddr 42 (.tmp 70) 3, y4, p4, f4, some (45, true)⟩ :: ⟨some 72, .load 3 (.tmp 71), y5, p5, f5, some (45, true)⟩ :: ⟨some 73, .binOp .eql 3 (.tmp 69) (.tmp 72) 3, y6, p6, f6, some (45, true)⟩ :: ⟨some 74, .pick (.tmp 66) (.tmp 73) (.const (.bool false)), y7, p7, f7, none⟩ :: ⟨some 75, .move (.tmp 74), y8, p8, f8, none⟩ :: rest) ⟨#[.agg (stepA a), .agg (stepA b), .pointer (some ⟨g, 0, none⟩), .pointer (some ⟨k, 0, none⟩), u4, u5, u6, u7, u8, u9, u10, u11, u12, u13, u14, u15, u16, u17, u18, u19, u20, u21, u22, u23, u24, u25, u26, u27, u28, u29, u30, u31, u32, u33, u34, u35, u36, u37, u38, u39, u40, u41, u42, u43, u44, u45, u46, u47, u48, u49, u50, u51, u52, u53, u54, u55, u56, u57, u58, u59, u60, u61, u62, u63, u64, u65, .bool c, u67, u68, u69, u70, u71, u72, u73, u74, u75, u76, u77, u78, u79, u80, u81, u82, u83, u84, u85, u86, u87, u88, u89, u90, u91, u92, u93, u94, u95, u96, u97, u98, u99, u100, u101], []⟩ w := by
 have HT := qh HT0
 have p1 := HT0.ok.2
 have p2 := HT0.ok2.2
 have HG := qh hg
 have H := qh h
 clear h HT0 hg
 have cA4 := HT.out.A.c4
 have cB4 := HT.out.B.c4
 clear p1 p2
 cases c
 ·refine wpList_off HG.out rfl rfl ?_; refine wpList_off HG.out rfl rfl ?_; refine wpList_off HG.out rfl rfl ?_; refine wpList_off HG.out rfl rfl ?_; refine wpList_off HG.out rfl rfl ?_; refine wpList_off HG.out rfl rfl ?_; refine wpList_off HG.out rfl rfl ?_
  go_wp2_with fail
  exact H.out _ _ _ _ _ _ _ _
 ·refine wpList_ung HG.out [_, _, _, _, _, _, _] _ _ _ (by simp) rfl ?_
  simp only [List.map_cons, List.map_nil, List.cons_append, List.nil_append]
  go_wp2_with fail
  exact H.out _ _ _ _ _ _ _ _
theorem segD_sp (a b : StV) (W w : World) (g k : Nat) (HT0 : TwoD W a b g k w) (c : Bool) {OPS : Array Oper} {Q : Exit → Act → World → Prop} {rest : List Oper} (hg : Fills OPS 54 75) {y0 y1 y2 y3 y4 y5 y6 y7 y8 : TypeId} {p0 p1 p2 p3 p4 p5 p6 p7 p8 : String} {f0 f1 f2 f3 f4 f5 f6 f7 f8 : Array Edge} {u4 u5 u6 u7 u8 u9 u10 u11 u12 u13 u14 u15 u16 u17 u18 u19 u20 u21 u22 u23 u24 u25 u26 u27 u28 u29 u30 u31 u32 u33 u34 u35 u36 u37 u38 u39 u40 u41 u42 u43 u44 u45 u46 u47 u48 u49 u50 u51 u52 u53 u54 u55 u56 u57 u58 u59 u60 u61 u62 u63 u64 u65 u66 u67 u68 u69 u70 u71 u72 u73 u74 u76 u77 u78 u79 u80 u81 u82 u83 u84 u85 u86 u87 u88 u89 u90 u91 u92 u93 u94 u95 u96 u97 u98 u99 u100 u101 : Value}
  (h : ∀ n76 n77 n78 n79 n80 n81 n82 n83 : Value, wpList Tryz.prog OPS Q rest ⟨#[.agg (stepA a), .agg (stepA b), .pointer (some ⟨g, 0, none⟩), .pointer (some ⟨k, 0, none⟩), u4, u5, u6, u7, u8, u9, u10, u11, u12, u13, u14, u15, u16, u17, u18, u19, u20, u21, u22, u23, u24, u25, u26, u27, u28, u29, u30, u31, u32, u33, u34, u35, u36, u37, u38, u39, u40, u41, u42, u43, u44, u45, u46, u47, u48, u49, u50, u51, u52, u53, u54, u55, u56, u57, u58, u59, u60, u61, u62, u63, u64, u65, u66, u67, u68, u69, u70, u71, u72, u73, u74, .bool c, n76, n77, n78, n79, n80, n81, n82, n83, .bool (c && (decide ((a.t.s1, a.t.s2) = (b.t.s1, b.t.s2)))), u85, u86, u87, u88, u89, u90, u91, u92, u93, u94, u95, u96, u97, u98, u99, u100, u101], []⟩ w) :
  wpList Tryz.prog OPS Q (⟨some 76, .fieldAddr 46 (.tmp 2) 1, y0, p0, f0, some (54, true)⟩ :: ⟨some 77, .fieldAddr 42 (.tmp 76) 4, y1, p1, f1, some (54, true)⟩ :: ⟨some 78, .load 23 (.tmp 77), y2, p2, f2, some (54, true)⟩ :: ⟨some 79, .fieldAddr 46 (.tmp 3) 1, y3, p3, f3, some (54, true)⟩ :: ⟨some 80, .fieldAddr 42 (.tmp 79) 4, y4, p4, f4, some (54, true)⟩ :: ⟨some 81, .load 23 (.tmp 80), y5, p5, f5, some (54, true)⟩ :: ⟨some 82, .binOp .eql 23 (.tmp 78) (.tmp 81) 23, y6, p6, f6, some (54, true)⟩ :: ⟨some 83, .pick (.tmp 75) (.tmp 82) (.const (.bool false)), y7, p7, f7, none⟩ :: ⟨some 84, .move (.tmp 83), y8, p8, f8, none⟩ :: rest) ⟨#[.agg (stepA a), .agg (stepA b), .pointer (some ⟨g, 0, none⟩), .pointer (some ⟨k, 0, none⟩), u4, u5, u6, u7, u8, u9, u10, u11, u12, u13, u14, u15, u16, u17, u18, u19, u20, u21, u22, u23, u24, u25, u26, u27, u28, u29, u30, u31, u32, u33, u34, u35, u36, u37, u38, u39, u40, u41, u42, u43, u44, u45, u46, u47, u48, u49, u50, u51, u52, u53, u54, u55, u56, u57, u58, u59, u60, u61, u62, u63, u64, u65, u66, u67, u68, u69, u70, u71, u72, u73, u74, .bool c, u76, u77, u78, u79, u80, u81, u82, u83, u84, u85, u86, u87, u88, u89, u90, u91, u92, u93, u94, u95, u96, u97, u98, u99, u100, u101], []⟩ w := by
 have HT := qh HT0
 have p1 := HT0.ok.2
 have p2 := HT0.ok2.2
 have HG := qh hg
 have H := qh h
 clear h HT0 hg
 have cA5 := HT.out.A.c5
 have cB5 := HT.out.B.c5
 have cA6 := HT.out.A.c6
 have cB6 := HT.out.B.c6
 have hsp : ∀ w, (Op.equalIn 10000 23 (.agg #[.int .i64 a.t.s1, .int .i64 a.t.s2]) (.agg #[.int .i64 b.t.s1, .int .i64 b.t.s2])).run Tryz.prog w = .ok (decide ((a.t.s1, a.t.s2) = (b.t.s1, b.t.s2))) w := fun w => run_span (a.t.s1, a.t.s2) (b.t.s1, b.t.s2) w
 have hgs := fun w op x y => GuardAt.agg (P := Tryz.prog) (T := 23) (fun c : Array Value => c) (by kernel_rfl) op x y #[.int .i64 a.t.s1, .int .i64 a.t.s2] #[.int .i64 b.t.s1, .int .i64 b.t.s2] w
 generalize decide ((a.t.s1, a.t.s2) = (b.t.s1, b.t.s2)) = v at *
 clear p1 p2
 cases c
 ·refine wpList_off HG.out rfl rfl ?_; refine wpList_off HG.out rfl rfl ?_; refine wpList_off HG.out rfl rfl ?_; refine wpList_off HG.out rfl rfl ?_; refine wpList_off HG.out rfl rfl ?_; refine wpList_off HG.out rfl rfl ?_; refine wpList_off HG.out rfl rfl ?_
  go_wp2_with fail
  exact H.out _ _ _ _ _ _ _ _
 ·refine wpList_ung HG.out [_, _, _, _, _, _, _] _ _ _ (by simp) rfl ?_
  simp only [List.map_cons, List.map_nil, List.cons_append, List.nil_append]
  go_wp2_with fail
  exact H.out _ _ _ _ _ _ _ _
theorem segD_pf (a b : StV) (W w : World) (g k : Nat) (HT0 : TwoD W a b g k w) (c : Bool) {OPS : Array Oper} {Q : Exit → Act → World → Prop} {rest : List Oper} (hg : Fills OPS 63 84) {y0 y1 y2 y3 y4 y5 y6 y7 y8 : TypeId} {p0 p1 p2 p3 p4 p5 p6 p7 p8 : String} {f0 f1 f2 f3 f4 f5 f6 f7 f8 : Array Edge} {u4 u5 u6 u7 u8 u9 u10 u11 u12 u13 u14 u15 u16 u17 u18 u19 u20 u21 u22 u23 u24 u25 u26 u27 u28 u29 u30 u31 u32 u33 u34 u35 u36 u37 u38 u39 u40 u41 u42 u43 u44 u45 u46 u47 u48 u49 u50 u51 u52 u53 u54 u55 u56 u57 u58 u59 u60 u61 u62 u63 u64 u65 u66 u67 u68 u69 u70 u71 u72 u73 u74 u75 u76 u77 u78 u79 u80 u81 u82 u83 u85 u86 u87 u88 u89 u90 u91 u92 u93 u94 u95 u96 u97 u98 u99 u100 u101 : Value}
  (h : ∀ n85 n86 n87 n88 n89 n90 n91 n92 : Value, wpList Tryz.prog OPS Q rest ⟨#[.agg (stepA a), .agg (stepA b), .pointer (some ⟨g, 0, none⟩), .pointer (some ⟨k, 0, none⟩), u4, u5, u6, u7, u8, u9, u10, u11, u12, u13, u14, u15, u16, u17, u18, u19, u20, u21, u22, u23, u24, u25, u26, u27, u28, u29, u30, u31, u32, u33, u34, u35, u36, u37, u38, u39, u40, u41, u42, u43, u44, u45, u46, u47, u48, u49, u50, u51, u52, u53, u54, u55, u56, u57, u58, u59, u60, u61, u62, u63, u64, u65, u66, u67, u68, u69, u70, u71, u72, u73, u74, u75, u76, u77, u78, u79, u80, u81, u82, u83, .bool c, n85, n86, n87, n88, n89, n90, n91, n92, .bool (c && (decide (a.t.pf = b.t.pf))), u94, u95, u96, u97, u98, u99, u100, u101], []⟩ w) :
  wpList Tryz.prog OPS Q (⟨some 85, .fieldAddr 46 (.tmp 2) 1, y0, p0, f0, some (63, true)⟩ :: ⟨some 86, .fieldAddr 42 (.tmp 85) 5, y1, p1, f1, some (63, true)⟩ :: ⟨some 87, .load 26 (.tmp 86), y2, p2, f2, some (63, true)⟩ :: ⟨some 88, .fieldAddr 46 (.tmp 3) 1, y3, p3, f3, some (63, true)⟩ :: ⟨some 89, .fieldAddr 42 (.tmp 88) 5, y4, p4, f4, some (63, true)⟩ :: ⟨some 90, .load 26 (.tmp 89), y5, p5, f5, some (63, true)⟩ :: ⟨some 91, .binOp .eql 26 (.tmp 87) (.tmp 90) 26, y6, p6, f6, some (63, true)⟩ :: ⟨some 92, .pick (.tmp 84) (.tmp 91) (.const (.bool false)), y7, p7, f7, none⟩ :: ⟨some 93, .move (.tmp 92), y8, p8, f8, none⟩ :: rest) ⟨#[.agg (stepA a), .agg (stepA b), .pointer (some ⟨g, 0, none⟩), .pointer (some ⟨k, 0, none⟩), u4, u5, u6, u7, u8, u9, u10, u11, u12, u13, u14, u15, u16, u17, u18, u19, u20, u21, u22, u23, u24, u25, u26, u27, u28, u29, u30, u31, u32, u33, u34, u35, u36, u37, u38, u39, u40, u41, u42, u43, u44, u45, u46, u47, u48, u49, u50, u51, u52, u53, u54, u55, u56, u57, u58, u59, u60, u61, u62, u63, u64, u65, u66, u67, u68, u69, u70, u71, u72, u73, u74, u75, u76, u77, u78, u79, u80, u81, u82, u83, .bool c, u85, u86, u87, u88, u89, u90, u91, u92, u93, u94, u95, u96, u97, u98, u99, u100, u101], []⟩ w := by
 have HT := qh HT0
 have p1 := HT0.ok.2
 have p2 := HT0.ok2.2
 have HG := qh hg
 have H := qh h
 clear h HT0 hg
 have hpf : ∀ w, (Op.equalIn 10000 26 (.agg (pfA a.t.pf)) (.agg (pfA b.t.pf))).run Tryz.prog w = .ok (decide (a.t.pf = b.t.pf)) w := fun w => eq_pf p1 p2 w
 have hgp := fun w op x y => GuardAt.agg (P := Tryz.prog) (T := 26) (fun c : Array Value => c) (by kernel_rfl) op x y (pfA a.t.pf) (pfA b.t.pf) w
 have HRA := qh HT.out.A.pfA
 have HRB := qh HT.out.B.pfA
 have HIA := qh (infoPL p1)
 have HIB := qh (infoPL p2)
 generalize pfA a.t.pf = PA at *
 generalize pfA b.t.pf = PB at *
 generalize decide (a.t.pf = b.t.pf) = v at *
 clear p1 p2
 cases c
 ·refine wpList_off HG.out rfl rfl ?_; refine wpList_off HG.out rfl rfl ?_; refine wpList_off HG.out rfl rfl ?_; refine wpList_off HG.out rfl rfl ?_; refine wpList_off HG.out rfl rfl ?_; refine wpList_off HG.out rfl rfl ?_; refine wpList_off HG.out rfl rfl ?_
  go_wp2_with fail
  exact H.out _ _ _ _ _ _ _ _
 ·refine wpList_ung HG.out [_, _, _, _, _, _, _] _ _ _ (by simp) rfl ?_
  simp only [List.map_cons, List.map_nil, List.cons_append, List.nil_append]
  go_wp2_with (first
   | (refine wpList_load_mid rfl _ (.tmp 86) (by rfl) g 7 (by rfl) PA.toList _ HRA.out Tryz.underlying26 rfl HIA.out ?_)
   | (refine wpList_load_mid rfl _ (.tmp 89) (by rfl) k 7 (by rfl) PB.toList _ HRB.out Tryz.underlying26 rfl HIB.out ?_))
  exact H.out _ _ _ _ _ _ _ _
theorem segD_text (a b : StV) (W w : World) (g k : Nat) (HT0 : TwoD W a b g k w) (c : Bool) {OPS : Array Oper} {Q : Exit → Act → World → Prop} {rest : List Oper} (hg : Fills OPS 72 93) {y0 y1 y2 y3 y4 y5 y6 y7 y8 : TypeId} {p0 p1 p2 p3 p4 p5 p6 p7 p8 : String} {f0 f1 f2 f3 f4 f5 f6 f7 f8 : Array Edge} {u4 u5 u6 u7 u8 u9 u10 u11 u12 u13 u14 u15 u16 u17 u18 u19 u20 u21 u22 u23 u24 u25 u26 u27 u28 u29 u30 u31 u32 u33 u34 u35 u36 u37 u38 u39 u40 u41 u42 u43 u44 u45 u46 u47 u48 u49 u50 u51 u52 u53 u54 u55 u56 u57 u58 u59 u60 u61 u62 u63 u64 u65 u66 u67 u68 u69 u70 u71 u72 u73 u74 u75 u76 u77 u78 u79 u80 u81 u82 u83 u84 u85 u86 u87 u88 u89 u90 u91 u92 u94 u95 u96 u97 u98 u99 u100 u101 : Value}
  (h : ∀ n94 n95 n96 n97 n98 n99 n100 n101 : Value, wpList Tryz.prog OPS Q rest ⟨#[.agg (stepA a), .agg (stepA b), .pointer (some ⟨g, 0, none⟩), .pointer (some ⟨k, 0, none⟩), .bool (c && (a.t.text == b.t.text)), u5, u6, u7, u8, u9, u10, u11, u12, u13, u14, u15, u16, u17, u18, u19, u20, u21, u22, u23, u24, u25, u26, u27, u28, u29, u30, u31, u32, u33, u34, u35, u36, u37, u38, u39, u40, u41, u42, u43, u44, u45, u46, u47, u48, u49, u50, u51, u52, u53, u54, u55, u56, u57, u58, u59, u60, u61, u62, u63, u64, u65, u66, u67, u68, u69, u70, u71, u72, u73, u74, u75, u76, u77, u78, u79, u80, u81, u82, u83, u84, u85, u86, u87, u88, u89, u90, u91, u92, .bool c, n94, n95, n96, n97, n98, n99, n100, n101], []⟩ w) :
  wpList Tryz.prog OPS Q (⟨some 94, .fieldAddr 46 (.tmp 2) 1, y0, p0, f0, some (72, true)⟩ :: ⟨some 95, .fieldAddr 42 (.tmp 94) 8, y1, p1, f1, some (72, true)⟩ :: ⟨some 96, .load 9 (.tmp 95), y2, p2, f2, some (72, true)⟩ :: ⟨some 97, .fieldAddr 46 (.tmp 3) 1, y3, p3, f3, some (72, true)⟩ :: ⟨some 98, .fieldAddr 42 (.tmp 97) 8, y4, p4, f4, some (72, true)⟩ :: ⟨some 99, .load 9 (.tmp 98), y5, p5, f5, some (72, true)⟩ :: ⟨some 100, .binOp .eql 9 (.tmp 96) (.tmp 99) 9, y6, p6, f6, some (72, true)⟩ :: ⟨some 101, .pick (.tmp 93) (.tmp 100) (.const (.bool false)), y7, p7, f7, none⟩ :: ⟨some 4, .assign (.tmp 101), y8, p8, f8, none⟩ :: rest) ⟨#[.agg (stepA a), .agg (stepA b), .pointer (some ⟨g, 0, none⟩), .pointer (some ⟨k, 0, none⟩), u4, u5, u6, u7, u8, u9, u10, u11, u12, u13, u14, u15, u16, u17, u18, u19, u20, u21, u22, u23, u24, u25, u26, u27, u28, u29, u30, u31, u32, u33, u34, u35, u36, u37, u38, u39, u40, u41, u42, u43, u44, u45, u46, u47, u48, u49, u50, u51, u52, u53, u54, u55, u56, u57, u58, u59, u60, u61, u62, u63, u64, u65, u66, u67, u68, u69, u70, u71, u72, u73, u74, u75, u76, u77, u78, u79, u80, u81, u82, u83, u84, u85, u86, u87, u88, u89, u90, u91, u92, .bool c, u94, u95, u96, u97, u98, u99, u100, u101], []⟩ w := by
 have HT := qh HT0
 have p1 := HT0.ok.2
 have p2 := HT0.ok2.2
 have HG := qh hg
 have H := qh h
 clear h HT0 hg
 have cA32 := HT.out.A.c32
 have cB32 := HT.out.B.c32
 have htl := str_tl
 clear p1 p2
 cases c
 ·refine wpList_off HG.out rfl rfl ?_; refine wpList_off HG.out rfl rfl ?_; refine wpList_off HG.out rfl rfl ?_; refine wpList_off HG.out rfl rfl ?_; refine wpList_off HG.out rfl rfl ?_; refine wpList_off HG.out rfl rfl ?_; refine wpList_off HG.out rfl rfl ?_
  go_wp2_with fail
  exact H.out _ _ _ _ _ _ _ _
 ·refine wpList_ung HG.out [_, _, _, _, _, _, _] _ _ _ (by simp) rfl ?_
  simp only [List.map_cons, List.map_nil, List.cons_append, List.nil_append]
  go_wp2_with fail
  exact H.out _ _ _ _ _ _ _ _
theorem r18_Same (a b : List (Int × Int)) (ha : a.length ≤ 1073741824) (hb : b.length ≤ 1073741824) (va vb : Value) (w : World) (hva : SlR w 2 encWy va a) (hvb : SlR w 2 encWy vb b) :
  Calls Tryz.prog 33 #[va, vb] w fun e w' => e = .returned (.bool (decide (a = b))) ∧ Below w.heap.size w w' := by
 obtain ⟨p, c, rfl, h1, h2, hp⟩ := hva
 obtain ⟨q, d, rfl, h3, h4, hq⟩ := hvb
 have HP := qh fun W (h : Below w.heap.size w W) => hp.below h (Nat.le_refl _)
 have HQ := qh fun W (h : Below w.heap.size w W) => hq.below h (Nat.le_refl _)
 have HAB : Hid (decide (a = b) = decide (a = b)) := qh rfl
 obtain ⟨r, HR⟩ : ∃ r, Hid (r = decide (a = b)) := ⟨_, qh rfl⟩
 rw [← HR.out]
 clear hp hq HAB
 by_cases hn : a.length = b.length
 rotate_left
 ·have HF : Hid (r = false) := qh (by rw [HR.out]; exact decide_eq_false fun e => hn (by rw [e]))
  have hd : ((a.length : Int) != (b.length : Int)) = true := by simp only [bne_iff_ne, ne_eq]; omega
  clear hn
  go_enter Tryz.func33, Tryz.ntmps33
  go_wp2_with fail
  go_ret
  exact ⟨by rw [HF.out]; rfl, Below.refl _ _⟩
 have hd : ((a.length : Int) != (b.length : Int)) = false := by simp only [bne_eq_false_iff_eq]; omega
 have HN := qh hn
 clear hn
 go_enter Tryz.func33, Tryz.ntmps33
 go_wp2_with fail
 go_loopw [5] (fun vi wr => ∃ k : Nat, vi = .int .i64 k ∧ k ≤ a.length ∧ Hid (a.take k = b.take k) ∧ Hid (Below w.heap.size w wr)) (fun vi _ => a.length - (intOf vi).toNat)
 case atStart => exact ⟨0, rfl, Nat.zero_le _, qh rfl, qh (Below.refl _ _)⟩
 case round =>
  obtain ⟨k, rfl, hk, HE, HB⟩ := hrel
  by_cases hlt : k < a.length
  ·have hlt2 : k < b.length := by rw [← HN.out]; exact hlt
   obtain ⟨b1, o1, hb1, hl1, x0, x1⟩ := (HP.out wr HB.out).atW hlt
   obtain ⟨b2, o2, hb2, hl2, y0, y1⟩ := (HQ.out wr HB.out).atW hlt2
   subst hb1 hb2
   have HC : Hid (∀ W, Below w.heap.size w W → W.cell? ⟨b1, o1 + k * 2, none⟩ = some (.int .i64 a[k].1) ∧ W.cell? ⟨b1, o1 + k * 2 + 1, none⟩ = some (.int .i64 a[k].2) ∧ W.cell? ⟨b2, o2 + k * 2, none⟩ = some (.int .i64 b[k].1) ∧ W.cell? ⟨b2, o2 + k * 2 + 1, none⟩ = some (.int .i64 b[k].2)) := qh fun W h => by
    obtain ⟨g1, f1, e1, -, u0, u1⟩ := (HP.out W h).atW hlt
    obtain ⟨g2, f2, e2, -, v0, v1⟩ := (HQ.out W h).atW hlt2
    cases e1; cases e2
    exact ⟨u0, u1, v0, v1⟩
   have hsp := fun w => run_way a[k] b[k] w
   have hgs := fun w op x y => GuardAt.agg (P := Tryz.prog) (T := 131) (fun c : Array Value => c) (by kernel_rfl) op x y #[.int .i64 a[k].1, .int .i64 a[k].2] #[.int .i64 b[k].1, .int .i64 b[k].2] w
   have HTA : Hid (a.take (k + 1) = a.take k ++ [a[k]]) := qh (List.take_succ_eq_append_getElem hlt)
   have HTB : Hid (b.take (k + 1) = b.take k ++ [b[k]]) := qh (List.take_succ_eq_append_getElem hlt2)
   have HGA : Hid (a[k]? = some a[k]) := qh (List.getElem?_eq_getElem hlt)
   have HGB : Hid (b[k]? = some b[k]) := qh (List.getElem?_eq_getElem hlt2)
   generalize a[k] = x at *
   generalize b[k] = y at *
   obtain ⟨xa, xb⟩ := x
   obtain ⟨ya, yb⟩ := y
   simp only at hsp hgs HC x0 x1 y0 y1
   clear x0 x1 y0 y1
   generalize hv : decide ((xa, xb) = (ya, yb)) = v at *
   have HV := qh hv
   clear hv
   go_upto_region 6 with fail
   refine wp_region_held_drew (S := fun W => Below w.heap.size w W) (by kernel_rfl) HB.out.drew (fun hHeld => ?_)
   refine kq 0 ?_; refine kq 1 ?_; refine kq 2 ?_; refine kq 4 ?_; refine kq 5 ?_; refine kq 6 ?_
   refine kq 3 ?_ (hy := by intro w h; have c := HC.out w h; obtain ⟨c1, c2, c3, c4⟩ := c; go_simp; try with_reducible rfl)
   refine kq 7 ?_ (hy := by intro w h; have c := HC.out w h; obtain ⟨c1, c2, c3, c4⟩ := c; go_simp; try with_reducible rfl)
   refine kq 8 ?_
   refine zD ?_
   cases v with
   | true =>
    have HB2 : Hid (Below w.heap.size w wr.drew) := qh HB.out.drew
    have HE2 : Hid (a.take (k + 1) = b.take (k + 1)) := qh (by rw [HTA.out, HTB.out, HE.out, of_decide_eq_true HV.out])
    go_wp2_with fail
    exact ⟨⟨k + 1, by go_num, by omega, HE2, HB2⟩, by simp [intOf]; omega⟩
   | false =>
    have HF : Hid (r = false) := qh (by
     rw [HR.out]
     refine decide_eq_false fun e => ?_
     subst e
     have := HGA.out.symm.trans HGB.out
     exact of_decide_eq_false HV.out (Option.some.inj this))
    have HB2 : Hid (Below w.heap.size w wr.drew) := qh HB.out.drew
    go_wp2_with fail
    go_ret
    exact ⟨by rw [HF.out]; rfl, HB2.out⟩
  ·obtain rfl : k = a.length := by omega
   have HT : Hid (r = true) := qh (by
    rw [HR.out]
    have := HE.out
    rw [List.take_length, HN.out, List.take_length] at this
    exact decide_eq_true this)
   go_wp2_with fail
   go_ret
   exact ⟨by rw [HT.out]; rfl, HB.out⟩
theorem r32_SameStep0 (a b : StV) (W : World) (A : InnerD (fun _ => True) W a) (B : InnerD (fun _ => True) W b) (pa : a.t.pf.addr.length = 16) (pb : b.t.pf.addr.length = 16) (al : a.t.hop.labels.length ≤ 1073741824) (ar : a.t.hop.repair.length ≤ 1073741824) (aw : a.t.ways.length ≤ 1073741824) (bl : b.t.hop.labels.length ≤ 1073741824) (br : b.t.hop.repair.length ≤ 1073741824) (bw : b.t.ways.length ≤ 1073741824) :
  Calls Tryz.prog 12 #[.agg (stepA a), .agg (stepA b)] W fun e w' => e = .returned (.bool ((((((((((((decide (a.t.hop = b.t.hop)) && (decide (a.t.ways = b.t.ways))) && (a.t.is == b.t.is)) && (decide ((a.t.port, a.t.mpls, a.t.bytes) = (b.t.port, b.t.mpls, b.t.bytes)))) && (a.t.kind == b.t.kind)) && (a.t.a == b.t.a)) && (a.t.n == b.t.n)) && (a.t.owner == b.t.owner)) && (decide ((a.t.s1, a.t.s2) = (b.t.s1, b.t.s2)))) && (decide (a.t.pf = b.t.pf))) && (a.t.text == b.t.text)))) ∧ Below W.heap.size W w' := by
 have HT0 : Hid (∀ w1 w2, w1 = W.alloc (.cells (stepA a) 46) → w2 = w1.alloc (.cells (stepA b) 46) → TwoD W a b W.heap.size w1.heap.size w2) := qh fun w1 w2 h1 h2 => by
  subst h2
  subst h1
  exact ⟨⟨(Blk.new W _ _).alloc _, pa⟩, ⟨Blk.new _ _ _, pb⟩, (belowA W _).alloc (by simp) _, ⟨A, pa⟩, ⟨B, pb⟩⟩
 have HC : Hid (∀ W', Below W.heap.size W W' → Calls Tryz.prog 32 #[.agg (hopA a.t.hop a.vl a.vr), .agg (hopA b.t.hop b.vl b.vr)] W' fun e w' => e = .returned (.bool (decide (a.t.hop = b.t.hop))) ∧ Below W'.heap.size W' w') := qh fun W' hW => ref_SameHop a.t.hop b.t.hop a.vl a.vr b.vl b.vr W' (HopIs.below ⟨al, ar, A.l.sl, A.r.sl⟩ hW (Nat.le_refl _)) (HopIs.below ⟨bl, br, B.l.sl, B.r.sl⟩ hW (Nat.le_refl _))
 have HY : Hid (∀ W', Below W.heap.size W W' → Calls Tryz.prog 33 #[a.vw, b.vw] W' fun e w' => e = .returned (.bool (decide (a.t.ways = b.t.ways))) ∧ Below W'.heap.size W' w') := qh fun W' hW => r18_Same a.t.ways b.t.ways aw bw a.vw b.vw W' (A.ws.sl.below hW (Nat.le_refl _)) (B.ws.sl.below hW (Nat.le_refl _))
 rw [← hopL_eq, ← hopL_eq] at HC
 have HIA := qh (infoHL a.t.hop a.vl a.vr)
 have HIB := qh (infoHL b.t.hop b.vl b.vr)
 clear A B al ar bl br aw bw
 go_enter Tryz.func12, Tryz.ntmps12
 go_wp2_with (first
  | (refine wpList_box_as rfl _ (.tmp 0) (by rfl) (stepA a) (by rfl) ?_; intro w1 E1; have HE1 := qh E1; clear E1)
  | (refine wpList_box_as rfl _ (.tmp 1) (by rfl) (stepA b) (by rfl) ?_; intro w2 E2; have HT := qh (HT0.out w1 w2 HE1.out E2); have hra := qh HT.out.A.hop; have hrb := qh HT.out.B.hop; clear E2)
  | (refine wpList_load_mid rfl _ (.tmp 8) (by rfl) _ 25 (by rfl) (hopL a.t.hop a.vl a.vr) _ hra.out Tryz.underlying29 rfl HIA.out ?_)
  | (refine wpList_load_mid rfl _ (.tmp 11) (by rfl) _ 25 (by rfl) (hopL b.t.hop b.vl b.vr) _ hrb.out Tryz.underlying29 rfl HIB.out ?_))
 refine (HC.out _ HT.out.bel).mono ?_
 rintro e w3 ⟨rfl, hb3⟩
 replace HT := qh (HT.out.next hb3)
 have c31 := HT.out.A.c31
 have d31 := HT.out.B.c31
 clear hb3 hra hrb
 go_wp2_with fail
 refine (HY.out _ HT.out.bel).mono ?_
 rintro e w4 ⟨rfl, hb4⟩
 replace HT := qh (HT.out.next hb4)
 clear c31 d31 hb4 HC HY HIA HIB
 generalize hh0 : decide (a.t.hop = b.t.hop) = h0 at *
 generalize hw0 : decide (a.t.ways = b.t.ways) = w0 at *
 have HH0 := qh hh0
 have HW0 := qh hw0
 clear hh0 hw0
 go_upto_region 3 with fail
 refine wp_region_gen _ (by rfl) (fun OPS hO => ?_)
 have G1 : Hid (Fills OPS 1 22) := qh (Fills.of hO (by rfl) (by rfl))
 have G4 : Hid (Fills OPS 4 25) := qh (Fills.of hO (by rfl) (by rfl))
 have G11 : Hid (Fills OPS 11 32) := qh (Fills.of hO (by rfl) (by rfl))
 have G18 : Hid (Fills OPS 18 39) := qh (Fills.of hO (by rfl) (by rfl))
 have G27 : Hid (Fills OPS 27 48) := qh (Fills.of hO (by rfl) (by rfl))
 have G36 : Hid (Fills OPS 36 57) := qh (Fills.of hO (by rfl) (by rfl))
 have G45 : Hid (Fills OPS 45 66) := qh (Fills.of hO (by rfl) (by rfl))
 have G54 : Hid (Fills OPS 54 75) := qh (Fills.of hO (by rfl) (by rfl))
 have G63 : Hid (Fills OPS 63 84) := qh (Fills.of hO (by rfl) (by rfl))
 have G72 : Hid (Fills OPS 72 93) := qh (Fills.of hO (by rfl) (by rfl))
 clear hO
 refine segD_hw a b W _ _ _ HT.out _ _ G1.out ?_
 intro n21 n22 n23 n24
 refine segD_is a b W _ _ _ HT.out _ G4.out ?_
 intro n26 n27 n28 n29 n30 n31
 refine segD_pk a b W _ _ _ HT.out _ G11.out ?_
 intro n33 n34 n35 n36 n37 n38
 refine segD_kind a b W _ _ _ HT.out _ G18.out ?_
 intro n40 n41 n42 n43 n44 n45 n46 n47
 refine segD_a a b W _ _ _ HT.out _ G27.out ?_
 intro n49 n50 n51 n52 n53 n54 n55 n56
 refine segD_n a b W _ _ _ HT.out _ G36.out ?_
 intro n58 n59 n60 n61 n62 n63 n64 n65
 refine segD_owner a b W _ _ _ HT.out _ G45.out ?_
 intro n67 n68 n69 n70 n71 n72 n73 n74
 refine segD_sp a b W _ _ _ HT.out _ G54.out ?_
 intro n76 n77 n78 n79 n80 n81 n82 n83
 refine segD_pf a b W _ _ _ HT.out _ G63.out ?_
 intro n85 n86 n87 n88 n89 n90 n91 n92
 refine segD_text a b W _ _ _ HT.out _ G72.out ?_
 intro n94 n95 n96 n97 n98 n99 n100 n101
 go_wp2_with fail
 go_ret
 have e0 := HH0.out
 have e1 := HW0.out
 subst e0 e1
 exact ⟨rfl, HT.out.bel⟩
theorem r32_SameStep (a b : StV) (W : World) (A : InnerD (fun _ => True) W a) (B : InnerD (fun _ => True) W b) (pa : a.t.pf.addr.length = 16) (pb : b.t.pf.addr.length = 16) (al : a.t.hop.labels.length ≤ 1073741824) (ar : a.t.hop.repair.length ≤ 1073741824) (aw : a.t.ways.length ≤ 1073741824) (bl : b.t.hop.labels.length ≤ 1073741824) (br : b.t.hop.repair.length ≤ 1073741824) (bw : b.t.ways.length ≤ 1073741824) :
  Calls Tryz.prog 12 #[.agg (stepA a), .agg (stepA b)] W fun e w' => e = .returned (.bool (decide (a.t = b.t))) ∧ Below W.heap.size W w' := by
 have h := r32_SameStep0 a b W A B pa pb al ar aw bl br bw
 have he : ((((((((((((decide (a.t.hop = b.t.hop)) && (decide (a.t.ways = b.t.ways))) && (a.t.is == b.t.is)) && (decide ((a.t.port, a.t.mpls, a.t.bytes) = (b.t.port, b.t.mpls, b.t.bytes)))) && (a.t.kind == b.t.kind)) && (a.t.a == b.t.a)) && (a.t.n == b.t.n)) && (a.t.owner == b.t.owner)) && (decide ((a.t.s1, a.t.s2) = (b.t.s1, b.t.s2)))) && (decide (a.t.pf = b.t.pf))) && (a.t.text == b.t.text))) = decide (a.t = b.t) := by
  rw [Bool.eq_iff_iff]
  simp only [Bool.and_eq_true, beq_iff_eq, decide_eq_true_eq, Prod.mk.injEq]
  obtain ⟨ta, x1, x2, x3, x4⟩ := a
  obtain ⟨tb, y1, y2, y3, y4⟩ := b
  cases ta; cases tb
  simp only [Sc.Stp.mk.injEq]
  constructor
  ·rintro ⟨⟨⟨⟨⟨⟨⟨⟨⟨⟨h1, h2⟩, h3⟩, h4, h5, h6⟩, h7⟩, h8⟩, h9⟩, h10⟩, h11, h12⟩, h13⟩, h14⟩
   exact ⟨h3, h7, h8, h9, h10, h11, h12, h13, h1, h2, h14, h4, h5, h6⟩
  ·rintro ⟨h3, h7, h8, h9, h10, h11, h12, h13, h1, h2, h14, h4, h5, h6⟩
   exact ⟨⟨⟨⟨⟨⟨⟨⟨⟨⟨h1, h2⟩, h3⟩, h4, h5, h6⟩, h7⟩, h8⟩, h9⟩, h10⟩, h11, h12⟩, h13⟩, h14⟩
 rw [he] at h
 exact h
end Go.Proofs.YtdbgeobolongmaaGreatDoor
namespace Go.Proofs.YtdbgeobolongmaaGreatDoor
open Go.RowKit Go.Shelf Go.Proofs Go.OctetPlain Go.PrefixPlain Go.ColonPlain
theorem waysP_len : ∀ {l : List Hp.Wd} {r : List (Int × Int)}, Sc.waysP l = some r → r.length = l.length
 | [], r, h => by cases h; rfl
 | x :: l, r, h => by
  rw [Sc.waysP] at h
  split at h
  ·rename_i p q h1 h2
   cases h
   rw [List.length_cons, List.length_cons, waysP_len h2]
  ·cases h
end Go.Proofs.YtdbgeobolongmaaGreatDoor
