/- Part of the proof: contracts of the functions that the statements of layer 32 reach. -/
import Derived.Shelf.SlicesE.Clone
import Derived.Shelf.Strings.BuilderK
import Derived.Shelf.Strings.Runes
import Derived.Shelf.Strconv.Itoa3
import Derived.Shelf.Strconv.ErrVarAll
import Derived.Shelf.Small.Strs
import Derived.Shelf.Small.Utf8
import Derived.Ground.SlgnProg
import Derived.Ground.NamesProg
import Derived.Shelf.SlGeneric
import Derived.Test.YtdbgeobolongmaaGreatDoorProg
import Derived.Laws.Bits64b
import Derived.WalkSpells
import Derived.RangeFuncNested
import Derived.RangeFuncBound
import Derived.RangeFuncCalls
import Derived.RangeFuncLeaves
import Derived.RangeFuncBox
import Derived.Shelf.Abstract
import Derived.Shelf.RegionOpen
import Derived.WalkKit
import Derived.OwnWalkIn
import Derived.TacticsInMore
import Derived.LoopNIn
import Derived.LoopIn
import Derived.Maps.OwnIn
import Derived.StillTailTactics
import Derived.Laws.Rows
import Derived.Laws.Tables
import Derived.Laws.CopyOwn
import Derived.Lib.OthersKept
import Derived.Test.YtdbgeobolongmaaGreatDoorV01
import Derived.Test.YtdbgeobolongmaaGreatDoorV02
set_option linter.unusedVariables false
set_option linter.unusedSimpArgs false
namespace Go.Proofs
open Go.Shelf
def Tryz.itoa_ren : Go.Shelf.Ren := ⟨fun | 171 => 84 | 243 => 131 | 246 => 164 | 283 => 179 | 284 => 180 | 285 => 181 | 286 => 182 | 129 => 197 | 317 => 196 | 318 => 198 | 319 => 199 | 320 => 200 | 337 => 205 | 338 => 206 | n => n, fun | 3 => 3 | 9 => 9 | 2 => 2 | 4 => 4 | 171 => 214 | 0 => 0 | 53 => 205 | 37 => 33 | 5 => 5 | 173 => 217 | 212 => 235 | 51 => 232 | 20 => 20 | 213 => 236 | 46 => 178 | 232 => 249 | 233 => 250 | n => n, fun | 17 => 4 | 18 => 7 | 19 => 8 | n => n⟩
theorem Tryz.itoa : Go.Proofs.LaysM.n171 Tryz.prog Tryz.itoa_ren := {
 mixed := by kernel_rfl
 f129 := Tryz.func197.trans (congrArg some (by kernel_rfl))
 f171 := Tryz.func84.trans (congrArg some (by kernel_rfl))
 f243 := Tryz.func131.trans (congrArg some (by kernel_rfl))
 f246 := Tryz.func164.trans (congrArg some (by kernel_rfl))
 f283 := Tryz.func179.trans (congrArg some (by kernel_rfl))
 f284 := Tryz.func180.trans (congrArg some (by kernel_rfl))
 f285 := Tryz.func181.trans (congrArg some (by kernel_rfl))
 f286 := Tryz.func182.trans (congrArg some (by kernel_rfl))
 f317 := Tryz.func196.trans (congrArg some (by kernel_rfl))
 f318 := Tryz.func198.trans (congrArg some (by kernel_rfl))
 f319 := Tryz.func199.trans (congrArg some (by kernel_rfl))
 f320 := Tryz.func200.trans (congrArg some (by kernel_rfl))
 f337 := Tryz.func205.trans (congrArg some (by kernel_rfl))
 f338 := Tryz.func206.trans (congrArg some (by kernel_rfl))
 t0 := Tryz.underlying0
 a0 := Tryz.isAgg0
 z0 := Tryz.sizeOf0
 v0 := Tryz.zeroValue0
 t2 := Tryz.underlying2
 a2 := Tryz.isAgg2
 z2 := Tryz.sizeOf2
 v2 := Tryz.zeroValue2
 t3 := Tryz.underlying3
 a3 := Tryz.isAgg3
 z3 := Tryz.sizeOf3
 v3 := Tryz.zeroValue3
 t4 := Tryz.underlying4
 a4 := Tryz.isAgg4
 z4 := Tryz.sizeOf4
 v4 := Tryz.zeroValue4
 t5 := Tryz.underlying5
 a5 := Tryz.isAgg5
 z5 := Tryz.sizeOf5
 v5 := Tryz.zeroValue5
 t9 := Tryz.underlying9
 a9 := Tryz.isAgg9
 z9 := Tryz.sizeOf9
 v9 := Tryz.zeroValue9
 t20 := Tryz.underlying20
 a20 := Tryz.isAgg20
 z20 := Tryz.sizeOf20
 v20 := Tryz.zeroValue20
 t37 := Tryz.underlying33
 a37 := Tryz.isAgg33
 z37 := Tryz.sizeOf33
 v37 := Tryz.zeroValue33
 t46 := Tryz.underlying178
 a46 := Tryz.isAgg178
 z46 := Tryz.sizeOf178
 v46 := Tryz.zeroValue178
 t51 := Tryz.underlying232
 a51 := Tryz.isAgg232
 z51 := Tryz.sizeOf232
 v51 := Tryz.zeroValue232
 t53 := Tryz.underlying205
 a53 := Tryz.isAgg205
 z53 := Tryz.sizeOf205
 v53 := Tryz.zeroValue205
 t171 := Tryz.underlying214
 a171 := Tryz.isAgg214
 z171 := Tryz.sizeOf214
 v171 := Tryz.zeroValue214
 t173 := Tryz.underlying217
 a173 := Tryz.isAgg217
 z173 := Tryz.sizeOf217
 v173 := Tryz.zeroValue217
 t212 := Tryz.underlying235
 a212 := Tryz.isAgg235
 z212 := Tryz.sizeOf235
 v212 := Tryz.zeroValue235
 t213 := Tryz.underlying236
 a213 := Tryz.isAgg236
 z213 := Tryz.sizeOf236
 t232 := Tryz.underlying249
 a232 := Tryz.isAgg249
 z232 := Tryz.sizeOf249
 v232 := Tryz.zeroValue249
 t233 := Tryz.underlying250
 a233 := Tryz.isAgg250
 z233 := Tryz.sizeOf250
 v233 := Tryz.zeroValue250
 g17 := by kernel_rfl
 g18 := by kernel_rfl
 g19 := by kernel_rfl
 i0 := by kernel_rfl
 i2 := by kernel_rfl
 i3 := by kernel_rfl
 i4 := by kernel_rfl
 i5 := by kernel_rfl
 i9 := by kernel_rfl
 i20 := by kernel_rfl
 i37 := by kernel_rfl
 i46 := by kernel_rfl
 i51 := by kernel_rfl
 i53 := by kernel_rfl
 i171 := by kernel_rfl
 i173 := by kernel_rfl
 i212 := by kernel_rfl
 i232 := by kernel_rfl
 i233 := by kernel_rfl
 m17 := by kernel_rfl
 m18 := by kernel_rfl
 m19 := by kernel_rfl }
def Tryz.atoi_ren : Go.Shelf.Ren := ⟨fun | 172 => 134 | 244 => 165 | 245 => 166 | 247 => 183 | 279 => 184 | 280 => 185 | 281 => 186 | 282 => 187 | 287 => 201 | 316 => 202 | 171 => 84 | 205 => 203 | 321 => 207 | 322 => 208 | 243 => 131 | 246 => 164 | 283 => 179 | 284 => 180 | 285 => 181 | 286 => 182 | 129 => 197 | 317 => 196 | 318 => 198 | 319 => 199 | 320 => 200 | 337 => 205 | 338 => 206 | n => n, fun | 9 => 9 | 3 => 3 | 75 => 137 | 76 => 138 | 4 => 4 | 5 => 5 | 167 => 219 | 37 => 33 | 0 => 0 | 85 => 220 | 2 => 2 | 168 => 222 | 53 => 205 | 175 => 238 | 46 => 178 | 210 => 241 | 127 => 170 | 145 => 248 | 143 => 246 | 21 => 21 | 171 => 214 | 173 => 217 | 212 => 235 | 51 => 232 | 20 => 20 | 213 => 236 | 232 => 249 | 233 => 250 | 80 => 140 | n => n, fun | 15 => 5 | 16 => 6 | 17 => 4 | 18 => 7 | 19 => 8 | n => n⟩
theorem Tryz.atoi : Go.Proofs.LaysC.n172 Tryz.prog Tryz.atoi_ren := {
 mixed := by kernel_rfl
 f129 := Tryz.func197.trans (congrArg some (by kernel_rfl))
 f171 := Tryz.func84.trans (congrArg some (by kernel_rfl))
 f172 := Tryz.func134.trans (congrArg some (by kernel_rfl))
 f205 := Tryz.func203.trans (congrArg some (by kernel_rfl))
 f243 := Tryz.func131.trans (congrArg some (by kernel_rfl))
 f244 := Tryz.func165.trans (congrArg some (by kernel_rfl))
 f245 := Tryz.func166.trans (congrArg some (by kernel_rfl))
 f246 := Tryz.func164.trans (congrArg some (by kernel_rfl))
 f247 := Tryz.func183.trans (congrArg some (by kernel_rfl))
 f279 := Tryz.func184.trans (congrArg some (by kernel_rfl))
 f280 := Tryz.func185.trans (congrArg some (by kernel_rfl))
 f281 := Tryz.func186.trans (congrArg some (by kernel_rfl))
 f282 := Tryz.func187.trans (congrArg some (by kernel_rfl))
 f283 := Tryz.func179.trans (congrArg some (by kernel_rfl))
 f284 := Tryz.func180.trans (congrArg some (by kernel_rfl))
 f285 := Tryz.func181.trans (congrArg some (by kernel_rfl))
 f286 := Tryz.func182.trans (congrArg some (by kernel_rfl))
 f287 := Tryz.func201.trans (congrArg some (by kernel_rfl))
 f316 := Tryz.func202.trans (congrArg some (by kernel_rfl))
 f317 := Tryz.func196.trans (congrArg some (by kernel_rfl))
 f318 := Tryz.func198.trans (congrArg some (by kernel_rfl))
 f319 := Tryz.func199.trans (congrArg some (by kernel_rfl))
 f320 := Tryz.func200.trans (congrArg some (by kernel_rfl))
 f321 := Tryz.func207.trans (congrArg some (by kernel_rfl))
 f322 := Tryz.func208.trans (congrArg some (by kernel_rfl))
 f337 := Tryz.func205.trans (congrArg some (by kernel_rfl))
 f338 := Tryz.func206.trans (congrArg some (by kernel_rfl))
 t0 := Tryz.underlying0
 a0 := Tryz.isAgg0
 z0 := Tryz.sizeOf0
 v0 := Tryz.zeroValue0
 t2 := Tryz.underlying2
 a2 := Tryz.isAgg2
 z2 := Tryz.sizeOf2
 v2 := Tryz.zeroValue2
 t3 := Tryz.underlying3
 a3 := Tryz.isAgg3
 z3 := Tryz.sizeOf3
 v3 := Tryz.zeroValue3
 t4 := Tryz.underlying4
 a4 := Tryz.isAgg4
 z4 := Tryz.sizeOf4
 v4 := Tryz.zeroValue4
 t5 := Tryz.underlying5
 a5 := Tryz.isAgg5
 z5 := Tryz.sizeOf5
 v5 := Tryz.zeroValue5
 t9 := Tryz.underlying9
 a9 := Tryz.isAgg9
 z9 := Tryz.sizeOf9
 v9 := Tryz.zeroValue9
 t20 := Tryz.underlying20
 a20 := Tryz.isAgg20
 z20 := Tryz.sizeOf20
 v20 := Tryz.zeroValue20
 t21 := Tryz.underlying21
 a21 := Tryz.isAgg21
 z21 := Tryz.sizeOf21
 v21 := Tryz.zeroValue21
 t37 := Tryz.underlying33
 a37 := Tryz.isAgg33
 z37 := Tryz.sizeOf33
 v37 := Tryz.zeroValue33
 t46 := Tryz.underlying178
 a46 := Tryz.isAgg178
 z46 := Tryz.sizeOf178
 v46 := Tryz.zeroValue178
 t51 := Tryz.underlying232
 a51 := Tryz.isAgg232
 z51 := Tryz.sizeOf232
 v51 := Tryz.zeroValue232
 t53 := Tryz.underlying205
 a53 := Tryz.isAgg205
 z53 := Tryz.sizeOf205
 v53 := Tryz.zeroValue205
 t75 := Tryz.underlying137
 a75 := Tryz.isAgg137
 z75 := Tryz.sizeOf137
 v75 := Tryz.zeroValue137
 t76 := Tryz.underlying138
 a76 := Tryz.isAgg138
 z76 := Tryz.sizeOf138
 v76 := Tryz.zeroValue138
 t85 := Tryz.underlying220
 a85 := Tryz.isAgg220
 z85 := Tryz.sizeOf220
 v85 := Tryz.zeroValue220
 t127 := Tryz.underlying170
 a127 := Tryz.isAgg170
 z127 := Tryz.sizeOf170
 v127 := Tryz.zeroValue170
 t143 := Tryz.underlying246
 a143 := Tryz.isAgg246
 z143 := Tryz.sizeOf246
 v143 := Tryz.zeroValue246
 t145 := Tryz.underlying248
 a145 := Tryz.isAgg248
 z145 := Tryz.sizeOf248
 v145 := Tryz.zeroValue248
 t167 := Tryz.underlying219
 a167 := Tryz.isAgg219
 z167 := Tryz.sizeOf219
 v167 := Tryz.zeroValue219
 t168 := Tryz.underlying222
 a168 := Tryz.isAgg222
 z168 := Tryz.sizeOf222
 v168 := Tryz.zeroValue222
 t171 := Tryz.underlying214
 a171 := Tryz.isAgg214
 z171 := Tryz.sizeOf214
 v171 := Tryz.zeroValue214
 t173 := Tryz.underlying217
 a173 := Tryz.isAgg217
 z173 := Tryz.sizeOf217
 v173 := Tryz.zeroValue217
 t175 := Tryz.underlying238
 a175 := Tryz.isAgg238
 z175 := Tryz.sizeOf238
 v175 := Tryz.zeroValue238
 t210 := Tryz.underlying241
 a210 := Tryz.isAgg241
 z210 := Tryz.sizeOf241
 v210 := Tryz.zeroValue241
 t212 := Tryz.underlying235
 a212 := Tryz.isAgg235
 z212 := Tryz.sizeOf235
 v212 := Tryz.zeroValue235
 t213 := Tryz.underlying236
 a213 := Tryz.isAgg236
 z213 := Tryz.sizeOf236
 t232 := Tryz.underlying249
 a232 := Tryz.isAgg249
 z232 := Tryz.sizeOf249
 v232 := Tryz.zeroValue249
 t233 := Tryz.underlying250
 a233 := Tryz.isAgg250
 z233 := Tryz.sizeOf250
 v233 := Tryz.zeroValue250
 g15 := by kernel_rfl
 g16 := by kernel_rfl
 g17 := by kernel_rfl
 g18 := by kernel_rfl
 g19 := by kernel_rfl
 t80 := Tryz.underlying140
 a80 := Tryz.isAgg140
 z80 := Tryz.sizeOf140
 v80 := Tryz.zeroValue140
 i0 := by kernel_rfl
 i2 := by kernel_rfl
 i3 := by kernel_rfl
 i4 := by kernel_rfl
 i5 := by kernel_rfl
 i9 := by kernel_rfl
 i20 := by kernel_rfl
 i21 := by kernel_rfl
 i37 := by kernel_rfl
 i46 := by kernel_rfl
 i51 := by kernel_rfl
 i53 := by kernel_rfl
 i75 := by kernel_rfl
 i76 := by kernel_rfl
 i80 := by kernel_rfl
 i85 := by kernel_rfl
 i127 := by kernel_rfl
 i143 := by kernel_rfl
 i145 := by kernel_rfl
 i167 := by kernel_rfl
 i168 := by kernel_rfl
 i171 := by kernel_rfl
 i173 := by kernel_rfl
 i175 := by kernel_rfl
 i210 := by kernel_rfl
 i212 := by kernel_rfl
 i232 := by kernel_rfl
 i233 := by kernel_rfl
 m15 := by kernel_rfl
 m16 := by kernel_rfl
 m17 := by kernel_rfl
 m18 := by kernel_rfl
 m19 := by kernel_rfl
 c0 := by kernel_rfl
 c2 := by kernel_rfl
 c3 := by kernel_rfl
 c4 := by kernel_rfl
 c5 := by kernel_rfl
 c9 := by kernel_rfl
 c20 := by kernel_rfl
 c21 := by kernel_rfl
 c37 := by kernel_rfl
 c46 := by kernel_rfl
 c51 := by kernel_rfl
 c53 := by kernel_rfl
 c75 := by kernel_rfl
 c76 := by kernel_rfl
 c80 := by kernel_rfl
 c85 := by kernel_rfl
 c127 := by kernel_rfl
 c143 := by kernel_rfl
 c145 := by kernel_rfl
 c167 := by kernel_rfl
 c168 := by kernel_rfl
 c171 := by kernel_rfl
 c173 := by kernel_rfl
 c175 := by kernel_rfl
 c210 := by kernel_rfl
 c212 := by kernel_rfl
 c213 := by kernel_rfl
 c232 := by kernel_rfl
 c233 := by kernel_rfl }
def Tryz.builderString_ren : Go.Shelf.Ren := ⟨fun | 169 => 72 | n => n, fun | 70 => 132 | 9 => 9 | 0 => 0 | 72 => 134 | 37 => 33 | 127 => 170 | 3 => 3 | 5 => 5 | n => n, fun | n => n⟩
theorem Tryz.builderString : Go.Proofs.Lays.n169 Tryz.prog Tryz.builderString_ren := {
 mixed := by kernel_rfl
 f169 := Tryz.func72.trans (congrArg some (by kernel_rfl))
 t0 := Tryz.underlying0
 a0 := Tryz.isAgg0
 z0 := Tryz.sizeOf0
 v0 := Tryz.zeroValue0
 t3 := Tryz.underlying3
 a3 := Tryz.isAgg3
 z3 := Tryz.sizeOf3
 v3 := Tryz.zeroValue3
 t9 := Tryz.underlying9
 a9 := Tryz.isAgg9
 z9 := Tryz.sizeOf9
 v9 := Tryz.zeroValue9
 t37 := Tryz.underlying33
 a37 := Tryz.isAgg33
 z37 := Tryz.sizeOf33
 v37 := Tryz.zeroValue33
 t70 := Tryz.underlying132
 a70 := Tryz.isAgg132
 z70 := Tryz.sizeOf132
 v70 := Tryz.zeroValue132
 t72 := Tryz.underlying134
 a72 := Tryz.isAgg134
 z72 := Tryz.sizeOf134
 v72 := Tryz.zeroValue134
 t127 := Tryz.underlying170
 a127 := Tryz.isAgg170
 z127 := Tryz.sizeOf170
 v127 := Tryz.zeroValue170 }
def Tryz.indexByte_ren : Go.Shelf.Ren := ⟨fun | 137 => 192 | 217 => 174 | 266 => 194 | n => n, fun | 9 => 9 | 5 => 5 | 3 => 3 | n => n, fun | n => n⟩
theorem Tryz.indexByte : Go.Proofs.Lays.n137 Tryz.prog Tryz.indexByte_ren := {
 mixed := by kernel_rfl
 f137 := Tryz.func192.trans (congrArg some (by kernel_rfl))
 f217 := Tryz.func174.trans (congrArg some (by kernel_rfl))
 f266 := Tryz.func194.trans (congrArg some (by kernel_rfl))
 t3 := Tryz.underlying3
 a3 := Tryz.isAgg3
 z3 := Tryz.sizeOf3
 v3 := Tryz.zeroValue3
 t5 := Tryz.underlying5
 a5 := Tryz.isAgg5
 z5 := Tryz.sizeOf5
 v5 := Tryz.zeroValue5
 t9 := Tryz.underlying9
 a9 := Tryz.isAgg9
 z9 := Tryz.sizeOf9
 v9 := Tryz.zeroValue9 }
def Tryz.validRune_ren : Go.Shelf.Ren := ⟨fun | 119 => 193 | n => n, fun | 21 => 21 | 4 => 4 | n => n, fun | n => n⟩
theorem Tryz.validRune : Go.Proofs.Lays.n119 Tryz.prog Tryz.validRune_ren := {
 mixed := by kernel_rfl
 f119 := Tryz.func193.trans (congrArg some (by kernel_rfl))
 t4 := Tryz.underlying4
 a4 := Tryz.isAgg4
 z4 := Tryz.sizeOf4
 v4 := Tryz.zeroValue4
 t21 := Tryz.underlying21
 a21 := Tryz.isAgg21
 z21 := Tryz.sizeOf21
 v21 := Tryz.zeroValue21 }
def Tryz.indexRune_ren : Go.Shelf.Ren := ⟨fun | 152 => 172 | 137 => 192 | 119 => 193 | 224 => 176 | 225 => 175 | 217 => 174 | 266 => 194 | n => n, fun | 9 => 9 | 21 => 21 | 3 => 3 | 4 => 4 | 5 => 5 | 0 => 0 | 46 => 178 | n => n, fun | n => n⟩
theorem Tryz.indexRune : Go.Proofs.Lays.n152 Tryz.prog Tryz.indexRune_ren := {
 mixed := by kernel_rfl
 f119 := Tryz.func193.trans (congrArg some (by kernel_rfl))
 f137 := Tryz.func192.trans (congrArg some (by kernel_rfl))
 f152 := Tryz.func172.trans (congrArg some (by kernel_rfl))
 f217 := Tryz.func174.trans (congrArg some (by kernel_rfl))
 f224 := Tryz.func176.trans (congrArg some (by kernel_rfl))
 f225 := Tryz.func175.trans (congrArg some (by kernel_rfl))
 f266 := Tryz.func194.trans (congrArg some (by kernel_rfl))
 t0 := Tryz.underlying0
 a0 := Tryz.isAgg0
 z0 := Tryz.sizeOf0
 v0 := Tryz.zeroValue0
 t3 := Tryz.underlying3
 a3 := Tryz.isAgg3
 z3 := Tryz.sizeOf3
 v3 := Tryz.zeroValue3
 t4 := Tryz.underlying4
 a4 := Tryz.isAgg4
 z4 := Tryz.sizeOf4
 v4 := Tryz.zeroValue4
 t5 := Tryz.underlying5
 a5 := Tryz.isAgg5
 z5 := Tryz.sizeOf5
 v5 := Tryz.zeroValue5
 t9 := Tryz.underlying9
 a9 := Tryz.isAgg9
 z9 := Tryz.sizeOf9
 v9 := Tryz.zeroValue9
 t21 := Tryz.underlying21
 a21 := Tryz.isAgg21
 z21 := Tryz.sizeOf21
 v21 := Tryz.zeroValue21
 t46 := Tryz.underlying178
 a46 := Tryz.isAgg178
 z46 := Tryz.sizeOf178
 v46 := Tryz.zeroValue178 }
end Go.Proofs
namespace Go.Proofs.YtdbgeobolongmaaGreatDoor
open Go.RowKit Go.Shelf Go.Proofs Go.OctetPlain
theorem elemB : ElemOk Tryz.prog 33 5 1 1 := .mk Tryz.underlying33 (z := .int .u8 0) (by kernel_rfl) (by omega) (by omega) rfl
end Go.Proofs.YtdbgeobolongmaaGreatDoor
namespace Go.Proofs.YtdbgeobolongmaaGreatDoor
open Go.RowKit Go.Shelf Go.Proofs
def Blk (w : World) (g : Nat) (t : TypeId) (cs : Array Value) : Prop := w.heap[g]? = some (.cells cs t (0, 0))
theorem Blk.lt {w : World} {g : Nat} {t : TypeId} {cs : Array Value} (h : Blk w g t cs) : g < w.heap.size := (Array.getElem?_eq_some_iff.1 h).1
theorem Blk.cell {w : World} {g : Nat} {t : TypeId} {cs : Array Value} (h : Blk w g t cs) (i : Nat) : w.cell? ⟨g, i, none⟩ = cs[i]? := cell_of_row w g i cs t (0, 0) h
theorem Blk.new (w : World) (t : TypeId) (cs : Array Value) : Blk (w.alloc (.cells cs t)) w.heap.size t cs := World.alloc_heap_new w _
section
variable {P : Program} {ops : Array Oper} {Q : Exit → Act → World → Prop} {md : Region.Mode} {l n : Nat}
end
theorem slr_lit {α : Type} {enc : α → List Value} {k : Nat} (hk : ∀ x, (enc x).length = k) (w : World) (e : TypeId) (xs : List α) (hl : xs.length ≤ 1048576) (cs : Array Value) (hcs : cs = (flat enc xs).toArray) :
  SlR (w.alloc (.cells cs e)) k enc (.slice (some ⟨w.heap.size, 0, none⟩) xs.length xs.length) xs := by
 subst hcs
 refine ⟨_, _, rfl, Nat.le_refl _, by omega, (fun h => by cases h), fun a ha _ => ?_⟩
 cases ha
 refine ⟨rfl, by simp, fun i x hx j u hu => ?_⟩
 have h := cell_new_list w (flat enc xs) e (i * k + j) u (flat_at hk hx hu)
 have hadd : (⟨w.heap.size, 0, none⟩ : Addr).add (i * k + j) = ⟨w.heap.size, 0 + i * k + j, none⟩ := by unfold Addr.add; split <;> simp_all [Nat.add_assoc]
 rw [hadd] at h
 exact h
theorem belowA (W : World) (o : Obj) : Below W.heap.size W (W.alloc o) := (Below.refl W.heap.size _).alloc (Nat.le_refl _) _
theorem belowA2 {W W' : World} {o : Obj} (h : Below (W.alloc o).heap.size (W.alloc o) W') : Below W.heap.size W W' := (belowA W o).trans (h.mono (by simp))
theorem Blk.alloc {w : World} {g : Nat} {t : TypeId} {cs : Array Value} (h : Blk w g t cs) (o : Obj) : Blk (w.alloc o) g t cs := (Below.heap_alloc w o g h.lt).trans h
theorem Blk.other {w : World} {g : Nat} {t : TypeId} {cs : Array Value} (h : Blk w g t cs) (a : Addr) (v : Value) (hne : g ≠ a.block) : Blk (w.setCell a v) g t cs := (Below.heap_setCell w a v g hne).trans h
theorem Blk.set {w : World} {g : Nat} {t : TypeId} {cs : Array Value} (h : Blk w g t cs) (i : Nat) (v : Value) : Blk (w.setCell ⟨g, i, none⟩ v) g t (cs.setIfInBounds i v) := by
 obtain ⟨hlt, hk⟩ := Array.getElem?_eq_some_iff.1 h
 show (w.heap.modify g _)[g]? = _
 rw [Array.getElem?_eq_getElem (by rw [Array.size_modify]; exact hlt), Array.getElem_modify_self, hk]
 rfl
theorem Blk.drewN {w : World} {g : Nat} {t : TypeId} {cs : Array Value} (h : Blk w g t cs) (n : Nat) : Blk (w.drewN n) g t cs := h
theorem Blk.drew {w : World} {g : Nat} {t : TypeId} {cs : Array Value} (h : Blk w g t cs) : Blk w.drew g t cs := h
theorem Blk.frozen' {w : World} {g : Nat} {t : TypeId} {cs : Array Value} (h : Blk w g t cs) (i : Nat) : w.frozen? ⟨g, i, none⟩ = false := by
 simp [World.frozen?, show w.heap[g]? = _ from h]
theorem Blk.below {w w' : World} {g : Nat} {t : TypeId} {cs : Array Value} (h : Blk w g t cs) {B : Nat} (hb : Below B w w') (hg : g < B) : Blk w' g t cs := (hb.block g hg).trans h
theorem Blk.setRow {w : World} {g : Nat} {t : TypeId} {cs : Array Value} (h : Blk w g t cs) (cs' : Array Value) : Blk (w.setRow g cs') g t cs' := setRow_heap w g cs cs' t (0, 0) h
theorem Blk.otherRow {w : World} {g : Nat} {t : TypeId} {cs : Array Value} (h : Blk w g t cs) (k : Nat) (cs' : Array Value) (hne : g ≠ k) : Blk (w.setRow k cs') g t cs := (setRow_other w k g cs' hne).trans h
def arrB (l : List UInt8) : Array Value := (l.map fun c => Value.int .u8 (c.toNat : Int)).toArray
def arrI (l : List Int) : Array Value := (l.map fun n => Value.int .i64 n).toArray
theorem arrB_size (l : List UInt8) : (arrB l).size = l.length := by simp [arrB]
theorem arrI_size (l : List Int) : (arrI l).size = l.length := by simp [arrI]
theorem arrB_get {l : List UInt8} {i : Nat} {c : UInt8} (h : l[i]? = some c) : (arrB l)[i]? = some (.int .u8 (c.toNat : Int)) := by simp [arrB, h]
theorem arrI_get {l : List Int} {i : Nat} {n : Int} (h : l[i]? = some n) : (arrI l)[i]? = some (.int .i64 n) := by simp [arrI, h]
theorem arrB_set (l : List UInt8) (i : Nat) (c : UInt8) : (arrB l).setIfInBounds i (.int .u8 (c.toNat : Int)) = arrB (l.set i c) := by
 unfold arrB
 rw [List.setIfInBounds_toArray, List.map_set]
theorem arrI_set (l : List Int) (i : Nat) (n : Int) : (arrI l).setIfInBounds i (.int .i64 n) = arrI (l.set i n) := by
 unfold arrI
 rw [List.setIfInBounds_toArray, List.map_set]
theorem arrB_one (l : List UInt8) : (arrB l).all (·.oneCell') = true := by
 simp [arrB, Array.all_eq_true, Value.oneCell']
theorem list8 {α : Type} : ∀ {l : List α}, l.length = 8 → ∃ x0 x1 x2 x3 x4 x5 x6 x7, l = [x0, x1, x2, x3, x4, x5, x6, x7]
 | [x0, x1, x2, x3, x4, x5, x6, x7], _ => ⟨x0, x1, x2, x3, x4, x5, x6, x7, rfl⟩
theorem list16 {α : Type} : ∀ {l : List α}, l.length = 16 → ∃ x0 x1 x2 x3 x4 x5 x6 x7 x8 x9 x10 x11 x12 x13 x14 x15, l = [x0, x1, x2, x3, x4, x5, x6, x7, x8, x9, x10, x11, x12, x13, x14, x15]
 | [x0, x1, x2, x3, x4, x5, x6, x7, x8, x9, x10, x11, x12, x13, x14, x15], _ => ⟨x0, x1, x2, x3, x4, x5, x6, x7, x8, x9, x10, x11, x12, x13, x14, x15, rfl⟩
theorem Blk.cells8 {w : World} {g : Nat} {t : TypeId} {x0 x1 x2 x3 x4 x5 x6 x7 : Int} (h : Blk w g t (arrI [x0, x1, x2, x3, x4, x5, x6, x7])) : w.cell? ⟨g, 0, none⟩ = some (.int .i64 x0) ∧ w.cell? ⟨g, 1, none⟩ = some (.int .i64 x1) ∧ w.cell? ⟨g, 2, none⟩ = some (.int .i64 x2) ∧ w.cell? ⟨g, 3, none⟩ = some (.int .i64 x3) ∧ w.cell? ⟨g, 4, none⟩ = some (.int .i64 x4) ∧ w.cell? ⟨g, 5, none⟩ = some (.int .i64 x5) ∧ w.cell? ⟨g, 6, none⟩ = some (.int .i64 x6) ∧ w.cell? ⟨g, 7, none⟩ = some (.int .i64 x7) := ⟨h.cell 0, h.cell 1, h.cell 2, h.cell 3, h.cell 4, h.cell 5, h.cell 6, h.cell 7⟩
theorem Blk.cells16 {w : World} {g : Nat} {t : TypeId} {x0 x1 x2 x3 x4 x5 x6 x7 x8 x9 x10 x11 x12 x13 x14 x15 : UInt8} (h : Blk w g t (arrB [x0, x1, x2, x3, x4, x5, x6, x7, x8, x9, x10, x11, x12, x13, x14, x15])) : w.cell? ⟨g, 0, none⟩ = some (.int .u8 (x0.toNat : Int)) ∧ w.cell? ⟨g, 1, none⟩ = some (.int .u8 (x1.toNat : Int)) ∧ w.cell? ⟨g, 2, none⟩ = some (.int .u8 (x2.toNat : Int)) ∧ w.cell? ⟨g, 3, none⟩ = some (.int .u8 (x3.toNat : Int)) ∧ w.cell? ⟨g, 4, none⟩ = some (.int .u8 (x4.toNat : Int)) ∧ w.cell? ⟨g, 5, none⟩ = some (.int .u8 (x5.toNat : Int)) ∧ w.cell? ⟨g, 6, none⟩ = some (.int .u8 (x6.toNat : Int)) ∧ w.cell? ⟨g, 7, none⟩ = some (.int .u8 (x7.toNat : Int)) ∧ w.cell? ⟨g, 8, none⟩ = some (.int .u8 (x8.toNat : Int)) ∧ w.cell? ⟨g, 9, none⟩ = some (.int .u8 (x9.toNat : Int)) ∧ w.cell? ⟨g, 10, none⟩ = some (.int .u8 (x10.toNat : Int)) ∧ w.cell? ⟨g, 11, none⟩ = some (.int .u8 (x11.toNat : Int)) ∧ w.cell? ⟨g, 12, none⟩ = some (.int .u8 (x12.toNat : Int)) ∧ w.cell? ⟨g, 13, none⟩ = some (.int .u8 (x13.toNat : Int)) ∧ w.cell? ⟨g, 14, none⟩ = some (.int .u8 (x14.toNat : Int)) ∧ w.cell? ⟨g, 15, none⟩ = some (.int .u8 (x15.toNat : Int)) := ⟨h.cell 0, h.cell 1, h.cell 2, h.cell 3, h.cell 4, h.cell 5, h.cell 6, h.cell 7, h.cell 8, h.cell 9, h.cell 10, h.cell 11, h.cell 12, h.cell 13, h.cell 14, h.cell 15⟩
theorem Blk.set8 {w : World} {g : Nat} {t : TypeId} {y0 y1 y2 y3 y4 y5 y6 y7 x0 x1 x2 x3 x4 x5 x6 x7 : Int} (h : Blk w g t (arrI [y0, y1, y2, y3, y4, y5, y6, y7])) : Blk ((((((((w.setCell ⟨g, 0, none⟩ (.int .i64 x0)).setCell ⟨g, 1, none⟩ (.int .i64 x1)).setCell ⟨g, 2, none⟩ (.int .i64 x2)).setCell ⟨g, 3, none⟩ (.int .i64 x3)).setCell ⟨g, 4, none⟩ (.int .i64 x4)).setCell ⟨g, 5, none⟩ (.int .i64 x5)).setCell ⟨g, 6, none⟩ (.int .i64 x6)).setCell ⟨g, 7, none⟩ (.int .i64 x7)) g t (arrI [x0, x1, x2, x3, x4, x5, x6, x7]) := by
 simpa [arrI] using ((((((((h.set 0 _).set 1 _).set 2 _).set 3 _).set 4 _).set 5 _).set 6 _).set 7 _)
theorem below_set8 {B g : Nat} {w0 w : World} {x0 x1 x2 x3 x4 x5 x6 x7 : Int} (h : Below B w0 w) (hg : B ≤ g) : Below B w0 ((((((((w.setCell ⟨g, 0, none⟩ (.int .i64 x0)).setCell ⟨g, 1, none⟩ (.int .i64 x1)).setCell ⟨g, 2, none⟩ (.int .i64 x2)).setCell ⟨g, 3, none⟩ (.int .i64 x3)).setCell ⟨g, 4, none⟩ (.int .i64 x4)).setCell ⟨g, 5, none⟩ (.int .i64 x5)).setCell ⟨g, 6, none⟩ (.int .i64 x6)).setCell ⟨g, 7, none⟩ (.int .i64 x7)) := ((((((((h.setCell hg _).setCell hg _).setCell hg _).setCell hg _).setCell hg _).setCell hg _).setCell hg _).setCell hg _)
theorem run_index_ints {w : World} (cs : Array Value) (i : Nat) (n : Int) (hi : i < 8) (hc : cs[i]? = some (.int .i64 n)) :
  (Instr.index 155 (.agg cs) (.int .i64 (i : Int))).run Tryz.prog w = .ok (.int .i64 n) w := by
 have h1 : (i : Int) < 8 := by omega
 simp [Instr.index, run_underlying Tryz.underlying155, asIntOf, h1, hc, go_sem, Tryz.sizeOf3, Tryz.isAgg3, part]
 intro h; omega
theorem Blk.setV16 {w : World} {g : Nat} {t : TypeId} {y0 y1 y2 y3 y4 y5 y6 y7 y8 y9 y10 y11 y12 y13 y14 y15 x0 x1 x2 x3 x4 x5 x6 x7 x8 x9 x10 x11 x12 x13 x14 x15 : Value} (h : Blk w g t #[y0, y1, y2, y3, y4, y5, y6, y7, y8, y9, y10, y11, y12, y13, y14, y15]) : Blk ((((((((((((((((w.setCell ⟨g, 0, none⟩ x0).setCell ⟨g, 1, none⟩ x1).setCell ⟨g, 2, none⟩ x2).setCell ⟨g, 3, none⟩ x3).setCell ⟨g, 4, none⟩ x4).setCell ⟨g, 5, none⟩ x5).setCell ⟨g, 6, none⟩ x6).setCell ⟨g, 7, none⟩ x7).setCell ⟨g, 8, none⟩ x8).setCell ⟨g, 9, none⟩ x9).setCell ⟨g, 10, none⟩ x10).setCell ⟨g, 11, none⟩ x11).setCell ⟨g, 12, none⟩ x12).setCell ⟨g, 13, none⟩ x13).setCell ⟨g, 14, none⟩ x14).setCell ⟨g, 15, none⟩ x15) g t #[x0, x1, x2, x3, x4, x5, x6, x7, x8, x9, x10, x11, x12, x13, x14, x15] := by
 simpa using ((((((((((((((((h.set 0 _).set 1 _).set 2 _).set 3 _).set 4 _).set 5 _).set 6 _).set 7 _).set 8 _).set 9 _).set 10 _).set 11 _).set 12 _).set 13 _).set 14 _).set 15 _)
theorem below_setV16 {B g : Nat} {w0 w : World} {x0 x1 x2 x3 x4 x5 x6 x7 x8 x9 x10 x11 x12 x13 x14 x15 : Value} (h : Below B w0 w) (hg : B ≤ g) : Below B w0 ((((((((((((((((w.setCell ⟨g, 0, none⟩ x0).setCell ⟨g, 1, none⟩ x1).setCell ⟨g, 2, none⟩ x2).setCell ⟨g, 3, none⟩ x3).setCell ⟨g, 4, none⟩ x4).setCell ⟨g, 5, none⟩ x5).setCell ⟨g, 6, none⟩ x6).setCell ⟨g, 7, none⟩ x7).setCell ⟨g, 8, none⟩ x8).setCell ⟨g, 9, none⟩ x9).setCell ⟨g, 10, none⟩ x10).setCell ⟨g, 11, none⟩ x11).setCell ⟨g, 12, none⟩ x12).setCell ⟨g, 13, none⟩ x13).setCell ⟨g, 14, none⟩ x14).setCell ⟨g, 15, none⟩ x15) := ((((((((((((((((h.setCell hg _).setCell hg _).setCell hg _).setCell hg _).setCell hg _).setCell hg _).setCell hg _).setCell hg _).setCell hg _).setCell hg _).setCell hg _).setCell hg _).setCell hg _).setCell hg _).setCell hg _).setCell hg _)
theorem results_cell_tmp {P : Program} {fn : Func} {p q : Tmp} {ty : TypeId} (h : fn.results = #[.cell p ty, .tmp q]) (tmps : Array Value) (w : World) (g : Nat) (t : TypeId) (cs : Array Value) (fr : Nat × Nat) (d : TypeDesc)
  (hp : tmps.getD p undef = .pointer (some ⟨g, 0, none⟩)) (hg : w.heap[g]? = some (.cells cs t fr))
  (hu : P.underlying ty = some d) (hd : (match d with | .struct _ | .array _ _ => true | _ => false) = true) (hi : (P.info? ty).map (·.size) = some cs.size) :
  (results fn tmps).run P w = .ok (.tuple #[.agg cs, tmps.getD q undef]) w := by
 have hp' : tmps[p]?.getD undef = .pointer (some ⟨g, 0, none⟩) := by simpa using hp
 simp [results, h, hp', asAddr, run_loadVar_row w g t ty cs fr d hg hu hd hi]
theorem Blk.setV4 {w : World} {g : Nat} {t : TypeId} {y0 y1 y2 y3 x0 x1 x2 x3 : Value} (h : Blk w g t #[y0, y1, y2, y3]) : Blk ((((w.setCell ⟨g, 0, none⟩ x0).setCell ⟨g, 1, none⟩ x1).setCell ⟨g, 2, none⟩ x2).setCell ⟨g, 3, none⟩ x3) g t #[x0, x1, x2, x3] := by
 simpa using ((((h.set 0 _).set 1 _).set 2 _).set 3 _)
theorem below_setV4 {B g : Nat} {w0 w : World} {x0 x1 x2 x3 : Value} (h : Below B w0 w) (hg : B ≤ g) : Below B w0 ((((w.setCell ⟨g, 0, none⟩ x0).setCell ⟨g, 1, none⟩ x1).setCell ⟨g, 2, none⟩ x2).setCell ⟨g, 3, none⟩ x3) := ((((h.setCell hg _).setCell hg _).setCell hg _).setCell hg _)
theorem Blk.cells4 {w : World} {g : Nat} {t : TypeId} {x0 x1 x2 x3 : UInt8} (h : Blk w g t (arrB [x0, x1, x2, x3])) : w.cell? ⟨g, 0, none⟩ = some (.int .u8 (x0.toNat : Int)) ∧ w.cell? ⟨g, 1, none⟩ = some (.int .u8 (x1.toNat : Int)) ∧ w.cell? ⟨g, 2, none⟩ = some (.int .u8 (x2.toNat : Int)) ∧ w.cell? ⟨g, 3, none⟩ = some (.int .u8 (x3.toNat : Int)) := ⟨h.cell 0, h.cell 1, h.cell 2, h.cell 3⟩
theorem list4 {α : Type} : ∀ {l : List α}, l.length = 4 → ∃ x0 x1 x2 x3, l = [x0, x1, x2, x3]
 | [x0, x1, x2, x3], _ => ⟨x0, x1, x2, x3, rfl⟩
theorem Blk.iterAt {w : World} {g : Nat} {t : TypeId} {cs : Array Value} (h : Blk w g t cs) {k : Nat} {s : ByteArray} {pos : Nat} (hk : w.heap[k]? = some (.stringIter s pos)) (pos' : Nat) : Blk (w.iterAt k s pos') g t cs :=
 (Lib.iterAt_other w k g s pos' (fun e => by subst e; rw [show w.heap[g]? = _ from h] at hk; cases hk)).trans h
theorem bits_or_i64_nat (a b : Nat) (ha : a < 4611686018427387904) (hb : b < 4611686018427387904) :
  bits .or .i64 (a : Int) (b : Int) = ((a ||| b : Nat) : Int) := by
 have hx : a ||| b < 2 ^ 62 := Nat.or_lt_two_pow (by omega) (by omega)
 have h1 : (BitVec.ofInt 64 (a : Int)).toNat = a := by
  rw [BitVec.ofInt_natCast, BitVec.toNat_ofNat]; exact Nat.mod_eq_of_lt (by omega)
 have h2 : (BitVec.ofInt 64 (b : Int)).toNat = b := by
  rw [BitVec.ofInt_natCast, BitVec.toNat_ofNat]; exact Nat.mod_eq_of_lt (by omega)
 show IntKind.i64.wrap ((BitVec.ofInt 64 (a : Int) ||| BitVec.ofInt 64 (b : Int)).toNat : Int) = _
 rw [BitVec.toNat_or, h1, h2]
 exact IntWalk.i64_in _ (by omega)
theorem or_256 (a b : Nat) (ha : a < 72057594037927936 / 256) (hb : b < 256) : bits .or .i64 ((a : Int) * 256) (b : Int) = ((256 * a + b : Nat) : Int) := by
 have h := bits_or_i64_nat (a * 256) b (by omega) (by omega)
 have e : a * 256 ||| b = a * 256 + b := by
  have := Nat.shiftLeft_add_eq_or_of_lt (show b < 2 ^ 8 by omega) a
  rw [Nat.shiftLeft_eq] at this
  exact this.symm
 rw [e] at h
 rw [← Nat.mul_comm a 256, ← h]
 congr 1
theorem or_16 (a b : Nat) (ha : a < 72057594037927936 / 256) (hb : b < 16) : bits .or .i64 ((a : Int) * 16) (b : Int) = ((a * 16 + b : Nat) : Int) := by
 have h := bits_or_i64_nat (a * 16) b (by omega) (by omega)
 have e : a * 16 ||| b = a * 16 + b := by
  have := Nat.shiftLeft_add_eq_or_of_lt (show b < 2 ^ 4 by omega) a
  rw [Nat.shiftLeft_eq] at this
  exact this.symm
 rw [e] at h
 rw [← h]
 congr 1
end Go.Proofs.YtdbgeobolongmaaGreatDoor
namespace Go.Proofs.YtdbgeobolongmaaGreatDoor
open Go.RowKit Go.Shelf Go.Proofs Go.OctetPlain
theorem SlR.atB {w : World} {p : Option Addr} {l : List UInt8} (h : RdP w 1 encB p l) {i : Nat} (hi : i < l.length) :
  ∃ b off, p = some ⟨b, off, none⟩ ∧ b < w.heap.size ∧ w.cell? ⟨b, off + i, none⟩ = some (.int .u8 (l[i].toNat : Int)) := by
 obtain ⟨b, off, h1, h2, h3⟩ := h.at hi
 have := h3 0 _ rfl
 simp only [Nat.mul_one, Nat.add_zero] at this
 exact ⟨b, off, h1, h2, this⟩
theorem var_below {w w' : World} {n : String} {cs : Array Value} (h : w.var? Tryz.prog n = some cs) (hb : Below w.heap.size w w') : w'.var? Tryz.prog n = some cs := by
 unfold World.var? at h ⊢
 cases hg : Tryz.prog.globalNamed n with
 | none => rw [hg] at h; simp at h
 | some g =>
  rw [hg] at h
  simp only [Option.bind_some] at h ⊢
  cases hh : w.heap[g]? with
  | none => rw [hh] at h; simp at h
  | some o =>
   rw [hb.block g (Array.getElem?_eq_some_iff.1 hh).1, hh]
   rw [hh] at h
   exact h
structure Tabs (w : World) : Prop where
 pow : Lib.TabIs Tryz.prog w "internal/strconv.uint64pow10" .u64 Lib.pow10Tab
 syn : ∃ tp p, w.var? Tryz.prog "strconv.ErrSyntax" = some #[.iface tp p]
 rng : ∃ tp p, w.var? Tryz.prog "strconv.ErrRange" = some #[.iface tp p]
theorem Tabs.below {w w' : World} (h : Tabs w) (hb : Below w.heap.size w w') : Tabs w' :=
 ⟨var_below h.pow hb, h.syn.elim fun tp ⟨p, e⟩ => ⟨tp, p, var_below e hb⟩, h.rng.elim fun tp ⟨p, e⟩ => ⟨tp, p, var_below e hb⟩⟩
theorem Tabs.next {w w' : World} (h : Tabs w) {B : Nat} (hb : Below B w w') (hB : w.heap.size ≤ B) : Tabs w' := h.below (hb.mono hB)
theorem below_grow (w : World) (q : Nat) (os : Array Obj) : Below w.heap.size w (Go.Sort.grow (w.drewN q) os) :=
 ⟨rfl, rfl, rfl, by simp [Go.Sort.grow, World.drewN], fun k hk => by
  show (w.heap ++ os)[k]? = w.heap[k]?
  rw [Array.getElem?_append_left hk]⟩
theorem octet_Digits (n : Int) (hn : -9223372036854775808 ≤ n ∧ n ≤ 9223372036854775807) (w : World) (ht : Tabs w) :
  Calls Tryz.prog 41 #[.int .i64 n] w fun e w' => e = .returned (.string (str (Lib.itoa n))) ∧ Below w.heap.size w w' := by
 have hcon := Any.strconv_Itoa Tryz.itoa n hn.1 hn.2 w ht.pow
 change Calls Tryz.prog 84 _ _ _ at hcon
 have HC := qh hcon
 clear hcon
 go_enter Tryz.func41, Tryz.ntmps41
 go_wp2_with fail
 refine HC.out.mono ?_
 rintro e w1 ⟨rfl, k, os, rfl⟩
 go_wp2_with fail
 go_ret
 exact ⟨rfl, below_grow _ _ _⟩
end Go.Proofs.YtdbgeobolongmaaGreatDoor
namespace Go.Proofs.YtdbgeobolongmaaGreatDoor
open Go.RowKit Go.Shelf Go.Proofs
def bruijn : List Int := [0, 1, 56, 2, 57, 49, 28, 3, 61, 58, 42, 50, 38, 29, 17, 4, 62, 47, 59, 36, 45, 43, 51, 22, 53, 39, 33, 30, 24, 18, 12, 5, 63, 55, 48, 27, 60, 41, 37, 16, 46, 35, 44, 21, 52, 32, 23, 11, 54, 26, 40, 15, 34, 20, 31, 10, 25, 14, 19, 9, 13, 8, 7, 6]
structure CT (w : World) : Prop where
 tz : Lib.TabIs Tryz.prog w "math/bits.deBruijn64tab" .u8 bruijn
 ml : ∃ m, w.cell? ⟨1, 0, none⟩ = some (.int .i64 m)
theorem CT.below {w w' : World} (h : CT w) (hb : Below w.heap.size w w') : CT w' := by
 refine ⟨var_below h.tz hb, ?_⟩
 obtain ⟨m, hm⟩ := h.ml
 have hlt : 1 < w.heap.size := by
  unfold World.cell? at hm
  cases hh : w.heap[1]? with
  | none => simp [hh] at hm
  | some o => exact (Array.getElem?_eq_some_iff.1 hh).1
 exact ⟨m, (hb.cell (p := ⟨1, 0, none⟩) hlt).trans hm⟩
theorem CT.next {w w' : World} (h : CT w) {B : Nat} (hb : Below B w w') (hB : w.heap.size ≤ B) : CT w' := h.below (hb.mono hB)
end Go.Proofs.YtdbgeobolongmaaGreatDoor
