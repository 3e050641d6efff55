/-
 DERIVED: THE SHELF's CONTRACTS AT THIS DUMP, IN PLAIN WORDS (tools/lay-plain.mjs out of 'TryzShelf.lean', which tools/lay-shelf.mjs wrote): THE SAME DECLARATIONS UNDER THE SAME NAMES: 'import', 'namespace', 'open', 'def', 'theorem' AND NOTHING ELSE: no command of the shelf's: FOR A HAND-IN. Each laying: the table of numbers ('.._ren') and one theorem, a field a fact of the dump's own or the kernel's comparison; each contract: ONE APPLICATION.
-/
import Derived.Shelf.Strings.Builder1
import Derived.Shelf.Strings.Builder2
import Derived.Shelf.Strings.OnBuilder
import Derived.Shelf.Small.Bits
import Derived.Shelf.Small.Wraps
import Derived.Shelf.Strings.BuilderF
import Derived.Shelf.Strings.BuilderK
import Derived.Shelf.Strings.Builder2Cap
import Derived.Shelf.Strconv.Atoi
import Derived.Shelf.Strconv.Itoa0
import Derived.Shelf.Strconv.Itoa1
import Derived.Shelf.LaysM
import Derived.Shelf.Strconv.Itoa2
import Derived.Shelf.Strconv.Itoa3
import Derived.Shelf.Strconv.AtoiErrFast
import Derived.Shelf.Strconv.ParseIntEmpty
import Derived.Shelf.Strconv.AtoiFail
import Derived.Shelf.Strconv.Clone
import Derived.Shelf.Strconv.SyntaxError
import Derived.Shelf.LaysC
import Derived.Shelf.Strconv.ToError
import Derived.Shelf.Strconv.Lower
import Derived.Shelf.Strconv.ParseUint10
import Derived.Shelf.Strconv.ParseUint10Empty
import Derived.Shelf.Strconv.ParseUint10Any
import Derived.Shelf.Strconv.ParseInt10
import Derived.Shelf.Strconv.AtoiLong
import Derived.Shelf.Strconv.AtoiInnerAll
import Derived.Shelf.Strconv.RangeError
import Derived.Shelf.Strconv.ToErrorRange
import Derived.Shelf.Strconv.AtoiAll
import Derived.Shelf.Strconv.ErrVarAll
import Derived.Shelf.Strconv.ParseUintEmpty
import Derived.Shelf.Strconv.ParseUint10b64
import Derived.Shelf.Strconv.ParseUint10b32
import Derived.Shelf.Strconv.ParseUint10b16
import Derived.Shelf.Strconv.ParseUint10b8
import Derived.Shelf.Sort.Plain
import Derived.Shelf.Strconv.AppendUint10
import Derived.Shelf.Strconv.AppendInt10
import Derived.Shelf.Strconv.AppendIntPublic10
import Derived.Shelf.Slices.Turned
import Derived.Shelf.Slices.Reverse
import Derived.Ground.Names2Prog
import Derived.Shelf.Slices.Clone
import Derived.Shelf.Slices.SearchI
import Derived.Shelf.Slices.Cells
import Derived.Shelf.Slices.In.SortNone
import Derived.Ground.SlgnProg
import Derived.Shelf.SlicesE.Reverse
import Derived.Shelf.SlicesE.Clone
import Derived.Test.YthbhcdbedfimhaaGreatDoorProg
namespace Go.Proofs
open Go.Shelf
def Tryz.lays156_ren : Go.Shelf.Ren := ⟨fun | 156 => 93 | 165 => 137 | 166 => 138 | 169 => 139 | 240 => 164 | 241 => 165 | 276 => 180 | 277 => 181 | n => n, fun | 31 => 121 | 9 => 9 | 3 => 3 | 4 => 4 | 0 => 0 | 20 => 20 | 72 => 205 | 76 => 85 | 70 => 203 | 37 => 42 | 75 => 84 | 127 => 227 | 164 => 246 | 5 => 5 | 80 => 88 | n => n, fun | n => n⟩
theorem Tryz.lays156 : Go.Proofs.Lays.n156 Tryz.prog Tryz.lays156_ren := {
 mixed := by kernel_rfl
 f156 := Tryz.func93.trans (congrArg some (by kernel_rfl))
 f165 := Tryz.func137.trans (congrArg some (by kernel_rfl))
 f166 := Tryz.func138.trans (congrArg some (by kernel_rfl))
 f169 := Tryz.func139.trans (congrArg some (by kernel_rfl))
 f240 := Tryz.func164.trans (congrArg some (by kernel_rfl))
 f241 := Tryz.func165.trans (congrArg some (by kernel_rfl))
 f276 := Tryz.func180.trans (congrArg some (by kernel_rfl))
 f277 := Tryz.func181.trans (congrArg some (by kernel_rfl))
 t0 := Tryz.underlying0
 a0 := Tryz.isAgg0
 z0 := Tryz.sizeOf0
 v0 := Tryz.zeroValue0
 t3 := Tryz.underlying3
 a3 := Tryz.isAgg3
 z3 := Tryz.sizeOf3
 v3 := Tryz.zeroValue3
 t4 := Tryz.underlying4
 a4 := Tryz.isAgg4
 z4 := Tryz.sizeOf4
 v4 := Tryz.zeroValue4
 t9 := Tryz.underlying9
 a9 := Tryz.isAgg9
 z9 := Tryz.sizeOf9
 v9 := Tryz.zeroValue9
 t20 := Tryz.underlying20
 a20 := Tryz.isAgg20
 z20 := Tryz.sizeOf20
 v20 := Tryz.zeroValue20
 t31 := Tryz.underlying121
 a31 := Tryz.isAgg121
 z31 := Tryz.sizeOf121
 v31 := Tryz.zeroValue121
 t37 := Tryz.underlying42
 a37 := Tryz.isAgg42
 z37 := Tryz.sizeOf42
 v37 := Tryz.zeroValue42
 t70 := Tryz.underlying203
 a70 := Tryz.isAgg203
 z70 := Tryz.sizeOf203
 v70 := Tryz.zeroValue203
 t72 := Tryz.underlying205
 a72 := Tryz.isAgg205
 z72 := Tryz.sizeOf205
 v72 := Tryz.zeroValue205
 t75 := Tryz.underlying84
 a75 := Tryz.isAgg84
 z75 := Tryz.sizeOf84
 v75 := Tryz.zeroValue84
 t76 := Tryz.underlying85
 a76 := Tryz.isAgg85
 z76 := Tryz.sizeOf85
 v76 := Tryz.zeroValue85
 t127 := Tryz.underlying227
 a127 := Tryz.isAgg227
 z127 := Tryz.sizeOf227
 v127 := Tryz.zeroValue227
 t164 := Tryz.underlying246
 a164 := Tryz.isAgg246
 z164 := Tryz.sizeOf246
 v164 := Tryz.zeroValue246 }
theorem Tryz.Builder_Extra_156 : Builder.Extra Tryz.prog Tryz.lays156_ren := {
 sizeBuilder := by kernel_rfl
 liesBuilder := by kernel_rfl
 t5 := Tryz.underlying5
 a5 := Tryz.isAgg5
 z5 := Tryz.sizeOf5
 v5 := Tryz.zeroValue5
 infoByte := by kernel_rfl
 cellsByte := by kernel_rfl
 sizeByte := by kernel_rfl
 neB5 := by decide }
open Go.RowKit in
theorem Tryz.strings_Join_none (a : Option Addr) (c : Nat) (sep : ByteArray) (w : World) :
 Calls Tryz.prog 93 #[.slice a 0 c, .string sep] w fun e w' => e = .returned (.string ⟨#[]⟩) /\ w' = w := Any.strings_Join_none Tryz.lays156 Tryz.Builder_Extra_156 a c sep w
open Go.RowKit in
theorem Tryz.strings_Join (bk o c : Nat) (xs : List ByteArray) (sep : ByteArray) (w : World) (hcells : ∀ (j : Nat) x, xs[j]? = some x -> w.cell? ⟨bk, o + j, none⟩ = some (.string x)) (hbk : bk < w.heap.size) (hN : xs.length <= 140737488355328) (hcap : xs.length <= c) (hlen : (Lib.join (xs.map (·.data.toList)) sep.data.toList).length <= 140737488355328) :
 Calls Tryz.prog 93 #[.slice (some ⟨bk, o, none⟩) xs.length c, .string sep] w fun e w' => e = .returned (.string ⟨(Lib.join (xs.map (·.data.toList)) sep.data.toList).toArray⟩) /\ Below w.heap.size w w' := Any.strings_Join Tryz.lays156 Tryz.Builder_Extra_156 bk o c xs sep w hcells hbk hN hcap hlen
def Tryz.laysM171_ren : Go.Shelf.Ren := ⟨fun | 171 => 25 | 243 => 60 | 246 => 105 | 283 => 143 | 284 => 144 | 285 => 145 | 286 => 146 | 129 => 128 | 317 => 168 | 318 => 169 | 319 => 170 | 320 => 171 | 337 => 182 | 338 => 183 | n => n, fun | 3 => 3 | 9 => 9 | 2 => 2 | 4 => 4 | 171 => 211 | 0 => 0 | 53 => 199 | 37 => 42 | 5 => 5 | 173 => 213 | 212 => 234 | 51 => 197 | 20 => 20 | 213 => 235 | 46 => 142 | 232 => 249 | 233 => 250 | n => n, fun | 17 => 2 | 18 => 4 | 19 => 5 | n => n⟩
theorem Tryz.laysM171 : Go.Proofs.LaysM.n171 Tryz.prog Tryz.laysM171_ren := {
 mixed := by kernel_rfl
 f129 := Tryz.func128.trans (congrArg some (by kernel_rfl))
 f171 := Tryz.func25.trans (congrArg some (by kernel_rfl))
 f243 := Tryz.func60.trans (congrArg some (by kernel_rfl))
 f246 := Tryz.func105.trans (congrArg some (by kernel_rfl))
 f283 := Tryz.func143.trans (congrArg some (by kernel_rfl))
 f284 := Tryz.func144.trans (congrArg some (by kernel_rfl))
 f285 := Tryz.func145.trans (congrArg some (by kernel_rfl))
 f286 := Tryz.func146.trans (congrArg some (by kernel_rfl))
 f317 := Tryz.func168.trans (congrArg some (by kernel_rfl))
 f318 := Tryz.func169.trans (congrArg some (by kernel_rfl))
 f319 := Tryz.func170.trans (congrArg some (by kernel_rfl))
 f320 := Tryz.func171.trans (congrArg some (by kernel_rfl))
 f337 := Tryz.func182.trans (congrArg some (by kernel_rfl))
 f338 := Tryz.func183.trans (congrArg some (by kernel_rfl))
 t0 := Tryz.underlying0
 a0 := Tryz.isAgg0
 z0 := Tryz.sizeOf0
 v0 := Tryz.zeroValue0
 t2 := Tryz.underlying2
 a2 := Tryz.isAgg2
 z2 := Tryz.sizeOf2
 v2 := Tryz.zeroValue2
 t3 := Tryz.underlying3
 a3 := Tryz.isAgg3
 z3 := Tryz.sizeOf3
 v3 := Tryz.zeroValue3
 t4 := Tryz.underlying4
 a4 := Tryz.isAgg4
 z4 := Tryz.sizeOf4
 v4 := Tryz.zeroValue4
 t5 := Tryz.underlying5
 a5 := Tryz.isAgg5
 z5 := Tryz.sizeOf5
 v5 := Tryz.zeroValue5
 t9 := Tryz.underlying9
 a9 := Tryz.isAgg9
 z9 := Tryz.sizeOf9
 v9 := Tryz.zeroValue9
 t20 := Tryz.underlying20
 a20 := Tryz.isAgg20
 z20 := Tryz.sizeOf20
 v20 := Tryz.zeroValue20
 t37 := Tryz.underlying42
 a37 := Tryz.isAgg42
 z37 := Tryz.sizeOf42
 v37 := Tryz.zeroValue42
 t46 := Tryz.underlying142
 a46 := Tryz.isAgg142
 z46 := Tryz.sizeOf142
 v46 := Tryz.zeroValue142
 t51 := Tryz.underlying197
 a51 := Tryz.isAgg197
 z51 := Tryz.sizeOf197
 v51 := Tryz.zeroValue197
 t53 := Tryz.underlying199
 a53 := Tryz.isAgg199
 z53 := Tryz.sizeOf199
 v53 := Tryz.zeroValue199
 t171 := Tryz.underlying211
 a171 := Tryz.isAgg211
 z171 := Tryz.sizeOf211
 v171 := Tryz.zeroValue211
 t173 := Tryz.underlying213
 a173 := Tryz.isAgg213
 z173 := Tryz.sizeOf213
 v173 := Tryz.zeroValue213
 t212 := Tryz.underlying234
 a212 := Tryz.isAgg234
 z212 := Tryz.sizeOf234
 v212 := Tryz.zeroValue234
 t213 := Tryz.underlying235
 a213 := Tryz.isAgg235
 z213 := Tryz.sizeOf235
 t232 := Tryz.underlying249
 a232 := Tryz.isAgg249
 z232 := Tryz.sizeOf249
 v232 := Tryz.zeroValue249
 t233 := Tryz.underlying250
 a233 := Tryz.isAgg250
 z233 := Tryz.sizeOf250
 v233 := Tryz.zeroValue250
 g17 := by kernel_rfl
 g18 := by kernel_rfl
 g19 := by kernel_rfl
 i0 := by kernel_rfl
 i2 := by kernel_rfl
 i3 := by kernel_rfl
 i4 := by kernel_rfl
 i5 := by kernel_rfl
 i9 := by kernel_rfl
 i20 := by kernel_rfl
 i37 := by kernel_rfl
 i46 := by kernel_rfl
 i51 := by kernel_rfl
 i53 := by kernel_rfl
 i171 := by kernel_rfl
 i173 := by kernel_rfl
 i212 := by kernel_rfl
 i232 := by kernel_rfl
 i233 := by kernel_rfl
 m17 := by kernel_rfl
 m18 := by kernel_rfl
 m19 := by kernel_rfl }
open Go.RowKit Go.Sort Go.Lib in
theorem Tryz.strconv_Itoa (n : Int) (h0 : -9223372036854775808 <= n) (h1 : n <= 9223372036854775807) (w : World) (htab : Lib.TabIs Tryz.prog w "internal/strconv.uint64pow10" .u64 Lib.pow10Tab) :
 Calls Tryz.prog 25 #[.int .i64 n] w fun e w' => e = .returned (.string ⟨(Lib.itoa n).toArray⟩) /\ ∃ k os, w' = grow (w.drewN k) os := Any.strconv_Itoa Tryz.laysM171 n h0 h1 w htab
def Tryz.laysC172_ren : Go.Shelf.Ren := ⟨fun | 172 => 24 | 244 => 58 | 245 => 59 | 247 => 100 | 279 => 101 | 280 => 102 | 281 => 103 | 282 => 104 | 287 => 140 | 316 => 141 | 171 => 25 | 205 => 142 | 321 => 166 | 322 => 167 | 243 => 60 | 246 => 105 | 283 => 143 | 284 => 144 | 285 => 145 | 286 => 146 | 129 => 128 | 317 => 168 | 318 => 169 | 319 => 170 | 320 => 171 | 337 => 182 | 338 => 183 | n => n, fun | 9 => 9 | 3 => 3 | 75 => 84 | 76 => 85 | 4 => 4 | 5 => 5 | 167 => 171 | 37 => 42 | 0 => 0 | 85 => 172 | 2 => 2 | 168 => 174 | 53 => 199 | 175 => 206 | 46 => 142 | 210 => 209 | 127 => 227 | 145 => 231 | 143 => 229 | 21 => 21 | 171 => 211 | 173 => 213 | 212 => 234 | 51 => 197 | 20 => 20 | 213 => 235 | 232 => 249 | 233 => 250 | 80 => 88 | n => n, fun | 15 => 0 | 16 => 1 | 17 => 2 | 18 => 4 | 19 => 5 | n => n⟩
theorem Tryz.laysC172 : Go.Proofs.LaysC.n172 Tryz.prog Tryz.laysC172_ren := {
 mixed := by kernel_rfl
 f129 := Tryz.func128.trans (congrArg some (by kernel_rfl))
 f171 := Tryz.func25.trans (congrArg some (by kernel_rfl))
 f172 := Tryz.func24.trans (congrArg some (by kernel_rfl))
 f205 := Tryz.func142.trans (congrArg some (by kernel_rfl))
 f243 := Tryz.func60.trans (congrArg some (by kernel_rfl))
 f244 := Tryz.func58.trans (congrArg some (by kernel_rfl))
 f245 := Tryz.func59.trans (congrArg some (by kernel_rfl))
 f246 := Tryz.func105.trans (congrArg some (by kernel_rfl))
 f247 := Tryz.func100.trans (congrArg some (by kernel_rfl))
 f279 := Tryz.func101.trans (congrArg some (by kernel_rfl))
 f280 := Tryz.func102.trans (congrArg some (by kernel_rfl))
 f281 := Tryz.func103.trans (congrArg some (by kernel_rfl))
 f282 := Tryz.func104.trans (congrArg some (by kernel_rfl))
 f283 := Tryz.func143.trans (congrArg some (by kernel_rfl))
 f284 := Tryz.func144.trans (congrArg some (by kernel_rfl))
 f285 := Tryz.func145.trans (congrArg some (by kernel_rfl))
 f286 := Tryz.func146.trans (congrArg some (by kernel_rfl))
 f287 := Tryz.func140.trans (congrArg some (by kernel_rfl))
 f316 := Tryz.func141.trans (congrArg some (by kernel_rfl))
 f317 := Tryz.func168.trans (congrArg some (by kernel_rfl))
 f318 := Tryz.func169.trans (congrArg some (by kernel_rfl))
 f319 := Tryz.func170.trans (congrArg some (by kernel_rfl))
 f320 := Tryz.func171.trans (congrArg some (by kernel_rfl))
 f321 := Tryz.func166.trans (congrArg some (by kernel_rfl))
 f322 := Tryz.func167.trans (congrArg some (by kernel_rfl))
 f337 := Tryz.func182.trans (congrArg some (by kernel_rfl))
 f338 := Tryz.func183.trans (congrArg some (by kernel_rfl))
 t0 := Tryz.underlying0
 a0 := Tryz.isAgg0
 z0 := Tryz.sizeOf0
 v0 := Tryz.zeroValue0
 t2 := Tryz.underlying2
 a2 := Tryz.isAgg2
 z2 := Tryz.sizeOf2
 v2 := Tryz.zeroValue2
 t3 := Tryz.underlying3
 a3 := Tryz.isAgg3
 z3 := Tryz.sizeOf3
 v3 := Tryz.zeroValue3
 t4 := Tryz.underlying4
 a4 := Tryz.isAgg4
 z4 := Tryz.sizeOf4
 v4 := Tryz.zeroValue4
 t5 := Tryz.underlying5
 a5 := Tryz.isAgg5
 z5 := Tryz.sizeOf5
 v5 := Tryz.zeroValue5
 t9 := Tryz.underlying9
 a9 := Tryz.isAgg9
 z9 := Tryz.sizeOf9
 v9 := Tryz.zeroValue9
 t20 := Tryz.underlying20
 a20 := Tryz.isAgg20
 z20 := Tryz.sizeOf20
 v20 := Tryz.zeroValue20
 t21 := Tryz.underlying21
 a21 := Tryz.isAgg21
 z21 := Tryz.sizeOf21
 v21 := Tryz.zeroValue21
 t37 := Tryz.underlying42
 a37 := Tryz.isAgg42
 z37 := Tryz.sizeOf42
 v37 := Tryz.zeroValue42
 t46 := Tryz.underlying142
 a46 := Tryz.isAgg142
 z46 := Tryz.sizeOf142
 v46 := Tryz.zeroValue142
 t51 := Tryz.underlying197
 a51 := Tryz.isAgg197
 z51 := Tryz.sizeOf197
 v51 := Tryz.zeroValue197
 t53 := Tryz.underlying199
 a53 := Tryz.isAgg199
 z53 := Tryz.sizeOf199
 v53 := Tryz.zeroValue199
 t75 := Tryz.underlying84
 a75 := Tryz.isAgg84
 z75 := Tryz.sizeOf84
 v75 := Tryz.zeroValue84
 t76 := Tryz.underlying85
 a76 := Tryz.isAgg85
 z76 := Tryz.sizeOf85
 v76 := Tryz.zeroValue85
 t85 := Tryz.underlying172
 a85 := Tryz.isAgg172
 z85 := Tryz.sizeOf172
 v85 := Tryz.zeroValue172
 t127 := Tryz.underlying227
 a127 := Tryz.isAgg227
 z127 := Tryz.sizeOf227
 v127 := Tryz.zeroValue227
 t143 := Tryz.underlying229
 a143 := Tryz.isAgg229
 z143 := Tryz.sizeOf229
 v143 := Tryz.zeroValue229
 t145 := Tryz.underlying231
 a145 := Tryz.isAgg231
 z145 := Tryz.sizeOf231
 v145 := Tryz.zeroValue231
 t167 := Tryz.underlying171
 a167 := Tryz.isAgg171
 z167 := Tryz.sizeOf171
 v167 := Tryz.zeroValue171
 t168 := Tryz.underlying174
 a168 := Tryz.isAgg174
 z168 := Tryz.sizeOf174
 v168 := Tryz.zeroValue174
 t171 := Tryz.underlying211
 a171 := Tryz.isAgg211
 z171 := Tryz.sizeOf211
 v171 := Tryz.zeroValue211
 t173 := Tryz.underlying213
 a173 := Tryz.isAgg213
 z173 := Tryz.sizeOf213
 v173 := Tryz.zeroValue213
 t175 := Tryz.underlying206
 a175 := Tryz.isAgg206
 z175 := Tryz.sizeOf206
 v175 := Tryz.zeroValue206
 t210 := Tryz.underlying209
 a210 := Tryz.isAgg209
 z210 := Tryz.sizeOf209
 v210 := Tryz.zeroValue209
 t212 := Tryz.underlying234
 a212 := Tryz.isAgg234
 z212 := Tryz.sizeOf234
 v212 := Tryz.zeroValue234
 t213 := Tryz.underlying235
 a213 := Tryz.isAgg235
 z213 := Tryz.sizeOf235
 t232 := Tryz.underlying249
 a232 := Tryz.isAgg249
 z232 := Tryz.sizeOf249
 v232 := Tryz.zeroValue249
 t233 := Tryz.underlying250
 a233 := Tryz.isAgg250
 z233 := Tryz.sizeOf250
 v233 := Tryz.zeroValue250
 g15 := by kernel_rfl
 g16 := by kernel_rfl
 g17 := by kernel_rfl
 g18 := by kernel_rfl
 g19 := by kernel_rfl
 t80 := Tryz.underlying88
 a80 := Tryz.isAgg88
 z80 := Tryz.sizeOf88
 v80 := Tryz.zeroValue88
 i0 := by kernel_rfl
 i2 := by kernel_rfl
 i3 := by kernel_rfl
 i4 := by kernel_rfl
 i5 := by kernel_rfl
 i9 := by kernel_rfl
 i20 := by kernel_rfl
 i21 := by kernel_rfl
 i37 := by kernel_rfl
 i46 := by kernel_rfl
 i51 := by kernel_rfl
 i53 := by kernel_rfl
 i75 := by kernel_rfl
 i76 := by kernel_rfl
 i80 := by kernel_rfl
 i85 := by kernel_rfl
 i127 := by kernel_rfl
 i143 := by kernel_rfl
 i145 := by kernel_rfl
 i167 := by kernel_rfl
 i168 := by kernel_rfl
 i171 := by kernel_rfl
 i173 := by kernel_rfl
 i175 := by kernel_rfl
 i210 := by kernel_rfl
 i212 := by kernel_rfl
 i232 := by kernel_rfl
 i233 := by kernel_rfl
 m15 := by kernel_rfl
 m16 := by kernel_rfl
 m17 := by kernel_rfl
 m18 := by kernel_rfl
 m19 := by kernel_rfl
 c0 := by kernel_rfl
 c2 := by kernel_rfl
 c3 := by kernel_rfl
 c4 := by kernel_rfl
 c5 := by kernel_rfl
 c9 := by kernel_rfl
 c20 := by kernel_rfl
 c21 := by kernel_rfl
 c37 := by kernel_rfl
 c46 := by kernel_rfl
 c51 := by kernel_rfl
 c53 := by kernel_rfl
 c75 := by kernel_rfl
 c76 := by kernel_rfl
 c80 := by kernel_rfl
 c85 := by kernel_rfl
 c127 := by kernel_rfl
 c143 := by kernel_rfl
 c145 := by kernel_rfl
 c167 := by kernel_rfl
 c168 := by kernel_rfl
 c171 := by kernel_rfl
 c173 := by kernel_rfl
 c175 := by kernel_rfl
 c210 := by kernel_rfl
 c212 := by kernel_rfl
 c213 := by kernel_rfl
 c232 := by kernel_rfl
 c233 := by kernel_rfl }
open Go.RowKit in
theorem Tryz.strconv_Atoi_ok (s : ByteArray) (hmax : s.size <= 9223372036854775806) (v : Int) (h : Lib.atoiAll s.data.toList = .ok v) (w : World) :
 Calls Tryz.prog 24 #[.string s] w fun e w' => e = .returned (.tuple #[.int .i64 v, .nilIface]) /\ (w' = w ∨ ∃ t, w' = Lib.bytesWorld w 5 t) := Any.strconv_Atoi_ok Tryz.laysC172 s hmax v h w
open Go.RowKit in
theorem Tryz.strconv_Atoi_syntax_var (s : ByteArray) (hlim : s.size <= 281474976710656) (h : Lib.atoiAll s.data.toList = .«syntax») (tp : TypeId) (p : Value) (w : World) (hvar : w.var? Tryz.prog "strconv.ErrSyntax" = some #[.iface tp p]) :
 Calls Tryz.prog 24 #[.string s] w fun e w' => ∃ N, e = .returned (.tuple #[.int .i64 0, .iface 174 (.pointer (some ⟨N, 0, none⟩))]) /\ w.heap.size <= N /\ w'.heap[N]? = some (.cells #[.string ⟨#[65, 116, 111, 105]⟩, .string s, .iface tp p] 209 (0, 0)) /\ Below w.heap.size w w' := Any.strconv_Atoi_syntax_var Tryz.laysC172 s hlim h tp p w hvar
open Go.RowKit in
theorem Tryz.strconv_Atoi_range_var (s : ByteArray) (hlim : s.size <= 281474976710656) (h : Lib.atoiAll s.data.toList = .range) (tp : TypeId) (p : Value) (w : World) (hvar : w.var? Tryz.prog "strconv.ErrRange" = some #[.iface tp p]) :
 Calls Tryz.prog 24 #[.string s] w fun e w' => ∃ N, e = .returned (.tuple #[.int .i64 (Lib.atoiSat s.data.toList), .iface 174 (.pointer (some ⟨N, 0, none⟩))]) /\ w.heap.size <= N /\ w'.heap[N]? = some (.cells #[.string ⟨#[65, 116, 111, 105]⟩, .string s, .iface tp p] 209 (0, 0)) /\ Below w.heap.size w w' := Any.strconv_Atoi_range_var Tryz.laysC172 s hlim h tp p w hvar
def Tryz.lays189_ren : Go.Shelf.Ren := ⟨fun | 189 => 36 | 125 => 71 | 257 => 70 | 128 => 127 | 129 => 128 | 294 => 118 | 295 => 119 | 296 => 120 | 297 => 121 | 298 => 122 | 299 => 123 | 216 => 124 | 300 => 125 | 301 => 126 | 328 => 155 | 329 => 156 | 330 => 157 | 331 => 158 | 332 => 159 | 215 => 160 | 343 => 179 | n => n, fun | 28 => 28 | 3 => 3 | 46 => 142 | 0 => 0 | 51 => 197 | 53 => 199 | 4 => 4 | 183 => 189 | 182 => 188 | 131 => 194 | 5 => 5 | 9 => 9 | 218 => 220 | 222 => 224 | 228 => 243 | 229 => 244 | n => n, fun | n => n⟩
theorem Tryz.lays189 : Go.Proofs.Lays.n189 Tryz.prog Tryz.lays189_ren := {
 mixed := by kernel_rfl
 f125 := Tryz.func71.trans (congrArg some (by kernel_rfl))
 f128 := Tryz.func127.trans (congrArg some (by kernel_rfl))
 f129 := Tryz.func128.trans (congrArg some (by kernel_rfl))
 f189 := Tryz.func36.trans (congrArg some (by kernel_rfl))
 f215 := Tryz.func160.trans (congrArg some (by kernel_rfl))
 f216 := Tryz.func124.trans (congrArg some (by kernel_rfl))
 f257 := Tryz.func70.trans (congrArg some (by kernel_rfl))
 f294 := Tryz.func118.trans (congrArg some (by kernel_rfl))
 f295 := Tryz.func119.trans (congrArg some (by kernel_rfl))
 f296 := Tryz.func120.trans (congrArg some (by kernel_rfl))
 f297 := Tryz.func121.trans (congrArg some (by kernel_rfl))
 f298 := Tryz.func122.trans (congrArg some (by kernel_rfl))
 f299 := Tryz.func123.trans (congrArg some (by kernel_rfl))
 f300 := Tryz.func125.trans (congrArg some (by kernel_rfl))
 f301 := Tryz.func126.trans (congrArg some (by kernel_rfl))
 f328 := Tryz.func155.trans (congrArg some (by kernel_rfl))
 f329 := Tryz.func156.trans (congrArg some (by kernel_rfl))
 f330 := Tryz.func157.trans (congrArg some (by kernel_rfl))
 f331 := Tryz.func158.trans (congrArg some (by kernel_rfl))
 f332 := Tryz.func159.trans (congrArg some (by kernel_rfl))
 f343 := Tryz.func179.trans (congrArg some (by kernel_rfl))
 t0 := Tryz.underlying0
 a0 := Tryz.isAgg0
 z0 := Tryz.sizeOf0
 v0 := Tryz.zeroValue0
 t3 := Tryz.underlying3
 a3 := Tryz.isAgg3
 z3 := Tryz.sizeOf3
 v3 := Tryz.zeroValue3
 t4 := Tryz.underlying4
 a4 := Tryz.isAgg4
 z4 := Tryz.sizeOf4
 v4 := Tryz.zeroValue4
 t5 := Tryz.underlying5
 a5 := Tryz.isAgg5
 z5 := Tryz.sizeOf5
 v5 := Tryz.zeroValue5
 t9 := Tryz.underlying9
 a9 := Tryz.isAgg9
 z9 := Tryz.sizeOf9
 v9 := Tryz.zeroValue9
 t28 := Tryz.underlying28
 a28 := Tryz.isAgg28
 z28 := Tryz.sizeOf28
 v28 := Tryz.zeroValue28
 t46 := Tryz.underlying142
 a46 := Tryz.isAgg142
 z46 := Tryz.sizeOf142
 v46 := Tryz.zeroValue142
 t51 := Tryz.underlying197
 a51 := Tryz.isAgg197
 z51 := Tryz.sizeOf197
 v51 := Tryz.zeroValue197
 t53 := Tryz.underlying199
 a53 := Tryz.isAgg199
 z53 := Tryz.sizeOf199
 v53 := Tryz.zeroValue199
 t131 := Tryz.underlying194
 a131 := Tryz.isAgg194
 z131 := Tryz.sizeOf194
 v131 := Tryz.zeroValue194
 t182 := Tryz.underlying188
 a182 := Tryz.isAgg188
 z182 := Tryz.sizeOf188
 v182 := Tryz.zeroValue188
 t183 := Tryz.underlying189
 a183 := Tryz.isAgg189
 z183 := Tryz.sizeOf189
 v183 := Tryz.zeroValue189
 t218 := Tryz.underlying220
 a218 := Tryz.isAgg220
 z218 := Tryz.sizeOf220
 v218 := Tryz.zeroValue220
 t222 := Tryz.underlying224
 a222 := Tryz.isAgg224
 z222 := Tryz.sizeOf224
 v222 := Tryz.zeroValue224
 t228 := Tryz.underlying243
 a228 := Tryz.isAgg243
 z228 := Tryz.sizeOf243
 v228 := Tryz.zeroValue243
 t229 := Tryz.underlying244
 a229 := Tryz.isAgg244
 z229 := Tryz.sizeOf244
 v229 := Tryz.zeroValue244 }
open Go.Sort Go.RowKit in
theorem Tryz.slices_Sort_int (blk off cap : Nat) (zs : List Int) (w : World) (hH : Holds (Value.int .i64) w blk off zs.toArray) (hblk : blk < w.heap.size) (hsz : zs.length < 4611686018427387904) :
 Calls Tryz.prog 36 #[.slice (some ⟨blk, off, none⟩) zs.length cap] w fun e w' =>
  e = .returned (.tuple #[]) /\ ∃ n os, w' = grow (putRow (Value.int .i64) (Sort.ahead w n) blk off (zs.mergeSort fun x y => decide (x <= y)).toArray) os := Any.slices_Sort_int Tryz.lays189 blk off cap zs w hH hblk hsz
def Tryz.laysM176_ren : Go.Shelf.Ren := ⟨fun | 176 => 82 | 249 => 134 | 288 => 163 | 283 => 143 | 284 => 144 | 285 => 145 | 286 => 146 | 129 => 128 | 317 => 168 | 318 => 169 | 319 => 170 | 320 => 171 | 337 => 182 | 338 => 183 | n => n, fun | 37 => 42 | 2 => 2 | 3 => 3 | 53 => 199 | 4 => 4 | 9 => 9 | 171 => 211 | 0 => 0 | 173 => 213 | 212 => 234 | 51 => 197 | 5 => 5 | 20 => 20 | 213 => 235 | 46 => 142 | 232 => 249 | 233 => 250 | n => n, fun | 17 => 2 | 18 => 4 | 19 => 5 | n => n⟩
theorem Tryz.laysM176 : Go.Proofs.LaysM.n176 Tryz.prog Tryz.laysM176_ren := {
 mixed := by kernel_rfl
 f129 := Tryz.func128.trans (congrArg some (by kernel_rfl))
 f176 := Tryz.func82.trans (congrArg some (by kernel_rfl))
 f249 := Tryz.func134.trans (congrArg some (by kernel_rfl))
 f283 := Tryz.func143.trans (congrArg some (by kernel_rfl))
 f284 := Tryz.func144.trans (congrArg some (by kernel_rfl))
 f285 := Tryz.func145.trans (congrArg some (by kernel_rfl))
 f286 := Tryz.func146.trans (congrArg some (by kernel_rfl))
 f288 := Tryz.func163.trans (congrArg some (by kernel_rfl))
 f317 := Tryz.func168.trans (congrArg some (by kernel_rfl))
 f318 := Tryz.func169.trans (congrArg some (by kernel_rfl))
 f319 := Tryz.func170.trans (congrArg some (by kernel_rfl))
 f320 := Tryz.func171.trans (congrArg some (by kernel_rfl))
 f337 := Tryz.func182.trans (congrArg some (by kernel_rfl))
 f338 := Tryz.func183.trans (congrArg some (by kernel_rfl))
 t0 := Tryz.underlying0
 a0 := Tryz.isAgg0
 z0 := Tryz.sizeOf0
 v0 := Tryz.zeroValue0
 t2 := Tryz.underlying2
 a2 := Tryz.isAgg2
 z2 := Tryz.sizeOf2
 v2 := Tryz.zeroValue2
 t3 := Tryz.underlying3
 a3 := Tryz.isAgg3
 z3 := Tryz.sizeOf3
 v3 := Tryz.zeroValue3
 t4 := Tryz.underlying4
 a4 := Tryz.isAgg4
 z4 := Tryz.sizeOf4
 v4 := Tryz.zeroValue4
 t5 := Tryz.underlying5
 a5 := Tryz.isAgg5
 z5 := Tryz.sizeOf5
 v5 := Tryz.zeroValue5
 t9 := Tryz.underlying9
 a9 := Tryz.isAgg9
 z9 := Tryz.sizeOf9
 v9 := Tryz.zeroValue9
 t20 := Tryz.underlying20
 a20 := Tryz.isAgg20
 z20 := Tryz.sizeOf20
 v20 := Tryz.zeroValue20
 t37 := Tryz.underlying42
 a37 := Tryz.isAgg42
 z37 := Tryz.sizeOf42
 v37 := Tryz.zeroValue42
 t46 := Tryz.underlying142
 a46 := Tryz.isAgg142
 z46 := Tryz.sizeOf142
 v46 := Tryz.zeroValue142
 t51 := Tryz.underlying197
 a51 := Tryz.isAgg197
 z51 := Tryz.sizeOf197
 v51 := Tryz.zeroValue197
 t53 := Tryz.underlying199
 a53 := Tryz.isAgg199
 z53 := Tryz.sizeOf199
 v53 := Tryz.zeroValue199
 t171 := Tryz.underlying211
 a171 := Tryz.isAgg211
 z171 := Tryz.sizeOf211
 v171 := Tryz.zeroValue211
 t173 := Tryz.underlying213
 a173 := Tryz.isAgg213
 z173 := Tryz.sizeOf213
 v173 := Tryz.zeroValue213
 t212 := Tryz.underlying234
 a212 := Tryz.isAgg234
 z212 := Tryz.sizeOf234
 v212 := Tryz.zeroValue234
 t213 := Tryz.underlying235
 a213 := Tryz.isAgg235
 z213 := Tryz.sizeOf235
 t232 := Tryz.underlying249
 a232 := Tryz.isAgg249
 z232 := Tryz.sizeOf249
 v232 := Tryz.zeroValue249
 t233 := Tryz.underlying250
 a233 := Tryz.isAgg250
 z233 := Tryz.sizeOf250
 v233 := Tryz.zeroValue250
 g17 := by kernel_rfl
 g18 := by kernel_rfl
 g19 := by kernel_rfl
 i0 := by kernel_rfl
 i2 := by kernel_rfl
 i3 := by kernel_rfl
 i4 := by kernel_rfl
 i5 := by kernel_rfl
 i9 := by kernel_rfl
 i20 := by kernel_rfl
 i37 := by kernel_rfl
 i46 := by kernel_rfl
 i51 := by kernel_rfl
 i53 := by kernel_rfl
 i171 := by kernel_rfl
 i173 := by kernel_rfl
 i212 := by kernel_rfl
 i232 := by kernel_rfl
 i233 := by kernel_rfl
 m17 := by kernel_rfl
 m18 := by kernel_rfl
 m19 := by kernel_rfl }
open Go.RowKit Go.Sort Go.Lib in
theorem Tryz.strconv_AppendInt_10 (B n : Nat) (i : Int) (h0 : -9223372036854775808 <= i) (h1 : i <= 9223372036854775807) (sv : Value) (xs : List Value) (w : World) (hown : w.ownsRow B 5 1 sv n xs) (hBw : B <= w.heap.size) (hlim : n + 21 <= 140737488355328) (htab : Lib.TabBelow Tryz.prog B w "internal/strconv.uint64pow10" .u64 Lib.pow10Tab) :
 Calls Tryz.prog 82 #[sv, .int .i64 i, .int .i64 10] w fun e w' => ∃ v', e = .returned v' /\ w'.ownsRow B 5 1 v' (n + (Lib.itoa i).length) (xs ++ Lib.byteCells (Lib.itoa i)) /\ Below B w w' /\ Lib.OthersKept 5 none w w' := Any.strconv_AppendInt_10 Tryz.laysM176 B n i h0 h1 sv xs w hown hBw hlim htab
def Tryz.lays108_ren : Go.Shelf.Ren := ⟨fun | 108 => 69 | n => n, fun | 28 => 28 | 3 => 3 | 0 => 0 | 4 => 4 | n => n, fun | n => n⟩
theorem Tryz.lays108 : Go.Proofs.Lays.n108 Tryz.prog Tryz.lays108_ren := {
 mixed := by kernel_rfl
 f108 := Tryz.func69.trans (congrArg some (by kernel_rfl))
 t0 := Tryz.underlying0
 a0 := Tryz.isAgg0
 z0 := Tryz.sizeOf0
 v0 := Tryz.zeroValue0
 t3 := Tryz.underlying3
 a3 := Tryz.isAgg3
 z3 := Tryz.sizeOf3
 v3 := Tryz.zeroValue3
 t4 := Tryz.underlying4
 a4 := Tryz.isAgg4
 z4 := Tryz.sizeOf4
 v4 := Tryz.zeroValue4
 t28 := Tryz.underlying28
 a28 := Tryz.isAgg28
 z28 := Tryz.sizeOf28
 v28 := Tryz.zeroValue28 }
open Go.Lib in
theorem Tryz.slices_Index_int (b off n c : Nat) (zs : List Int) (x : Int) (w : World) (hz : n <= zs.length) (hbig : n <= 9223372036854775807) (hc : ∀ j, j < zs.length -> w.cell? ⟨b, off + j, none⟩ = some (.int .i64 (zs.getD j 0))) :
 Calls Tryz.prog 69 #[.slice (some ⟨b, off, none⟩) n c, .int .i64 x] w fun e w' => e = .returned (.int .i64 (Lib.idxOf (zs.take n) x)) /\ w' = w := Any.slices_Index_int Tryz.lays108 b off n c zs x w hz hbig hc
open Go.Lib in
theorem Tryz.slices_Index_int_empty (a : Option Addr) (c : Nat) (x : Int) (w : World) :
 Calls Tryz.prog 69 #[.slice a 0 c, .int .i64 x] w fun e w' => e = .returned (.int .i64 (Lib.idxOf [] x)) /\ w' = w := Any.slices_Index_int_empty Tryz.lays108 a c x w
def Tryz.lays107_ren : Go.Shelf.Ren := ⟨fun | 107 => 35 | 108 => 69 | n => n, fun | 28 => 28 | 3 => 3 | 4 => 4 | 0 => 0 | n => n, fun | n => n⟩
theorem Tryz.lays107 : Go.Proofs.Lays.n107 Tryz.prog Tryz.lays107_ren := {
 mixed := by kernel_rfl
 f107 := Tryz.func35.trans (congrArg some (by kernel_rfl))
 f108 := Tryz.func69.trans (congrArg some (by kernel_rfl))
 t0 := Tryz.underlying0
 a0 := Tryz.isAgg0
 z0 := Tryz.sizeOf0
 v0 := Tryz.zeroValue0
 t3 := Tryz.underlying3
 a3 := Tryz.isAgg3
 z3 := Tryz.sizeOf3
 v3 := Tryz.zeroValue3
 t4 := Tryz.underlying4
 a4 := Tryz.isAgg4
 z4 := Tryz.sizeOf4
 v4 := Tryz.zeroValue4
 t28 := Tryz.underlying28
 a28 := Tryz.isAgg28
 z28 := Tryz.sizeOf28
 v28 := Tryz.zeroValue28 }
open Go.Lib in
theorem Tryz.slices_Contains_int (b off n c : Nat) (zs : List Int) (x : Int) (w : World) (hz : n <= zs.length) (hbig : n <= 9223372036854775807) (hc : ∀ j, j < zs.length -> w.cell? ⟨b, off + j, none⟩ = some (.int .i64 (zs.getD j 0))) :
 Calls Tryz.prog 35 #[.slice (some ⟨b, off, none⟩) n c, .int .i64 x] w fun e w' => e = .returned (.bool ((zs.take n).contains x)) /\ w' = w := Any.slices_Contains_int Tryz.lays107 b off n c zs x w hz hbig hc
open Go.Lib in
theorem Tryz.slices_Contains_int_empty (a : Option Addr) (c : Nat) (x : Int) (w : World) :
 Calls Tryz.prog 35 #[.slice a 0 c, .int .i64 x] w fun e w' => e = .returned (.bool false) /\ w' = w := Any.slices_Contains_int_empty Tryz.lays107 a c x w
end Go.Proofs
