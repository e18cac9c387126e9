/-
  DERIVED: THE SHELF's CONTRACTS AT THIS DUMP, IN PLAIN WORDS (tools/lay-plain.mjs out of 'YtocnbbjcfgfgdaaGreatDoorSf.lean', which tools/lay-shelf.mjs wrote): THE SAME DECLARATIONS UNDER THE SAME NAMES: 'import', 'namespace', 'open', 'def', 'theorem' AND NOTHING ELSE: no command of the shelf's: FOR A HAND-IN. Each laying: the table of numbers ('.._ren') and one theorem, a field a fact of the dump's own or the kernel's comparison; each contract: ONE APPLICATION.
-/
import Derived.Shelf.Strings.Builder1
import Derived.Shelf.Strings.Builder2
import Derived.Shelf.Strings.OnBuilder
import Derived.Shelf.Strconv.Atoi
import Derived.Shelf.Strconv.Itoa0
import Derived.Shelf.Strconv.Itoa1
import Derived.Shelf.LaysM
import Derived.Shelf.Strconv.Itoa2
import Derived.Shelf.Strconv.Itoa3
import Derived.Shelf.Strconv.AtoiErrFast
import Derived.Shelf.Strconv.ParseIntEmpty
import Derived.Shelf.Strconv.AtoiFail
import Derived.Shelf.Strconv.Clone
import Derived.Shelf.Strconv.SyntaxError
import Derived.Shelf.LaysC
import Derived.Shelf.Strconv.ToError
import Derived.Shelf.Strconv.Lower
import Derived.Shelf.Strconv.ParseUint10
import Derived.Shelf.Strconv.ParseUint10Empty
import Derived.Shelf.Strconv.ParseUint10Any
import Derived.Shelf.Strconv.ParseInt10
import Derived.Shelf.Strconv.AtoiLong
import Derived.Shelf.Strconv.AtoiInnerAll
import Derived.Shelf.Strconv.RangeError
import Derived.Shelf.Strconv.ToErrorRange
import Derived.Shelf.Strconv.AtoiAll
import Derived.Shelf.Strconv.ErrVarAll
import Derived.Shelf.Strings.Search1
import Derived.Shelf.Strings.Search2
import Derived.Shelf.Strings.Search3
import Derived.Shelf.Strings.Count
import Derived.Shelf.Strings.Split
import Derived.Test.YtocnbbjcfgfgdaaGreatDoorProg
namespace Go.Proofs
open Go.Shelf
def Tryz.lays156_ren : Go.Shelf.Ren := ⟨fun | 156 => 29 | 165 => 62 | 166 => 63 | 169 => 64 | 240 => 78 | 241 => 79 | 276 => 88 | 277 => 89 | n => n, fun | 31 => 71 | 9 => 9 | 3 => 3 | 4 => 4 | 0 => 0 | 20 => 20 | 72 => 118 | 76 => 122 | 70 => 115 | 37 => 116 | 75 => 121 | 127 => 136 | 164 => 143 | 5 => 5 | 80 => 124 | n => n, fun | n => n⟩
theorem Tryz.lays156 : Go.Proofs.Lays.n156 Tryz.prog Tryz.lays156_ren := {
  mixed := by kernel_rfl
  f156 := Tryz.func29.trans (congrArg some (by kernel_rfl))
  f165 := Tryz.func62.trans (congrArg some (by kernel_rfl))
  f166 := Tryz.func63.trans (congrArg some (by kernel_rfl))
  f169 := Tryz.func64.trans (congrArg some (by kernel_rfl))
  f240 := Tryz.func78.trans (congrArg some (by kernel_rfl))
  f241 := Tryz.func79.trans (congrArg some (by kernel_rfl))
  f276 := Tryz.func88.trans (congrArg some (by kernel_rfl))
  f277 := Tryz.func89.trans (congrArg some (by kernel_rfl))
  t0 := Tryz.underlying0
  a0 := Tryz.isAgg0
  z0 := Tryz.sizeOf0
  v0 := Tryz.zeroValue0
  t3 := Tryz.underlying3
  a3 := Tryz.isAgg3
  z3 := Tryz.sizeOf3
  v3 := Tryz.zeroValue3
  t4 := Tryz.underlying4
  a4 := Tryz.isAgg4
  z4 := Tryz.sizeOf4
  v4 := Tryz.zeroValue4
  t9 := Tryz.underlying9
  a9 := Tryz.isAgg9
  z9 := Tryz.sizeOf9
  v9 := Tryz.zeroValue9
  t20 := Tryz.underlying20
  a20 := Tryz.isAgg20
  z20 := Tryz.sizeOf20
  v20 := Tryz.zeroValue20
  t31 := Tryz.underlying71
  a31 := Tryz.isAgg71
  z31 := Tryz.sizeOf71
  v31 := Tryz.zeroValue71
  t37 := Tryz.underlying116
  a37 := Tryz.isAgg116
  z37 := Tryz.sizeOf116
  v37 := Tryz.zeroValue116
  t70 := Tryz.underlying115
  a70 := Tryz.isAgg115
  z70 := Tryz.sizeOf115
  v70 := Tryz.zeroValue115
  t72 := Tryz.underlying118
  a72 := Tryz.isAgg118
  z72 := Tryz.sizeOf118
  v72 := Tryz.zeroValue118
  t75 := Tryz.underlying121
  a75 := Tryz.isAgg121
  z75 := Tryz.sizeOf121
  v75 := Tryz.zeroValue121
  t76 := Tryz.underlying122
  a76 := Tryz.isAgg122
  z76 := Tryz.sizeOf122
  v76 := Tryz.zeroValue122
  t127 := Tryz.underlying136
  a127 := Tryz.isAgg136
  z127 := Tryz.sizeOf136
  v127 := Tryz.zeroValue136
  t164 := Tryz.underlying143
  a164 := Tryz.isAgg143
  z164 := Tryz.sizeOf143
  v164 := Tryz.zeroValue143 }
theorem Tryz.Builder_Extra_156 : Builder.Extra Tryz.prog Tryz.lays156_ren := {
  sizeBuilder := by kernel_rfl
  liesBuilder := by kernel_rfl
  t5 := Tryz.underlying5
  a5 := Tryz.isAgg5
  z5 := Tryz.sizeOf5
  v5 := Tryz.zeroValue5
  infoByte := by kernel_rfl
  cellsByte := by kernel_rfl
  sizeByte := by kernel_rfl
  neB5 := by decide }
open Go.RowKit in
/-- No element: the empty string; the world is as it was. (Whatever the slice's address and capacity: a nil slice too.) (LAID: no walk: one application.) -/
theorem Tryz.strings_Join_none (a : Option Addr) (c : Nat) (sep : ByteArray) (w : World) :
    Calls Tryz.prog 29 #[.slice a 0 c, .string sep] w fun e w' => e = .returned (.string ⟨#[]⟩) ∧ w' = w := Any.strings_Join_none Tryz.lays156 Tryz.Builder_Extra_156 a c sep w
open Go.RowKit in
/-- strings.Join: "Join concatenates the elements of its first argument to create a single string. The separator string sep is placed between elements in the resulting string.": HOWEVER MANY ELEMENTS. Below the heap's end the world is as it was. (LAID: no walk: one application.) -/
theorem Tryz.strings_Join (bk o c : Nat) (xs : List ByteArray) (sep : ByteArray) (w : World) (hcells : ∀ (j : Nat) x, xs[j]? = some x → w.cell? ⟨bk, o + j, none⟩ = some (.string x)) (hbk : bk < w.heap.size) (hN : xs.length ≤ 140737488355328) (hcap : xs.length ≤ c) (hlen : (Lib.join (xs.map (·.data.toList)) sep.data.toList).length ≤ 140737488355328) :
    Calls Tryz.prog 29 #[.slice (some ⟨bk, o, none⟩) xs.length c, .string sep] w fun e w' => e = .returned (.string ⟨(Lib.join (xs.map (·.data.toList)) sep.data.toList).toArray⟩) ∧ Below w.heap.size w w' := Any.strings_Join Tryz.lays156 Tryz.Builder_Extra_156 bk o c xs sep w hcells hbk hN hcap hlen
def Tryz.laysM171_ren : Go.Shelf.Ren := ⟨fun | 171 => 30 | 243 => 65 | 246 => 80 | 283 => 90 | 284 => 91 | 285 => 92 | 286 => 93 | 129 => 104 | 317 => 103 | 318 => 105 | 319 => 106 | 320 => 107 | 337 => 116 | 338 => 117 | n => n, fun | 3 => 3 | 9 => 9 | 2 => 2 | 4 => 4 | 171 => 146 | 0 => 0 | 53 => 147 | 37 => 116 | 5 => 5 | 173 => 150 | 212 => 163 | 51 => 164 | 20 => 20 | 213 => 165 | 46 => 166 | 232 => 185 | 233 => 186 | n => n, fun | 17 => 1 | 18 => 6 | 19 => 7 | n => n⟩
theorem Tryz.laysM171 : Go.Proofs.LaysM.n171 Tryz.prog Tryz.laysM171_ren := {
  mixed := by kernel_rfl
  f129 := Tryz.func104.trans (congrArg some (by kernel_rfl))
  f171 := Tryz.func30.trans (congrArg some (by kernel_rfl))
  f243 := Tryz.func65.trans (congrArg some (by kernel_rfl))
  f246 := Tryz.func80.trans (congrArg some (by kernel_rfl))
  f283 := Tryz.func90.trans (congrArg some (by kernel_rfl))
  f284 := Tryz.func91.trans (congrArg some (by kernel_rfl))
  f285 := Tryz.func92.trans (congrArg some (by kernel_rfl))
  f286 := Tryz.func93.trans (congrArg some (by kernel_rfl))
  f317 := Tryz.func103.trans (congrArg some (by kernel_rfl))
  f318 := Tryz.func105.trans (congrArg some (by kernel_rfl))
  f319 := Tryz.func106.trans (congrArg some (by kernel_rfl))
  f320 := Tryz.func107.trans (congrArg some (by kernel_rfl))
  f337 := Tryz.func116.trans (congrArg some (by kernel_rfl))
  f338 := Tryz.func117.trans (congrArg some (by kernel_rfl))
  t0 := Tryz.underlying0
  a0 := Tryz.isAgg0
  z0 := Tryz.sizeOf0
  v0 := Tryz.zeroValue0
  t2 := Tryz.underlying2
  a2 := Tryz.isAgg2
  z2 := Tryz.sizeOf2
  v2 := Tryz.zeroValue2
  t3 := Tryz.underlying3
  a3 := Tryz.isAgg3
  z3 := Tryz.sizeOf3
  v3 := Tryz.zeroValue3
  t4 := Tryz.underlying4
  a4 := Tryz.isAgg4
  z4 := Tryz.sizeOf4
  v4 := Tryz.zeroValue4
  t5 := Tryz.underlying5
  a5 := Tryz.isAgg5
  z5 := Tryz.sizeOf5
  v5 := Tryz.zeroValue5
  t9 := Tryz.underlying9
  a9 := Tryz.isAgg9
  z9 := Tryz.sizeOf9
  v9 := Tryz.zeroValue9
  t20 := Tryz.underlying20
  a20 := Tryz.isAgg20
  z20 := Tryz.sizeOf20
  v20 := Tryz.zeroValue20
  t37 := Tryz.underlying116
  a37 := Tryz.isAgg116
  z37 := Tryz.sizeOf116
  v37 := Tryz.zeroValue116
  t46 := Tryz.underlying166
  a46 := Tryz.isAgg166
  z46 := Tryz.sizeOf166
  v46 := Tryz.zeroValue166
  t51 := Tryz.underlying164
  a51 := Tryz.isAgg164
  z51 := Tryz.sizeOf164
  v51 := Tryz.zeroValue164
  t53 := Tryz.underlying147
  a53 := Tryz.isAgg147
  z53 := Tryz.sizeOf147
  v53 := Tryz.zeroValue147
  t171 := Tryz.underlying146
  a171 := Tryz.isAgg146
  z171 := Tryz.sizeOf146
  v171 := Tryz.zeroValue146
  t173 := Tryz.underlying150
  a173 := Tryz.isAgg150
  z173 := Tryz.sizeOf150
  v173 := Tryz.zeroValue150
  t212 := Tryz.underlying163
  a212 := Tryz.isAgg163
  z212 := Tryz.sizeOf163
  v212 := Tryz.zeroValue163
  t213 := Tryz.underlying165
  a213 := Tryz.isAgg165
  z213 := Tryz.sizeOf165
  t232 := Tryz.underlying185
  a232 := Tryz.isAgg185
  z232 := Tryz.sizeOf185
  v232 := Tryz.zeroValue185
  t233 := Tryz.underlying186
  a233 := Tryz.isAgg186
  z233 := Tryz.sizeOf186
  v233 := Tryz.zeroValue186
  g17 := by kernel_rfl
  g18 := by kernel_rfl
  g19 := by kernel_rfl
  i0 := by kernel_rfl
  i2 := by kernel_rfl
  i3 := by kernel_rfl
  i4 := by kernel_rfl
  i5 := by kernel_rfl
  i9 := by kernel_rfl
  i20 := by kernel_rfl
  i37 := by kernel_rfl
  i46 := by kernel_rfl
  i51 := by kernel_rfl
  i53 := by kernel_rfl
  i171 := by kernel_rfl
  i173 := by kernel_rfl
  i212 := by kernel_rfl
  i232 := by kernel_rfl
  i233 := by kernel_rfl
  m17 := by kernel_rfl
  m18 := by kernel_rfl
  m19 := by kernel_rfl }
open Go.RowKit Go.Sort Go.Lib in
/-- strconv.Itoa: "Itoa is equivalent to FormatInt(int64(i), 10).": i's DECIMAL NUMERAL ('Lib.itoa': a '-' where i is negative, then the digits), FOR EVERY int. The world behind the call: the world before it, new blocks behind the heap (the library's 'var a [24]byte'), draws. (LAID: no walk: one application.) -/
theorem Tryz.strconv_Itoa (n : Int) (h0 : -9223372036854775808 ≤ n) (h1 : n ≤ 9223372036854775807) (w : World) (htab : Lib.TabIs Tryz.prog w "internal/strconv.uint64pow10" .u64 Lib.pow10Tab) :
    Calls Tryz.prog 30 #[.int .i64 n] w fun e w' => e = .returned (.string ⟨(Lib.itoa n).toArray⟩) ∧ ∃ k os, w' = grow (w.drewN k) os := Any.strconv_Itoa Tryz.laysM171 n h0 h1 w htab
def Tryz.laysC172_ren : Go.Shelf.Ren := ⟨fun | 172 => 67 | 244 => 84 | 245 => 85 | 247 => 98 | 279 => 99 | 280 => 100 | 281 => 101 | 282 => 102 | 287 => 113 | 316 => 114 | 171 => 30 | 205 => 115 | 321 => 120 | 322 => 121 | 243 => 65 | 246 => 80 | 283 => 90 | 284 => 91 | 285 => 92 | 286 => 93 | 129 => 104 | 317 => 103 | 318 => 105 | 319 => 106 | 320 => 107 | 337 => 116 | 338 => 117 | n => n, fun | 9 => 9 | 3 => 3 | 75 => 121 | 76 => 122 | 4 => 4 | 5 => 5 | 167 => 156 | 37 => 116 | 0 => 0 | 85 => 157 | 2 => 2 | 168 => 159 | 53 => 147 | 175 => 168 | 46 => 166 | 210 => 172 | 127 => 136 | 145 => 184 | 143 => 182 | 21 => 21 | 171 => 146 | 173 => 150 | 212 => 163 | 51 => 164 | 20 => 20 | 213 => 165 | 232 => 185 | 233 => 186 | 80 => 124 | n => n, fun | 15 => 2 | 16 => 3 | 17 => 1 | 18 => 6 | 19 => 7 | n => n⟩
theorem Tryz.laysC172 : Go.Proofs.LaysC.n172 Tryz.prog Tryz.laysC172_ren := {
  mixed := by kernel_rfl
  f129 := Tryz.func104.trans (congrArg some (by kernel_rfl))
  f171 := Tryz.func30.trans (congrArg some (by kernel_rfl))
  f172 := Tryz.func67.trans (congrArg some (by kernel_rfl))
  f205 := Tryz.func115.trans (congrArg some (by kernel_rfl))
  f243 := Tryz.func65.trans (congrArg some (by kernel_rfl))
  f244 := Tryz.func84.trans (congrArg some (by kernel_rfl))
  f245 := Tryz.func85.trans (congrArg some (by kernel_rfl))
  f246 := Tryz.func80.trans (congrArg some (by kernel_rfl))
  f247 := Tryz.func98.trans (congrArg some (by kernel_rfl))
  f279 := Tryz.func99.trans (congrArg some (by kernel_rfl))
  f280 := Tryz.func100.trans (congrArg some (by kernel_rfl))
  f281 := Tryz.func101.trans (congrArg some (by kernel_rfl))
  f282 := Tryz.func102.trans (congrArg some (by kernel_rfl))
  f283 := Tryz.func90.trans (congrArg some (by kernel_rfl))
  f284 := Tryz.func91.trans (congrArg some (by kernel_rfl))
  f285 := Tryz.func92.trans (congrArg some (by kernel_rfl))
  f286 := Tryz.func93.trans (congrArg some (by kernel_rfl))
  f287 := Tryz.func113.trans (congrArg some (by kernel_rfl))
  f316 := Tryz.func114.trans (congrArg some (by kernel_rfl))
  f317 := Tryz.func103.trans (congrArg some (by kernel_rfl))
  f318 := Tryz.func105.trans (congrArg some (by kernel_rfl))
  f319 := Tryz.func106.trans (congrArg some (by kernel_rfl))
  f320 := Tryz.func107.trans (congrArg some (by kernel_rfl))
  f321 := Tryz.func120.trans (congrArg some (by kernel_rfl))
  f322 := Tryz.func121.trans (congrArg some (by kernel_rfl))
  f337 := Tryz.func116.trans (congrArg some (by kernel_rfl))
  f338 := Tryz.func117.trans (congrArg some (by kernel_rfl))
  t0 := Tryz.underlying0
  a0 := Tryz.isAgg0
  z0 := Tryz.sizeOf0
  v0 := Tryz.zeroValue0
  t2 := Tryz.underlying2
  a2 := Tryz.isAgg2
  z2 := Tryz.sizeOf2
  v2 := Tryz.zeroValue2
  t3 := Tryz.underlying3
  a3 := Tryz.isAgg3
  z3 := Tryz.sizeOf3
  v3 := Tryz.zeroValue3
  t4 := Tryz.underlying4
  a4 := Tryz.isAgg4
  z4 := Tryz.sizeOf4
  v4 := Tryz.zeroValue4
  t5 := Tryz.underlying5
  a5 := Tryz.isAgg5
  z5 := Tryz.sizeOf5
  v5 := Tryz.zeroValue5
  t9 := Tryz.underlying9
  a9 := Tryz.isAgg9
  z9 := Tryz.sizeOf9
  v9 := Tryz.zeroValue9
  t20 := Tryz.underlying20
  a20 := Tryz.isAgg20
  z20 := Tryz.sizeOf20
  v20 := Tryz.zeroValue20
  t21 := Tryz.underlying21
  a21 := Tryz.isAgg21
  z21 := Tryz.sizeOf21
  v21 := Tryz.zeroValue21
  t37 := Tryz.underlying116
  a37 := Tryz.isAgg116
  z37 := Tryz.sizeOf116
  v37 := Tryz.zeroValue116
  t46 := Tryz.underlying166
  a46 := Tryz.isAgg166
  z46 := Tryz.sizeOf166
  v46 := Tryz.zeroValue166
  t51 := Tryz.underlying164
  a51 := Tryz.isAgg164
  z51 := Tryz.sizeOf164
  v51 := Tryz.zeroValue164
  t53 := Tryz.underlying147
  a53 := Tryz.isAgg147
  z53 := Tryz.sizeOf147
  v53 := Tryz.zeroValue147
  t75 := Tryz.underlying121
  a75 := Tryz.isAgg121
  z75 := Tryz.sizeOf121
  v75 := Tryz.zeroValue121
  t76 := Tryz.underlying122
  a76 := Tryz.isAgg122
  z76 := Tryz.sizeOf122
  v76 := Tryz.zeroValue122
  t85 := Tryz.underlying157
  a85 := Tryz.isAgg157
  z85 := Tryz.sizeOf157
  v85 := Tryz.zeroValue157
  t127 := Tryz.underlying136
  a127 := Tryz.isAgg136
  z127 := Tryz.sizeOf136
  v127 := Tryz.zeroValue136
  t143 := Tryz.underlying182
  a143 := Tryz.isAgg182
  z143 := Tryz.sizeOf182
  v143 := Tryz.zeroValue182
  t145 := Tryz.underlying184
  a145 := Tryz.isAgg184
  z145 := Tryz.sizeOf184
  v145 := Tryz.zeroValue184
  t167 := Tryz.underlying156
  a167 := Tryz.isAgg156
  z167 := Tryz.sizeOf156
  v167 := Tryz.zeroValue156
  t168 := Tryz.underlying159
  a168 := Tryz.isAgg159
  z168 := Tryz.sizeOf159
  v168 := Tryz.zeroValue159
  t171 := Tryz.underlying146
  a171 := Tryz.isAgg146
  z171 := Tryz.sizeOf146
  v171 := Tryz.zeroValue146
  t173 := Tryz.underlying150
  a173 := Tryz.isAgg150
  z173 := Tryz.sizeOf150
  v173 := Tryz.zeroValue150
  t175 := Tryz.underlying168
  a175 := Tryz.isAgg168
  z175 := Tryz.sizeOf168
  v175 := Tryz.zeroValue168
  t210 := Tryz.underlying172
  a210 := Tryz.isAgg172
  z210 := Tryz.sizeOf172
  v210 := Tryz.zeroValue172
  t212 := Tryz.underlying163
  a212 := Tryz.isAgg163
  z212 := Tryz.sizeOf163
  v212 := Tryz.zeroValue163
  t213 := Tryz.underlying165
  a213 := Tryz.isAgg165
  z213 := Tryz.sizeOf165
  t232 := Tryz.underlying185
  a232 := Tryz.isAgg185
  z232 := Tryz.sizeOf185
  v232 := Tryz.zeroValue185
  t233 := Tryz.underlying186
  a233 := Tryz.isAgg186
  z233 := Tryz.sizeOf186
  v233 := Tryz.zeroValue186
  g15 := by kernel_rfl
  g16 := by kernel_rfl
  g17 := by kernel_rfl
  g18 := by kernel_rfl
  g19 := by kernel_rfl
  t80 := Tryz.underlying124
  a80 := Tryz.isAgg124
  z80 := Tryz.sizeOf124
  v80 := Tryz.zeroValue124
  i0 := by kernel_rfl
  i2 := by kernel_rfl
  i3 := by kernel_rfl
  i4 := by kernel_rfl
  i5 := by kernel_rfl
  i9 := by kernel_rfl
  i20 := by kernel_rfl
  i21 := by kernel_rfl
  i37 := by kernel_rfl
  i46 := by kernel_rfl
  i51 := by kernel_rfl
  i53 := by kernel_rfl
  i75 := by kernel_rfl
  i76 := by kernel_rfl
  i80 := by kernel_rfl
  i85 := by kernel_rfl
  i127 := by kernel_rfl
  i143 := by kernel_rfl
  i145 := by kernel_rfl
  i167 := by kernel_rfl
  i168 := by kernel_rfl
  i171 := by kernel_rfl
  i173 := by kernel_rfl
  i175 := by kernel_rfl
  i210 := by kernel_rfl
  i212 := by kernel_rfl
  i232 := by kernel_rfl
  i233 := by kernel_rfl
  m15 := by kernel_rfl
  m16 := by kernel_rfl
  m17 := by kernel_rfl
  m18 := by kernel_rfl
  m19 := by kernel_rfl
  c0 := by kernel_rfl
  c2 := by kernel_rfl
  c3 := by kernel_rfl
  c4 := by kernel_rfl
  c5 := by kernel_rfl
  c9 := by kernel_rfl
  c20 := by kernel_rfl
  c21 := by kernel_rfl
  c37 := by kernel_rfl
  c46 := by kernel_rfl
  c51 := by kernel_rfl
  c53 := by kernel_rfl
  c75 := by kernel_rfl
  c76 := by kernel_rfl
  c80 := by kernel_rfl
  c85 := by kernel_rfl
  c127 := by kernel_rfl
  c143 := by kernel_rfl
  c145 := by kernel_rfl
  c167 := by kernel_rfl
  c168 := by kernel_rfl
  c171 := by kernel_rfl
  c173 := by kernel_rfl
  c175 := by kernel_rfl
  c210 := by kernel_rfl
  c212 := by kernel_rfl
  c213 := by kernel_rfl
  c232 := by kernel_rfl
  c233 := by kernel_rfl }
open Go.RowKit in
/-- strconv.Atoi, AT EVERY STRING THAT SPELLS AN int ('Lib.atoiAll .. = .ok v'; of whatever length: leading zeros count): v, AND NO ERROR. The world: as it was, or with the one new row that '[]byte(..)' lays. (LAID: no walk: one application.) -/
theorem Tryz.strconv_Atoi_ok (s : ByteArray) (hmax : s.size ≤ 9223372036854775806) (v : Int) (h : Lib.atoiAll s.data.toList = .ok v) (w : World) :
    Calls Tryz.prog 67 #[.string s] w fun e w' => e = .returned (.tuple #[.int .i64 v, .nilIface]) ∧ (w' = w ∨ ∃ t, w' = Lib.bytesWorld w 5 t) := Any.strconv_Atoi_ok Tryz.laysC172 s hmax v h w
open Go.RowKit in
theorem Tryz.strconv_Atoi_syntax_var (s : ByteArray) (hlim : s.size ≤ 281474976710656) (h : Lib.atoiAll s.data.toList = Go.Lib.NumEnd.syntax) (tp : TypeId) (p : Value) (w : World) (hvar : w.var? Tryz.prog "strconv.ErrSyntax" = some #[.iface tp p]) :
    Calls Tryz.prog 67 #[.string s] w fun e w' => ∃ N, e = .returned (.tuple #[.int .i64 0, .iface 159 (.pointer (some ⟨N, 0, none⟩))]) ∧ w.heap.size ≤ N ∧ w'.heap[N]? = some (.cells #[.string ⟨#[65, 116, 111, 105]⟩, .string s, .iface tp p] 172 (0, 0)) ∧ Below w.heap.size w w' := Any.strconv_Atoi_syntax_var Tryz.laysC172 s hlim h tp p w hvar
open Go.RowKit in
theorem Tryz.strconv_Atoi_range_var (s : ByteArray) (hlim : s.size ≤ 281474976710656) (h : Lib.atoiAll s.data.toList = .range) (tp : TypeId) (p : Value) (w : World) (hvar : w.var? Tryz.prog "strconv.ErrRange" = some #[.iface tp p]) :
    Calls Tryz.prog 67 #[.string s] w fun e w' => ∃ N, e = .returned (.tuple #[.int .i64 (Lib.atoiSat s.data.toList), .iface 159 (.pointer (some ⟨N, 0, none⟩))]) ∧ w.heap.size ≤ N ∧ w'.heap[N]? = some (.cells #[.string ⟨#[65, 116, 111, 105]⟩, .string s, .iface tp p] 172 (0, 0)) ∧ Below w.heap.size w w' := Any.strconv_Atoi_range_var Tryz.laysC172 s hlim h tp p w hvar
def Tryz.lays143_ren : Go.Shelf.Ren := ⟨fun | 143 => 83 | 219 => 97 | 217 => 109 | 225 => 110 | 224 => 111 | 267 => 112 | 266 => 118 | 314 => 119 | n => n, fun | 9 => 9 | 3 => 3 | 4 => 4 | 5 => 5 | 46 => 166 | 146 => 179 | 51 => 164 | n => n, fun | 1 => 0 | n => n⟩
theorem Tryz.lays143 : Go.Proofs.Lays.n143 Tryz.prog Tryz.lays143_ren := {
  mixed := by kernel_rfl
  f143 := Tryz.func83.trans (congrArg some (by kernel_rfl))
  f217 := Tryz.func109.trans (congrArg some (by kernel_rfl))
  f219 := Tryz.func97.trans (congrArg some (by kernel_rfl))
  f224 := Tryz.func111.trans (congrArg some (by kernel_rfl))
  f225 := Tryz.func110.trans (congrArg some (by kernel_rfl))
  f266 := Tryz.func118.trans (congrArg some (by kernel_rfl))
  f267 := Tryz.func112.trans (congrArg some (by kernel_rfl))
  f314 := Tryz.func119.trans (congrArg some (by kernel_rfl))
  t3 := Tryz.underlying3
  a3 := Tryz.isAgg3
  z3 := Tryz.sizeOf3
  v3 := Tryz.zeroValue3
  t4 := Tryz.underlying4
  a4 := Tryz.isAgg4
  z4 := Tryz.sizeOf4
  v4 := Tryz.zeroValue4
  t5 := Tryz.underlying5
  a5 := Tryz.isAgg5
  z5 := Tryz.sizeOf5
  v5 := Tryz.zeroValue5
  t9 := Tryz.underlying9
  a9 := Tryz.isAgg9
  z9 := Tryz.sizeOf9
  v9 := Tryz.zeroValue9
  t46 := Tryz.underlying166
  a46 := Tryz.isAgg166
  z46 := Tryz.sizeOf166
  v46 := Tryz.zeroValue166
  t51 := Tryz.underlying164
  a51 := Tryz.isAgg164
  z51 := Tryz.sizeOf164
  v51 := Tryz.zeroValue164
  t146 := Tryz.underlying179
  a146 := Tryz.isAgg179
  z146 := Tryz.sizeOf179
  v146 := Tryz.zeroValue179
  g1 := by kernel_rfl }
open Go.RowKit Go.Lib in
/-- strings.Index: "Index returns the index of the first instance of substr in s, or -1 if substr is not present in s.": IT RETURNS 'Lib.index s substr'; the world is as it was. (LAID: no walk: one application.) -/
theorem Tryz.strings_Index (s sub : ByteArray) (m : Int) (w : World) (hs : s.size < 4294967281) (hm : w.cell? ⟨0, 0, none⟩ = some (.int .i64 m)) :
    Calls Tryz.prog 83 #[.string s, .string sub] w fun e w' => e = .returned (.int .i64 (Lib.index s.data.toList sub.data.toList)) ∧ w' = w := Any.strings_Index Tryz.lays143 s sub m w hs hm
def Tryz.lays146_ren : Go.Shelf.Ren := ⟨fun | 146 => 31 | 221 => 66 | 268 => 81 | 138 => 82 | 143 => 83 | 195 => 94 | 197 => 95 | 218 => 96 | 219 => 97 | 260 => 108 | 217 => 109 | 225 => 110 | 224 => 111 | 267 => 112 | 266 => 118 | 314 => 119 | n => n, fun | 9 => 9 | 31 => 71 | 3 => 3 | 4 => 4 | 0 => 0 | 105 => 153 | 21 => 21 | 5 => 5 | 46 => 166 | 119 => 175 | 139 => 178 | 138 => 177 | 146 => 179 | 51 => 164 | n => n, fun | 1 => 0 | 3 => 4 | 4 => 5 | n => n⟩
theorem Tryz.lays146 : Go.Proofs.Lays.n146 Tryz.prog Tryz.lays146_ren := {
  mixed := by kernel_rfl
  f138 := Tryz.func82.trans (congrArg some (by kernel_rfl))
  f143 := Tryz.func83.trans (congrArg some (by kernel_rfl))
  f146 := Tryz.func31.trans (congrArg some (by kernel_rfl))
  f195 := Tryz.func94.trans (congrArg some (by kernel_rfl))
  f197 := Tryz.func95.trans (congrArg some (by kernel_rfl))
  f217 := Tryz.func109.trans (congrArg some (by kernel_rfl))
  f218 := Tryz.func96.trans (congrArg some (by kernel_rfl))
  f219 := Tryz.func97.trans (congrArg some (by kernel_rfl))
  f221 := Tryz.func66.trans (congrArg some (by kernel_rfl))
  f224 := Tryz.func111.trans (congrArg some (by kernel_rfl))
  f225 := Tryz.func110.trans (congrArg some (by kernel_rfl))
  f260 := Tryz.func108.trans (congrArg some (by kernel_rfl))
  f266 := Tryz.func118.trans (congrArg some (by kernel_rfl))
  f267 := Tryz.func112.trans (congrArg some (by kernel_rfl))
  f268 := Tryz.func81.trans (congrArg some (by kernel_rfl))
  f314 := Tryz.func119.trans (congrArg some (by kernel_rfl))
  t0 := Tryz.underlying0
  a0 := Tryz.isAgg0
  z0 := Tryz.sizeOf0
  v0 := Tryz.zeroValue0
  t3 := Tryz.underlying3
  a3 := Tryz.isAgg3
  z3 := Tryz.sizeOf3
  v3 := Tryz.zeroValue3
  t4 := Tryz.underlying4
  a4 := Tryz.isAgg4
  z4 := Tryz.sizeOf4
  v4 := Tryz.zeroValue4
  t5 := Tryz.underlying5
  a5 := Tryz.isAgg5
  z5 := Tryz.sizeOf5
  v5 := Tryz.zeroValue5
  t9 := Tryz.underlying9
  a9 := Tryz.isAgg9
  z9 := Tryz.sizeOf9
  v9 := Tryz.zeroValue9
  t21 := Tryz.underlying21
  a21 := Tryz.isAgg21
  z21 := Tryz.sizeOf21
  v21 := Tryz.zeroValue21
  t31 := Tryz.underlying71
  a31 := Tryz.isAgg71
  z31 := Tryz.sizeOf71
  v31 := Tryz.zeroValue71
  t46 := Tryz.underlying166
  a46 := Tryz.isAgg166
  z46 := Tryz.sizeOf166
  v46 := Tryz.zeroValue166
  t51 := Tryz.underlying164
  a51 := Tryz.isAgg164
  z51 := Tryz.sizeOf164
  v51 := Tryz.zeroValue164
  t105 := Tryz.underlying153
  a105 := Tryz.isAgg153
  z105 := Tryz.sizeOf153
  v105 := Tryz.zeroValue153
  t119 := Tryz.underlying175
  a119 := Tryz.isAgg175
  z119 := Tryz.sizeOf175
  t138 := Tryz.underlying177
  a138 := Tryz.isAgg177
  z138 := Tryz.sizeOf177
  v138 := Tryz.zeroValue177
  t139 := Tryz.underlying178
  a139 := Tryz.isAgg178
  z139 := Tryz.sizeOf178
  v139 := Tryz.zeroValue178
  t146 := Tryz.underlying179
  a146 := Tryz.isAgg179
  z146 := Tryz.sizeOf179
  v146 := Tryz.zeroValue179
  g1 := by kernel_rfl
  g3 := by kernel_rfl
  g4 := by kernel_rfl }
open Go.RowKit Go.Lib in
/-- strings.Split. (LAID: no walk: one application.) -/
theorem Tryz.strings_Split (s sep : ByteArray) (m : Int) (w : World) (hs : s.size < 4294967281) (hm : w.cell? ⟨0, 0, none⟩ = some (.int .i64 m)) (h1 : 1 ≤ sep.size) :
    Calls Tryz.prog 31 #[.string s, .string sep] w fun e w' =>
      e = .returned (.slice (some ⟨w.heap.size, 0, none⟩) (Lib.countB s sep + 1) (Lib.countB s sep + 1)) ∧ w' = w.alloc (.cells ((Lib.splitB sep 0 (Lib.countB s sep) s).map Value.string).toArray 9) := Any.strings_Split Tryz.lays146 (by kernel_rfl) s sep m w hs hm h1
end Go.Proofs
