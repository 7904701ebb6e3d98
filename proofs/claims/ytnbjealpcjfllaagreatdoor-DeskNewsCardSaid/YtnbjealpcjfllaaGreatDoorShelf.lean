/-
  DERIVED: THE SHELF's CONTRACTS AT THIS DUMP, IN PLAIN WORDS (tools/lay-plain.mjs out of 'TryzShelf.lean', which tools/lay-shelf.mjs wrote): THE SAME DECLARATIONS UNDER THE SAME NAMES: 'import', 'namespace', 'open', 'def', 'theorem' AND NOTHING ELSE: no command of the shelf's: FOR A HAND-IN. Each laying: the table of numbers ('.._ren') and one theorem, a field a fact of the dump's own or the kernel's comparison; each contract: ONE APPLICATION.
-/
import Derived.Shelf.Strings.Builder1
import Derived.Shelf.Strings.BuilderF
import Derived.Shelf.Strings.BuilderK
import Derived.Shelf.Utf8.RuneCount
import Derived.Shelf.Strconv.Atoi
import Derived.Shelf.Strconv.Itoa0
import Derived.Shelf.Strconv.Itoa1
import Derived.Shelf.LaysM
import Derived.Shelf.Strconv.Itoa2
import Derived.Shelf.Strconv.Itoa3
import Derived.Shelf.Strconv.AtoiErrFast
import Derived.Shelf.Strconv.ParseIntEmpty
import Derived.Shelf.Strconv.AtoiFail
import Derived.Shelf.Strconv.Clone
import Derived.Shelf.Strconv.SyntaxError
import Derived.Shelf.LaysC
import Derived.Shelf.Strconv.ToError
import Derived.Shelf.Strconv.AtoiErr
import Derived.Shelf.Strconv.ErrVar
import Derived.Shelf.Strconv.Lower
import Derived.Shelf.Strconv.ParseUint10
import Derived.Shelf.Strconv.ParseUint10Empty
import Derived.Shelf.Strconv.ParseUint10Any
import Derived.Shelf.Strconv.ParseInt10
import Derived.Shelf.Strconv.AtoiLong
import Derived.Shelf.Strconv.AtoiInnerAll
import Derived.Shelf.Strconv.RangeError
import Derived.Shelf.Strconv.ToErrorRange
import Derived.Shelf.Strconv.AtoiAll
import Derived.Shelf.Strconv.ErrVarAll
import Derived.Shelf.Strconv.ParseUintEmpty
import Derived.Shelf.Strconv.ParseUint10b64
import Derived.Shelf.Strconv.ParseUint10b32
import Derived.Shelf.Strconv.ParseUint10b16
import Derived.Shelf.Strconv.ParseUint10b8
import Derived.Shelf.Strconv.ParseUint10At
import Derived.Shelf.Strconv.ParseInt10At64
import Derived.Shelf.Strconv.ParseInt10At32
import Derived.Shelf.Strconv.ParseInt10At16
import Derived.Shelf.Strconv.ParseInt10At8
import Derived.Shelf.Strconv.ParseInt10All
import Derived.Shelf.Strings.Search1
import Derived.Shelf.Strings.Search2
import Derived.Shelf.Strings.Search3
import Derived.Shelf.Strings.Cut
import Derived.Shelf.Strings.Count
import Derived.Shelf.Strings.Shaped
import Derived.Shelf.Strings.Prefix
import Derived.Shelf.Strings.Split
import Derived.Shelf.Strings.SplitShaped
import Derived.Shelf.Unicode.Decode
import Derived.Shelf.Strings.RuneCount
import Derived.Shelf.Strings.Explode
import Derived.Shelf.Bits.Mul64
import Derived.Shelf.Unicode.DecodeSlow
import Derived.Shelf.Unicode.DecodeAny
import Derived.Shelf.Strings.BuilderCap
import Derived.Shelf.Slices.Turned
import Derived.Shelf.Slices.Equal
import Derived.Ground.Names2Prog
import Derived.Shelf.Slices.Clone
import Derived.Shelf.Slices.Empties2
import Derived.Ground.SlgnProg
import Derived.Shelf.SlicesE.Clone
import Derived.Test.YtnbjealpcjfllaaGreatDoorProg
namespace Go.Proofs
open Go.Shelf
def Tryz.lays169_ren : Go.Shelf.Ren := ⟨fun | 169 => 64 | n => n, fun | 70 => 126 | 9 => 9 | 0 => 0 | 72 => 129 | 37 => 127 | 127 => 184 | 3 => 3 | 5 => 5 | n => n, fun | n => n⟩
theorem Tryz.lays169 : Go.Proofs.Lays.n169 Tryz.prog Tryz.lays169_ren := {
  mixed := by kernel_rfl
  f169 := Tryz.func64.trans (congrArg some (by kernel_rfl))
  t0 := Tryz.underlying0
  a0 := Tryz.isAgg0
  z0 := Tryz.sizeOf0
  v0 := Tryz.zeroValue0
  t3 := Tryz.underlying3
  a3 := Tryz.isAgg3
  z3 := Tryz.sizeOf3
  v3 := Tryz.zeroValue3
  t9 := Tryz.underlying9
  a9 := Tryz.isAgg9
  z9 := Tryz.sizeOf9
  v9 := Tryz.zeroValue9
  t37 := Tryz.underlying127
  a37 := Tryz.isAgg127
  z37 := Tryz.sizeOf127
  v37 := Tryz.zeroValue127
  t70 := Tryz.underlying126
  a70 := Tryz.isAgg126
  z70 := Tryz.sizeOf126
  v70 := Tryz.zeroValue126
  t72 := Tryz.underlying129
  a72 := Tryz.isAgg129
  z72 := Tryz.sizeOf129
  v72 := Tryz.zeroValue129
  t127 := Tryz.underlying184
  a127 := Tryz.isAgg184
  z127 := Tryz.sizeOf184
  v127 := Tryz.zeroValue184 }
theorem Tryz.Builder_Extra_169 : Builder.Extra Tryz.prog Tryz.lays169_ren := {
  sizeBuilder := by kernel_rfl
  liesBuilder := by kernel_rfl
  t5 := Tryz.underlying5
  a5 := Tryz.isAgg5
  z5 := Tryz.sizeOf5
  v5 := Tryz.zeroValue5
  infoByte := by kernel_rfl
  cellsByte := by kernel_rfl
  sizeByte := by kernel_rfl
  neB5 := by decide }
open Go.RowKit in
/-- (*strings.Builder).String OF A BUILDER THAT HOLDS NO BYTE: the empty string. (Its buffer is nil, or a row of which it has taken nothing yet; where that row has NO capacity the model lays one new block for unsafe.SliceData's 'some address'.) One draw. (LAID: no walk: one application.) -/
theorem Tryz.Builder_String_empty (B b : Nat) (w : World) (h : Lib.IsBuilder 129 5 B b [] w) (hBw : B ≤ w.heap.size) :
    Calls Tryz.prog 64 #[.pointer (some ⟨b, 0, none⟩)] w fun e w' => e = .returned (.string ⟨#[]⟩) ∧ Below B w w' := Any.Builder_String_empty Tryz.lays169 Tryz.Builder_Extra_169 B b w h hBw
def Tryz.laysM171_ren : Go.Shelf.Ren := ⟨fun | 171 => 80 | 243 => 127 | 246 => 182 | 283 => 231 | 284 => 232 | 285 => 233 | 286 => 234 | 129 => 266 | 317 => 265 | 318 => 267 | 319 => 268 | 320 => 269 | 337 => 304 | 338 => 305 | n => n, fun | 3 => 3 | 9 => 9 | 2 => 2 | 4 => 4 | 171 => 292 | 0 => 0 | 53 => 293 | 37 => 127 | 5 => 5 | 173 => 296 | 212 => 330 | 51 => 75 | 20 => 20 | 213 => 331 | 46 => 61 | 232 => 364 | 233 => 365 | n => n, fun | 17 => 4 | 18 => 7 | 19 => 8 | n => n⟩
theorem Tryz.laysM171 : Go.Proofs.LaysM.n171 Tryz.prog Tryz.laysM171_ren := {
  mixed := by kernel_rfl
  f129 := Tryz.func266.trans (congrArg some (by kernel_rfl))
  f171 := Tryz.func80.trans (congrArg some (by kernel_rfl))
  f243 := Tryz.func127.trans (congrArg some (by kernel_rfl))
  f246 := Tryz.func182.trans (congrArg some (by kernel_rfl))
  f283 := Tryz.func231.trans (congrArg some (by kernel_rfl))
  f284 := Tryz.func232.trans (congrArg some (by kernel_rfl))
  f285 := Tryz.func233.trans (congrArg some (by kernel_rfl))
  f286 := Tryz.func234.trans (congrArg some (by kernel_rfl))
  f317 := Tryz.func265.trans (congrArg some (by kernel_rfl))
  f318 := Tryz.func267.trans (congrArg some (by kernel_rfl))
  f319 := Tryz.func268.trans (congrArg some (by kernel_rfl))
  f320 := Tryz.func269.trans (congrArg some (by kernel_rfl))
  f337 := Tryz.func304.trans (congrArg some (by kernel_rfl))
  f338 := Tryz.func305.trans (congrArg some (by kernel_rfl))
  t0 := Tryz.underlying0
  a0 := Tryz.isAgg0
  z0 := Tryz.sizeOf0
  v0 := Tryz.zeroValue0
  t2 := Tryz.underlying2
  a2 := Tryz.isAgg2
  z2 := Tryz.sizeOf2
  v2 := Tryz.zeroValue2
  t3 := Tryz.underlying3
  a3 := Tryz.isAgg3
  z3 := Tryz.sizeOf3
  v3 := Tryz.zeroValue3
  t4 := Tryz.underlying4
  a4 := Tryz.isAgg4
  z4 := Tryz.sizeOf4
  v4 := Tryz.zeroValue4
  t5 := Tryz.underlying5
  a5 := Tryz.isAgg5
  z5 := Tryz.sizeOf5
  v5 := Tryz.zeroValue5
  t9 := Tryz.underlying9
  a9 := Tryz.isAgg9
  z9 := Tryz.sizeOf9
  v9 := Tryz.zeroValue9
  t20 := Tryz.underlying20
  a20 := Tryz.isAgg20
  z20 := Tryz.sizeOf20
  v20 := Tryz.zeroValue20
  t37 := Tryz.underlying127
  a37 := Tryz.isAgg127
  z37 := Tryz.sizeOf127
  v37 := Tryz.zeroValue127
  t46 := Tryz.underlying61
  a46 := Tryz.isAgg61
  z46 := Tryz.sizeOf61
  v46 := Tryz.zeroValue61
  t51 := Tryz.underlying75
  a51 := Tryz.isAgg75
  z51 := Tryz.sizeOf75
  v51 := Tryz.zeroValue75
  t53 := Tryz.underlying293
  a53 := Tryz.isAgg293
  z53 := Tryz.sizeOf293
  v53 := Tryz.zeroValue293
  t171 := Tryz.underlying292
  a171 := Tryz.isAgg292
  z171 := Tryz.sizeOf292
  v171 := Tryz.zeroValue292
  t173 := Tryz.underlying296
  a173 := Tryz.isAgg296
  z173 := Tryz.sizeOf296
  v173 := Tryz.zeroValue296
  t212 := Tryz.underlying330
  a212 := Tryz.isAgg330
  z212 := Tryz.sizeOf330
  v212 := Tryz.zeroValue330
  t213 := Tryz.underlying331
  a213 := Tryz.isAgg331
  z213 := Tryz.sizeOf331
  t232 := Tryz.underlying364
  a232 := Tryz.isAgg364
  z232 := Tryz.sizeOf364
  v232 := Tryz.zeroValue364
  t233 := Tryz.underlying365
  a233 := Tryz.isAgg365
  z233 := Tryz.sizeOf365
  v233 := Tryz.zeroValue365
  g17 := by kernel_rfl
  g18 := by kernel_rfl
  g19 := by kernel_rfl
  i0 := by kernel_rfl
  i2 := by kernel_rfl
  i3 := by kernel_rfl
  i4 := by kernel_rfl
  i5 := by kernel_rfl
  i9 := by kernel_rfl
  i20 := by kernel_rfl
  i37 := by kernel_rfl
  i46 := by kernel_rfl
  i51 := by kernel_rfl
  i53 := by kernel_rfl
  i171 := by kernel_rfl
  i173 := by kernel_rfl
  i212 := by kernel_rfl
  i232 := by kernel_rfl
  i233 := by kernel_rfl
  m17 := by kernel_rfl
  m18 := by kernel_rfl
  m19 := by kernel_rfl }
open Go.RowKit Go.Sort Go.Lib in
/-- strconv.Itoa: "Itoa is equivalent to FormatInt(int64(i), 10).": i's DECIMAL NUMERAL ('Lib.itoa': a '-' where i is negative, then the digits), FOR EVERY int. The world behind the call: the world before it, new blocks behind the heap (the library's 'var a [24]byte'), draws. (LAID: no walk: one application.) -/
theorem Tryz.strconv_Itoa (n : Int) (h0 : -9223372036854775808 ≤ n) (h1 : n ≤ 9223372036854775807) (w : World) (htab : Lib.TabIs Tryz.prog w "internal/strconv.uint64pow10" .u64 Lib.pow10Tab) :
    Calls Tryz.prog 80 #[.int .i64 n] w fun e w' => e = .returned (.string ⟨(Lib.itoa n).toArray⟩) ∧ ∃ k os, w' = grow (w.drewN k) os := Any.strconv_Itoa Tryz.laysM171 n h0 h1 w htab
def Tryz.laysC172_ren : Go.Shelf.Ren := ⟨fun | 172 => 110 | 244 => 159 | 245 => 160 | 247 => 199 | 279 => 200 | 280 => 201 | 281 => 202 | 282 => 203 | 287 => 245 | 316 => 246 | 171 => 80 | 205 => 247 | 321 => 279 | 322 => 280 | 243 => 127 | 246 => 182 | 283 => 231 | 284 => 232 | 285 => 233 | 286 => 234 | 129 => 266 | 317 => 265 | 318 => 267 | 319 => 268 | 320 => 269 | 337 => 304 | 338 => 305 | n => n, fun | 9 => 9 | 3 => 3 | 75 => 84 | 76 => 130 | 4 => 4 | 5 => 5 | 167 => 267 | 37 => 127 | 0 => 0 | 85 => 268 | 2 => 2 | 168 => 270 | 53 => 293 | 175 => 304 | 46 => 61 | 210 => 308 | 127 => 184 | 145 => 338 | 143 => 336 | 21 => 21 | 171 => 292 | 173 => 296 | 212 => 330 | 51 => 75 | 20 => 20 | 213 => 331 | 232 => 364 | 233 => 365 | 80 => 37 | n => n, fun | 15 => 2 | 16 => 3 | 17 => 4 | 18 => 7 | 19 => 8 | n => n⟩
theorem Tryz.laysC172 : Go.Proofs.LaysC.n172 Tryz.prog Tryz.laysC172_ren := {
  mixed := by kernel_rfl
  f129 := Tryz.func266.trans (congrArg some (by kernel_rfl))
  f171 := Tryz.func80.trans (congrArg some (by kernel_rfl))
  f172 := Tryz.func110.trans (congrArg some (by kernel_rfl))
  f205 := Tryz.func247.trans (congrArg some (by kernel_rfl))
  f243 := Tryz.func127.trans (congrArg some (by kernel_rfl))
  f244 := Tryz.func159.trans (congrArg some (by kernel_rfl))
  f245 := Tryz.func160.trans (congrArg some (by kernel_rfl))
  f246 := Tryz.func182.trans (congrArg some (by kernel_rfl))
  f247 := Tryz.func199.trans (congrArg some (by kernel_rfl))
  f279 := Tryz.func200.trans (congrArg some (by kernel_rfl))
  f280 := Tryz.func201.trans (congrArg some (by kernel_rfl))
  f281 := Tryz.func202.trans (congrArg some (by kernel_rfl))
  f282 := Tryz.func203.trans (congrArg some (by kernel_rfl))
  f283 := Tryz.func231.trans (congrArg some (by kernel_rfl))
  f284 := Tryz.func232.trans (congrArg some (by kernel_rfl))
  f285 := Tryz.func233.trans (congrArg some (by kernel_rfl))
  f286 := Tryz.func234.trans (congrArg some (by kernel_rfl))
  f287 := Tryz.func245.trans (congrArg some (by kernel_rfl))
  f316 := Tryz.func246.trans (congrArg some (by kernel_rfl))
  f317 := Tryz.func265.trans (congrArg some (by kernel_rfl))
  f318 := Tryz.func267.trans (congrArg some (by kernel_rfl))
  f319 := Tryz.func268.trans (congrArg some (by kernel_rfl))
  f320 := Tryz.func269.trans (congrArg some (by kernel_rfl))
  f321 := Tryz.func279.trans (congrArg some (by kernel_rfl))
  f322 := Tryz.func280.trans (congrArg some (by kernel_rfl))
  f337 := Tryz.func304.trans (congrArg some (by kernel_rfl))
  f338 := Tryz.func305.trans (congrArg some (by kernel_rfl))
  t0 := Tryz.underlying0
  a0 := Tryz.isAgg0
  z0 := Tryz.sizeOf0
  v0 := Tryz.zeroValue0
  t2 := Tryz.underlying2
  a2 := Tryz.isAgg2
  z2 := Tryz.sizeOf2
  v2 := Tryz.zeroValue2
  t3 := Tryz.underlying3
  a3 := Tryz.isAgg3
  z3 := Tryz.sizeOf3
  v3 := Tryz.zeroValue3
  t4 := Tryz.underlying4
  a4 := Tryz.isAgg4
  z4 := Tryz.sizeOf4
  v4 := Tryz.zeroValue4
  t5 := Tryz.underlying5
  a5 := Tryz.isAgg5
  z5 := Tryz.sizeOf5
  v5 := Tryz.zeroValue5
  t9 := Tryz.underlying9
  a9 := Tryz.isAgg9
  z9 := Tryz.sizeOf9
  v9 := Tryz.zeroValue9
  t20 := Tryz.underlying20
  a20 := Tryz.isAgg20
  z20 := Tryz.sizeOf20
  v20 := Tryz.zeroValue20
  t21 := Tryz.underlying21
  a21 := Tryz.isAgg21
  z21 := Tryz.sizeOf21
  v21 := Tryz.zeroValue21
  t37 := Tryz.underlying127
  a37 := Tryz.isAgg127
  z37 := Tryz.sizeOf127
  v37 := Tryz.zeroValue127
  t46 := Tryz.underlying61
  a46 := Tryz.isAgg61
  z46 := Tryz.sizeOf61
  v46 := Tryz.zeroValue61
  t51 := Tryz.underlying75
  a51 := Tryz.isAgg75
  z51 := Tryz.sizeOf75
  v51 := Tryz.zeroValue75
  t53 := Tryz.underlying293
  a53 := Tryz.isAgg293
  z53 := Tryz.sizeOf293
  v53 := Tryz.zeroValue293
  t75 := Tryz.underlying84
  a75 := Tryz.isAgg84
  z75 := Tryz.sizeOf84
  v75 := Tryz.zeroValue84
  t76 := Tryz.underlying130
  a76 := Tryz.isAgg130
  z76 := Tryz.sizeOf130
  v76 := Tryz.zeroValue130
  t85 := Tryz.underlying268
  a85 := Tryz.isAgg268
  z85 := Tryz.sizeOf268
  v85 := Tryz.zeroValue268
  t127 := Tryz.underlying184
  a127 := Tryz.isAgg184
  z127 := Tryz.sizeOf184
  v127 := Tryz.zeroValue184
  t143 := Tryz.underlying336
  a143 := Tryz.isAgg336
  z143 := Tryz.sizeOf336
  v143 := Tryz.zeroValue336
  t145 := Tryz.underlying338
  a145 := Tryz.isAgg338
  z145 := Tryz.sizeOf338
  v145 := Tryz.zeroValue338
  t167 := Tryz.underlying267
  a167 := Tryz.isAgg267
  z167 := Tryz.sizeOf267
  v167 := Tryz.zeroValue267
  t168 := Tryz.underlying270
  a168 := Tryz.isAgg270
  z168 := Tryz.sizeOf270
  v168 := Tryz.zeroValue270
  t171 := Tryz.underlying292
  a171 := Tryz.isAgg292
  z171 := Tryz.sizeOf292
  v171 := Tryz.zeroValue292
  t173 := Tryz.underlying296
  a173 := Tryz.isAgg296
  z173 := Tryz.sizeOf296
  v173 := Tryz.zeroValue296
  t175 := Tryz.underlying304
  a175 := Tryz.isAgg304
  z175 := Tryz.sizeOf304
  v175 := Tryz.zeroValue304
  t210 := Tryz.underlying308
  a210 := Tryz.isAgg308
  z210 := Tryz.sizeOf308
  v210 := Tryz.zeroValue308
  t212 := Tryz.underlying330
  a212 := Tryz.isAgg330
  z212 := Tryz.sizeOf330
  v212 := Tryz.zeroValue330
  t213 := Tryz.underlying331
  a213 := Tryz.isAgg331
  z213 := Tryz.sizeOf331
  t232 := Tryz.underlying364
  a232 := Tryz.isAgg364
  z232 := Tryz.sizeOf364
  v232 := Tryz.zeroValue364
  t233 := Tryz.underlying365
  a233 := Tryz.isAgg365
  z233 := Tryz.sizeOf365
  v233 := Tryz.zeroValue365
  g15 := by kernel_rfl
  g16 := by kernel_rfl
  g17 := by kernel_rfl
  g18 := by kernel_rfl
  g19 := by kernel_rfl
  t80 := Tryz.underlying37
  a80 := Tryz.isAgg37
  z80 := Tryz.sizeOf37
  v80 := Tryz.zeroValue37
  i0 := by kernel_rfl
  i2 := by kernel_rfl
  i3 := by kernel_rfl
  i4 := by kernel_rfl
  i5 := by kernel_rfl
  i9 := by kernel_rfl
  i20 := by kernel_rfl
  i21 := by kernel_rfl
  i37 := by kernel_rfl
  i46 := by kernel_rfl
  i51 := by kernel_rfl
  i53 := by kernel_rfl
  i75 := by kernel_rfl
  i76 := by kernel_rfl
  i80 := by kernel_rfl
  i85 := by kernel_rfl
  i127 := by kernel_rfl
  i143 := by kernel_rfl
  i145 := by kernel_rfl
  i167 := by kernel_rfl
  i168 := by kernel_rfl
  i171 := by kernel_rfl
  i173 := by kernel_rfl
  i175 := by kernel_rfl
  i210 := by kernel_rfl
  i212 := by kernel_rfl
  i232 := by kernel_rfl
  i233 := by kernel_rfl
  m15 := by kernel_rfl
  m16 := by kernel_rfl
  m17 := by kernel_rfl
  m18 := by kernel_rfl
  m19 := by kernel_rfl
  c0 := by kernel_rfl
  c2 := by kernel_rfl
  c3 := by kernel_rfl
  c4 := by kernel_rfl
  c5 := by kernel_rfl
  c9 := by kernel_rfl
  c20 := by kernel_rfl
  c21 := by kernel_rfl
  c37 := by kernel_rfl
  c46 := by kernel_rfl
  c51 := by kernel_rfl
  c53 := by kernel_rfl
  c75 := by kernel_rfl
  c76 := by kernel_rfl
  c80 := by kernel_rfl
  c85 := by kernel_rfl
  c127 := by kernel_rfl
  c143 := by kernel_rfl
  c145 := by kernel_rfl
  c167 := by kernel_rfl
  c168 := by kernel_rfl
  c171 := by kernel_rfl
  c173 := by kernel_rfl
  c175 := by kernel_rfl
  c210 := by kernel_rfl
  c212 := by kernel_rfl
  c213 := by kernel_rfl
  c232 := by kernel_rfl
  c233 := by kernel_rfl }
open Go.RowKit in
/-- strconv.Atoi, AT EVERY STRING THAT SPELLS AN int ('Lib.atoiAll .. = .ok v'; of whatever length: leading zeros count): v, AND NO ERROR. The world: as it was, or with the one new row that '[]byte(..)' lays. (LAID: no walk: one application.) -/
theorem Tryz.strconv_Atoi_ok (s : ByteArray) (hmax : s.size ≤ 9223372036854775806) (v : Int) (h : Lib.atoiAll s.data.toList = .ok v) (w : World) :
    Calls Tryz.prog 110 #[.string s] w fun e w' => e = .returned (.tuple #[.int .i64 v, .nilIface]) ∧ (w' = w ∨ ∃ t, w' = Lib.bytesWorld w 5 t) := Any.strconv_Atoi_ok Tryz.laysC172 s hmax v h w
open Go.RowKit in
/-- strconv.Atoi, AT EVERY STRING THAT IS NO DECIMAL NUMERAL ('.syntax'): 0, AND AN ERROR THAT IS NOT nil: a *NumError in a new block N: {Func: "Atoi", Num: s's bytes, Err: what the variable ErrSyntax holds}. Of what was there nothing has turned. (LAID: no walk: one application.) -/
theorem Tryz.strconv_Atoi_no (s : ByteArray) (hlim : s.size ≤ 281474976710656) (h1 : ∀ u, Lib.atoiAll s.data.toList ≠ .ok u) (h2 : Lib.atoiAll s.data.toList ≠ .range) (ev : Value) (w : World) (hv : w.cell? ⟨2, 0, none⟩ = some ev) (hev : ev = .nilIface ∨ ∃ te pe, ev = .iface te pe) :
    Calls Tryz.prog 110 #[.string s] w fun e w' => ∃ N, e = .returned (.tuple #[.int .i64 (0), .iface 270 (.pointer (some ⟨N, 0, none⟩))]) ∧ w.heap.size ≤ N ∧ w'.heap[N]? = some (.cells #[.string ⟨#[65, 116, 111, 105]⟩, .string s, ev] 308 (0, 0)) ∧ Below w.heap.size w w' := by
  rcases h : Lib.atoiAll s.data.toList with v | _ | _
  · exact absurd h (h1 v)
  · exact Any.strconv_Atoi_syntax Tryz.laysC172 s hlim h ev w hv hev
  · exact absurd h h2
open Go.RowKit in
/-- strconv.Atoi, AT EVERY NUMERAL THAT NO int HOLDS ('.range'): THE GREATEST OR THE LEAST int, BY THE SIGN ('Lib.atoiSat'), AND AN ERROR THAT IS NOT nil: a *NumError in a new block N: {Func: "Atoi", Num: s's bytes, Err: what the variable ErrRange holds}. Of what was there nothing has turned. (LAID: no walk: one application.) -/
theorem Tryz.strconv_Atoi_range (s : ByteArray) (hlim : s.size ≤ 281474976710656) (h : Lib.atoiAll s.data.toList = .range) (ev : Value) (w : World) (hv : w.cell? ⟨3, 0, none⟩ = some ev) (hev : ev = .nilIface ∨ ∃ te pe, ev = .iface te pe) :
    Calls Tryz.prog 110 #[.string s] w fun e w' => ∃ N, e = .returned (.tuple #[.int .i64 (Lib.atoiSat s.data.toList), .iface 270 (.pointer (some ⟨N, 0, none⟩))]) ∧ w.heap.size ≤ N ∧ w'.heap[N]? = some (.cells #[.string ⟨#[65, 116, 111, 105]⟩, .string s, ev] 308 (0, 0)) ∧ Below w.heap.size w w' := Any.strconv_Atoi_range Tryz.laysC172 s hlim h ev w hv hev
def Tryz.lays145_ren : Go.Shelf.Ren := ⟨fun | 145 => 48 | 220 => 82 | 219 => 128 | 217 => 183 | 225 => 184 | 224 => 185 | 267 => 186 | 266 => 235 | 314 => 236 | n => n, fun | 9 => 9 | 4 => 4 | 59 => 99 | 3 => 3 | 5 => 5 | 46 => 61 | 146 => 298 | 51 => 75 | n => n, fun | 1 => 1 | n => n⟩
theorem Tryz.lays145 : Go.Proofs.Lays.n145 Tryz.prog Tryz.lays145_ren := {
  mixed := by kernel_rfl
  f145 := Tryz.func48.trans (congrArg some (by kernel_rfl))
  f217 := Tryz.func183.trans (congrArg some (by kernel_rfl))
  f219 := Tryz.func128.trans (congrArg some (by kernel_rfl))
  f220 := Tryz.func82.trans (congrArg some (by kernel_rfl))
  f224 := Tryz.func185.trans (congrArg some (by kernel_rfl))
  f225 := Tryz.func184.trans (congrArg some (by kernel_rfl))
  f266 := Tryz.func235.trans (congrArg some (by kernel_rfl))
  f267 := Tryz.func186.trans (congrArg some (by kernel_rfl))
  f314 := Tryz.func236.trans (congrArg some (by kernel_rfl))
  t3 := Tryz.underlying3
  a3 := Tryz.isAgg3
  z3 := Tryz.sizeOf3
  v3 := Tryz.zeroValue3
  t4 := Tryz.underlying4
  a4 := Tryz.isAgg4
  z4 := Tryz.sizeOf4
  v4 := Tryz.zeroValue4
  t5 := Tryz.underlying5
  a5 := Tryz.isAgg5
  z5 := Tryz.sizeOf5
  v5 := Tryz.zeroValue5
  t9 := Tryz.underlying9
  a9 := Tryz.isAgg9
  z9 := Tryz.sizeOf9
  v9 := Tryz.zeroValue9
  t46 := Tryz.underlying61
  a46 := Tryz.isAgg61
  z46 := Tryz.sizeOf61
  v46 := Tryz.zeroValue61
  t51 := Tryz.underlying75
  a51 := Tryz.isAgg75
  z51 := Tryz.sizeOf75
  v51 := Tryz.zeroValue75
  t59 := Tryz.underlying99
  a59 := Tryz.isAgg99
  z59 := Tryz.sizeOf99
  v59 := Tryz.zeroValue99
  t146 := Tryz.underlying298
  a146 := Tryz.isAgg298
  z146 := Tryz.sizeOf298
  v146 := Tryz.zeroValue298
  g1 := by kernel_rfl }
open Go.RowKit Go.Lib in
/-- strings.Cut: "Cut slices s around the first instance of sep, returning the text before and after sep. The found result reports whether sep appears in s. If sep does not appear in s, cut returns s, "", false.": IT RETURNS 'Lib.cut s sep'; the world is as it was but for the count of draws. (LAID: no walk: one application.) -/
theorem Tryz.strings_Cut (s sep : ByteArray) (m : Int) (w : World) (hs : s.size < 4294967281) (hm : w.cell? ⟨1, 0, none⟩ = some (.int .i64 m)) :
    Calls Tryz.prog 48 #[.string s, .string sep] w fun e w' => e = .returned (.tuple #[.string ⟨(Lib.cut s.data.toList sep.data.toList).1.toArray⟩, .string ⟨(Lib.cut s.data.toList sep.data.toList).2.1.toArray⟩, .bool (Lib.cut s.data.toList sep.data.toList).2.2]) ∧ ∃ n, w' = w.drewN n := Any.strings_Cut Tryz.lays145 s sep m w hs hm
def Tryz.lays99_ren : Go.Shelf.Ren := ⟨fun | 99 => 50 | 206 => 83 | n => n, fun | 9 => 9 | 4 => 4 | 3 => 3 | n => n, fun | n => n⟩
theorem Tryz.lays99 : Go.Proofs.Lays.n99 Tryz.prog Tryz.lays99_ren := {
  mixed := by kernel_rfl
  f99 := Tryz.func50.trans (congrArg some (by kernel_rfl))
  f206 := Tryz.func83.trans (congrArg some (by kernel_rfl))
  t3 := Tryz.underlying3
  a3 := Tryz.isAgg3
  z3 := Tryz.sizeOf3
  v3 := Tryz.zeroValue3
  t4 := Tryz.underlying4
  a4 := Tryz.isAgg4
  z4 := Tryz.sizeOf4
  v4 := Tryz.zeroValue4
  t9 := Tryz.underlying9
  a9 := Tryz.isAgg9
  z9 := Tryz.sizeOf9
  v9 := Tryz.zeroValue9 }
open Go.RowKit Go.Lib in
/-- strings.HasPrefix: "HasPrefix reports whether the string s begins with prefix.": IT RETURNS 'Lib.hasPrefix s prefix'; the world is as it was. (LAID: no walk: one application.) -/
theorem Tryz.strings_HasPrefix (s p : ByteArray) (w : World) :
    Calls Tryz.prog 50 #[.string s, .string p] w fun e w' => e = .returned (.bool (Lib.hasPrefix s.data.toList p.data.toList)) ∧ w' = w := Any.strings_HasPrefix Tryz.lays99 s p w
def Tryz.lays146_ren : Go.Shelf.Ren := ⟨fun | 146 => 107 | 221 => 158 | 268 => 196 | 138 => 197 | 143 => 198 | 195 => 242 | 197 => 243 | 218 => 244 | 219 => 128 | 260 => 278 | 217 => 183 | 225 => 184 | 224 => 185 | 267 => 186 | 266 => 235 | 314 => 236 | n => n, fun | 9 => 9 | 31 => 22 | 3 => 3 | 4 => 4 | 0 => 0 | 105 => 302 | 21 => 21 | 5 => 5 | 46 => 61 | 119 => 357 | 139 => 360 | 138 => 359 | 146 => 298 | 51 => 75 | n => n, fun | 1 => 1 | 3 => 5 | 4 => 6 | n => n⟩
theorem Tryz.lays146 : Go.Proofs.Lays.n146 Tryz.prog Tryz.lays146_ren := {
  mixed := by kernel_rfl
  f138 := Tryz.func197.trans (congrArg some (by kernel_rfl))
  f143 := Tryz.func198.trans (congrArg some (by kernel_rfl))
  f146 := Tryz.func107.trans (congrArg some (by kernel_rfl))
  f195 := Tryz.func242.trans (congrArg some (by kernel_rfl))
  f197 := Tryz.func243.trans (congrArg some (by kernel_rfl))
  f217 := Tryz.func183.trans (congrArg some (by kernel_rfl))
  f218 := Tryz.func244.trans (congrArg some (by kernel_rfl))
  f219 := Tryz.func128.trans (congrArg some (by kernel_rfl))
  f221 := Tryz.func158.trans (congrArg some (by kernel_rfl))
  f224 := Tryz.func185.trans (congrArg some (by kernel_rfl))
  f225 := Tryz.func184.trans (congrArg some (by kernel_rfl))
  f260 := Tryz.func278.trans (congrArg some (by kernel_rfl))
  f266 := Tryz.func235.trans (congrArg some (by kernel_rfl))
  f267 := Tryz.func186.trans (congrArg some (by kernel_rfl))
  f268 := Tryz.func196.trans (congrArg some (by kernel_rfl))
  f314 := Tryz.func236.trans (congrArg some (by kernel_rfl))
  t0 := Tryz.underlying0
  a0 := Tryz.isAgg0
  z0 := Tryz.sizeOf0
  v0 := Tryz.zeroValue0
  t3 := Tryz.underlying3
  a3 := Tryz.isAgg3
  z3 := Tryz.sizeOf3
  v3 := Tryz.zeroValue3
  t4 := Tryz.underlying4
  a4 := Tryz.isAgg4
  z4 := Tryz.sizeOf4
  v4 := Tryz.zeroValue4
  t5 := Tryz.underlying5
  a5 := Tryz.isAgg5
  z5 := Tryz.sizeOf5
  v5 := Tryz.zeroValue5
  t9 := Tryz.underlying9
  a9 := Tryz.isAgg9
  z9 := Tryz.sizeOf9
  v9 := Tryz.zeroValue9
  t21 := Tryz.underlying21
  a21 := Tryz.isAgg21
  z21 := Tryz.sizeOf21
  v21 := Tryz.zeroValue21
  t31 := Tryz.underlying22
  a31 := Tryz.isAgg22
  z31 := Tryz.sizeOf22
  v31 := Tryz.zeroValue22
  t46 := Tryz.underlying61
  a46 := Tryz.isAgg61
  z46 := Tryz.sizeOf61
  v46 := Tryz.zeroValue61
  t51 := Tryz.underlying75
  a51 := Tryz.isAgg75
  z51 := Tryz.sizeOf75
  v51 := Tryz.zeroValue75
  t105 := Tryz.underlying302
  a105 := Tryz.isAgg302
  z105 := Tryz.sizeOf302
  v105 := Tryz.zeroValue302
  t119 := Tryz.underlying357
  a119 := Tryz.isAgg357
  z119 := Tryz.sizeOf357
  t138 := Tryz.underlying359
  a138 := Tryz.isAgg359
  z138 := Tryz.sizeOf359
  v138 := Tryz.zeroValue359
  t139 := Tryz.underlying360
  a139 := Tryz.isAgg360
  z139 := Tryz.sizeOf360
  v139 := Tryz.zeroValue360
  t146 := Tryz.underlying298
  a146 := Tryz.isAgg298
  z146 := Tryz.sizeOf298
  v146 := Tryz.zeroValue298
  g1 := by kernel_rfl
  g3 := by kernel_rfl
  g4 := by kernel_rfl }
open Go.RowKit Go.Lib in
/-- strings.Split. (LAID: no walk: one application.) -/
theorem Tryz.strings_Split (s sep : ByteArray) (m : Int) (w : World) (hs : s.size < 4294967281) (hm : w.cell? ⟨1, 0, none⟩ = some (.int .i64 m)) (h1 : 1 ≤ sep.size) :
    Calls Tryz.prog 107 #[.string s, .string sep] w fun e w' =>
      e = .returned (.slice (some ⟨w.heap.size, 0, none⟩) (Lib.countB s sep + 1) (Lib.countB s sep + 1)) ∧ w' = w.alloc (.cells ((Lib.splitB sep 0 (Lib.countB s sep) s).map Value.string).toArray 9) := Any.strings_Split Tryz.lays146 (by kernel_rfl) s sep m w hs hm h1
end Go.Proofs

