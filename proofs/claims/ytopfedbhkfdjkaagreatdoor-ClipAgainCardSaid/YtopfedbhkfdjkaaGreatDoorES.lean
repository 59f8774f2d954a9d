/- The library's contracts that the proofs lean on, laid at this translation by the kit's shelf tool; cut to what is used. -/
import Derived.Shelf.Strings.Builder1
import Derived.Shelf.Strings.Builder2
import Derived.Shelf.Small.Wraps
import Derived.Shelf.Strings.BuilderF
import Derived.Shelf.Strings.BuilderK
import Derived.Shelf.Strings.Builder2Cap
import Derived.Shelf.Strconv.Itoa0
import Derived.Shelf.Strconv.Itoa1
import Derived.Shelf.LaysM
import Derived.Shelf.Strconv.Itoa2
import Derived.Shelf.Strconv.Itoa3
import Derived.Shelf.Strconv.Itoa4
import Derived.Shelf.Strconv.ParseIntEmpty
import Derived.Shelf.Strconv.Clone
import Derived.Shelf.Strconv.SyntaxError
import Derived.Shelf.LaysC
import Derived.Shelf.Strconv.ToError
import Derived.Shelf.Strconv.Lower
import Derived.Shelf.Strconv.ParseUint10
import Derived.Shelf.Strconv.ParseUint10Empty
import Derived.Shelf.Strconv.ParseUint10Any
import Derived.Shelf.Strconv.ParseInt10
import Derived.Shelf.Strconv.RangeError
import Derived.Shelf.Strconv.ToErrorRange
import Derived.Shelf.Strconv.ParseUintEmpty
import Derived.Shelf.Strconv.ParseUint10b64
import Derived.Shelf.Strconv.ParseUint10b32
import Derived.Shelf.Strconv.ParseUint10b16
import Derived.Shelf.Strconv.ParseUint10b8
import Derived.Shelf.Strconv.ParseUint10At
import Derived.Shelf.Strconv.ParseInt10At64
import Derived.Shelf.Strconv.ParseInt10At32
import Derived.Shelf.Strconv.ParseInt10At16
import Derived.Shelf.Strconv.ParseInt10At8
import Derived.Shelf.Strconv.ParseInt10All
import Derived.Shelf.Strconv.ParseIntPublic10
import Derived.Shelf.Strconv.ErrVarParseInt
import Derived.Ground.MpProg
import Derived.Shelf.Pu.ParseUintPublic10
import Derived.Shelf.Pu.ErrVarParseUint
import Derived.Shelf.Strings.Search1
import Derived.Shelf.Strings.Search2
import Derived.Shelf.Strings.Cut
import Derived.Shelf.Strings.Shaped
import Derived.Shelf.Strings.Prefix
import Derived.Shelf.Bits.Mul64
import Derived.Shelf.Strings.Repeat
import Derived.Shelf.Strings.BuilderCap
import Derived.Ground.Names2Prog
import Derived.Shelf.Slices.SearchI
import Derived.Test.YtopfedbhkfdjkaaGreatDoorProg
set_option linter.unusedVariables false
set_option linter.unusedSimpArgs false
namespace Go.Proofs
open Go.Shelf
def Tryz.lays169_ren : Go.Shelf.Ren:=⟨fun | 169=>237 | n=>n,fun | 70=>289 | 9=>9 | 0=>0 | 72=>291 | 37=>254 | 127=>312 | 3=>3 | 5=>5 | n=>n,fun | n=>n⟩
theorem Tryz.lays169 : Go.Proofs.Lays.n169 Tryz.prog Tryz.lays169_ren:={
 mixed:=by kernel_rfl
 f169:=Tryz.func237.trans (congrArg some (by kernel_rfl))
 t0:=Tryz.underlying0
 a0:=Tryz.isAgg0
 z0:=Tryz.sizeOf0
 v0:=Tryz.zeroValue0
 t3:=Tryz.underlying3
 a3:=Tryz.isAgg3
 z3:=Tryz.sizeOf3
 v3:=Tryz.zeroValue3
 t9:=Tryz.underlying9
 a9:=Tryz.isAgg9
 z9:=Tryz.sizeOf9
 v9:=Tryz.zeroValue9
 t37:=Tryz.underlying254
 a37:=Tryz.isAgg254
 z37:=Tryz.sizeOf254
 v37:=Tryz.zeroValue254
 t70:=Tryz.underlying289
 a70:=Tryz.isAgg289
 z70:=Tryz.sizeOf289
 v70:=Tryz.zeroValue289
 t72:=Tryz.underlying291
 a72:=Tryz.isAgg291
 z72:=Tryz.sizeOf291
 v72:=Tryz.zeroValue291
 t127:=Tryz.underlying312
 a127:=Tryz.isAgg312
 z127:=Tryz.sizeOf312
 v127:=Tryz.zeroValue312 }
theorem Tryz.Builder_Extra_169 : Builder.Extra Tryz.prog Tryz.lays169_ren:={
 sizeBuilder:=by kernel_rfl
 liesBuilder:=by kernel_rfl
 t5:=Tryz.underlying5
 a5:=Tryz.isAgg5
 z5:=Tryz.sizeOf5
 v5:=Tryz.zeroValue5
 infoByte:=by kernel_rfl
 cellsByte:=by kernel_rfl
 sizeByte:=by kernel_rfl
 neB5:=by decide }
def Tryz.lays103_ren : Go.Shelf.Ren:=⟨fun | 103=>196 | 210=>213 | 206=>231 | n=>n,fun | 9=>9 | 4=>4 | 24=>256 | 3=>3 | n=>n,fun | n=>n⟩
theorem Tryz.lays103 : Go.Proofs.Lays.n103 Tryz.prog Tryz.lays103_ren:={
 mixed:=by kernel_rfl
 f103:=Tryz.func196.trans (congrArg some (by kernel_rfl))
 f206:=Tryz.func231.trans (congrArg some (by kernel_rfl))
 f210:=Tryz.func213.trans (congrArg some (by kernel_rfl))
 t3:=Tryz.underlying3
 a3:=Tryz.isAgg3
 z3:=Tryz.sizeOf3
 v3:=Tryz.zeroValue3
 t4:=Tryz.underlying4
 a4:=Tryz.isAgg4
 z4:=Tryz.sizeOf4
 v4:=Tryz.zeroValue4
 t9:=Tryz.underlying9
 a9:=Tryz.isAgg9
 z9:=Tryz.sizeOf9
 v9:=Tryz.zeroValue9
 t24:=Tryz.underlying256
 a24:=Tryz.isAgg256
 z24:=Tryz.sizeOf256
 v24:=Tryz.zeroValue256 }
open Go.RowKit in
theorem Tryz.strings_CutPrefix (s p : ByteArray) (w : World) :
  Calls Tryz.prog 196 #[.string s,.string p] w fun e w'=>e=.returned (.tuple #[.string ⟨(Lib.trimPrefix s.data.toList p.data.toList).toArray⟩,.bool (Lib.hasPrefix s.data.toList p.data.toList)])∧w'=w:=Any.strings_CutPrefix Tryz.lays103 s p w
open Go.RowKit in
def Tryz.lays283_ren : Go.Shelf.Ren:=⟨fun | 283=>262 | n=>n,fun | 3=>3 | 9=>9 | 4=>4 | n=>n,fun | n=>n⟩
theorem Tryz.lays283 : Go.Proofs.Lays.n283 Tryz.prog Tryz.lays283_ren:={
 mixed:=by kernel_rfl
 f283:=Tryz.func262.trans (congrArg some (by kernel_rfl))
 t3:=Tryz.underlying3
 a3:=Tryz.isAgg3
 z3:=Tryz.sizeOf3
 v3:=Tryz.zeroValue3
 t4:=Tryz.underlying4
 a4:=Tryz.isAgg4
 z4:=Tryz.sizeOf4
 v4:=Tryz.zeroValue4
 t9:=Tryz.underlying9
 a9:=Tryz.isAgg9
 z9:=Tryz.sizeOf9
 v9:=Tryz.zeroValue9 }
open Go.Lib in
theorem Tryz.internal_strconv_small (i : Nat) (h : i<100) (w : World) :
  Calls Tryz.prog 262 #[.int .i64 i] w fun e w'=>e=.returned (.string ⟨(Lib.decDigits i).toArray⟩)∧w'=w:=Any.internal_strconv_small Tryz.lays283 i h w
def Tryz.laysM284_ren : Go.Shelf.Ren:=⟨fun | 284=>263 | 129=>276 | 317=>275 | 318=>277 | n=>n,fun | 53=>222 | 3=>3 | 212=>335 | 0=>0 | 4=>4 | 46=>273 | 5=>5 | 9=>9 | n=>n,fun | 17=>3 | n=>n⟩
theorem Tryz.laysM284 : Go.Proofs.LaysM.n284 Tryz.prog Tryz.laysM284_ren:={
 mixed:=by kernel_rfl
 f129:=Tryz.func276.trans (congrArg some (by kernel_rfl))
 f284:=Tryz.func263.trans (congrArg some (by kernel_rfl))
 f317:=Tryz.func275.trans (congrArg some (by kernel_rfl))
 f318:=Tryz.func277.trans (congrArg some (by kernel_rfl))
 t0:=Tryz.underlying0
 a0:=Tryz.isAgg0
 z0:=Tryz.sizeOf0
 v0:=Tryz.zeroValue0
 t3:=Tryz.underlying3
 a3:=Tryz.isAgg3
 z3:=Tryz.sizeOf3
 v3:=Tryz.zeroValue3
 t4:=Tryz.underlying4
 a4:=Tryz.isAgg4
 z4:=Tryz.sizeOf4
 v4:=Tryz.zeroValue4
 t5:=Tryz.underlying5
 a5:=Tryz.isAgg5
 z5:=Tryz.sizeOf5
 v5:=Tryz.zeroValue5
 t9:=Tryz.underlying9
 a9:=Tryz.isAgg9
 z9:=Tryz.sizeOf9
 v9:=Tryz.zeroValue9
 t46:=Tryz.underlying273
 a46:=Tryz.isAgg273
 z46:=Tryz.sizeOf273
 v46:=Tryz.zeroValue273
 t53:=Tryz.underlying222
 a53:=Tryz.isAgg222
 z53:=Tryz.sizeOf222
 v53:=Tryz.zeroValue222
 t212:=Tryz.underlying335
 a212:=Tryz.isAgg335
 z212:=Tryz.sizeOf335
 v212:=Tryz.zeroValue335
 g17:=by kernel_rfl
 i0:=by kernel_rfl
 i3:=by kernel_rfl
 i4:=by kernel_rfl
 i5:=by kernel_rfl
 i9:=by kernel_rfl
 i46:=by kernel_rfl
 i53:=by kernel_rfl
 i212:=by kernel_rfl
 m17:=by kernel_rfl }
open Go.Lib in
theorem Tryz.internal_strconv_numDigits (u : Nat) (h1 : 1 ≤ u) (h2 : u < 18446744073709551616) (w : World) (htab : Lib.TabIs Tryz.prog w "internal/strconv.uint64pow10" .u64 Lib.pow10Tab) :
  Calls Tryz.prog 263 #[.int .u64 u] w fun e w'=>e=.returned (.int .i64 (Lib.nDigits u))∧w'=w:=Any.internal_strconv_numDigits Tryz.laysM284 u h1 h2 w htab
def Tryz.lays285_ren : Go.Shelf.Ren:=⟨fun | 285=>264 | n=>n,fun | 37=>254 | 53=>222 | 3=>3 | 4=>4 | 51=>173 | 9=>9 | 5=>5 | 0=>0 | n=>n,fun | n=>n⟩
theorem Tryz.lays285 : Go.Proofs.Lays.n285 Tryz.prog Tryz.lays285_ren:={
 mixed:=by kernel_rfl
 f285:=Tryz.func264.trans (congrArg some (by kernel_rfl))
 t0:=Tryz.underlying0
 a0:=Tryz.isAgg0
 z0:=Tryz.sizeOf0
 v0:=Tryz.zeroValue0
 t3:=Tryz.underlying3
 a3:=Tryz.isAgg3
 z3:=Tryz.sizeOf3
 v3:=Tryz.zeroValue3
 t4:=Tryz.underlying4
 a4:=Tryz.isAgg4
 z4:=Tryz.sizeOf4
 v4:=Tryz.zeroValue4
 t5:=Tryz.underlying5
 a5:=Tryz.isAgg5
 z5:=Tryz.sizeOf5
 v5:=Tryz.zeroValue5
 t9:=Tryz.underlying9
 a9:=Tryz.isAgg9
 z9:=Tryz.sizeOf9
 v9:=Tryz.zeroValue9
 t37:=Tryz.underlying254
 a37:=Tryz.isAgg254
 z37:=Tryz.sizeOf254
 v37:=Tryz.zeroValue254
 t51:=Tryz.underlying173
 a51:=Tryz.isAgg173
 z51:=Tryz.sizeOf173
 v51:=Tryz.zeroValue173
 t53:=Tryz.underlying222
 a53:=Tryz.isAgg222
 z53:=Tryz.sizeOf222
 v53:=Tryz.zeroValue222 }
open Go.RowKit Go.Sort Go.Lib in
theorem Tryz.internal_strconv_formatBase10 (blk off cap : Nat) (u : Nat) (d : Array UInt8) (w : World) (hH : Holds (fun (b : UInt8)=>Value.int .u8 (b.toNat : Int)) w blk off d) (hu : u<10 ^ d.size) (hu64 : u<18446744073709551616) (hsz : d.size<4611686018427387904) :
  Calls Tryz.prog 264 #[.slice (some ⟨blk,off,none⟩) d.size cap,.int .u64 u] w fun e w' =>
   e=.returned (.tuple #[])∧∃ (n v' : Nat) (dk : Array UInt8),w'=(putRow (fun (b : UInt8)=>Value.int .u8 (b.toNat : Int)) w blk off dk).drewN n∧FmtInv d.size u 0 v' dk:=Any.internal_strconv_formatBase10 Tryz.lays285 blk off cap u d w hH hu hu64 hsz
def Tryz.laysM173_ren : Go.Shelf.Ren:=⟨fun | 173=>228 | 246=>246 | 283=>262 | 284=>263 | 285=>264 | 286=>265 | 129=>276 | 317=>275 | 318=>277 | 319=>278 | 320=>279 | 337=>282 | 338=>283 | n=>n,fun | 2=>2 | 3=>3 | 9=>9 | 4=>4 | 171=>320 | 0=>0 | 53=>222 | 37=>254 | 5=>5 | 173=>323 | 212=>335 | 51=>173 | 20=>20 | 213=>336 | 46=>273 | 232=>343 | 233=>344 | n=>n,fun | 17=>3 | 18=>4 | 19=>5 | n=>n⟩
theorem Tryz.laysM173 : Go.Proofs.LaysM.n173 Tryz.prog Tryz.laysM173_ren:={
 mixed:=by kernel_rfl
 f129:=Tryz.func276.trans (congrArg some (by kernel_rfl))
 f173:=Tryz.func228.trans (congrArg some (by kernel_rfl))
 f246:=Tryz.func246.trans (congrArg some (by kernel_rfl))
 f283:=Tryz.func262.trans (congrArg some (by kernel_rfl))
 f284:=Tryz.func263.trans (congrArg some (by kernel_rfl))
 f285:=Tryz.func264.trans (congrArg some (by kernel_rfl))
 f286:=Tryz.func265.trans (congrArg some (by kernel_rfl))
 f317:=Tryz.func275.trans (congrArg some (by kernel_rfl))
 f318:=Tryz.func277.trans (congrArg some (by kernel_rfl))
 f319:=Tryz.func278.trans (congrArg some (by kernel_rfl))
 f320:=Tryz.func279.trans (congrArg some (by kernel_rfl))
 f337:=Tryz.func282.trans (congrArg some (by kernel_rfl))
 f338:=Tryz.func283.trans (congrArg some (by kernel_rfl))
 t0:=Tryz.underlying0
 a0:=Tryz.isAgg0
 z0:=Tryz.sizeOf0
 v0:=Tryz.zeroValue0
 t2:=Tryz.underlying2
 a2:=Tryz.isAgg2
 z2:=Tryz.sizeOf2
 v2:=Tryz.zeroValue2
 t3:=Tryz.underlying3
 a3:=Tryz.isAgg3
 z3:=Tryz.sizeOf3
 v3:=Tryz.zeroValue3
 t4:=Tryz.underlying4
 a4:=Tryz.isAgg4
 z4:=Tryz.sizeOf4
 v4:=Tryz.zeroValue4
 t5:=Tryz.underlying5
 a5:=Tryz.isAgg5
 z5:=Tryz.sizeOf5
 v5:=Tryz.zeroValue5
 t9:=Tryz.underlying9
 a9:=Tryz.isAgg9
 z9:=Tryz.sizeOf9
 v9:=Tryz.zeroValue9
 t20:=Tryz.underlying20
 a20:=Tryz.isAgg20
 z20:=Tryz.sizeOf20
 v20:=Tryz.zeroValue20
 t37:=Tryz.underlying254
 a37:=Tryz.isAgg254
 z37:=Tryz.sizeOf254
 v37:=Tryz.zeroValue254
 t46:=Tryz.underlying273
 a46:=Tryz.isAgg273
 z46:=Tryz.sizeOf273
 v46:=Tryz.zeroValue273
 t51:=Tryz.underlying173
 a51:=Tryz.isAgg173
 z51:=Tryz.sizeOf173
 v51:=Tryz.zeroValue173
 t53:=Tryz.underlying222
 a53:=Tryz.isAgg222
 z53:=Tryz.sizeOf222
 v53:=Tryz.zeroValue222
 t171:=Tryz.underlying320
 a171:=Tryz.isAgg320
 z171:=Tryz.sizeOf320
 v171:=Tryz.zeroValue320
 t173:=Tryz.underlying323
 a173:=Tryz.isAgg323
 z173:=Tryz.sizeOf323
 v173:=Tryz.zeroValue323
 t212:=Tryz.underlying335
 a212:=Tryz.isAgg335
 z212:=Tryz.sizeOf335
 v212:=Tryz.zeroValue335
 t213:=Tryz.underlying336
 a213:=Tryz.isAgg336
 z213:=Tryz.sizeOf336
 t232:=Tryz.underlying343
 a232:=Tryz.isAgg343
 z232:=Tryz.sizeOf343
 v232:=Tryz.zeroValue343
 t233:=Tryz.underlying344
 a233:=Tryz.isAgg344
 z233:=Tryz.sizeOf344
 v233:=Tryz.zeroValue344
 g17:=by kernel_rfl
 g18:=by kernel_rfl
 g19:=by kernel_rfl
 i0:=by kernel_rfl
 i2:=by kernel_rfl
 i3:=by kernel_rfl
 i4:=by kernel_rfl
 i5:=by kernel_rfl
 i9:=by kernel_rfl
 i20:=by kernel_rfl
 i37:=by kernel_rfl
 i46:=by kernel_rfl
 i51:=by kernel_rfl
 i53:=by kernel_rfl
 i171:=by kernel_rfl
 i173:=by kernel_rfl
 i212:=by kernel_rfl
 i232:=by kernel_rfl
 i233:=by kernel_rfl
 m17:=by kernel_rfl
 m18:=by kernel_rfl
 m19:=by kernel_rfl }
open Go.RowKit Go.Sort Go.Lib in
theorem Tryz.strconv_FormatInt_10 (n : Int) (h0 : -9223372036854775808 ≤ n) (h1 : n ≤ 9223372036854775807) (w : World) (htab : Lib.TabIs Tryz.prog w "internal/strconv.uint64pow10" .u64 Lib.pow10Tab) :
  Calls Tryz.prog 228 #[.int .i64 n,.int .i64 10] w fun e w'=>e=.returned (.string ⟨(Lib.itoa n).toArray⟩)∧∃ k os,w'=grow (w.drewN k) os:=Any.strconv_FormatInt_10 Tryz.laysM173 n h0 h1 w htab
def Tryz.laysC174_ren : Go.Shelf.Ren:=⟨fun | 174=>227 | 247=>244 | 245=>245 | 287=>248 | 279=>258 | 280=>259 | 281=>260 | 282=>261 | 321=>266 | 322=>267 | 316=>272 | 171=>274 | 205=>273 | 243=>281 | 246=>246 | 283=>262 | 284=>263 | 285=>264 | 286=>265 | 129=>276 | 317=>275 | 318=>277 | 319=>278 | 320=>279 | 337=>282 | 338=>283 | n=>n,fun | 9=>9 | 3=>3 | 2=>2 | 75=>280 | 85=>281 | 4=>4 | 167=>315 | 5=>5 | 53=>222 | 175=>287 | 46=>273 | 168=>316 | 37=>254 | 0=>0 | 210=>333 | 21=>21 | 127=>312 | 145=>341 | 143=>339 | 171=>320 | 173=>323 | 212=>335 | 51=>173 | 20=>20 | 213=>336 | 232=>343 | 233=>344 | 80=>218 | n=>n,fun | 15=>1 | 16=>2 | 17=>3 | 18=>4 | 19=>5 | n=>n⟩
theorem Tryz.laysC174 : Go.Proofs.LaysC.n174 Tryz.prog Tryz.laysC174_ren:={
 mixed:=by kernel_rfl
 f129:=Tryz.func276.trans (congrArg some (by kernel_rfl))
 f171:=Tryz.func274.trans (congrArg some (by kernel_rfl))
 f174:=Tryz.func227.trans (congrArg some (by kernel_rfl))
 f205:=Tryz.func273.trans (congrArg some (by kernel_rfl))
 f243:=Tryz.func281.trans (congrArg some (by kernel_rfl))
 f245:=Tryz.func245.trans (congrArg some (by kernel_rfl))
 f246:=Tryz.func246.trans (congrArg some (by kernel_rfl))
 f247:=Tryz.func244.trans (congrArg some (by kernel_rfl))
 f279:=Tryz.func258.trans (congrArg some (by kernel_rfl))
 f280:=Tryz.func259.trans (congrArg some (by kernel_rfl))
 f281:=Tryz.func260.trans (congrArg some (by kernel_rfl))
 f282:=Tryz.func261.trans (congrArg some (by kernel_rfl))
 f283:=Tryz.func262.trans (congrArg some (by kernel_rfl))
 f284:=Tryz.func263.trans (congrArg some (by kernel_rfl))
 f285:=Tryz.func264.trans (congrArg some (by kernel_rfl))
 f286:=Tryz.func265.trans (congrArg some (by kernel_rfl))
 f287:=Tryz.func248.trans (congrArg some (by kernel_rfl))
 f316:=Tryz.func272.trans (congrArg some (by kernel_rfl))
 f317:=Tryz.func275.trans (congrArg some (by kernel_rfl))
 f318:=Tryz.func277.trans (congrArg some (by kernel_rfl))
 f319:=Tryz.func278.trans (congrArg some (by kernel_rfl))
 f320:=Tryz.func279.trans (congrArg some (by kernel_rfl))
 f321:=Tryz.func266.trans (congrArg some (by kernel_rfl))
 f322:=Tryz.func267.trans (congrArg some (by kernel_rfl))
 f337:=Tryz.func282.trans (congrArg some (by kernel_rfl))
 f338:=Tryz.func283.trans (congrArg some (by kernel_rfl))
 t0:=Tryz.underlying0
 a0:=Tryz.isAgg0
 z0:=Tryz.sizeOf0
 v0:=Tryz.zeroValue0
 t2:=Tryz.underlying2
 a2:=Tryz.isAgg2
 z2:=Tryz.sizeOf2
 v2:=Tryz.zeroValue2
 t3:=Tryz.underlying3
 a3:=Tryz.isAgg3
 z3:=Tryz.sizeOf3
 v3:=Tryz.zeroValue3
 t4:=Tryz.underlying4
 a4:=Tryz.isAgg4
 z4:=Tryz.sizeOf4
 v4:=Tryz.zeroValue4
 t5:=Tryz.underlying5
 a5:=Tryz.isAgg5
 z5:=Tryz.sizeOf5
 v5:=Tryz.zeroValue5
 t9:=Tryz.underlying9
 a9:=Tryz.isAgg9
 z9:=Tryz.sizeOf9
 v9:=Tryz.zeroValue9
 t20:=Tryz.underlying20
 a20:=Tryz.isAgg20
 z20:=Tryz.sizeOf20
 v20:=Tryz.zeroValue20
 t21:=Tryz.underlying21
 a21:=Tryz.isAgg21
 z21:=Tryz.sizeOf21
 v21:=Tryz.zeroValue21
 t37:=Tryz.underlying254
 a37:=Tryz.isAgg254
 z37:=Tryz.sizeOf254
 v37:=Tryz.zeroValue254
 t46:=Tryz.underlying273
 a46:=Tryz.isAgg273
 z46:=Tryz.sizeOf273
 v46:=Tryz.zeroValue273
 t51:=Tryz.underlying173
 a51:=Tryz.isAgg173
 z51:=Tryz.sizeOf173
 v51:=Tryz.zeroValue173
 t53:=Tryz.underlying222
 a53:=Tryz.isAgg222
 z53:=Tryz.sizeOf222
 v53:=Tryz.zeroValue222
 t75:=Tryz.underlying280
 a75:=Tryz.isAgg280
 z75:=Tryz.sizeOf280
 v75:=Tryz.zeroValue280
 t85:=Tryz.underlying281
 a85:=Tryz.isAgg281
 z85:=Tryz.sizeOf281
 v85:=Tryz.zeroValue281
 t127:=Tryz.underlying312
 a127:=Tryz.isAgg312
 z127:=Tryz.sizeOf312
 v127:=Tryz.zeroValue312
 t143:=Tryz.underlying339
 a143:=Tryz.isAgg339
 z143:=Tryz.sizeOf339
 v143:=Tryz.zeroValue339
 t145:=Tryz.underlying341
 a145:=Tryz.isAgg341
 z145:=Tryz.sizeOf341
 v145:=Tryz.zeroValue341
 t167:=Tryz.underlying315
 a167:=Tryz.isAgg315
 z167:=Tryz.sizeOf315
 v167:=Tryz.zeroValue315
 t168:=Tryz.underlying316
 a168:=Tryz.isAgg316
 z168:=Tryz.sizeOf316
 v168:=Tryz.zeroValue316
 t171:=Tryz.underlying320
 a171:=Tryz.isAgg320
 z171:=Tryz.sizeOf320
 v171:=Tryz.zeroValue320
 t173:=Tryz.underlying323
 a173:=Tryz.isAgg323
 z173:=Tryz.sizeOf323
 v173:=Tryz.zeroValue323
 t175:=Tryz.underlying287
 a175:=Tryz.isAgg287
 z175:=Tryz.sizeOf287
 v175:=Tryz.zeroValue287
 t210:=Tryz.underlying333
 a210:=Tryz.isAgg333
 z210:=Tryz.sizeOf333
 v210:=Tryz.zeroValue333
 t212:=Tryz.underlying335
 a212:=Tryz.isAgg335
 z212:=Tryz.sizeOf335
 v212:=Tryz.zeroValue335
 t213:=Tryz.underlying336
 a213:=Tryz.isAgg336
 z213:=Tryz.sizeOf336
 t232:=Tryz.underlying343
 a232:=Tryz.isAgg343
 z232:=Tryz.sizeOf343
 v232:=Tryz.zeroValue343
 t233:=Tryz.underlying344
 a233:=Tryz.isAgg344
 z233:=Tryz.sizeOf344
 v233:=Tryz.zeroValue344
 g15:=by kernel_rfl
 g16:=by kernel_rfl
 g17:=by kernel_rfl
 g18:=by kernel_rfl
 g19:=by kernel_rfl
 t80:=Tryz.underlying218
 a80:=Tryz.isAgg218
 z80:=Tryz.sizeOf218
 v80:=Tryz.zeroValue218
 i0:=by kernel_rfl
 i2:=by kernel_rfl
 i3:=by kernel_rfl
 i4:=by kernel_rfl
 i5:=by kernel_rfl
 i9:=by kernel_rfl
 i20:=by kernel_rfl
 i21:=by kernel_rfl
 i37:=by kernel_rfl
 i46:=by kernel_rfl
 i51:=by kernel_rfl
 i53:=by kernel_rfl
 i75:=by kernel_rfl
 i80:=by kernel_rfl
 i85:=by kernel_rfl
 i127:=by kernel_rfl
 i143:=by kernel_rfl
 i145:=by kernel_rfl
 i167:=by kernel_rfl
 i168:=by kernel_rfl
 i171:=by kernel_rfl
 i173:=by kernel_rfl
 i175:=by kernel_rfl
 i210:=by kernel_rfl
 i212:=by kernel_rfl
 i232:=by kernel_rfl
 i233:=by kernel_rfl
 m15:=by kernel_rfl
 m16:=by kernel_rfl
 m17:=by kernel_rfl
 m18:=by kernel_rfl
 m19:=by kernel_rfl
 c0:=by kernel_rfl
 c2:=by kernel_rfl
 c3:=by kernel_rfl
 c4:=by kernel_rfl
 c5:=by kernel_rfl
 c9:=by kernel_rfl
 c20:=by kernel_rfl
 c21:=by kernel_rfl
 c37:=by kernel_rfl
 c46:=by kernel_rfl
 c51:=by kernel_rfl
 c53:=by kernel_rfl
 c75:=by kernel_rfl
 c80:=by kernel_rfl
 c85:=by kernel_rfl
 c127:=by kernel_rfl
 c143:=by kernel_rfl
 c145:=by kernel_rfl
 c167:=by kernel_rfl
 c168:=by kernel_rfl
 c171:=by kernel_rfl
 c173:=by kernel_rfl
 c175:=by kernel_rfl
 c210:=by kernel_rfl
 c212:=by kernel_rfl
 c213:=by kernel_rfl
 c232:=by kernel_rfl
 c233:=by kernel_rfl }
open Go.RowKit in
theorem Tryz.strconv_ParseInt_10_at64_ok (s : ByteArray) (hmax : s.size≤9223372036854775806) (v : Int) (h : Lib.parseIntB 64 s.data.toList=.ok v) (w : World) :
  Calls Tryz.prog 227 #[.string s,.int .i64 10,.int .i64 64] w fun e w'=>e=.returned (.tuple #[.int .i64 v,.nilIface])∧(w'=w∨∃ t,w'=Lib.bytesWorld w 5 t):=Any.strconv_ParseInt_10_at64_ok Tryz.laysC174 s hmax v h w
def Tryz.laysPu14_ren : Go.Shelf.Ren:=⟨fun | 14=>232 | 16=>248 | 17=>245 | 19=>266 | 20=>267 | 21=>258 | 22=>259 | 23=>260 | 24=>261 | 25=>272 | 27=>274 | 26=>273 | 28=>281 | 29=>246 | 30=>262 | 31=>263 | 32=>264 | 33=>265 | 35=>276 | 34=>275 | 36=>277 | 37=>278 | 38=>279 | 39=>282 | 40=>283 | n=>n,fun | 9=>9 | 3=>3 | 22=>222 | 24=>280 | 25=>287 | 4=>4 | 34=>315 | 5=>5 | 36=>273 | 37=>254 | 0=>0 | 39=>316 | 21=>21 | 44=>333 | 47=>312 | 50=>341 | 48=>339 | 2=>2 | 52=>320 | 55=>323 | 59=>335 | 60=>173 | 20=>20 | 61=>336 | 65=>343 | 66=>344 | 67=>218 | n=>n,fun | 0=>1 | 1=>2 | 2=>3 | 3=>4 | 4=>5 | n=>n⟩
theorem Tryz.laysPu14 : Go.Proofs.LaysPu.n14 Tryz.prog Tryz.laysPu14_ren:={
 mixed:=by kernel_rfl
 f14:=Tryz.func232.trans (congrArg some (by kernel_rfl))
 f16:=Tryz.func248.trans (congrArg some (by kernel_rfl))
 f17:=Tryz.func245.trans (congrArg some (by kernel_rfl))
 f19:=Tryz.func266.trans (congrArg some (by kernel_rfl))
 f20:=Tryz.func267.trans (congrArg some (by kernel_rfl))
 f21:=Tryz.func258.trans (congrArg some (by kernel_rfl))
 f22:=Tryz.func259.trans (congrArg some (by kernel_rfl))
 f23:=Tryz.func260.trans (congrArg some (by kernel_rfl))
 f24:=Tryz.func261.trans (congrArg some (by kernel_rfl))
 f25:=Tryz.func272.trans (congrArg some (by kernel_rfl))
 f26:=Tryz.func273.trans (congrArg some (by kernel_rfl))
 f27:=Tryz.func274.trans (congrArg some (by kernel_rfl))
 f28:=Tryz.func281.trans (congrArg some (by kernel_rfl))
 f29:=Tryz.func246.trans (congrArg some (by kernel_rfl))
 f30:=Tryz.func262.trans (congrArg some (by kernel_rfl))
 f31:=Tryz.func263.trans (congrArg some (by kernel_rfl))
 f32:=Tryz.func264.trans (congrArg some (by kernel_rfl))
 f33:=Tryz.func265.trans (congrArg some (by kernel_rfl))
 f34:=Tryz.func275.trans (congrArg some (by kernel_rfl))
 f35:=Tryz.func276.trans (congrArg some (by kernel_rfl))
 f36:=Tryz.func277.trans (congrArg some (by kernel_rfl))
 f37:=Tryz.func278.trans (congrArg some (by kernel_rfl))
 f38:=Tryz.func279.trans (congrArg some (by kernel_rfl))
 f39:=Tryz.func282.trans (congrArg some (by kernel_rfl))
 f40:=Tryz.func283.trans (congrArg some (by kernel_rfl))
 t0:=Tryz.underlying0
 a0:=Tryz.isAgg0
 z0:=Tryz.sizeOf0
 v0:=Tryz.zeroValue0
 i0:=by kernel_rfl
 t2:=Tryz.underlying2
 a2:=Tryz.isAgg2
 z2:=Tryz.sizeOf2
 v2:=Tryz.zeroValue2
 i2:=by kernel_rfl
 t3:=Tryz.underlying3
 a3:=Tryz.isAgg3
 z3:=Tryz.sizeOf3
 v3:=Tryz.zeroValue3
 i3:=by kernel_rfl
 t4:=Tryz.underlying4
 a4:=Tryz.isAgg4
 z4:=Tryz.sizeOf4
 v4:=Tryz.zeroValue4
 i4:=by kernel_rfl
 t5:=Tryz.underlying5
 a5:=Tryz.isAgg5
 z5:=Tryz.sizeOf5
 v5:=Tryz.zeroValue5
 i5:=by kernel_rfl
 t9:=Tryz.underlying9
 a9:=Tryz.isAgg9
 z9:=Tryz.sizeOf9
 v9:=Tryz.zeroValue9
 i9:=by kernel_rfl
 t20:=Tryz.underlying20
 a20:=Tryz.isAgg20
 z20:=Tryz.sizeOf20
 v20:=Tryz.zeroValue20
 i20:=by kernel_rfl
 t21:=Tryz.underlying21
 a21:=Tryz.isAgg21
 z21:=Tryz.sizeOf21
 v21:=Tryz.zeroValue21
 i21:=by kernel_rfl
 t22:=Tryz.underlying222
 a22:=Tryz.isAgg222
 z22:=Tryz.sizeOf222
 v22:=Tryz.zeroValue222
 i22:=by kernel_rfl
 t24:=Tryz.underlying280
 a24:=Tryz.isAgg280
 z24:=Tryz.sizeOf280
 v24:=Tryz.zeroValue280
 i24:=by kernel_rfl
 t25:=Tryz.underlying287
 a25:=Tryz.isAgg287
 z25:=Tryz.sizeOf287
 v25:=Tryz.zeroValue287
 i25:=by kernel_rfl
 t34:=Tryz.underlying315
 a34:=Tryz.isAgg315
 z34:=Tryz.sizeOf315
 v34:=Tryz.zeroValue315
 i34:=by kernel_rfl
 c34:=by kernel_rfl
 t36:=Tryz.underlying273
 a36:=Tryz.isAgg273
 z36:=Tryz.sizeOf273
 v36:=Tryz.zeroValue273
 i36:=by kernel_rfl
 t37:=Tryz.underlying254
 a37:=Tryz.isAgg254
 z37:=Tryz.sizeOf254
 v37:=Tryz.zeroValue254
 i37:=by kernel_rfl
 t39:=Tryz.underlying316
 a39:=Tryz.isAgg316
 z39:=Tryz.sizeOf316
 v39:=Tryz.zeroValue316
 i39:=by kernel_rfl
 t44:=Tryz.underlying333
 a44:=Tryz.isAgg333
 z44:=Tryz.sizeOf333
 v44:=Tryz.zeroValue333
 i44:=by kernel_rfl
 t47:=Tryz.underlying312
 a47:=Tryz.isAgg312
 z47:=Tryz.sizeOf312
 v47:=Tryz.zeroValue312
 i47:=by kernel_rfl
 t48:=Tryz.underlying339
 a48:=Tryz.isAgg339
 z48:=Tryz.sizeOf339
 v48:=Tryz.zeroValue339
 i48:=by kernel_rfl
 t50:=Tryz.underlying341
 a50:=Tryz.isAgg341
 z50:=Tryz.sizeOf341
 v50:=Tryz.zeroValue341
 i50:=by kernel_rfl
 t52:=Tryz.underlying320
 a52:=Tryz.isAgg320
 z52:=Tryz.sizeOf320
 v52:=Tryz.zeroValue320
 i52:=by kernel_rfl
 t55:=Tryz.underlying323
 a55:=Tryz.isAgg323
 z55:=Tryz.sizeOf323
 v55:=Tryz.zeroValue323
 i55:=by kernel_rfl
 t59:=Tryz.underlying335
 a59:=Tryz.isAgg335
 z59:=Tryz.sizeOf335
 v59:=Tryz.zeroValue335
 i59:=by kernel_rfl
 t60:=Tryz.underlying173
 a60:=Tryz.isAgg173
 z60:=Tryz.sizeOf173
 v60:=Tryz.zeroValue173
 i60:=by kernel_rfl
 t61:=Tryz.underlying336
 a61:=Tryz.isAgg336
 z61:=Tryz.sizeOf336
 t65:=Tryz.underlying343
 a65:=Tryz.isAgg343
 z65:=Tryz.sizeOf343
 v65:=Tryz.zeroValue343
 i65:=by kernel_rfl
 t66:=Tryz.underlying344
 a66:=Tryz.isAgg344
 z66:=Tryz.sizeOf344
 v66:=Tryz.zeroValue344
 i66:=by kernel_rfl
 t67:=Tryz.underlying218
 a67:=Tryz.isAgg218
 z67:=Tryz.sizeOf218
 v67:=Tryz.zeroValue218
 i67:=by kernel_rfl
 g0:=by kernel_rfl
 m0:=by kernel_rfl
 g1:=by kernel_rfl
 m1:=by kernel_rfl
 g2:=by kernel_rfl
 m2:=by kernel_rfl
 g3:=by kernel_rfl
 m3:=by kernel_rfl
 g4:=by kernel_rfl
 m4:=by kernel_rfl }
open Go.RowKit in
theorem Tryz.strconv_ParseUint_10_at32_ok (s : ByteArray) (hmax : s.size≤9223372036854775806) (u : Nat) (h : Lib.parseUintB 32 s.data.toList=.ok u) (w : World) :
  Calls Tryz.prog 232 #[.string s,.int .i64 10,.int .i64 32] w fun e w'=>e=.returned (.tuple #[.int .u64 u,.nilIface])∧(w'=w∨w'=Lib.bytesWorld w 5 s):=Any.strconv_ParseUint_10_at32_ok Tryz.laysPu14 s hmax u h w
def Tryz.lays145_ren : Go.Shelf.Ren:=⟨fun | 145=>154 | 220=>183 | 219=>205 | 217=>220 | 225=>221 | 224=>222 | 267=>223 | 266=>241 | 314=>242 | n=>n,fun | 9=>9 | 4=>4 | 59=>166 | 3=>3 | 5=>5 | 46=>273 | 146=>302 | 51=>173 | n=>n,fun | 1=>0 | n=>n⟩
theorem Tryz.lays145 : Go.Proofs.Lays.n145 Tryz.prog Tryz.lays145_ren:={
 mixed:=by kernel_rfl
 f145:=Tryz.func154.trans (congrArg some (by kernel_rfl))
 f217:=Tryz.func220.trans (congrArg some (by kernel_rfl))
 f219:=Tryz.func205.trans (congrArg some (by kernel_rfl))
 f220:=Tryz.func183.trans (congrArg some (by kernel_rfl))
 f224:=Tryz.func222.trans (congrArg some (by kernel_rfl))
 f225:=Tryz.func221.trans (congrArg some (by kernel_rfl))
 f266:=Tryz.func241.trans (congrArg some (by kernel_rfl))
 f267:=Tryz.func223.trans (congrArg some (by kernel_rfl))
 f314:=Tryz.func242.trans (congrArg some (by kernel_rfl))
 t3:=Tryz.underlying3
 a3:=Tryz.isAgg3
 z3:=Tryz.sizeOf3
 v3:=Tryz.zeroValue3
 t4:=Tryz.underlying4
 a4:=Tryz.isAgg4
 z4:=Tryz.sizeOf4
 v4:=Tryz.zeroValue4
 t5:=Tryz.underlying5
 a5:=Tryz.isAgg5
 z5:=Tryz.sizeOf5
 v5:=Tryz.zeroValue5
 t9:=Tryz.underlying9
 a9:=Tryz.isAgg9
 z9:=Tryz.sizeOf9
 v9:=Tryz.zeroValue9
 t46:=Tryz.underlying273
 a46:=Tryz.isAgg273
 z46:=Tryz.sizeOf273
 v46:=Tryz.zeroValue273
 t51:=Tryz.underlying173
 a51:=Tryz.isAgg173
 z51:=Tryz.sizeOf173
 v51:=Tryz.zeroValue173
 t59:=Tryz.underlying166
 a59:=Tryz.isAgg166
 z59:=Tryz.sizeOf166
 v59:=Tryz.zeroValue166
 t146:=Tryz.underlying302
 a146:=Tryz.isAgg302
 z146:=Tryz.sizeOf302
 v146:=Tryz.zeroValue302
 g1:=by kernel_rfl }
open Go.RowKit Go.Lib in
theorem Tryz.strings_Cut (s sep : ByteArray) (m : Int) (w : World) (hs : s.size<4294967281) (hm : w.cell? ⟨0,0,none⟩=some (.int .i64 m)) :
  Calls Tryz.prog 154 #[.string s,.string sep] w fun e w'=>e=.returned (.tuple #[.string ⟨(Lib.cut s.data.toList sep.data.toList).1.toArray⟩,.string ⟨(Lib.cut s.data.toList sep.data.toList).2.1.toArray⟩,.bool (Lib.cut s.data.toList sep.data.toList).2.2])∧∃ n,w'=w.drewN n:=Any.strings_Cut Tryz.lays145 s sep m w hs hm
def Tryz.lays105_ren : Go.Shelf.Ren:=⟨fun | 105=>236 | 212=>252 | 99=>253 | 165=>254 | 166=>235 | 170=>255 | 169=>237 | 263=>269 | 264=>270 | 206=>231 | 240=>251 | 241=>271 | 276=>268 | 277=>280 | n=>n,fun | 9=>9 | 3=>3 | 4=>4 | 20=>20 | 0=>0 | 46=>273 | 109=>309 | 5=>5 | 72=>291 | 76=>296 | 51=>173 | 146=>302 | 53=>222 | 148=>329 | 70=>289 | 37=>254 | 75=>280 | 127=>312 | 164=>326 | 80=>218 | n=>n,fun | n=>n⟩
theorem Tryz.lays105 : Go.Proofs.Lays.n105 Tryz.prog Tryz.lays105_ren:={
 mixed:=by kernel_rfl
 f99:=Tryz.func253.trans (congrArg some (by kernel_rfl))
 f105:=Tryz.func236.trans (congrArg some (by kernel_rfl))
 f165:=Tryz.func254.trans (congrArg some (by kernel_rfl))
 f166:=Tryz.func235.trans (congrArg some (by kernel_rfl))
 f169:=Tryz.func237.trans (congrArg some (by kernel_rfl))
 f170:=Tryz.func255.trans (congrArg some (by kernel_rfl))
 f206:=Tryz.func231.trans (congrArg some (by kernel_rfl))
 f212:=Tryz.func252.trans (congrArg some (by kernel_rfl))
 f240:=Tryz.func251.trans (congrArg some (by kernel_rfl))
 f241:=Tryz.func271.trans (congrArg some (by kernel_rfl))
 f263:=Tryz.func269.trans (congrArg some (by kernel_rfl))
 f264:=Tryz.func270.trans (congrArg some (by kernel_rfl))
 f276:=Tryz.func268.trans (congrArg some (by kernel_rfl))
 f277:=Tryz.func280.trans (congrArg some (by kernel_rfl))
 t0:=Tryz.underlying0
 a0:=Tryz.isAgg0
 z0:=Tryz.sizeOf0
 v0:=Tryz.zeroValue0
 t3:=Tryz.underlying3
 a3:=Tryz.isAgg3
 z3:=Tryz.sizeOf3
 v3:=Tryz.zeroValue3
 t4:=Tryz.underlying4
 a4:=Tryz.isAgg4
 z4:=Tryz.sizeOf4
 v4:=Tryz.zeroValue4
 t5:=Tryz.underlying5
 a5:=Tryz.isAgg5
 z5:=Tryz.sizeOf5
 v5:=Tryz.zeroValue5
 t9:=Tryz.underlying9
 a9:=Tryz.isAgg9
 z9:=Tryz.sizeOf9
 v9:=Tryz.zeroValue9
 t20:=Tryz.underlying20
 a20:=Tryz.isAgg20
 z20:=Tryz.sizeOf20
 v20:=Tryz.zeroValue20
 t37:=Tryz.underlying254
 a37:=Tryz.isAgg254
 z37:=Tryz.sizeOf254
 v37:=Tryz.zeroValue254
 t46:=Tryz.underlying273
 a46:=Tryz.isAgg273
 z46:=Tryz.sizeOf273
 v46:=Tryz.zeroValue273
 t51:=Tryz.underlying173
 a51:=Tryz.isAgg173
 z51:=Tryz.sizeOf173
 v51:=Tryz.zeroValue173
 t53:=Tryz.underlying222
 a53:=Tryz.isAgg222
 z53:=Tryz.sizeOf222
 v53:=Tryz.zeroValue222
 t70:=Tryz.underlying289
 a70:=Tryz.isAgg289
 z70:=Tryz.sizeOf289
 v70:=Tryz.zeroValue289
 t72:=Tryz.underlying291
 a72:=Tryz.isAgg291
 z72:=Tryz.sizeOf291
 v72:=Tryz.zeroValue291
 t75:=Tryz.underlying280
 a75:=Tryz.isAgg280
 z75:=Tryz.sizeOf280
 v75:=Tryz.zeroValue280
 t76:=Tryz.underlying296
 a76:=Tryz.isAgg296
 z76:=Tryz.sizeOf296
 v76:=Tryz.zeroValue296
 t109:=Tryz.underlying309
 a109:=Tryz.isAgg309
 z109:=Tryz.sizeOf309
 v109:=Tryz.zeroValue309
 t127:=Tryz.underlying312
 a127:=Tryz.isAgg312
 z127:=Tryz.sizeOf312
 v127:=Tryz.zeroValue312
 t146:=Tryz.underlying302
 a146:=Tryz.isAgg302
 z146:=Tryz.sizeOf302
 v146:=Tryz.zeroValue302
 t148:=Tryz.underlying329
 a148:=Tryz.isAgg329
 z148:=Tryz.sizeOf329
 v148:=Tryz.zeroValue329
 t164:=Tryz.underlying326
 a164:=Tryz.isAgg326
 z164:=Tryz.sizeOf326
 v164:=Tryz.zeroValue326 }
theorem Tryz.Builder_Extra_105 : Builder.Extra Tryz.prog Tryz.lays105_ren:={
 sizeBuilder:=by kernel_rfl
 liesBuilder:=by kernel_rfl
 t5:=Tryz.underlying5
 a5:=Tryz.isAgg5
 z5:=Tryz.sizeOf5
 v5:=Tryz.zeroValue5
 infoByte:=by kernel_rfl
 cellsByte:=by kernel_rfl
 sizeByte:=by kernel_rfl
 neB5:=by decide }
open Go.RowKit Go.Lib in
theorem Tryz.strings_Repeat (s : ByteArray) (c : Nat) (w : World) (hc : c≤9223372036854775807) (hlen : s.size * c≤140737488355328) :
  Calls Tryz.prog 236 #[.string s,.int .i64 c] w fun e w'=>e=.returned (.string ⟨(Lib.repeatL s.data.toList c).toArray⟩)∧Below w.heap.size w w':=Any.strings_Repeat Tryz.lays105 Tryz.Builder_Extra_105 s c w hc hlen
end Go.Proofs
