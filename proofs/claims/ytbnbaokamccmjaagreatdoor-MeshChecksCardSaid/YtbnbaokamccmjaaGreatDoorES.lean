/- The library's contracts that the proofs lean on, laid at this translation by the kit's shelf tool; cut to what is used. -/
import Derived.Shelf.Strings.Builder1
import Derived.Shelf.Strings.Builder2
import Derived.Shelf.Small.Wraps
import Derived.Shelf.Strings.BuilderF
import Derived.Shelf.Strings.BuilderK
import Derived.Shelf.Strings.Builder2Cap
import Derived.Shelf.Strconv.Itoa0
import Derived.Shelf.Strconv.Itoa1
import Derived.Shelf.LaysM
import Derived.Shelf.Strconv.Itoa2
import Derived.Shelf.Strconv.Itoa3
import Derived.Shelf.Strconv.Itoa4
import Derived.Shelf.Strconv.ParseIntEmpty
import Derived.Shelf.Strconv.Clone
import Derived.Shelf.Strconv.SyntaxError
import Derived.Shelf.LaysC
import Derived.Shelf.Strconv.ToError
import Derived.Shelf.Strconv.Lower
import Derived.Shelf.Strconv.ParseUint10
import Derived.Shelf.Strconv.ParseUint10Empty
import Derived.Shelf.Strconv.ParseUint10Any
import Derived.Shelf.Strconv.ParseInt10
import Derived.Shelf.Strconv.RangeError
import Derived.Shelf.Strconv.ToErrorRange
import Derived.Shelf.Strconv.ParseUintEmpty
import Derived.Shelf.Strconv.ParseUint10b64
import Derived.Shelf.Strconv.ParseUint10b32
import Derived.Shelf.Strconv.ParseUint10b16
import Derived.Shelf.Strconv.ParseUint10b8
import Derived.Shelf.Strconv.ParseUint10At
import Derived.Shelf.Strconv.ParseInt10At64
import Derived.Shelf.Strconv.ParseInt10At32
import Derived.Shelf.Strconv.ParseInt10At16
import Derived.Shelf.Strconv.ParseInt10At8
import Derived.Shelf.Strconv.ParseInt10All
import Derived.Shelf.Strconv.ParseIntPublic10
import Derived.Shelf.Strconv.ErrVarParseInt
import Derived.Ground.MpProg
import Derived.Shelf.Pu.ParseUintPublic10
import Derived.Shelf.Pu.ErrVarParseUint
import Derived.Shelf.Strings.Search1
import Derived.Shelf.Strings.Search2
import Derived.Shelf.Strings.Cut
import Derived.Shelf.Strings.Shaped
import Derived.Shelf.Strings.Prefix
import Derived.Shelf.Bits.Mul64
import Derived.Shelf.Strings.Repeat
import Derived.Shelf.Strings.BuilderCap
import Derived.Test.YtbnbaokamccmjaaGreatDoorProg
set_option linter.unusedVariables false
set_option linter.unusedSimpArgs false
namespace Go.Proofs
open Go.Shelf
def Tryz.lays169_ren : Go.Shelf.Ren:=⟨fun | 169=>216 | n=>n,fun | 70=>242 | 9=>9 | 0=>0 | 72=>244 | 37=>187 | 127=>268 | 3=>3 | 5=>5 | n=>n,fun | n=>n⟩
theorem Tryz.lays169 : Go.Proofs.Lays.n169 Tryz.prog Tryz.lays169_ren:={
 mixed:=by kernel_rfl
 f169:=Tryz.func216.trans (congrArg some (by kernel_rfl))
 t0:=Tryz.underlying0
 a0:=Tryz.isAgg0
 z0:=Tryz.sizeOf0
 v0:=Tryz.zeroValue0
 t3:=Tryz.underlying3
 a3:=Tryz.isAgg3
 z3:=Tryz.sizeOf3
 v3:=Tryz.zeroValue3
 t9:=Tryz.underlying9
 a9:=Tryz.isAgg9
 z9:=Tryz.sizeOf9
 v9:=Tryz.zeroValue9
 t37:=Tryz.underlying187
 a37:=Tryz.isAgg187
 z37:=Tryz.sizeOf187
 v37:=Tryz.zeroValue187
 t70:=Tryz.underlying242
 a70:=Tryz.isAgg242
 z70:=Tryz.sizeOf242
 v70:=Tryz.zeroValue242
 t72:=Tryz.underlying244
 a72:=Tryz.isAgg244
 z72:=Tryz.sizeOf244
 v72:=Tryz.zeroValue244
 t127:=Tryz.underlying268
 a127:=Tryz.isAgg268
 z127:=Tryz.sizeOf268
 v127:=Tryz.zeroValue268 }
theorem Tryz.Builder_Extra_169 : Builder.Extra Tryz.prog Tryz.lays169_ren:={
 sizeBuilder:=by kernel_rfl
 liesBuilder:=by kernel_rfl
 t5:=Tryz.underlying5
 a5:=Tryz.isAgg5
 z5:=Tryz.sizeOf5
 v5:=Tryz.zeroValue5
 infoByte:=by kernel_rfl
 cellsByte:=by kernel_rfl
 sizeByte:=by kernel_rfl
 neB5:=by decide }
def Tryz.lays103_ren : Go.Shelf.Ren:=⟨fun | 103=>174 | 210=>191 | 206=>210 | n=>n,fun | 9=>9 | 4=>4 | 24=>210 | 3=>3 | n=>n,fun | n=>n⟩
theorem Tryz.lays103 : Go.Proofs.Lays.n103 Tryz.prog Tryz.lays103_ren:={
 mixed:=by kernel_rfl
 f103:=Tryz.func174.trans (congrArg some (by kernel_rfl))
 f206:=Tryz.func210.trans (congrArg some (by kernel_rfl))
 f210:=Tryz.func191.trans (congrArg some (by kernel_rfl))
 t3:=Tryz.underlying3
 a3:=Tryz.isAgg3
 z3:=Tryz.sizeOf3
 v3:=Tryz.zeroValue3
 t4:=Tryz.underlying4
 a4:=Tryz.isAgg4
 z4:=Tryz.sizeOf4
 v4:=Tryz.zeroValue4
 t9:=Tryz.underlying9
 a9:=Tryz.isAgg9
 z9:=Tryz.sizeOf9
 v9:=Tryz.zeroValue9
 t24:=Tryz.underlying210
 a24:=Tryz.isAgg210
 z24:=Tryz.sizeOf210
 v24:=Tryz.zeroValue210 }
open Go.RowKit in
theorem Tryz.strings_CutPrefix (s p : ByteArray) (w : World) :
  Calls Tryz.prog 174 #[.string s,.string p] w fun e w'=>e=.returned (.tuple #[.string ⟨(Lib.trimPrefix s.data.toList p.data.toList).toArray⟩,.bool (Lib.hasPrefix s.data.toList p.data.toList)])∧w'=w:=Any.strings_CutPrefix Tryz.lays103 s p w
open Go.RowKit in
def Tryz.lays283_ren : Go.Shelf.Ren:=⟨fun | 283=>247 | n=>n,fun | 3=>3 | 9=>9 | 4=>4 | n=>n,fun | n=>n⟩
theorem Tryz.lays283 : Go.Proofs.Lays.n283 Tryz.prog Tryz.lays283_ren:={
 mixed:=by kernel_rfl
 f283:=Tryz.func247.trans (congrArg some (by kernel_rfl))
 t3:=Tryz.underlying3
 a3:=Tryz.isAgg3
 z3:=Tryz.sizeOf3
 v3:=Tryz.zeroValue3
 t4:=Tryz.underlying4
 a4:=Tryz.isAgg4
 z4:=Tryz.sizeOf4
 v4:=Tryz.zeroValue4
 t9:=Tryz.underlying9
 a9:=Tryz.isAgg9
 z9:=Tryz.sizeOf9
 v9:=Tryz.zeroValue9 }
open Go.Lib in
theorem Tryz.internal_strconv_small (i : Nat) (h : i<100) (w : World) :
  Calls Tryz.prog 247 #[.int .i64 i] w fun e w'=>e=.returned (.string ⟨(Lib.decDigits i).toArray⟩)∧w'=w:=Any.internal_strconv_small Tryz.lays283 i h w
def Tryz.laysM284_ren : Go.Shelf.Ren:=⟨fun | 284=>248 | 129=>259 | 317=>258 | 318=>260 | n=>n,fun | 53=>204 | 3=>3 | 212=>293 | 0=>0 | 4=>4 | 46=>231 | 5=>5 | 9=>9 | n=>n,fun | 17=>3 | n=>n⟩
theorem Tryz.laysM284 : Go.Proofs.LaysM.n284 Tryz.prog Tryz.laysM284_ren:={
 mixed:=by kernel_rfl
 f129:=Tryz.func259.trans (congrArg some (by kernel_rfl))
 f284:=Tryz.func248.trans (congrArg some (by kernel_rfl))
 f317:=Tryz.func258.trans (congrArg some (by kernel_rfl))
 f318:=Tryz.func260.trans (congrArg some (by kernel_rfl))
 t0:=Tryz.underlying0
 a0:=Tryz.isAgg0
 z0:=Tryz.sizeOf0
 v0:=Tryz.zeroValue0
 t3:=Tryz.underlying3
 a3:=Tryz.isAgg3
 z3:=Tryz.sizeOf3
 v3:=Tryz.zeroValue3
 t4:=Tryz.underlying4
 a4:=Tryz.isAgg4
 z4:=Tryz.sizeOf4
 v4:=Tryz.zeroValue4
 t5:=Tryz.underlying5
 a5:=Tryz.isAgg5
 z5:=Tryz.sizeOf5
 v5:=Tryz.zeroValue5
 t9:=Tryz.underlying9
 a9:=Tryz.isAgg9
 z9:=Tryz.sizeOf9
 v9:=Tryz.zeroValue9
 t46:=Tryz.underlying231
 a46:=Tryz.isAgg231
 z46:=Tryz.sizeOf231
 v46:=Tryz.zeroValue231
 t53:=Tryz.underlying204
 a53:=Tryz.isAgg204
 z53:=Tryz.sizeOf204
 v53:=Tryz.zeroValue204
 t212:=Tryz.underlying293
 a212:=Tryz.isAgg293
 z212:=Tryz.sizeOf293
 v212:=Tryz.zeroValue293
 g17:=by kernel_rfl
 i0:=by kernel_rfl
 i3:=by kernel_rfl
 i4:=by kernel_rfl
 i5:=by kernel_rfl
 i9:=by kernel_rfl
 i46:=by kernel_rfl
 i53:=by kernel_rfl
 i212:=by kernel_rfl
 m17:=by kernel_rfl }
open Go.Lib in
theorem Tryz.internal_strconv_numDigits (u : Nat) (h1 : 1 ≤ u) (h2 : u < 18446744073709551616) (w : World) (htab : Lib.TabIs Tryz.prog w "internal/strconv.uint64pow10" .u64 Lib.pow10Tab) :
  Calls Tryz.prog 248 #[.int .u64 u] w fun e w'=>e=.returned (.int .i64 (Lib.nDigits u))∧w'=w:=Any.internal_strconv_numDigits Tryz.laysM284 u h1 h2 w htab
def Tryz.lays285_ren : Go.Shelf.Ren:=⟨fun | 285=>249 | n=>n,fun | 37=>187 | 53=>204 | 3=>3 | 4=>4 | 51=>184 | 9=>9 | 5=>5 | 0=>0 | n=>n,fun | n=>n⟩
theorem Tryz.lays285 : Go.Proofs.Lays.n285 Tryz.prog Tryz.lays285_ren:={
 mixed:=by kernel_rfl
 f285:=Tryz.func249.trans (congrArg some (by kernel_rfl))
 t0:=Tryz.underlying0
 a0:=Tryz.isAgg0
 z0:=Tryz.sizeOf0
 v0:=Tryz.zeroValue0
 t3:=Tryz.underlying3
 a3:=Tryz.isAgg3
 z3:=Tryz.sizeOf3
 v3:=Tryz.zeroValue3
 t4:=Tryz.underlying4
 a4:=Tryz.isAgg4
 z4:=Tryz.sizeOf4
 v4:=Tryz.zeroValue4
 t5:=Tryz.underlying5
 a5:=Tryz.isAgg5
 z5:=Tryz.sizeOf5
 v5:=Tryz.zeroValue5
 t9:=Tryz.underlying9
 a9:=Tryz.isAgg9
 z9:=Tryz.sizeOf9
 v9:=Tryz.zeroValue9
 t37:=Tryz.underlying187
 a37:=Tryz.isAgg187
 z37:=Tryz.sizeOf187
 v37:=Tryz.zeroValue187
 t51:=Tryz.underlying184
 a51:=Tryz.isAgg184
 z51:=Tryz.sizeOf184
 v51:=Tryz.zeroValue184
 t53:=Tryz.underlying204
 a53:=Tryz.isAgg204
 z53:=Tryz.sizeOf204
 v53:=Tryz.zeroValue204 }
open Go.RowKit Go.Sort Go.Lib in
theorem Tryz.internal_strconv_formatBase10 (blk off cap : Nat) (u : Nat) (d : Array UInt8) (w : World) (hH : Holds (fun (b : UInt8)=>Value.int .u8 (b.toNat : Int)) w blk off d) (hu : u<10 ^ d.size) (hu64 : u<18446744073709551616) (hsz : d.size<4611686018427387904) :
  Calls Tryz.prog 249 #[.slice (some ⟨blk,off,none⟩) d.size cap,.int .u64 u] w fun e w' =>
   e=.returned (.tuple #[])∧∃ (n v' : Nat) (dk : Array UInt8),w'=(putRow (fun (b : UInt8)=>Value.int .u8 (b.toNat : Int)) w blk off dk).drewN n∧FmtInv d.size u 0 v' dk:=Any.internal_strconv_formatBase10 Tryz.lays285 blk off cap u d w hH hu hu64 hsz
def Tryz.laysM173_ren : Go.Shelf.Ren:=⟨fun | 173=>221 | 246=>239 | 283=>247 | 284=>248 | 285=>249 | 286=>250 | 129=>259 | 317=>258 | 318=>260 | 319=>261 | 320=>262 | 337=>265 | 338=>266 | n=>n,fun | 2=>2 | 3=>3 | 9=>9 | 4=>4 | 171=>279 | 0=>0 | 53=>204 | 37=>187 | 5=>5 | 173=>282 | 212=>293 | 51=>184 | 20=>20 | 213=>294 | 46=>231 | 232=>301 | 233=>302 | n=>n,fun | 17=>3 | 18=>4 | 19=>5 | n=>n⟩
theorem Tryz.laysM173 : Go.Proofs.LaysM.n173 Tryz.prog Tryz.laysM173_ren:={
 mixed:=by kernel_rfl
 f129:=Tryz.func259.trans (congrArg some (by kernel_rfl))
 f173:=Tryz.func221.trans (congrArg some (by kernel_rfl))
 f246:=Tryz.func239.trans (congrArg some (by kernel_rfl))
 f283:=Tryz.func247.trans (congrArg some (by kernel_rfl))
 f284:=Tryz.func248.trans (congrArg some (by kernel_rfl))
 f285:=Tryz.func249.trans (congrArg some (by kernel_rfl))
 f286:=Tryz.func250.trans (congrArg some (by kernel_rfl))
 f317:=Tryz.func258.trans (congrArg some (by kernel_rfl))
 f318:=Tryz.func260.trans (congrArg some (by kernel_rfl))
 f319:=Tryz.func261.trans (congrArg some (by kernel_rfl))
 f320:=Tryz.func262.trans (congrArg some (by kernel_rfl))
 f337:=Tryz.func265.trans (congrArg some (by kernel_rfl))
 f338:=Tryz.func266.trans (congrArg some (by kernel_rfl))
 t0:=Tryz.underlying0
 a0:=Tryz.isAgg0
 z0:=Tryz.sizeOf0
 v0:=Tryz.zeroValue0
 t2:=Tryz.underlying2
 a2:=Tryz.isAgg2
 z2:=Tryz.sizeOf2
 v2:=Tryz.zeroValue2
 t3:=Tryz.underlying3
 a3:=Tryz.isAgg3
 z3:=Tryz.sizeOf3
 v3:=Tryz.zeroValue3
 t4:=Tryz.underlying4
 a4:=Tryz.isAgg4
 z4:=Tryz.sizeOf4
 v4:=Tryz.zeroValue4
 t5:=Tryz.underlying5
 a5:=Tryz.isAgg5
 z5:=Tryz.sizeOf5
 v5:=Tryz.zeroValue5
 t9:=Tryz.underlying9
 a9:=Tryz.isAgg9
 z9:=Tryz.sizeOf9
 v9:=Tryz.zeroValue9
 t20:=Tryz.underlying20
 a20:=Tryz.isAgg20
 z20:=Tryz.sizeOf20
 v20:=Tryz.zeroValue20
 t37:=Tryz.underlying187
 a37:=Tryz.isAgg187
 z37:=Tryz.sizeOf187
 v37:=Tryz.zeroValue187
 t46:=Tryz.underlying231
 a46:=Tryz.isAgg231
 z46:=Tryz.sizeOf231
 v46:=Tryz.zeroValue231
 t51:=Tryz.underlying184
 a51:=Tryz.isAgg184
 z51:=Tryz.sizeOf184
 v51:=Tryz.zeroValue184
 t53:=Tryz.underlying204
 a53:=Tryz.isAgg204
 z53:=Tryz.sizeOf204
 v53:=Tryz.zeroValue204
 t171:=Tryz.underlying279
 a171:=Tryz.isAgg279
 z171:=Tryz.sizeOf279
 v171:=Tryz.zeroValue279
 t173:=Tryz.underlying282
 a173:=Tryz.isAgg282
 z173:=Tryz.sizeOf282
 v173:=Tryz.zeroValue282
 t212:=Tryz.underlying293
 a212:=Tryz.isAgg293
 z212:=Tryz.sizeOf293
 v212:=Tryz.zeroValue293
 t213:=Tryz.underlying294
 a213:=Tryz.isAgg294
 z213:=Tryz.sizeOf294
 t232:=Tryz.underlying301
 a232:=Tryz.isAgg301
 z232:=Tryz.sizeOf301
 v232:=Tryz.zeroValue301
 t233:=Tryz.underlying302
 a233:=Tryz.isAgg302
 z233:=Tryz.sizeOf302
 v233:=Tryz.zeroValue302
 g17:=by kernel_rfl
 g18:=by kernel_rfl
 g19:=by kernel_rfl
 i0:=by kernel_rfl
 i2:=by kernel_rfl
 i3:=by kernel_rfl
 i4:=by kernel_rfl
 i5:=by kernel_rfl
 i9:=by kernel_rfl
 i20:=by kernel_rfl
 i37:=by kernel_rfl
 i46:=by kernel_rfl
 i51:=by kernel_rfl
 i53:=by kernel_rfl
 i171:=by kernel_rfl
 i173:=by kernel_rfl
 i212:=by kernel_rfl
 i232:=by kernel_rfl
 i233:=by kernel_rfl
 m17:=by kernel_rfl
 m18:=by kernel_rfl
 m19:=by kernel_rfl }
open Go.RowKit Go.Sort Go.Lib in
theorem Tryz.strconv_FormatInt_10 (n : Int) (h0 : -9223372036854775808 ≤ n) (h1 : n ≤ 9223372036854775807) (w : World) (htab : Lib.TabIs Tryz.prog w "internal/strconv.uint64pow10" .u64 Lib.pow10Tab) :
  Calls Tryz.prog 221 #[.int .i64 n,.int .i64 10] w fun e w'=>e=.returned (.string ⟨(Lib.itoa n).toArray⟩)∧∃ k os,w'=grow (w.drewN k) os:=Any.strconv_FormatInt_10 Tryz.laysM173 n h0 h1 w htab
def Tryz.laysC174_ren : Go.Shelf.Ren:=⟨fun | 174=>220 | 247=>238 | 245=>228 | 287=>227 | 279=>243 | 280=>244 | 281=>245 | 282=>246 | 321=>241 | 322=>242 | 316=>255 | 171=>257 | 205=>256 | 243=>264 | 246=>239 | 283=>247 | 284=>248 | 285=>249 | 286=>250 | 129=>259 | 317=>258 | 318=>260 | 319=>261 | 320=>262 | 337=>265 | 338=>266 | n=>n,fun | 9=>9 | 3=>3 | 2=>2 | 75=>239 | 85=>255 | 4=>4 | 167=>273 | 5=>5 | 53=>204 | 175=>240 | 46=>231 | 168=>275 | 37=>187 | 0=>0 | 210=>291 | 21=>21 | 127=>268 | 145=>299 | 143=>297 | 171=>279 | 173=>282 | 212=>293 | 51=>184 | 20=>20 | 213=>294 | 232=>301 | 233=>302 | 80=>171 | n=>n,fun | 15=>1 | 16=>2 | 17=>3 | 18=>4 | 19=>5 | n=>n⟩
theorem Tryz.laysC174 : Go.Proofs.LaysC.n174 Tryz.prog Tryz.laysC174_ren:={
 mixed:=by kernel_rfl
 f129:=Tryz.func259.trans (congrArg some (by kernel_rfl))
 f171:=Tryz.func257.trans (congrArg some (by kernel_rfl))
 f174:=Tryz.func220.trans (congrArg some (by kernel_rfl))
 f205:=Tryz.func256.trans (congrArg some (by kernel_rfl))
 f243:=Tryz.func264.trans (congrArg some (by kernel_rfl))
 f245:=Tryz.func228.trans (congrArg some (by kernel_rfl))
 f246:=Tryz.func239.trans (congrArg some (by kernel_rfl))
 f247:=Tryz.func238.trans (congrArg some (by kernel_rfl))
 f279:=Tryz.func243.trans (congrArg some (by kernel_rfl))
 f280:=Tryz.func244.trans (congrArg some (by kernel_rfl))
 f281:=Tryz.func245.trans (congrArg some (by kernel_rfl))
 f282:=Tryz.func246.trans (congrArg some (by kernel_rfl))
 f283:=Tryz.func247.trans (congrArg some (by kernel_rfl))
 f284:=Tryz.func248.trans (congrArg some (by kernel_rfl))
 f285:=Tryz.func249.trans (congrArg some (by kernel_rfl))
 f286:=Tryz.func250.trans (congrArg some (by kernel_rfl))
 f287:=Tryz.func227.trans (congrArg some (by kernel_rfl))
 f316:=Tryz.func255.trans (congrArg some (by kernel_rfl))
 f317:=Tryz.func258.trans (congrArg some (by kernel_rfl))
 f318:=Tryz.func260.trans (congrArg some (by kernel_rfl))
 f319:=Tryz.func261.trans (congrArg some (by kernel_rfl))
 f320:=Tryz.func262.trans (congrArg some (by kernel_rfl))
 f321:=Tryz.func241.trans (congrArg some (by kernel_rfl))
 f322:=Tryz.func242.trans (congrArg some (by kernel_rfl))
 f337:=Tryz.func265.trans (congrArg some (by kernel_rfl))
 f338:=Tryz.func266.trans (congrArg some (by kernel_rfl))
 t0:=Tryz.underlying0
 a0:=Tryz.isAgg0
 z0:=Tryz.sizeOf0
 v0:=Tryz.zeroValue0
 t2:=Tryz.underlying2
 a2:=Tryz.isAgg2
 z2:=Tryz.sizeOf2
 v2:=Tryz.zeroValue2
 t3:=Tryz.underlying3
 a3:=Tryz.isAgg3
 z3:=Tryz.sizeOf3
 v3:=Tryz.zeroValue3
 t4:=Tryz.underlying4
 a4:=Tryz.isAgg4
 z4:=Tryz.sizeOf4
 v4:=Tryz.zeroValue4
 t5:=Tryz.underlying5
 a5:=Tryz.isAgg5
 z5:=Tryz.sizeOf5
 v5:=Tryz.zeroValue5
 t9:=Tryz.underlying9
 a9:=Tryz.isAgg9
 z9:=Tryz.sizeOf9
 v9:=Tryz.zeroValue9
 t20:=Tryz.underlying20
 a20:=Tryz.isAgg20
 z20:=Tryz.sizeOf20
 v20:=Tryz.zeroValue20
 t21:=Tryz.underlying21
 a21:=Tryz.isAgg21
 z21:=Tryz.sizeOf21
 v21:=Tryz.zeroValue21
 t37:=Tryz.underlying187
 a37:=Tryz.isAgg187
 z37:=Tryz.sizeOf187
 v37:=Tryz.zeroValue187
 t46:=Tryz.underlying231
 a46:=Tryz.isAgg231
 z46:=Tryz.sizeOf231
 v46:=Tryz.zeroValue231
 t51:=Tryz.underlying184
 a51:=Tryz.isAgg184
 z51:=Tryz.sizeOf184
 v51:=Tryz.zeroValue184
 t53:=Tryz.underlying204
 a53:=Tryz.isAgg204
 z53:=Tryz.sizeOf204
 v53:=Tryz.zeroValue204
 t75:=Tryz.underlying239
 a75:=Tryz.isAgg239
 z75:=Tryz.sizeOf239
 v75:=Tryz.zeroValue239
 t85:=Tryz.underlying255
 a85:=Tryz.isAgg255
 z85:=Tryz.sizeOf255
 v85:=Tryz.zeroValue255
 t127:=Tryz.underlying268
 a127:=Tryz.isAgg268
 z127:=Tryz.sizeOf268
 v127:=Tryz.zeroValue268
 t143:=Tryz.underlying297
 a143:=Tryz.isAgg297
 z143:=Tryz.sizeOf297
 v143:=Tryz.zeroValue297
 t145:=Tryz.underlying299
 a145:=Tryz.isAgg299
 z145:=Tryz.sizeOf299
 v145:=Tryz.zeroValue299
 t167:=Tryz.underlying273
 a167:=Tryz.isAgg273
 z167:=Tryz.sizeOf273
 v167:=Tryz.zeroValue273
 t168:=Tryz.underlying275
 a168:=Tryz.isAgg275
 z168:=Tryz.sizeOf275
 v168:=Tryz.zeroValue275
 t171:=Tryz.underlying279
 a171:=Tryz.isAgg279
 z171:=Tryz.sizeOf279
 v171:=Tryz.zeroValue279
 t173:=Tryz.underlying282
 a173:=Tryz.isAgg282
 z173:=Tryz.sizeOf282
 v173:=Tryz.zeroValue282
 t175:=Tryz.underlying240
 a175:=Tryz.isAgg240
 z175:=Tryz.sizeOf240
 v175:=Tryz.zeroValue240
 t210:=Tryz.underlying291
 a210:=Tryz.isAgg291
 z210:=Tryz.sizeOf291
 v210:=Tryz.zeroValue291
 t212:=Tryz.underlying293
 a212:=Tryz.isAgg293
 z212:=Tryz.sizeOf293
 v212:=Tryz.zeroValue293
 t213:=Tryz.underlying294
 a213:=Tryz.isAgg294
 z213:=Tryz.sizeOf294
 t232:=Tryz.underlying301
 a232:=Tryz.isAgg301
 z232:=Tryz.sizeOf301
 v232:=Tryz.zeroValue301
 t233:=Tryz.underlying302
 a233:=Tryz.isAgg302
 z233:=Tryz.sizeOf302
 v233:=Tryz.zeroValue302
 g15:=by kernel_rfl
 g16:=by kernel_rfl
 g17:=by kernel_rfl
 g18:=by kernel_rfl
 g19:=by kernel_rfl
 t80:=Tryz.underlying171
 a80:=Tryz.isAgg171
 z80:=Tryz.sizeOf171
 v80:=Tryz.zeroValue171
 i0:=by kernel_rfl
 i2:=by kernel_rfl
 i3:=by kernel_rfl
 i4:=by kernel_rfl
 i5:=by kernel_rfl
 i9:=by kernel_rfl
 i20:=by kernel_rfl
 i21:=by kernel_rfl
 i37:=by kernel_rfl
 i46:=by kernel_rfl
 i51:=by kernel_rfl
 i53:=by kernel_rfl
 i75:=by kernel_rfl
 i80:=by kernel_rfl
 i85:=by kernel_rfl
 i127:=by kernel_rfl
 i143:=by kernel_rfl
 i145:=by kernel_rfl
 i167:=by kernel_rfl
 i168:=by kernel_rfl
 i171:=by kernel_rfl
 i173:=by kernel_rfl
 i175:=by kernel_rfl
 i210:=by kernel_rfl
 i212:=by kernel_rfl
 i232:=by kernel_rfl
 i233:=by kernel_rfl
 m15:=by kernel_rfl
 m16:=by kernel_rfl
 m17:=by kernel_rfl
 m18:=by kernel_rfl
 m19:=by kernel_rfl
 c0:=by kernel_rfl
 c2:=by kernel_rfl
 c3:=by kernel_rfl
 c4:=by kernel_rfl
 c5:=by kernel_rfl
 c9:=by kernel_rfl
 c20:=by kernel_rfl
 c21:=by kernel_rfl
 c37:=by kernel_rfl
 c46:=by kernel_rfl
 c51:=by kernel_rfl
 c53:=by kernel_rfl
 c75:=by kernel_rfl
 c80:=by kernel_rfl
 c85:=by kernel_rfl
 c127:=by kernel_rfl
 c143:=by kernel_rfl
 c145:=by kernel_rfl
 c167:=by kernel_rfl
 c168:=by kernel_rfl
 c171:=by kernel_rfl
 c173:=by kernel_rfl
 c175:=by kernel_rfl
 c210:=by kernel_rfl
 c212:=by kernel_rfl
 c213:=by kernel_rfl
 c232:=by kernel_rfl
 c233:=by kernel_rfl }
open Go.RowKit in
theorem Tryz.strconv_ParseInt_10_at64_ok (s : ByteArray) (hmax : s.size≤9223372036854775806) (v : Int) (h : Lib.parseIntB 64 s.data.toList=.ok v) (w : World) :
  Calls Tryz.prog 220 #[.string s,.int .i64 10,.int .i64 64] w fun e w'=>e=.returned (.tuple #[.int .i64 v,.nilIface])∧(w'=w∨∃ t,w'=Lib.bytesWorld w 5 t):=Any.strconv_ParseInt_10_at64_ok Tryz.laysC174 s hmax v h w
def Tryz.laysPu14_ren : Go.Shelf.Ren:=⟨fun | 14=>211 | 16=>227 | 17=>228 | 19=>241 | 20=>242 | 21=>243 | 22=>244 | 23=>245 | 24=>246 | 25=>255 | 27=>257 | 26=>256 | 28=>264 | 29=>239 | 30=>247 | 31=>248 | 32=>249 | 33=>250 | 35=>259 | 34=>258 | 36=>260 | 37=>261 | 38=>262 | 39=>265 | 40=>266 | n=>n,fun | 9=>9 | 3=>3 | 22=>204 | 24=>239 | 25=>240 | 4=>4 | 34=>273 | 5=>5 | 36=>231 | 37=>187 | 0=>0 | 39=>275 | 21=>21 | 44=>291 | 47=>268 | 50=>299 | 48=>297 | 2=>2 | 52=>279 | 55=>282 | 59=>293 | 60=>184 | 20=>20 | 61=>294 | 65=>301 | 66=>302 | 67=>171 | n=>n,fun | 0=>1 | 1=>2 | 2=>3 | 3=>4 | 4=>5 | n=>n⟩
theorem Tryz.laysPu14 : Go.Proofs.LaysPu.n14 Tryz.prog Tryz.laysPu14_ren:={
 mixed:=by kernel_rfl
 f14:=Tryz.func211.trans (congrArg some (by kernel_rfl))
 f16:=Tryz.func227.trans (congrArg some (by kernel_rfl))
 f17:=Tryz.func228.trans (congrArg some (by kernel_rfl))
 f19:=Tryz.func241.trans (congrArg some (by kernel_rfl))
 f20:=Tryz.func242.trans (congrArg some (by kernel_rfl))
 f21:=Tryz.func243.trans (congrArg some (by kernel_rfl))
 f22:=Tryz.func244.trans (congrArg some (by kernel_rfl))
 f23:=Tryz.func245.trans (congrArg some (by kernel_rfl))
 f24:=Tryz.func246.trans (congrArg some (by kernel_rfl))
 f25:=Tryz.func255.trans (congrArg some (by kernel_rfl))
 f26:=Tryz.func256.trans (congrArg some (by kernel_rfl))
 f27:=Tryz.func257.trans (congrArg some (by kernel_rfl))
 f28:=Tryz.func264.trans (congrArg some (by kernel_rfl))
 f29:=Tryz.func239.trans (congrArg some (by kernel_rfl))
 f30:=Tryz.func247.trans (congrArg some (by kernel_rfl))
 f31:=Tryz.func248.trans (congrArg some (by kernel_rfl))
 f32:=Tryz.func249.trans (congrArg some (by kernel_rfl))
 f33:=Tryz.func250.trans (congrArg some (by kernel_rfl))
 f34:=Tryz.func258.trans (congrArg some (by kernel_rfl))
 f35:=Tryz.func259.trans (congrArg some (by kernel_rfl))
 f36:=Tryz.func260.trans (congrArg some (by kernel_rfl))
 f37:=Tryz.func261.trans (congrArg some (by kernel_rfl))
 f38:=Tryz.func262.trans (congrArg some (by kernel_rfl))
 f39:=Tryz.func265.trans (congrArg some (by kernel_rfl))
 f40:=Tryz.func266.trans (congrArg some (by kernel_rfl))
 t0:=Tryz.underlying0
 a0:=Tryz.isAgg0
 z0:=Tryz.sizeOf0
 v0:=Tryz.zeroValue0
 i0:=by kernel_rfl
 t2:=Tryz.underlying2
 a2:=Tryz.isAgg2
 z2:=Tryz.sizeOf2
 v2:=Tryz.zeroValue2
 i2:=by kernel_rfl
 t3:=Tryz.underlying3
 a3:=Tryz.isAgg3
 z3:=Tryz.sizeOf3
 v3:=Tryz.zeroValue3
 i3:=by kernel_rfl
 t4:=Tryz.underlying4
 a4:=Tryz.isAgg4
 z4:=Tryz.sizeOf4
 v4:=Tryz.zeroValue4
 i4:=by kernel_rfl
 t5:=Tryz.underlying5
 a5:=Tryz.isAgg5
 z5:=Tryz.sizeOf5
 v5:=Tryz.zeroValue5
 i5:=by kernel_rfl
 t9:=Tryz.underlying9
 a9:=Tryz.isAgg9
 z9:=Tryz.sizeOf9
 v9:=Tryz.zeroValue9
 i9:=by kernel_rfl
 t20:=Tryz.underlying20
 a20:=Tryz.isAgg20
 z20:=Tryz.sizeOf20
 v20:=Tryz.zeroValue20
 i20:=by kernel_rfl
 t21:=Tryz.underlying21
 a21:=Tryz.isAgg21
 z21:=Tryz.sizeOf21
 v21:=Tryz.zeroValue21
 i21:=by kernel_rfl
 t22:=Tryz.underlying204
 a22:=Tryz.isAgg204
 z22:=Tryz.sizeOf204
 v22:=Tryz.zeroValue204
 i22:=by kernel_rfl
 t24:=Tryz.underlying239
 a24:=Tryz.isAgg239
 z24:=Tryz.sizeOf239
 v24:=Tryz.zeroValue239
 i24:=by kernel_rfl
 t25:=Tryz.underlying240
 a25:=Tryz.isAgg240
 z25:=Tryz.sizeOf240
 v25:=Tryz.zeroValue240
 i25:=by kernel_rfl
 t34:=Tryz.underlying273
 a34:=Tryz.isAgg273
 z34:=Tryz.sizeOf273
 v34:=Tryz.zeroValue273
 i34:=by kernel_rfl
 c34:=by kernel_rfl
 t36:=Tryz.underlying231
 a36:=Tryz.isAgg231
 z36:=Tryz.sizeOf231
 v36:=Tryz.zeroValue231
 i36:=by kernel_rfl
 t37:=Tryz.underlying187
 a37:=Tryz.isAgg187
 z37:=Tryz.sizeOf187
 v37:=Tryz.zeroValue187
 i37:=by kernel_rfl
 t39:=Tryz.underlying275
 a39:=Tryz.isAgg275
 z39:=Tryz.sizeOf275
 v39:=Tryz.zeroValue275
 i39:=by kernel_rfl
 t44:=Tryz.underlying291
 a44:=Tryz.isAgg291
 z44:=Tryz.sizeOf291
 v44:=Tryz.zeroValue291
 i44:=by kernel_rfl
 t47:=Tryz.underlying268
 a47:=Tryz.isAgg268
 z47:=Tryz.sizeOf268
 v47:=Tryz.zeroValue268
 i47:=by kernel_rfl
 t48:=Tryz.underlying297
 a48:=Tryz.isAgg297
 z48:=Tryz.sizeOf297
 v48:=Tryz.zeroValue297
 i48:=by kernel_rfl
 t50:=Tryz.underlying299
 a50:=Tryz.isAgg299
 z50:=Tryz.sizeOf299
 v50:=Tryz.zeroValue299
 i50:=by kernel_rfl
 t52:=Tryz.underlying279
 a52:=Tryz.isAgg279
 z52:=Tryz.sizeOf279
 v52:=Tryz.zeroValue279
 i52:=by kernel_rfl
 t55:=Tryz.underlying282
 a55:=Tryz.isAgg282
 z55:=Tryz.sizeOf282
 v55:=Tryz.zeroValue282
 i55:=by kernel_rfl
 t59:=Tryz.underlying293
 a59:=Tryz.isAgg293
 z59:=Tryz.sizeOf293
 v59:=Tryz.zeroValue293
 i59:=by kernel_rfl
 t60:=Tryz.underlying184
 a60:=Tryz.isAgg184
 z60:=Tryz.sizeOf184
 v60:=Tryz.zeroValue184
 i60:=by kernel_rfl
 t61:=Tryz.underlying294
 a61:=Tryz.isAgg294
 z61:=Tryz.sizeOf294
 t65:=Tryz.underlying301
 a65:=Tryz.isAgg301
 z65:=Tryz.sizeOf301
 v65:=Tryz.zeroValue301
 i65:=by kernel_rfl
 t66:=Tryz.underlying302
 a66:=Tryz.isAgg302
 z66:=Tryz.sizeOf302
 v66:=Tryz.zeroValue302
 i66:=by kernel_rfl
 t67:=Tryz.underlying171
 a67:=Tryz.isAgg171
 z67:=Tryz.sizeOf171
 v67:=Tryz.zeroValue171
 i67:=by kernel_rfl
 g0:=by kernel_rfl
 m0:=by kernel_rfl
 g1:=by kernel_rfl
 m1:=by kernel_rfl
 g2:=by kernel_rfl
 m2:=by kernel_rfl
 g3:=by kernel_rfl
 m3:=by kernel_rfl
 g4:=by kernel_rfl
 m4:=by kernel_rfl }
open Go.RowKit in
theorem Tryz.strconv_ParseUint_10_at32_ok (s : ByteArray) (hmax : s.size≤9223372036854775806) (u : Nat) (h : Lib.parseUintB 32 s.data.toList=.ok u) (w : World) :
  Calls Tryz.prog 211 #[.string s,.int .i64 10,.int .i64 32] w fun e w'=>e=.returned (.tuple #[.int .u64 u,.nilIface])∧(w'=w∨w'=Lib.bytesWorld w 5 s):=Any.strconv_ParseUint_10_at32_ok Tryz.laysPu14 s hmax u h w
def Tryz.lays145_ren : Go.Shelf.Ren:=⟨fun | 145=>147 | 220=>170 | 219=>189 | 217=>203 | 225=>204 | 224=>205 | 267=>206 | 266=>224 | 314=>225 | n=>n,fun | 9=>9 | 4=>4 | 59=>177 | 3=>3 | 5=>5 | 46=>231 | 146=>260 | 51=>184 | n=>n,fun | 1=>0 | n=>n⟩
theorem Tryz.lays145 : Go.Proofs.Lays.n145 Tryz.prog Tryz.lays145_ren:={
 mixed:=by kernel_rfl
 f145:=Tryz.func147.trans (congrArg some (by kernel_rfl))
 f217:=Tryz.func203.trans (congrArg some (by kernel_rfl))
 f219:=Tryz.func189.trans (congrArg some (by kernel_rfl))
 f220:=Tryz.func170.trans (congrArg some (by kernel_rfl))
 f224:=Tryz.func205.trans (congrArg some (by kernel_rfl))
 f225:=Tryz.func204.trans (congrArg some (by kernel_rfl))
 f266:=Tryz.func224.trans (congrArg some (by kernel_rfl))
 f267:=Tryz.func206.trans (congrArg some (by kernel_rfl))
 f314:=Tryz.func225.trans (congrArg some (by kernel_rfl))
 t3:=Tryz.underlying3
 a3:=Tryz.isAgg3
 z3:=Tryz.sizeOf3
 v3:=Tryz.zeroValue3
 t4:=Tryz.underlying4
 a4:=Tryz.isAgg4
 z4:=Tryz.sizeOf4
 v4:=Tryz.zeroValue4
 t5:=Tryz.underlying5
 a5:=Tryz.isAgg5
 z5:=Tryz.sizeOf5
 v5:=Tryz.zeroValue5
 t9:=Tryz.underlying9
 a9:=Tryz.isAgg9
 z9:=Tryz.sizeOf9
 v9:=Tryz.zeroValue9
 t46:=Tryz.underlying231
 a46:=Tryz.isAgg231
 z46:=Tryz.sizeOf231
 v46:=Tryz.zeroValue231
 t51:=Tryz.underlying184
 a51:=Tryz.isAgg184
 z51:=Tryz.sizeOf184
 v51:=Tryz.zeroValue184
 t59:=Tryz.underlying177
 a59:=Tryz.isAgg177
 z59:=Tryz.sizeOf177
 v59:=Tryz.zeroValue177
 t146:=Tryz.underlying260
 a146:=Tryz.isAgg260
 z146:=Tryz.sizeOf260
 v146:=Tryz.zeroValue260
 g1:=by kernel_rfl }
open Go.RowKit Go.Lib in
theorem Tryz.strings_Cut (s sep : ByteArray) (m : Int) (w : World) (hs : s.size<4294967281) (hm : w.cell? ⟨0,0,none⟩=some (.int .i64 m)) :
  Calls Tryz.prog 147 #[.string s,.string sep] w fun e w'=>e=.returned (.tuple #[.string ⟨(Lib.cut s.data.toList sep.data.toList).1.toArray⟩,.string ⟨(Lib.cut s.data.toList sep.data.toList).2.1.toArray⟩,.bool (Lib.cut s.data.toList sep.data.toList).2.2])∧∃ n,w'=w.drewN n:=Any.strings_Cut Tryz.lays145 s sep m w hs hm
def Tryz.lays105_ren : Go.Shelf.Ren:=⟨fun | 105=>215 | 212=>232 | 99=>233 | 165=>234 | 166=>214 | 170=>235 | 169=>216 | 263=>252 | 264=>253 | 206=>210 | 240=>231 | 241=>254 | 276=>251 | 277=>263 | n=>n,fun | 9=>9 | 3=>3 | 4=>4 | 20=>20 | 0=>0 | 46=>231 | 109=>265 | 5=>5 | 72=>244 | 76=>249 | 51=>184 | 146=>260 | 53=>204 | 148=>287 | 70=>242 | 37=>187 | 75=>239 | 127=>268 | 164=>284 | 80=>171 | n=>n,fun | n=>n⟩
theorem Tryz.lays105 : Go.Proofs.Lays.n105 Tryz.prog Tryz.lays105_ren:={
 mixed:=by kernel_rfl
 f99:=Tryz.func233.trans (congrArg some (by kernel_rfl))
 f105:=Tryz.func215.trans (congrArg some (by kernel_rfl))
 f165:=Tryz.func234.trans (congrArg some (by kernel_rfl))
 f166:=Tryz.func214.trans (congrArg some (by kernel_rfl))
 f169:=Tryz.func216.trans (congrArg some (by kernel_rfl))
 f170:=Tryz.func235.trans (congrArg some (by kernel_rfl))
 f206:=Tryz.func210.trans (congrArg some (by kernel_rfl))
 f212:=Tryz.func232.trans (congrArg some (by kernel_rfl))
 f240:=Tryz.func231.trans (congrArg some (by kernel_rfl))
 f241:=Tryz.func254.trans (congrArg some (by kernel_rfl))
 f263:=Tryz.func252.trans (congrArg some (by kernel_rfl))
 f264:=Tryz.func253.trans (congrArg some (by kernel_rfl))
 f276:=Tryz.func251.trans (congrArg some (by kernel_rfl))
 f277:=Tryz.func263.trans (congrArg some (by kernel_rfl))
 t0:=Tryz.underlying0
 a0:=Tryz.isAgg0
 z0:=Tryz.sizeOf0
 v0:=Tryz.zeroValue0
 t3:=Tryz.underlying3
 a3:=Tryz.isAgg3
 z3:=Tryz.sizeOf3
 v3:=Tryz.zeroValue3
 t4:=Tryz.underlying4
 a4:=Tryz.isAgg4
 z4:=Tryz.sizeOf4
 v4:=Tryz.zeroValue4
 t5:=Tryz.underlying5
 a5:=Tryz.isAgg5
 z5:=Tryz.sizeOf5
 v5:=Tryz.zeroValue5
 t9:=Tryz.underlying9
 a9:=Tryz.isAgg9
 z9:=Tryz.sizeOf9
 v9:=Tryz.zeroValue9
 t20:=Tryz.underlying20
 a20:=Tryz.isAgg20
 z20:=Tryz.sizeOf20
 v20:=Tryz.zeroValue20
 t37:=Tryz.underlying187
 a37:=Tryz.isAgg187
 z37:=Tryz.sizeOf187
 v37:=Tryz.zeroValue187
 t46:=Tryz.underlying231
 a46:=Tryz.isAgg231
 z46:=Tryz.sizeOf231
 v46:=Tryz.zeroValue231
 t51:=Tryz.underlying184
 a51:=Tryz.isAgg184
 z51:=Tryz.sizeOf184
 v51:=Tryz.zeroValue184
 t53:=Tryz.underlying204
 a53:=Tryz.isAgg204
 z53:=Tryz.sizeOf204
 v53:=Tryz.zeroValue204
 t70:=Tryz.underlying242
 a70:=Tryz.isAgg242
 z70:=Tryz.sizeOf242
 v70:=Tryz.zeroValue242
 t72:=Tryz.underlying244
 a72:=Tryz.isAgg244
 z72:=Tryz.sizeOf244
 v72:=Tryz.zeroValue244
 t75:=Tryz.underlying239
 a75:=Tryz.isAgg239
 z75:=Tryz.sizeOf239
 v75:=Tryz.zeroValue239
 t76:=Tryz.underlying249
 a76:=Tryz.isAgg249
 z76:=Tryz.sizeOf249
 v76:=Tryz.zeroValue249
 t109:=Tryz.underlying265
 a109:=Tryz.isAgg265
 z109:=Tryz.sizeOf265
 v109:=Tryz.zeroValue265
 t127:=Tryz.underlying268
 a127:=Tryz.isAgg268
 z127:=Tryz.sizeOf268
 v127:=Tryz.zeroValue268
 t146:=Tryz.underlying260
 a146:=Tryz.isAgg260
 z146:=Tryz.sizeOf260
 v146:=Tryz.zeroValue260
 t148:=Tryz.underlying287
 a148:=Tryz.isAgg287
 z148:=Tryz.sizeOf287
 v148:=Tryz.zeroValue287
 t164:=Tryz.underlying284
 a164:=Tryz.isAgg284
 z164:=Tryz.sizeOf284
 v164:=Tryz.zeroValue284 }
theorem Tryz.Builder_Extra_105 : Builder.Extra Tryz.prog Tryz.lays105_ren:={
 sizeBuilder:=by kernel_rfl
 liesBuilder:=by kernel_rfl
 t5:=Tryz.underlying5
 a5:=Tryz.isAgg5
 z5:=Tryz.sizeOf5
 v5:=Tryz.zeroValue5
 infoByte:=by kernel_rfl
 cellsByte:=by kernel_rfl
 sizeByte:=by kernel_rfl
 neB5:=by decide }
open Go.RowKit Go.Lib in
theorem Tryz.strings_Repeat (s : ByteArray) (c : Nat) (w : World) (hc : c≤9223372036854775807) (hlen : s.size * c≤140737488355328) :
  Calls Tryz.prog 215 #[.string s,.int .i64 c] w fun e w'=>e=.returned (.string ⟨(Lib.repeatL s.data.toList c).toArray⟩)∧Below w.heap.size w w':=Any.strings_Repeat Tryz.lays105 Tryz.Builder_Extra_105 s c w hc hlen
end Go.Proofs
