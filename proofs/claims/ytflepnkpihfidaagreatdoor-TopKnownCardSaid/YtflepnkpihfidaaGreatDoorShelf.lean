/-
  DERIVED: THE SHELF's CONTRACTS AT THIS DUMP, IN PLAIN WORDS (tools/lay-plain.mjs out of 'TryzShelf.lean', which tools/lay-shelf.mjs wrote): THE SAME DECLARATIONS UNDER THE SAME NAMES: 'import', 'namespace', 'open', 'def', 'theorem' AND NOTHING ELSE: no command of the shelf's: FOR A HAND-IN. Each laying: the table of numbers ('.._ren') and one theorem, a field a fact of the dump's own or the kernel's comparison; each contract: ONE APPLICATION.
-/
import Derived.Shelf.Strings.SlTrimAscii
import Derived.Shelf.Strings.Builder1
import Derived.Shelf.Strings.Builder2
import Derived.Shelf.Strings.Trim
import Derived.Shelf.Small.Utf8
import Derived.Shelf.Small.Bits
import Derived.Shelf.Small.Strs
import Derived.Shelf.Small.Wraps
import Derived.Shelf.Strings.BuilderF
import Derived.Shelf.Strings.BuilderK
import Derived.Shelf.Strings.Builder2Cap
import Derived.Shelf.Strconv.Itoa0
import Derived.Shelf.Strconv.Itoa1
import Derived.Shelf.LaysM
import Derived.Shelf.Strconv.Itoa2
import Derived.Shelf.Strconv.Itoa3
import Derived.Shelf.Strconv.ParseIntEmpty
import Derived.Shelf.Strconv.Clone
import Derived.Shelf.Strconv.SyntaxError
import Derived.Shelf.LaysC
import Derived.Shelf.Strconv.ToError
import Derived.Shelf.Strconv.Lower
import Derived.Shelf.Strconv.ParseUint10
import Derived.Shelf.Strconv.ParseUint10Empty
import Derived.Shelf.Strconv.ParseUint10Any
import Derived.Shelf.Strconv.ParseInt10
import Derived.Shelf.Strconv.RangeError
import Derived.Shelf.Strconv.ToErrorRange
import Derived.Shelf.Strconv.ParseUintEmpty
import Derived.Shelf.Strconv.ParseUint10b64
import Derived.Shelf.Strconv.ParseUint10b32
import Derived.Shelf.Strconv.ParseUint10b16
import Derived.Shelf.Strconv.ParseUint10b8
import Derived.Shelf.Strconv.ParseUint10At
import Derived.Shelf.Strconv.ParseInt10At64
import Derived.Shelf.Strconv.ParseInt10At32
import Derived.Shelf.Strconv.ParseInt10At16
import Derived.Shelf.Strconv.ParseInt10At8
import Derived.Shelf.Strconv.ParseInt10All
import Derived.Shelf.Strconv.ParseIntPublic10
import Derived.Shelf.Strconv.ErrVarParseInt
import Derived.Shelf.Strings.Search1
import Derived.Shelf.Strings.Search2
import Derived.Shelf.Strings.Search3
import Derived.Shelf.Strings.Cut
import Derived.Shelf.Strings.Shaped
import Derived.Shelf.Strings.Prefix
import Derived.Shelf.Strings.Runes
import Derived.Shelf.Strings.AsciiSet
import Derived.Shelf.Bits.Mul64
import Derived.Shelf.Strings.Repeat
import Derived.Shelf.Unicode.DecodeSlow
import Derived.Shelf.Strings.FieldsFuncAny
import Derived.Shelf.Strings.BuilderCap
import Derived.Shelf.Slices.Turned
import Derived.Shelf.Slices.Equal
import Derived.Shelf.Bytes.SlIndexSmall
import Derived.Shelf.Bytes.SlIndexAt
import Derived.Shelf.Slices.Empties2
import Derived.Shelf.Bytes.SlSearch0
import Derived.Shelf.Bytes.SlSearch1
import Derived.Shelf.Bytes.SlSearch2
import Derived.Shelf.Bytes.SlIndexWhole
import Derived.Ground.SlgcProg
import Derived.Shelf.SlicesG.Cmp
import Derived.Shelf.Bytes.SlSmallAll
import Derived.Shelf.Bytes.Small
import Derived.Shelf.Bytes.IndexByte
import Derived.Test.YtflepnkpihfidaaGreatDoorProg
set_option linter.unusedVariables false
set_option linter.unusedSimpArgs false
namespace Go.Proofs
open Go.Shelf
def Tryz.lays169_ren:Go.Shelf.Ren:=⟨fun | 169=>104 | n=>n,fun | 70=>169 | 9=>9 | 0=>0 | 72=>171 | 37=>30 | 127=>245 | 3=>3 | 5=>5 | n=>n,fun | n=>n⟩
theorem Tryz.lays169:Go.Proofs.Lays.n169 Tryz.prog Tryz.lays169_ren:={
 mixed:=by kernel_rfl
 f169:=Tryz.func104.trans (congrArg some (by kernel_rfl))
 t0:=Tryz.underlying0
 a0:=Tryz.isAgg0
 z0:=Tryz.sizeOf0
 v0:=Tryz.zeroValue0
 t3:=Tryz.underlying3
 a3:=Tryz.isAgg3
 z3:=Tryz.sizeOf3
 v3:=Tryz.zeroValue3
 t9:=Tryz.underlying9
 a9:=Tryz.isAgg9
 z9:=Tryz.sizeOf9
 v9:=Tryz.zeroValue9
 t37:=Tryz.underlying30
 a37:=Tryz.isAgg30
 z37:=Tryz.sizeOf30
 v37:=Tryz.zeroValue30
 t70:=Tryz.underlying169
 a70:=Tryz.isAgg169
 z70:=Tryz.sizeOf169
 v70:=Tryz.zeroValue169
 t72:=Tryz.underlying171
 a72:=Tryz.isAgg171
 z72:=Tryz.sizeOf171
 v72:=Tryz.zeroValue171
 t127:=Tryz.underlying245
 a127:=Tryz.isAgg245
 z127:=Tryz.sizeOf245
 v127:=Tryz.zeroValue245 }
theorem Tryz.Builder_Extra_169:Builder.Extra Tryz.prog Tryz.lays169_ren:={
 sizeBuilder:=by kernel_rfl
 liesBuilder:=by kernel_rfl
 t5:=Tryz.underlying5
 a5:=Tryz.isAgg5
 z5:=Tryz.sizeOf5
 v5:=Tryz.zeroValue5
 infoByte:=by kernel_rfl
 cellsByte:=by kernel_rfl
 sizeByte:=by kernel_rfl
 neB5:=by decide }
open Go.RowKit in
theorem Tryz.Builder_String_any (B b:Nat) (l:List UInt8) (w:World) (h:Lib.IsBuilder 171 5 B b (Lib.byteCells l) w) (hBw:B≤w.heap.size) :
  Calls Tryz.prog 104 #[.pointer (some ⟨b,0,none⟩)] w fun e w'=>e=.returned (.string ⟨l.toArray⟩)∧Below B w w':=Any.Builder_String_any Tryz.lays169 Tryz.Builder_Extra_169 B b l w h hBw
def Tryz.lays165_ren:Go.Shelf.Ren:=⟨fun | 165=>116 | 240=>168 | 241=>194 | 276=>234 | 277=>249 | n=>n,fun | 70=>169 | 3=>3 | 0=>0 | 4=>4 | 9=>9 | 20=>20 | 72=>171 | 37=>30 | 164=>307 | 5=>5 | n=>n,fun | n=>n⟩
theorem Tryz.lays165:Go.Proofs.Lays.n165 Tryz.prog Tryz.lays165_ren:={
 mixed:=by kernel_rfl
 f165:=Tryz.func116.trans (congrArg some (by kernel_rfl))
 f240:=Tryz.func168.trans (congrArg some (by kernel_rfl))
 f241:=Tryz.func194.trans (congrArg some (by kernel_rfl))
 f276:=Tryz.func234.trans (congrArg some (by kernel_rfl))
 f277:=Tryz.func249.trans (congrArg some (by kernel_rfl))
 t0:=Tryz.underlying0
 a0:=Tryz.isAgg0
 z0:=Tryz.sizeOf0
 v0:=Tryz.zeroValue0
 t3:=Tryz.underlying3
 a3:=Tryz.isAgg3
 z3:=Tryz.sizeOf3
 v3:=Tryz.zeroValue3
 t4:=Tryz.underlying4
 a4:=Tryz.isAgg4
 z4:=Tryz.sizeOf4
 v4:=Tryz.zeroValue4
 t9:=Tryz.underlying9
 a9:=Tryz.isAgg9
 z9:=Tryz.sizeOf9
 v9:=Tryz.zeroValue9
 t20:=Tryz.underlying20
 a20:=Tryz.isAgg20
 z20:=Tryz.sizeOf20
 v20:=Tryz.zeroValue20
 t37:=Tryz.underlying30
 a37:=Tryz.isAgg30
 z37:=Tryz.sizeOf30
 v37:=Tryz.zeroValue30
 t70:=Tryz.underlying169
 a70:=Tryz.isAgg169
 z70:=Tryz.sizeOf169
 v70:=Tryz.zeroValue169
 t72:=Tryz.underlying171
 a72:=Tryz.isAgg171
 z72:=Tryz.sizeOf171
 v72:=Tryz.zeroValue171
 t164:=Tryz.underlying307
 a164:=Tryz.isAgg307
 z164:=Tryz.sizeOf307
 v164:=Tryz.zeroValue307 }
theorem Tryz.Builder_Extra_165:Builder.Extra Tryz.prog Tryz.lays165_ren:={
 sizeBuilder:=by kernel_rfl
 liesBuilder:=by kernel_rfl
 t5:=Tryz.underlying5
 a5:=Tryz.isAgg5
 z5:=Tryz.sizeOf5
 v5:=Tryz.zeroValue5
 infoByte:=by kernel_rfl
 cellsByte:=by kernel_rfl
 sizeByte:=by kernel_rfl
 neB5:=by decide }
open Go.RowKit in
theorem Tryz.Builder_Grow_fresh (B b n:Nat) (w:World) (hB:B≤b) (hbk:w.heap[b]?=some (.cells #[.pointer none,.slice none 0 0] 171 (0,0))) (hBw:B≤w.heap.size) (hn:n≤281474976710656) :
  Calls Tryz.prog 116 #[.pointer (some ⟨b,0,none⟩),.int .i64 n] w fun e w'=>e=.returned (.tuple #[])∧(Lib.BuilderAt 171 5 B b (.pointer (some ⟨b,0,none⟩)) [] w'∧Below B w w'):=Any.Builder_Grow_fresh Tryz.lays165 Tryz.Builder_Extra_165 B b n w hB hbk hBw hn
def Tryz.lays160_ren:Go.Shelf.Ren:=⟨fun | 160=>138 | 232=>206 | 231=>205 | 227=>207 | 234=>209 | 233=>208 | 236=>211 | 235=>210 | 228=>256 | 271=>258 | 151=>257 | 197=>255 | 120=>288 | 152=>287 | 260=>286 | 137=>275 | 119=>312 | 224=>182 | 225=>284 | 217=>283 | 266=>310 | n=>n,fun | 9=>9 | 4=>4 | 3=>3 | 5=>5 | 117=>281 | 116=>280 | 0=>0 | 124=>284 | 21=>21 | 105=>323 | 46=>180 | 119=>357 | 139=>360 | 138=>359 | n=>n,fun | 3=>6 | 4=>7 | n=>n⟩
theorem Tryz.lays160:Go.Proofs.Lays.n160 Tryz.prog Tryz.lays160_ren:={
 mixed:=by kernel_rfl
 f119:=Tryz.func312.trans (congrArg some (by kernel_rfl))
 f120:=Tryz.func288.trans (congrArg some (by kernel_rfl))
 f137:=Tryz.func275.trans (congrArg some (by kernel_rfl))
 f151:=Tryz.func257.trans (congrArg some (by kernel_rfl))
 f152:=Tryz.func287.trans (congrArg some (by kernel_rfl))
 f160:=Tryz.func138.trans (congrArg some (by kernel_rfl))
 f197:=Tryz.func255.trans (congrArg some (by kernel_rfl))
 f217:=Tryz.func283.trans (congrArg some (by kernel_rfl))
 f224:=Tryz.func182.trans (congrArg some (by kernel_rfl))
 f225:=Tryz.func284.trans (congrArg some (by kernel_rfl))
 f227:=Tryz.func207.trans (congrArg some (by kernel_rfl))
 f228:=Tryz.func256.trans (congrArg some (by kernel_rfl))
 f231:=Tryz.func205.trans (congrArg some (by kernel_rfl))
 f232:=Tryz.func206.trans (congrArg some (by kernel_rfl))
 f233:=Tryz.func208.trans (congrArg some (by kernel_rfl))
 f234:=Tryz.func209.trans (congrArg some (by kernel_rfl))
 f235:=Tryz.func210.trans (congrArg some (by kernel_rfl))
 f236:=Tryz.func211.trans (congrArg some (by kernel_rfl))
 f260:=Tryz.func286.trans (congrArg some (by kernel_rfl))
 f266:=Tryz.func310.trans (congrArg some (by kernel_rfl))
 f271:=Tryz.func258.trans (congrArg some (by kernel_rfl))
 t0:=Tryz.underlying0
 a0:=Tryz.isAgg0
 z0:=Tryz.sizeOf0
 v0:=Tryz.zeroValue0
 t3:=Tryz.underlying3
 a3:=Tryz.isAgg3
 z3:=Tryz.sizeOf3
 v3:=Tryz.zeroValue3
 t4:=Tryz.underlying4
 a4:=Tryz.isAgg4
 z4:=Tryz.sizeOf4
 v4:=Tryz.zeroValue4
 t5:=Tryz.underlying5
 a5:=Tryz.isAgg5
 z5:=Tryz.sizeOf5
 v5:=Tryz.zeroValue5
 t9:=Tryz.underlying9
 a9:=Tryz.isAgg9
 z9:=Tryz.sizeOf9
 v9:=Tryz.zeroValue9
 t21:=Tryz.underlying21
 a21:=Tryz.isAgg21
 z21:=Tryz.sizeOf21
 v21:=Tryz.zeroValue21
 t46:=Tryz.underlying180
 a46:=Tryz.isAgg180
 z46:=Tryz.sizeOf180
 v46:=Tryz.zeroValue180
 t105:=Tryz.underlying323
 a105:=Tryz.isAgg323
 z105:=Tryz.sizeOf323
 v105:=Tryz.zeroValue323
 t116:=Tryz.underlying280
 a116:=Tryz.isAgg280
 z116:=Tryz.sizeOf280
 t117:=Tryz.underlying281
 a117:=Tryz.isAgg281
 z117:=Tryz.sizeOf281
 v117:=Tryz.zeroValue281
 t119:=Tryz.underlying357
 a119:=Tryz.isAgg357
 z119:=Tryz.sizeOf357
 t124:=Tryz.underlying284
 a124:=Tryz.isAgg284
 z124:=Tryz.sizeOf284
 v124:=Tryz.zeroValue284
 t138:=Tryz.underlying359
 a138:=Tryz.isAgg359
 z138:=Tryz.sizeOf359
 v138:=Tryz.zeroValue359
 t139:=Tryz.underlying360
 a139:=Tryz.isAgg360
 z139:=Tryz.sizeOf360
 v139:=Tryz.zeroValue360
 g3:=by kernel_rfl
 g4:=by kernel_rfl }
def Tryz.lays125_ren:Go.Shelf.Ren:=⟨fun | 125=>106 | 128=>177 | 129=>178 | n=>n,fun | 46=>180 | 3=>3 | 51=>255 | 53=>117 | 4=>4 | 5=>5 | 9=>9 | n=>n,fun | n=>n⟩
theorem Tryz.lays125:Go.Proofs.Lays.n125 Tryz.prog Tryz.lays125_ren:={
 mixed:=by kernel_rfl
 f125:=Tryz.func106.trans (congrArg some (by kernel_rfl))
 f128:=Tryz.func177.trans (congrArg some (by kernel_rfl))
 f129:=Tryz.func178.trans (congrArg some (by kernel_rfl))
 t3:=Tryz.underlying3
 a3:=Tryz.isAgg3
 z3:=Tryz.sizeOf3
 v3:=Tryz.zeroValue3
 t4:=Tryz.underlying4
 a4:=Tryz.isAgg4
 z4:=Tryz.sizeOf4
 v4:=Tryz.zeroValue4
 t5:=Tryz.underlying5
 a5:=Tryz.isAgg5
 z5:=Tryz.sizeOf5
 v5:=Tryz.zeroValue5
 t9:=Tryz.underlying9
 a9:=Tryz.isAgg9
 z9:=Tryz.sizeOf9
 v9:=Tryz.zeroValue9
 t46:=Tryz.underlying180
 a46:=Tryz.isAgg180
 z46:=Tryz.sizeOf180
 v46:=Tryz.zeroValue180
 t51:=Tryz.underlying255
 a51:=Tryz.isAgg255
 z51:=Tryz.sizeOf255
 v51:=Tryz.zeroValue255
 t53:=Tryz.underlying117
 a53:=Tryz.isAgg117
 z53:=Tryz.sizeOf117
 v53:=Tryz.zeroValue117 }
theorem Tryz.bits_Len (x:Int) (w:World) (h0:0≤x) (h1:x≤18446744073709551615) :
  Calls Tryz.prog 106 #[.int .u64 x] w fun e w'=>e=.returned (.int .i64 (Lib.bitLen x.toNat))∧w'=w:=Any.bits_Len Tryz.lays125 x w h0 h1
def Tryz.lays137_ren:Go.Shelf.Ren:=⟨fun | 137=>275 | 217=>283 | 266=>310 | n=>n,fun | 9=>9 | 5=>5 | 3=>3 | n=>n,fun | n=>n⟩
theorem Tryz.lays137:Go.Proofs.Lays.n137 Tryz.prog Tryz.lays137_ren:={
 mixed:=by kernel_rfl
 f137:=Tryz.func275.trans (congrArg some (by kernel_rfl))
 f217:=Tryz.func283.trans (congrArg some (by kernel_rfl))
 f266:=Tryz.func310.trans (congrArg some (by kernel_rfl))
 t3:=Tryz.underlying3
 a3:=Tryz.isAgg3
 z3:=Tryz.sizeOf3
 v3:=Tryz.zeroValue3
 t5:=Tryz.underlying5
 a5:=Tryz.isAgg5
 z5:=Tryz.sizeOf5
 v5:=Tryz.zeroValue5
 t9:=Tryz.underlying9
 a9:=Tryz.isAgg9
 z9:=Tryz.sizeOf9
 v9:=Tryz.zeroValue9 }
open Go.RowKit in
theorem Tryz.strings_IndexByte (s:ByteArray) (c:Int) (w:World) :
  Calls Tryz.prog 275 #[.string s,.int .u8 c] w fun e w'=>e=.returned (.int .i64 (Lib.indexByte s.data.toList c.toNat.toUInt8))∧w'=w:=Any.strings_IndexByte Tryz.lays137 s c w
def Tryz.lays104_ren:Go.Shelf.Ren:=⟨fun | 104=>131 | 211=>200 | 207=>252 | n=>n,fun | 9=>9 | 4=>4 | 24=>133 | 3=>3 | n=>n,fun | n=>n⟩
theorem Tryz.lays104:Go.Proofs.Lays.n104 Tryz.prog Tryz.lays104_ren:={
 mixed:=by kernel_rfl
 f104:=Tryz.func131.trans (congrArg some (by kernel_rfl))
 f207:=Tryz.func252.trans (congrArg some (by kernel_rfl))
 f211:=Tryz.func200.trans (congrArg some (by kernel_rfl))
 t3:=Tryz.underlying3
 a3:=Tryz.isAgg3
 z3:=Tryz.sizeOf3
 v3:=Tryz.zeroValue3
 t4:=Tryz.underlying4
 a4:=Tryz.isAgg4
 z4:=Tryz.sizeOf4
 v4:=Tryz.zeroValue4
 t9:=Tryz.underlying9
 a9:=Tryz.isAgg9
 z9:=Tryz.sizeOf9
 v9:=Tryz.zeroValue9
 t24:=Tryz.underlying133
 a24:=Tryz.isAgg133
 z24:=Tryz.sizeOf133
 v24:=Tryz.zeroValue133 }
open Go.RowKit in
theorem Tryz.strings_CutSuffix (s p:ByteArray) (w:World) (hs:s.size≤9223372036854775807) :
  Calls Tryz.prog 131 #[.string s,.string p] w fun e w'=>e=.returned (.tuple #[.string ⟨(Lib.trimSuffix s.data.toList p.data.toList).toArray⟩,.bool (Lib.hasSuffix s.data.toList p.data.toList)])∧w'=w:=Any.strings_CutSuffix Tryz.lays104 s p w hs
def Tryz.lays122_ren:Go.Shelf.Ren:=⟨fun | 122=>219 | 215=>261 | n=>n,fun | 3=>3 | 4=>4 | n=>n,fun | n=>n⟩
theorem Tryz.lays122:Go.Proofs.Lays.n122 Tryz.prog Tryz.lays122_ren:={
 mixed:=by kernel_rfl
 f122:=Tryz.func219.trans (congrArg some (by kernel_rfl))
 f215:=Tryz.func261.trans (congrArg some (by kernel_rfl))
 t3:=Tryz.underlying3
 a3:=Tryz.isAgg3
 z3:=Tryz.sizeOf3
 v3:=Tryz.zeroValue3
 t4:=Tryz.underlying4
 a4:=Tryz.isAgg4
 z4:=Tryz.sizeOf4
 v4:=Tryz.zeroValue4 }
open Go.RowKit in
theorem Tryz.cmp_Compare_int (x y:Int) (w:World) :
  Calls Tryz.prog 219 #[.int .i64 x,.int .i64 y] w fun e w'=>e=.returned (.int .i64 (Lib.compareInt x y))∧w'=w:=Any.cmp_Compare_int Tryz.lays122 x y w
def Tryz.laysM246_ren:Go.Shelf.Ren:=⟨fun | 246=>195 | 283=>187 | 284=>188 | 285=>189 | 286=>190 | 129=>178 | 317=>245 | 318=>246 | 319=>247 | 320=>248 | 337=>281 | 338=>282 | n=>n,fun | 2=>2 | 3=>3 | 9=>9 | 4=>4 | 171=>262 | 0=>0 | 53=>117 | 37=>30 | 5=>5 | 173=>264 | 212=>318 | 51=>255 | 20=>20 | 213=>319 | 46=>180 | 232=>354 | 233=>355 | n=>n,fun | 17=>1 | 18=>4 | 19=>5 | n=>n⟩
theorem Tryz.laysM246:Go.Proofs.LaysM.n246 Tryz.prog Tryz.laysM246_ren:={
 mixed:=by kernel_rfl
 f129:=Tryz.func178.trans (congrArg some (by kernel_rfl))
 f246:=Tryz.func195.trans (congrArg some (by kernel_rfl))
 f283:=Tryz.func187.trans (congrArg some (by kernel_rfl))
 f284:=Tryz.func188.trans (congrArg some (by kernel_rfl))
 f285:=Tryz.func189.trans (congrArg some (by kernel_rfl))
 f286:=Tryz.func190.trans (congrArg some (by kernel_rfl))
 f317:=Tryz.func245.trans (congrArg some (by kernel_rfl))
 f318:=Tryz.func246.trans (congrArg some (by kernel_rfl))
 f319:=Tryz.func247.trans (congrArg some (by kernel_rfl))
 f320:=Tryz.func248.trans (congrArg some (by kernel_rfl))
 f337:=Tryz.func281.trans (congrArg some (by kernel_rfl))
 f338:=Tryz.func282.trans (congrArg some (by kernel_rfl))
 t0:=Tryz.underlying0
 a0:=Tryz.isAgg0
 z0:=Tryz.sizeOf0
 v0:=Tryz.zeroValue0
 t2:=Tryz.underlying2
 a2:=Tryz.isAgg2
 z2:=Tryz.sizeOf2
 v2:=Tryz.zeroValue2
 t3:=Tryz.underlying3
 a3:=Tryz.isAgg3
 z3:=Tryz.sizeOf3
 v3:=Tryz.zeroValue3
 t4:=Tryz.underlying4
 a4:=Tryz.isAgg4
 z4:=Tryz.sizeOf4
 v4:=Tryz.zeroValue4
 t5:=Tryz.underlying5
 a5:=Tryz.isAgg5
 z5:=Tryz.sizeOf5
 v5:=Tryz.zeroValue5
 t9:=Tryz.underlying9
 a9:=Tryz.isAgg9
 z9:=Tryz.sizeOf9
 v9:=Tryz.zeroValue9
 t20:=Tryz.underlying20
 a20:=Tryz.isAgg20
 z20:=Tryz.sizeOf20
 v20:=Tryz.zeroValue20
 t37:=Tryz.underlying30
 a37:=Tryz.isAgg30
 z37:=Tryz.sizeOf30
 v37:=Tryz.zeroValue30
 t46:=Tryz.underlying180
 a46:=Tryz.isAgg180
 z46:=Tryz.sizeOf180
 v46:=Tryz.zeroValue180
 t51:=Tryz.underlying255
 a51:=Tryz.isAgg255
 z51:=Tryz.sizeOf255
 v51:=Tryz.zeroValue255
 t53:=Tryz.underlying117
 a53:=Tryz.isAgg117
 z53:=Tryz.sizeOf117
 v53:=Tryz.zeroValue117
 t171:=Tryz.underlying262
 a171:=Tryz.isAgg262
 z171:=Tryz.sizeOf262
 v171:=Tryz.zeroValue262
 t173:=Tryz.underlying264
 a173:=Tryz.isAgg264
 z173:=Tryz.sizeOf264
 v173:=Tryz.zeroValue264
 t212:=Tryz.underlying318
 a212:=Tryz.isAgg318
 z212:=Tryz.sizeOf318
 v212:=Tryz.zeroValue318
 t213:=Tryz.underlying319
 a213:=Tryz.isAgg319
 z213:=Tryz.sizeOf319
 t232:=Tryz.underlying354
 a232:=Tryz.isAgg354
 z232:=Tryz.sizeOf354
 v232:=Tryz.zeroValue354
 t233:=Tryz.underlying355
 a233:=Tryz.isAgg355
 z233:=Tryz.sizeOf355
 v233:=Tryz.zeroValue355
 g17:=by kernel_rfl
 g18:=by kernel_rfl
 g19:=by kernel_rfl
 i0:=by kernel_rfl
 i2:=by kernel_rfl
 i3:=by kernel_rfl
 i4:=by kernel_rfl
 i5:=by kernel_rfl
 i9:=by kernel_rfl
 i20:=by kernel_rfl
 i37:=by kernel_rfl
 i46:=by kernel_rfl
 i51:=by kernel_rfl
 i53:=by kernel_rfl
 i171:=by kernel_rfl
 i173:=by kernel_rfl
 i212:=by kernel_rfl
 i232:=by kernel_rfl
 i233:=by kernel_rfl
 m17:=by kernel_rfl
 m18:=by kernel_rfl
 m19:=by kernel_rfl }
open Go.RowKit Go.Sort Go.Lib in
theorem Tryz.internal_strconv_FormatInt_10 (n : Int) (h0 : -9223372036854775808 ≤ n) (h1 : n ≤ 9223372036854775807) (w : World) (htab : Lib.TabIs Tryz.prog w "internal/strconv.uint64pow10" .u64 Lib.pow10Tab) :
  Calls Tryz.prog 195 #[.int .i64 n,.int .i64 10] w fun e w'=>e=.returned (.string ⟨(Lib.itoa n).toArray⟩)∧∃k os,w'=grow (w.drewN k) os:=Any.internal_strconv_FormatInt_10 Tryz.laysM246 n h0 h1 w htab
def Tryz.laysM171_ren:Go.Shelf.Ren:=⟨fun | 171=>125 | 243=>198 | 246=>195 | 283=>187 | 284=>188 | 285=>189 | 286=>190 | 129=>178 | 317=>245 | 318=>246 | 319=>247 | 320=>248 | 337=>281 | 338=>282 | n=>n,fun | 3=>3 | 9=>9 | 2=>2 | 4=>4 | 171=>262 | 0=>0 | 53=>117 | 37=>30 | 5=>5 | 173=>264 | 212=>318 | 51=>255 | 20=>20 | 213=>319 | 46=>180 | 232=>354 | 233=>355 | n=>n,fun | 17=>1 | 18=>4 | 19=>5 | n=>n⟩
theorem Tryz.laysM171:Go.Proofs.LaysM.n171 Tryz.prog Tryz.laysM171_ren:={
 mixed:=by kernel_rfl
 f129:=Tryz.func178.trans (congrArg some (by kernel_rfl))
 f171:=Tryz.func125.trans (congrArg some (by kernel_rfl))
 f243:=Tryz.func198.trans (congrArg some (by kernel_rfl))
 f246:=Tryz.func195.trans (congrArg some (by kernel_rfl))
 f283:=Tryz.func187.trans (congrArg some (by kernel_rfl))
 f284:=Tryz.func188.trans (congrArg some (by kernel_rfl))
 f285:=Tryz.func189.trans (congrArg some (by kernel_rfl))
 f286:=Tryz.func190.trans (congrArg some (by kernel_rfl))
 f317:=Tryz.func245.trans (congrArg some (by kernel_rfl))
 f318:=Tryz.func246.trans (congrArg some (by kernel_rfl))
 f319:=Tryz.func247.trans (congrArg some (by kernel_rfl))
 f320:=Tryz.func248.trans (congrArg some (by kernel_rfl))
 f337:=Tryz.func281.trans (congrArg some (by kernel_rfl))
 f338:=Tryz.func282.trans (congrArg some (by kernel_rfl))
 t0:=Tryz.underlying0
 a0:=Tryz.isAgg0
 z0:=Tryz.sizeOf0
 v0:=Tryz.zeroValue0
 t2:=Tryz.underlying2
 a2:=Tryz.isAgg2
 z2:=Tryz.sizeOf2
 v2:=Tryz.zeroValue2
 t3:=Tryz.underlying3
 a3:=Tryz.isAgg3
 z3:=Tryz.sizeOf3
 v3:=Tryz.zeroValue3
 t4:=Tryz.underlying4
 a4:=Tryz.isAgg4
 z4:=Tryz.sizeOf4
 v4:=Tryz.zeroValue4
 t5:=Tryz.underlying5
 a5:=Tryz.isAgg5
 z5:=Tryz.sizeOf5
 v5:=Tryz.zeroValue5
 t9:=Tryz.underlying9
 a9:=Tryz.isAgg9
 z9:=Tryz.sizeOf9
 v9:=Tryz.zeroValue9
 t20:=Tryz.underlying20
 a20:=Tryz.isAgg20
 z20:=Tryz.sizeOf20
 v20:=Tryz.zeroValue20
 t37:=Tryz.underlying30
 a37:=Tryz.isAgg30
 z37:=Tryz.sizeOf30
 v37:=Tryz.zeroValue30
 t46:=Tryz.underlying180
 a46:=Tryz.isAgg180
 z46:=Tryz.sizeOf180
 v46:=Tryz.zeroValue180
 t51:=Tryz.underlying255
 a51:=Tryz.isAgg255
 z51:=Tryz.sizeOf255
 v51:=Tryz.zeroValue255
 t53:=Tryz.underlying117
 a53:=Tryz.isAgg117
 z53:=Tryz.sizeOf117
 v53:=Tryz.zeroValue117
 t171:=Tryz.underlying262
 a171:=Tryz.isAgg262
 z171:=Tryz.sizeOf262
 v171:=Tryz.zeroValue262
 t173:=Tryz.underlying264
 a173:=Tryz.isAgg264
 z173:=Tryz.sizeOf264
 v173:=Tryz.zeroValue264
 t212:=Tryz.underlying318
 a212:=Tryz.isAgg318
 z212:=Tryz.sizeOf318
 v212:=Tryz.zeroValue318
 t213:=Tryz.underlying319
 a213:=Tryz.isAgg319
 z213:=Tryz.sizeOf319
 t232:=Tryz.underlying354
 a232:=Tryz.isAgg354
 z232:=Tryz.sizeOf354
 v232:=Tryz.zeroValue354
 t233:=Tryz.underlying355
 a233:=Tryz.isAgg355
 z233:=Tryz.sizeOf355
 v233:=Tryz.zeroValue355
 g17:=by kernel_rfl
 g18:=by kernel_rfl
 g19:=by kernel_rfl
 i0:=by kernel_rfl
 i2:=by kernel_rfl
 i3:=by kernel_rfl
 i4:=by kernel_rfl
 i5:=by kernel_rfl
 i9:=by kernel_rfl
 i20:=by kernel_rfl
 i37:=by kernel_rfl
 i46:=by kernel_rfl
 i51:=by kernel_rfl
 i53:=by kernel_rfl
 i171:=by kernel_rfl
 i173:=by kernel_rfl
 i212:=by kernel_rfl
 i232:=by kernel_rfl
 i233:=by kernel_rfl
 m17:=by kernel_rfl
 m18:=by kernel_rfl
 m19:=by kernel_rfl }
open Go.RowKit Go.Sort Go.Lib in
theorem Tryz.strconv_Itoa (n : Int) (h0 : -9223372036854775808 ≤ n) (h1 : n ≤ 9223372036854775807) (w : World) (htab : Lib.TabIs Tryz.prog w "internal/strconv.uint64pow10" .u64 Lib.pow10Tab) :
  Calls Tryz.prog 125 #[.int .i64 n] w fun e w'=>e=.returned (.string ⟨(Lib.itoa n).toArray⟩)∧∃k os,w'=grow (w.drewN k) os:=Any.strconv_Itoa Tryz.laysM171 n h0 h1 w htab
def Tryz.lays143_ren:Go.Shelf.Ren:=⟨fun | 143=>253 | 219=>251 | 217=>283 | 225=>284 | 224=>182 | 267=>285 | 266=>310 | 314=>311 | n=>n,fun | 9=>9 | 3=>3 | 4=>4 | 5=>5 | 46=>180 | 146=>266 | 51=>255 | n=>n,fun | 1=>0 | n=>n⟩
theorem Tryz.lays143:Go.Proofs.Lays.n143 Tryz.prog Tryz.lays143_ren:={
 mixed:=by kernel_rfl
 f143:=Tryz.func253.trans (congrArg some (by kernel_rfl))
 f217:=Tryz.func283.trans (congrArg some (by kernel_rfl))
 f219:=Tryz.func251.trans (congrArg some (by kernel_rfl))
 f224:=Tryz.func182.trans (congrArg some (by kernel_rfl))
 f225:=Tryz.func284.trans (congrArg some (by kernel_rfl))
 f266:=Tryz.func310.trans (congrArg some (by kernel_rfl))
 f267:=Tryz.func285.trans (congrArg some (by kernel_rfl))
 f314:=Tryz.func311.trans (congrArg some (by kernel_rfl))
 t3:=Tryz.underlying3
 a3:=Tryz.isAgg3
 z3:=Tryz.sizeOf3
 v3:=Tryz.zeroValue3
 t4:=Tryz.underlying4
 a4:=Tryz.isAgg4
 z4:=Tryz.sizeOf4
 v4:=Tryz.zeroValue4
 t5:=Tryz.underlying5
 a5:=Tryz.isAgg5
 z5:=Tryz.sizeOf5
 v5:=Tryz.zeroValue5
 t9:=Tryz.underlying9
 a9:=Tryz.isAgg9
 z9:=Tryz.sizeOf9
 v9:=Tryz.zeroValue9
 t46:=Tryz.underlying180
 a46:=Tryz.isAgg180
 z46:=Tryz.sizeOf180
 v46:=Tryz.zeroValue180
 t51:=Tryz.underlying255
 a51:=Tryz.isAgg255
 z51:=Tryz.sizeOf255
 v51:=Tryz.zeroValue255
 t146:=Tryz.underlying266
 a146:=Tryz.isAgg266
 z146:=Tryz.sizeOf266
 v146:=Tryz.zeroValue266
 g1:=by kernel_rfl }
open Go.RowKit Go.Lib in
theorem Tryz.strings_Index_one (s:ByteArray) (c:UInt8) (w:World) :
  Calls Tryz.prog 253 #[.string s,.string ⟨#[c]⟩] w fun e w'=>e=.returned (.int .i64 (Lib.indexByte s.data.toList c))∧w'=w:=Any.strings_Index_one Tryz.lays143 s c w
open Go.RowKit Go.Lib in
theorem Tryz.strings_Index (s sub:ByteArray) (m:Int) (w:World) (hs:s.size < 4294967281) (hm:w.cell? ⟨0,0,none⟩=some (.int .i64 m)) :
  Calls Tryz.prog 253 #[.string s,.string sub] w fun e w'=>e=.returned (.int .i64 (Lib.index s.data.toList sub.data.toList))∧w'=w:=Any.strings_Index Tryz.lays143 s sub m w hs hm
def Tryz.lays145_ren:Go.Shelf.Ren:=⟨fun | 145=>130 | 220=>199 | 219=>251 | 217=>283 | 225=>284 | 224=>182 | 267=>285 | 266=>310 | 314=>311 | n=>n,fun | 9=>9 | 4=>4 | 59=>203 | 3=>3 | 5=>5 | 46=>180 | 146=>266 | 51=>255 | n=>n,fun | 1=>0 | n=>n⟩
theorem Tryz.lays145:Go.Proofs.Lays.n145 Tryz.prog Tryz.lays145_ren:={
 mixed:=by kernel_rfl
 f145:=Tryz.func130.trans (congrArg some (by kernel_rfl))
 f217:=Tryz.func283.trans (congrArg some (by kernel_rfl))
 f219:=Tryz.func251.trans (congrArg some (by kernel_rfl))
 f220:=Tryz.func199.trans (congrArg some (by kernel_rfl))
 f224:=Tryz.func182.trans (congrArg some (by kernel_rfl))
 f225:=Tryz.func284.trans (congrArg some (by kernel_rfl))
 f266:=Tryz.func310.trans (congrArg some (by kernel_rfl))
 f267:=Tryz.func285.trans (congrArg some (by kernel_rfl))
 f314:=Tryz.func311.trans (congrArg some (by kernel_rfl))
 t3:=Tryz.underlying3
 a3:=Tryz.isAgg3
 z3:=Tryz.sizeOf3
 v3:=Tryz.zeroValue3
 t4:=Tryz.underlying4
 a4:=Tryz.isAgg4
 z4:=Tryz.sizeOf4
 v4:=Tryz.zeroValue4
 t5:=Tryz.underlying5
 a5:=Tryz.isAgg5
 z5:=Tryz.sizeOf5
 v5:=Tryz.zeroValue5
 t9:=Tryz.underlying9
 a9:=Tryz.isAgg9
 z9:=Tryz.sizeOf9
 v9:=Tryz.zeroValue9
 t46:=Tryz.underlying180
 a46:=Tryz.isAgg180
 z46:=Tryz.sizeOf180
 v46:=Tryz.zeroValue180
 t51:=Tryz.underlying255
 a51:=Tryz.isAgg255
 z51:=Tryz.sizeOf255
 v51:=Tryz.zeroValue255
 t59:=Tryz.underlying203
 a59:=Tryz.isAgg203
 z59:=Tryz.sizeOf203
 v59:=Tryz.zeroValue203
 t146:=Tryz.underlying266
 a146:=Tryz.isAgg266
 z146:=Tryz.sizeOf266
 v146:=Tryz.zeroValue266
 g1:=by kernel_rfl }
open Go.RowKit Go.Lib in
theorem Tryz.strings_Cut (s sep:ByteArray) (m:Int) (w:World) (hs:s.size < 4294967281) (hm:w.cell? ⟨0,0,none⟩=some (.int .i64 m)) :
  Calls Tryz.prog 130 #[.string s,.string sep] w fun e w'=>e=.returned (.tuple #[.string ⟨(Lib.cut s.data.toList sep.data.toList).1.toArray⟩,.string ⟨(Lib.cut s.data.toList sep.data.toList).2.1.toArray⟩,.bool (Lib.cut s.data.toList sep.data.toList).2.2])∧∃n,w'=w.drewN n:=Any.strings_Cut Tryz.lays145 s sep m w hs hm
def Tryz.lays99_ren:Go.Shelf.Ren:=⟨fun | 99=>115 | 206=>193 | n=>n,fun | 9=>9 | 4=>4 | 3=>3 | n=>n,fun | n=>n⟩
theorem Tryz.lays99:Go.Proofs.Lays.n99 Tryz.prog Tryz.lays99_ren:={
 mixed:=by kernel_rfl
 f99:=Tryz.func115.trans (congrArg some (by kernel_rfl))
 f206:=Tryz.func193.trans (congrArg some (by kernel_rfl))
 t3:=Tryz.underlying3
 a3:=Tryz.isAgg3
 z3:=Tryz.sizeOf3
 v3:=Tryz.zeroValue3
 t4:=Tryz.underlying4
 a4:=Tryz.isAgg4
 z4:=Tryz.sizeOf4
 v4:=Tryz.zeroValue4
 t9:=Tryz.underlying9
 a9:=Tryz.isAgg9
 z9:=Tryz.sizeOf9
 v9:=Tryz.zeroValue9 }
open Go.RowKit Go.Lib in
theorem Tryz.strings_HasPrefix (s p:ByteArray) (w:World) :
  Calls Tryz.prog 115 #[.string s,.string p] w fun e w'=>e=.returned (.bool (Lib.hasPrefix s.data.toList p.data.toList))∧w'=w:=Any.strings_HasPrefix Tryz.lays99 s p w
def Tryz.lays229_ren:Go.Shelf.Ren:=⟨fun | 229=>80 | n=>n,fun | 9=>9 | 40=>154 | 31=>64 | 152=>233 | 3=>3 | 0=>0 | 4=>4 | 21=>21 | 154=>235 | n=>n,fun | n=>n⟩
theorem Tryz.lays229:Go.Proofs.Lays.n229 Tryz.prog Tryz.lays229_ren:={
 mixed:=by kernel_rfl
 f229:=Tryz.func80.trans (congrArg some (by kernel_rfl))
 t0:=Tryz.underlying0
 a0:=Tryz.isAgg0
 z0:=Tryz.sizeOf0
 v0:=Tryz.zeroValue0
 t3:=Tryz.underlying3
 a3:=Tryz.isAgg3
 z3:=Tryz.sizeOf3
 v3:=Tryz.zeroValue3
 t4:=Tryz.underlying4
 a4:=Tryz.isAgg4
 z4:=Tryz.sizeOf4
 v4:=Tryz.zeroValue4
 t9:=Tryz.underlying9
 a9:=Tryz.isAgg9
 z9:=Tryz.sizeOf9
 v9:=Tryz.zeroValue9
 t21:=Tryz.underlying21
 a21:=Tryz.isAgg21
 z21:=Tryz.sizeOf21
 v21:=Tryz.zeroValue21
 t31:=Tryz.underlying64
 a31:=Tryz.isAgg64
 z31:=Tryz.sizeOf64
 v31:=Tryz.zeroValue64
 t40:=Tryz.underlying154
 a40:=Tryz.isAgg154
 z40:=Tryz.sizeOf154
 v40:=Tryz.zeroValue154
 t152:=Tryz.underlying233
 a152:=Tryz.isAgg233
 z152:=Tryz.sizeOf233
 v152:=Tryz.zeroValue233
 t154:=Tryz.underlying235
 a154:=Tryz.isAgg235
 z154:=Tryz.sizeOf235
 v154:=Tryz.zeroValue235 }
open Go.RowKit Go.Lib in
theorem Tryz.strings_FieldsFunc_runes (g:Nat) (lb:Array Value) (eg:∀args w,(callFunc g args).run Tryz.prog w=.ok (.enter g args) w) (p:Nat→Bool) (s:ByteArray) (w:World) (hs:s.size≤4294967296) (hp:PredAtRunes Tryz.prog g lb p w) :
  Calls Tryz.prog 80 #[.string s,.func (.func g) #[] lb] w fun e w'=>∃A,e=.returned (.slice (some ⟨A,0,none⟩) (Lib.goFieldsP p s).length (Lib.goFieldsP p s).length)∧w.heap.size≤A∧
   w'.ownsRow w.heap.size 9 1 (.slice (some ⟨A,0,none⟩) (Lib.goFieldsP p s).length (Lib.goFieldsP p s).length) (Lib.goFieldsP p s).length ((Lib.goFieldsP p s).map Value.string)∧Below w.heap.size w w':=Any.strings_FieldsFunc_runes Tryz.lays229 g lb eg p s w hs hp (by kernel_rfl) (by kernel_rfl)
def Tryz.lays110_ren:Go.Shelf.Ren:=⟨fun | 110=>60 | 109=>118 | n=>n,fun | 31=>64 | 9=>9 | 4=>4 | 3=>3 | 0=>0 | n=>n,fun | n=>n⟩
theorem Tryz.lays110:Go.Proofs.Lays.n110 Tryz.prog Tryz.lays110_ren:={
 mixed:=by kernel_rfl
 f109:=Tryz.func118.trans (congrArg some (by kernel_rfl))
 f110:=Tryz.func60.trans (congrArg some (by kernel_rfl))
 t0:=Tryz.underlying0
 a0:=Tryz.isAgg0
 z0:=Tryz.sizeOf0
 v0:=Tryz.zeroValue0
 t3:=Tryz.underlying3
 a3:=Tryz.isAgg3
 z3:=Tryz.sizeOf3
 v3:=Tryz.zeroValue3
 t4:=Tryz.underlying4
 a4:=Tryz.isAgg4
 z4:=Tryz.sizeOf4
 v4:=Tryz.zeroValue4
 t9:=Tryz.underlying9
 a9:=Tryz.isAgg9
 z9:=Tryz.sizeOf9
 v9:=Tryz.zeroValue9
 t31:=Tryz.underlying64
 a31:=Tryz.isAgg64
 z31:=Tryz.sizeOf64
 v31:=Tryz.zeroValue64 }
open Go.Lib in
theorem Tryz.slices_Contains_string (b off n c:Nat) (zs:List ByteArray) (x:ByteArray) (w:World) (hz:n≤zs.length) (hbig:n≤9223372036854775807) (hc:∀j,j < zs.length→w.cell? ⟨b,off+j,none⟩=some (.string (zs.getD j ByteArray.empty))) :
  Calls Tryz.prog 60 #[.slice (some ⟨b,off,none⟩) n c,.string x] w fun e w'=>e=.returned (.bool (Lib.containsS (zs.take n) x))∧w'=w:=Any.slices_Contains_string Tryz.lays110 b off n c zs x w hz hbig hc
def Tryz.lays193_ren:Go.Shelf.Ren:=⟨fun | 193=>83 | n=>n,fun | 31=>64 | 9=>9 | 4=>4 | 3=>3 | 0=>0 | n=>n,fun | n=>n⟩
theorem Tryz.lays193:Go.Proofs.Lays.n193 Tryz.prog Tryz.lays193_ren:={
 mixed:=by kernel_rfl
 f193:=Tryz.func83.trans (congrArg some (by kernel_rfl))
 t0:=Tryz.underlying0
 a0:=Tryz.isAgg0
 z0:=Tryz.sizeOf0
 v0:=Tryz.zeroValue0
 t3:=Tryz.underlying3
 a3:=Tryz.isAgg3
 z3:=Tryz.sizeOf3
 v3:=Tryz.zeroValue3
 t4:=Tryz.underlying4
 a4:=Tryz.isAgg4
 z4:=Tryz.sizeOf4
 v4:=Tryz.zeroValue4
 t9:=Tryz.underlying9
 a9:=Tryz.isAgg9
 z9:=Tryz.sizeOf9
 v9:=Tryz.zeroValue9
 t31:=Tryz.underlying64
 a31:=Tryz.isAgg64
 z31:=Tryz.sizeOf64
 v31:=Tryz.zeroValue64 }
open Go.RowKit Go.Lib in
theorem Tryz.slices_Equal_string (b1 o1 n c b2 o2 m d:Nat) (xs ys:List ByteArray) (w:World) (hx:n≤xs.length) (hy:m≤ys.length) (hbig:n≤9223372036854775807) (hbig2:m≤9223372036854775807) (hc1:∀j,j < xs.length→w.cell? ⟨b1,o1+j,none⟩=some (.string (xs.getD j ByteArray.empty))) (hc2:∀j,j < ys.length→w.cell? ⟨b2,o2+j,none⟩=some (.string (ys.getD j ByteArray.empty))) :
  Calls Tryz.prog 83 #[.slice (some ⟨b1,o1,none⟩) n c,.slice (some ⟨b2,o2,none⟩) m d] w fun e w'=>e=.returned (.bool (decide (xs.take n=ys.take m)))∧∃q,w'=w.drewN q:=Any.slices_Equal_string Tryz.lays193 b1 o1 n c b2 o2 m d xs ys w hx hy hbig hbig2 hc1 hc2
open Go.RowKit Go.Lib in
theorem Tryz.slices_Equal_string_empty (a1 a2:Option Addr) (c m d:Nat) (w:World) (hbig2:m≤9223372036854775807) :
  Calls Tryz.prog 83 #[.slice a1 0 c,.slice a2 m d] w fun e w'=>e=.returned (.bool (decide (m=0)))∧w'=w:=Any.slices_Equal_string_empty Tryz.lays193 a1 a2 c m d w hbig2
def Tryz.lays185_ren:Go.Shelf.Ren:=⟨fun | 185=>109 | 187=>179 | 115=>180 | 253=>181 | 224=>182 | 254=>183 | 255=>240 | 291=>241 | n=>n,fun | 37=>30 | 3=>3 | 4=>4 | 0=>0 | 5=>5 | 46=>180 | 9=>9 | 146=>266 | 51=>255 | n=>n,fun | 1=>0 | n=>n⟩
theorem Tryz.lays185:Go.Proofs.Lays.n185 Tryz.prog Tryz.lays185_ren:={
 mixed:=by kernel_rfl
 f115:=Tryz.func180.trans (congrArg some (by kernel_rfl))
 f185:=Tryz.func109.trans (congrArg some (by kernel_rfl))
 f187:=Tryz.func179.trans (congrArg some (by kernel_rfl))
 f224:=Tryz.func182.trans (congrArg some (by kernel_rfl))
 f253:=Tryz.func181.trans (congrArg some (by kernel_rfl))
 f254:=Tryz.func183.trans (congrArg some (by kernel_rfl))
 f255:=Tryz.func240.trans (congrArg some (by kernel_rfl))
 f291:=Tryz.func241.trans (congrArg some (by kernel_rfl))
 t0:=Tryz.underlying0
 a0:=Tryz.isAgg0
 z0:=Tryz.sizeOf0
 v0:=Tryz.zeroValue0
 t3:=Tryz.underlying3
 a3:=Tryz.isAgg3
 z3:=Tryz.sizeOf3
 v3:=Tryz.zeroValue3
 t4:=Tryz.underlying4
 a4:=Tryz.isAgg4
 z4:=Tryz.sizeOf4
 v4:=Tryz.zeroValue4
 t5:=Tryz.underlying5
 a5:=Tryz.isAgg5
 z5:=Tryz.sizeOf5
 v5:=Tryz.zeroValue5
 t9:=Tryz.underlying9
 a9:=Tryz.isAgg9
 z9:=Tryz.sizeOf9
 v9:=Tryz.zeroValue9
 t37:=Tryz.underlying30
 a37:=Tryz.isAgg30
 z37:=Tryz.sizeOf30
 v37:=Tryz.zeroValue30
 t46:=Tryz.underlying180
 a46:=Tryz.isAgg180
 z46:=Tryz.sizeOf180
 v46:=Tryz.zeroValue180
 t51:=Tryz.underlying255
 a51:=Tryz.isAgg255
 z51:=Tryz.sizeOf255
 v51:=Tryz.zeroValue255
 t146:=Tryz.underlying266
 a146:=Tryz.isAgg266
 z146:=Tryz.sizeOf266
 v146:=Tryz.zeroValue266
 g1:=by kernel_rfl }
open Go.RowKit Go.Lib in
theorem Tryz.bytes_Index_longer (p q:Option Addr) (n c m d:Nat) (w:World) (h2:2≤m) (hnm:n < m) (hm:m≤9223372036854775807) :
  Calls Tryz.prog 109 #[.slice p n c,.slice q m d] w fun e w'=>e=.returned (.int .i64 (-1))∧w'=w:=Any.bytes_Index_longer Tryz.lays185 p q n c m d w h2 hnm hm
open Go.Proofs Go.RowKit Go.Lib in
theorem Tryz.bytes_Index_at (a1 a2:Addr) (n c1 k c2:Nat) (xs ys:List Int) (m:Int) (w:World) (hx:xs.length=n) (hy:ys.length=k) (hr1:∀x∈xs,0≤x∧x < 256) (hr2:∀y∈ys,0≤y∧y < 256) (hc1:∀i,i < n→w.cell? (a1.add i)=some (.int .u8 (xs.getD i 0))) (hc2:∀i,i < k→w.cell? (a2.add i)=some (.int .u8 (ys.getD i 0))) (hcap:n≤c1) (hs:n < 4294967281) (hk:k≤9223372036854775807) (hm:w.cell? ⟨0,0,none⟩=some (.int .i64 m)) :
  Calls Tryz.prog 109 #[.slice (some a1) n c1,.slice (some a2) k c2] w fun e w'=>e=.returned (.int .i64 (Lib.index (Lib.bytesOf xs) (Lib.bytesOf ys)))∧∃q,w'=w.drewN q:=Any.bytes_Index_at Tryz.lays185 a1 a2 n c1 k c2 xs ys m w hx hy hr1 hr2 hc1 hc2 hcap hs hk hm
def Tryz.laysSlC25_f45_ren:Go.Shelf.Ren:=⟨fun | 5=>45 | 7=>107 | n=>n,fun | 22=>2 | 3=>3 | 4=>4 | n=>n,fun | n=>n⟩
theorem Tryz.laysSlC25_f45:Go.Proofs.SlLaysC2.n5 Tryz.prog Tryz.laysSlC25_f45_ren:={
 mixed:=by kernel_rfl
 f5:=⟨Tryz.f45.name,by decide,Tryz.func45.trans (congrArg some (by kernel_rfl))⟩
 f7:=⟨Tryz.f107.name,by decide,Tryz.func107.trans (congrArg some (by kernel_rfl))⟩
 t3:=Tryz.underlying3
 a3:=Tryz.isAgg3
 z3:=Tryz.sizeOf3
 v3:=Tryz.zeroValue3
 t4:=Tryz.underlying4
 a4:=Tryz.isAgg4
 z4:=Tryz.sizeOf4
 v4:=Tryz.zeroValue4
 t22:=Tryz.underlying2
 a22:=Tryz.isAgg2
 z22:=Tryz.sizeOf2
 v22:=Tryz.zeroValue2 }
open Go.Lib in
theorem Tryz.cmp_Compare_int_f45 (x y:Int) (w:World) :
  Calls Tryz.prog 45 #[.int .i64 x,.int .i64 y] w fun e w'=>e=.returned (.int .i64 (Lib.compareInt x y))∧w'=w:=AnyG.cmp_Compare_int Tryz.laysSlC25_f45 x y w
open Go.RowKit in
theorem Tryz.strings_Trim_ascii (s cutset:ByteArray) (w:World) (hs:s.size≤9223372036854775807) (hcs:cutset.size < 4294967281) (hascii:∀(j:Nat) b,cutset.data.toList[j]?=some b→b.toNat < 128) :
  Calls Tryz.prog 138 #[.string s,.string cutset] w fun e w'=>e=.returned (.string ⟨(Lib.trimS s.data.toList cutset.data.toList).toArray⟩)∧Below w.heap.size w w':=Any.strings_Trim_laid Tryz.lays160 (by kernel_rfl) s cutset w hs hcs hascii
end Go.Proofs
