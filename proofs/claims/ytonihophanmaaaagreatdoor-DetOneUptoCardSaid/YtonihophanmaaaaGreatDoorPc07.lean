/- The texts Shelf, put together. -/
import Derived.Shelf.Strings.Builder1
import Derived.Shelf.Strings.Builder2
import Derived.Shelf.Strings.Trim
import Derived.Shelf.Small.Utf8
import Derived.Shelf.Small.Bits
import Derived.Shelf.Small.Strs
import Derived.Shelf.Strings.BuilderF
import Derived.Shelf.Strings.BuilderK
import Derived.Shelf.Strings.Builder2Cap
import Derived.Shelf.Strconv.Itoa0
import Derived.Shelf.Strconv.Itoa1
import Derived.Shelf.LaysM
import Derived.Shelf.Strconv.Itoa2
import Derived.Shelf.Strconv.Itoa3
import Derived.Shelf.Strconv.Clone
import Derived.Shelf.Strconv.SyntaxError
import Derived.Shelf.LaysC
import Derived.Shelf.Strconv.ToError
import Derived.Shelf.Strconv.Lower
import Derived.Shelf.Strconv.ParseUint10
import Derived.Shelf.Strconv.ParseUint10Empty
import Derived.Shelf.Strconv.ParseUint10Any
import Derived.Shelf.Strconv.RangeError
import Derived.Shelf.Strconv.ToErrorRange
import Derived.Shelf.Strconv.ParseUintEmpty
import Derived.Shelf.Strconv.ParseUint10b64
import Derived.Shelf.Strconv.ParseUint10b32
import Derived.Shelf.Strconv.ParseUint10b16
import Derived.Shelf.Strconv.ParseUint10b8
import Derived.Shelf.Strconv.ParseUint10At
import Derived.Ground.MpProg
import Derived.Shelf.Pu.ParseUintPublic10
import Derived.Shelf.Pu.ErrVarParseUint
import Derived.Shelf.Strings.Search1
import Derived.Shelf.Strings.Prefix
import Derived.Shelf.Unicode.Decode
import Derived.Shelf.Strings.Runes
import Derived.Shelf.Strings.AsciiSet
import Derived.Shelf.Bits.Mul64
import Derived.Shelf.Strings.Repeat
import Derived.Shelf.Unicode.DecodeSlow
import Derived.Shelf.Unicode.DecodeAny
import Derived.Shelf.Unicode.DecodeLast
import Derived.Shelf.Strings.BuilderCap
import Derived.Shelf.Slices.Turned
import Derived.Shelf.Unicode.ValidAny
import Derived.Test.YtonihophanmaaaaGreatDoorProg
namespace Go.Proofs
open Go.Shelf
def Tryz.lays169_ren:Go.Shelf.Ren:=⟨fun | 169=>72 | n=>n,fun | 70=>94 | 9=>9 | 0=>0 | 72=>97 | 37=>95 | 127=>164 | 3=>3 | 5=>5 | n=>n,fun | n=>n⟩
theorem Tryz.lays169:Go.Proofs.Lays.n169 Tryz.prog Tryz.lays169_ren:={
 mixed:=by kernel_rfl
 f169:=Tryz.func72.trans (congrArg some (by kernel_rfl))
 t0:=Tryz.underlying0
 a0:=Tryz.isAgg0
 z0:=Tryz.sizeOf0
 v0:=Tryz.zeroValue0
 t3:=Tryz.underlying3
 a3:=Tryz.isAgg3
 z3:=Tryz.sizeOf3
 v3:=Tryz.zeroValue3
 t9:=Tryz.underlying9
 a9:=Tryz.isAgg9
 z9:=Tryz.sizeOf9
 v9:=Tryz.zeroValue9
 t37:=Tryz.underlying95
 a37:=Tryz.isAgg95
 z37:=Tryz.sizeOf95
 v37:=Tryz.zeroValue95
 t70:=Tryz.underlying94
 a70:=Tryz.isAgg94
 z70:=Tryz.sizeOf94
 v70:=Tryz.zeroValue94
 t72:=Tryz.underlying97
 a72:=Tryz.isAgg97
 z72:=Tryz.sizeOf97
 v72:=Tryz.zeroValue97
 t127:=Tryz.underlying164
 a127:=Tryz.isAgg164
 z127:=Tryz.sizeOf164
 v127:=Tryz.zeroValue164 }
theorem Tryz.Builder_Extra_169:Builder.Extra Tryz.prog Tryz.lays169_ren:={
 sizeBuilder:=by kernel_rfl
 liesBuilder:=by kernel_rfl
 t5:=Tryz.underlying5
 a5:=Tryz.isAgg5
 z5:=Tryz.sizeOf5
 v5:=Tryz.zeroValue5
 infoByte:=by kernel_rfl
 cellsByte:=by kernel_rfl
 sizeByte:=by kernel_rfl
 neB5:=by decide }
def Tryz.lays161_ren:Go.Shelf.Ren:=⟨fun | 161=>237 | 231=>245 | 227=>247 | 233=>248 | 235=>250 | 228=>269 | 197=>270 | 151=>271 | 260=>283 | 152=>284 | 137=>293 | 119=>294 | 224=>295 | 225=>296 | 217=>300 | 266=>301 | n=>n,fun | 9=>9 | 4=>4 | 3=>3 | 5=>5 | 117=>280 | 116=>279 | 0=>0 | 124=>283 | 105=>304 | 21=>21 | 119=>247 | 46=>131 | 139=>250 | 138=>249 | n=>n,fun | 3=>3 | 4=>4 | n=>n⟩
theorem Tryz.lays161:Go.Proofs.Lays.n161 Tryz.prog Tryz.lays161_ren:={
 mixed:=by kernel_rfl
 f119:=Tryz.func294.trans (congrArg some (by kernel_rfl))
 f137:=Tryz.func293.trans (congrArg some (by kernel_rfl))
 f151:=Tryz.func271.trans (congrArg some (by kernel_rfl))
 f152:=Tryz.func284.trans (congrArg some (by kernel_rfl))
 f161:=Tryz.func237.trans (congrArg some (by kernel_rfl))
 f197:=Tryz.func270.trans (congrArg some (by kernel_rfl))
 f217:=Tryz.func300.trans (congrArg some (by kernel_rfl))
 f224:=Tryz.func295.trans (congrArg some (by kernel_rfl))
 f225:=Tryz.func296.trans (congrArg some (by kernel_rfl))
 f227:=Tryz.func247.trans (congrArg some (by kernel_rfl))
 f228:=Tryz.func269.trans (congrArg some (by kernel_rfl))
 f231:=Tryz.func245.trans (congrArg some (by kernel_rfl))
 f233:=Tryz.func248.trans (congrArg some (by kernel_rfl))
 f235:=Tryz.func250.trans (congrArg some (by kernel_rfl))
 f260:=Tryz.func283.trans (congrArg some (by kernel_rfl))
 f266:=Tryz.func301.trans (congrArg some (by kernel_rfl))
 t0:=Tryz.underlying0
 a0:=Tryz.isAgg0
 z0:=Tryz.sizeOf0
 v0:=Tryz.zeroValue0
 t3:=Tryz.underlying3
 a3:=Tryz.isAgg3
 z3:=Tryz.sizeOf3
 v3:=Tryz.zeroValue3
 t4:=Tryz.underlying4
 a4:=Tryz.isAgg4
 z4:=Tryz.sizeOf4
 v4:=Tryz.zeroValue4
 t5:=Tryz.underlying5
 a5:=Tryz.isAgg5
 z5:=Tryz.sizeOf5
 v5:=Tryz.zeroValue5
 t9:=Tryz.underlying9
 a9:=Tryz.isAgg9
 z9:=Tryz.sizeOf9
 v9:=Tryz.zeroValue9
 t21:=Tryz.underlying21
 a21:=Tryz.isAgg21
 z21:=Tryz.sizeOf21
 v21:=Tryz.zeroValue21
 t46:=Tryz.underlying131
 a46:=Tryz.isAgg131
 z46:=Tryz.sizeOf131
 v46:=Tryz.zeroValue131
 t105:=Tryz.underlying304
 a105:=Tryz.isAgg304
 z105:=Tryz.sizeOf304
 v105:=Tryz.zeroValue304
 t116:=Tryz.underlying279
 a116:=Tryz.isAgg279
 z116:=Tryz.sizeOf279
 t117:=Tryz.underlying280
 a117:=Tryz.isAgg280
 z117:=Tryz.sizeOf280
 v117:=Tryz.zeroValue280
 t119:=Tryz.underlying247
 a119:=Tryz.isAgg247
 z119:=Tryz.sizeOf247
 t124:=Tryz.underlying283
 a124:=Tryz.isAgg283
 z124:=Tryz.sizeOf283
 v124:=Tryz.zeroValue283
 t138:=Tryz.underlying249
 a138:=Tryz.isAgg249
 z138:=Tryz.sizeOf249
 v138:=Tryz.zeroValue249
 t139:=Tryz.underlying250
 a139:=Tryz.isAgg250
 z139:=Tryz.sizeOf250
 v139:=Tryz.zeroValue250
 g3:=by kernel_rfl
 g4:=by kernel_rfl }
open Go.RowKit in
theorem Tryz.strings_TrimLeft_one (s:ByteArray) (c:UInt8) (hc:c.toNat<128) (w:World) :
  Calls Tryz.prog 237 #[.string s,.string ⟨#[c]⟩] w fun e w'=>e=.returned (.string ⟨(Lib.trimLeftB s.data.toList c).toArray⟩)∧w'=w:=Any.strings_TrimLeft_one Tryz.lays161 s c hc w
def Tryz.lays162_ren:Go.Shelf.Ren:=⟨fun | 162=>238 | 232=>246 | 227=>247 | 234=>249 | 236=>251 | 228=>269 | 271=>272 | 151=>271 | 120=>285 | 197=>270 | 152=>284 | 260=>283 | 137=>293 | 119=>294 | 224=>295 | 225=>296 | 217=>300 | 266=>301 | n=>n,fun | 9=>9 | 4=>4 | 3=>3 | 5=>5 | 117=>280 | 116=>279 | 0=>0 | 124=>283 | 21=>21 | 105=>304 | 46=>131 | 119=>247 | 139=>250 | 138=>249 | n=>n,fun | 3=>3 | 4=>4 | n=>n⟩
theorem Tryz.lays162:Go.Proofs.Lays.n162 Tryz.prog Tryz.lays162_ren:={
 mixed:=by kernel_rfl
 f119:=Tryz.func294.trans (congrArg some (by kernel_rfl))
 f120:=Tryz.func285.trans (congrArg some (by kernel_rfl))
 f137:=Tryz.func293.trans (congrArg some (by kernel_rfl))
 f151:=Tryz.func271.trans (congrArg some (by kernel_rfl))
 f152:=Tryz.func284.trans (congrArg some (by kernel_rfl))
 f162:=Tryz.func238.trans (congrArg some (by kernel_rfl))
 f197:=Tryz.func270.trans (congrArg some (by kernel_rfl))
 f217:=Tryz.func300.trans (congrArg some (by kernel_rfl))
 f224:=Tryz.func295.trans (congrArg some (by kernel_rfl))
 f225:=Tryz.func296.trans (congrArg some (by kernel_rfl))
 f227:=Tryz.func247.trans (congrArg some (by kernel_rfl))
 f228:=Tryz.func269.trans (congrArg some (by kernel_rfl))
 f232:=Tryz.func246.trans (congrArg some (by kernel_rfl))
 f234:=Tryz.func249.trans (congrArg some (by kernel_rfl))
 f236:=Tryz.func251.trans (congrArg some (by kernel_rfl))
 f260:=Tryz.func283.trans (congrArg some (by kernel_rfl))
 f266:=Tryz.func301.trans (congrArg some (by kernel_rfl))
 f271:=Tryz.func272.trans (congrArg some (by kernel_rfl))
 t0:=Tryz.underlying0
 a0:=Tryz.isAgg0
 z0:=Tryz.sizeOf0
 v0:=Tryz.zeroValue0
 t3:=Tryz.underlying3
 a3:=Tryz.isAgg3
 z3:=Tryz.sizeOf3
 v3:=Tryz.zeroValue3
 t4:=Tryz.underlying4
 a4:=Tryz.isAgg4
 z4:=Tryz.sizeOf4
 v4:=Tryz.zeroValue4
 t5:=Tryz.underlying5
 a5:=Tryz.isAgg5
 z5:=Tryz.sizeOf5
 v5:=Tryz.zeroValue5
 t9:=Tryz.underlying9
 a9:=Tryz.isAgg9
 z9:=Tryz.sizeOf9
 v9:=Tryz.zeroValue9
 t21:=Tryz.underlying21
 a21:=Tryz.isAgg21
 z21:=Tryz.sizeOf21
 v21:=Tryz.zeroValue21
 t46:=Tryz.underlying131
 a46:=Tryz.isAgg131
 z46:=Tryz.sizeOf131
 v46:=Tryz.zeroValue131
 t105:=Tryz.underlying304
 a105:=Tryz.isAgg304
 z105:=Tryz.sizeOf304
 v105:=Tryz.zeroValue304
 t116:=Tryz.underlying279
 a116:=Tryz.isAgg279
 z116:=Tryz.sizeOf279
 t117:=Tryz.underlying280
 a117:=Tryz.isAgg280
 z117:=Tryz.sizeOf280
 v117:=Tryz.zeroValue280
 t119:=Tryz.underlying247
 a119:=Tryz.isAgg247
 z119:=Tryz.sizeOf247
 t124:=Tryz.underlying283
 a124:=Tryz.isAgg283
 z124:=Tryz.sizeOf283
 v124:=Tryz.zeroValue283
 t138:=Tryz.underlying249
 a138:=Tryz.isAgg249
 z138:=Tryz.sizeOf249
 v138:=Tryz.zeroValue249
 t139:=Tryz.underlying250
 a139:=Tryz.isAgg250
 z139:=Tryz.sizeOf250
 v139:=Tryz.zeroValue250
 g3:=by kernel_rfl
 g4:=by kernel_rfl }
open Go.RowKit in
theorem Tryz.strings_TrimRight_one (s:ByteArray) (c:UInt8) (hc:c.toNat<128) (w:World) (hs:s.size≤9223372036854775807) :
  Calls Tryz.prog 238 #[.string s,.string ⟨#[c]⟩] w fun e w'=>e=.returned (.string ⟨(Lib.trimRightB s.data.toList c).toArray⟩)∧w'=w:=Any.strings_TrimRight_one Tryz.lays162 s c hc w hs
def Tryz.lays125_ren:Go.Shelf.Ren:=⟨fun | 125=>136 | 128=>194 | 129=>124 | n=>n,fun | 46=>131 | 3=>3 | 51=>226 | 53=>25 | 4=>4 | 5=>5 | 9=>9 | n=>n,fun | n=>n⟩
theorem Tryz.lays125:Go.Proofs.Lays.n125 Tryz.prog Tryz.lays125_ren:={
 mixed:=by kernel_rfl
 f125:=Tryz.func136.trans (congrArg some (by kernel_rfl))
 f128:=Tryz.func194.trans (congrArg some (by kernel_rfl))
 f129:=Tryz.func124.trans (congrArg some (by kernel_rfl))
 t3:=Tryz.underlying3
 a3:=Tryz.isAgg3
 z3:=Tryz.sizeOf3
 v3:=Tryz.zeroValue3
 t4:=Tryz.underlying4
 a4:=Tryz.isAgg4
 z4:=Tryz.sizeOf4
 v4:=Tryz.zeroValue4
 t5:=Tryz.underlying5
 a5:=Tryz.isAgg5
 z5:=Tryz.sizeOf5
 v5:=Tryz.zeroValue5
 t9:=Tryz.underlying9
 a9:=Tryz.isAgg9
 z9:=Tryz.sizeOf9
 v9:=Tryz.zeroValue9
 t46:=Tryz.underlying131
 a46:=Tryz.isAgg131
 z46:=Tryz.sizeOf131
 v46:=Tryz.zeroValue131
 t51:=Tryz.underlying226
 a51:=Tryz.isAgg226
 z51:=Tryz.sizeOf226
 v51:=Tryz.zeroValue226
 t53:=Tryz.underlying25
 a53:=Tryz.isAgg25
 z53:=Tryz.sizeOf25
 v53:=Tryz.zeroValue25 }
theorem Tryz.bits_Len (x:Int) (w:World) (h0:0≤x) (h1:x≤18446744073709551615) :
  Calls Tryz.prog 136 #[.int .u64 x] w fun e w'=>e=.returned (.int .i64 (Lib.bitLen x.toNat))∧w'=w:=Any.bits_Len Tryz.lays125 x w h0 h1
open Go.RowKit in
theorem Tryz.Builder_String_any_k (B b:Nat) (l:List UInt8) (w:World) (h:Lib.IsBuilderF 97 5 B b (Lib.byteCells l) w) (hBw:B≤w.heap.size) :
  Calls Tryz.prog 72 #[.pointer (some ⟨b,0,none⟩)] w fun e w'=>e=.returned (.string ⟨l.toArray⟩)∧(Lib.IsBuilderF 97 5 B b (Lib.byteCells l) w'∧Below B w w'∧Lib.OthersKept 5 (some b) w w'):=Any.Builder_String_any_k Tryz.lays169 Tryz.Builder_Extra_169 B b l w h hBw
def Tryz.lays129_ren:Go.Shelf.Ren:=⟨fun | 129=>124 | n=>n,fun | 53=>25 | 3=>3 | 4=>4 | 46=>131 | 5=>5 | 9=>9 | n=>n,fun | n=>n⟩
theorem Tryz.lays129:Go.Proofs.Lays.n129 Tryz.prog Tryz.lays129_ren:={
 mixed:=by kernel_rfl
 f129:=Tryz.func124.trans (congrArg some (by kernel_rfl))
 t3:=Tryz.underlying3
 a3:=Tryz.isAgg3
 z3:=Tryz.sizeOf3
 v3:=Tryz.zeroValue3
 t4:=Tryz.underlying4
 a4:=Tryz.isAgg4
 z4:=Tryz.sizeOf4
 v4:=Tryz.zeroValue4
 t5:=Tryz.underlying5
 a5:=Tryz.isAgg5
 z5:=Tryz.sizeOf5
 v5:=Tryz.zeroValue5
 t9:=Tryz.underlying9
 a9:=Tryz.isAgg9
 z9:=Tryz.sizeOf9
 v9:=Tryz.zeroValue9
 t46:=Tryz.underlying131
 a46:=Tryz.isAgg131
 z46:=Tryz.sizeOf131
 v46:=Tryz.zeroValue131
 t53:=Tryz.underlying25
 a53:=Tryz.isAgg25
 z53:=Tryz.sizeOf25
 v53:=Tryz.zeroValue25 }
theorem Tryz.bits_Len64 (x:Int) (w:World) (h0:0≤x) (h1:x≤18446744073709551615) :
  Calls Tryz.prog 124 #[.int .u64 x] w fun e w'=>e=.returned (.int .i64 (Lib.bitLen x.toNat))∧w'=w:=Any.bits_Len64 Tryz.lays129 x w h0 h1
def Tryz.lays283_ren:Go.Shelf.Ren:=⟨fun | 283=>278 | n=>n,fun | 3=>3 | 9=>9 | 4=>4 | n=>n,fun | n=>n⟩
theorem Tryz.lays283:Go.Proofs.Lays.n283 Tryz.prog Tryz.lays283_ren:={
 mixed:=by kernel_rfl
 f283:=Tryz.func278.trans (congrArg some (by kernel_rfl))
 t3:=Tryz.underlying3
 a3:=Tryz.isAgg3
 z3:=Tryz.sizeOf3
 v3:=Tryz.zeroValue3
 t4:=Tryz.underlying4
 a4:=Tryz.isAgg4
 z4:=Tryz.sizeOf4
 v4:=Tryz.zeroValue4
 t9:=Tryz.underlying9
 a9:=Tryz.isAgg9
 z9:=Tryz.sizeOf9
 v9:=Tryz.zeroValue9 }
open Go.Lib in
theorem Tryz.internal_strconv_small (i:Nat) (h:i<100) (w:World) :
  Calls Tryz.prog 278 #[.int .i64 i] w fun e w'=>e=.returned (.string ⟨(Lib.decDigits i).toArray⟩)∧w'=w:=Any.internal_strconv_small Tryz.lays283 i h w
def Tryz.laysM284_ren:Go.Shelf.Ren:=⟨fun | 284=>279 | 129=>124 | 317=>288 | 318=>289 | n=>n,fun | 53=>25 | 3=>3 | 212=>326 | 0=>0 | 4=>4 | 46=>131 | 5=>5 | 9=>9 | n=>n,fun | 17=>8 | n=>n⟩
theorem Tryz.laysM284:Go.Proofs.LaysM.n284 Tryz.prog Tryz.laysM284_ren:={
 mixed:=by kernel_rfl
 f129:=Tryz.func124.trans (congrArg some (by kernel_rfl))
 f284:=Tryz.func279.trans (congrArg some (by kernel_rfl))
 f317:=Tryz.func288.trans (congrArg some (by kernel_rfl))
 f318:=Tryz.func289.trans (congrArg some (by kernel_rfl))
 t0:=Tryz.underlying0
 a0:=Tryz.isAgg0
 z0:=Tryz.sizeOf0
 v0:=Tryz.zeroValue0
 t3:=Tryz.underlying3
 a3:=Tryz.isAgg3
 z3:=Tryz.sizeOf3
 v3:=Tryz.zeroValue3
 t4:=Tryz.underlying4
 a4:=Tryz.isAgg4
 z4:=Tryz.sizeOf4
 v4:=Tryz.zeroValue4
 t5:=Tryz.underlying5
 a5:=Tryz.isAgg5
 z5:=Tryz.sizeOf5
 v5:=Tryz.zeroValue5
 t9:=Tryz.underlying9
 a9:=Tryz.isAgg9
 z9:=Tryz.sizeOf9
 v9:=Tryz.zeroValue9
 t46:=Tryz.underlying131
 a46:=Tryz.isAgg131
 z46:=Tryz.sizeOf131
 v46:=Tryz.zeroValue131
 t53:=Tryz.underlying25
 a53:=Tryz.isAgg25
 z53:=Tryz.sizeOf25
 v53:=Tryz.zeroValue25
 t212:=Tryz.underlying326
 a212:=Tryz.isAgg326
 z212:=Tryz.sizeOf326
 v212:=Tryz.zeroValue326
 g17:=by kernel_rfl
 i0:=by kernel_rfl
 i3:=by kernel_rfl
 i4:=by kernel_rfl
 i5:=by kernel_rfl
 i9:=by kernel_rfl
 i46:=by kernel_rfl
 i53:=by kernel_rfl
 i212:=by kernel_rfl
 m17:=by kernel_rfl }
open Go.Lib in
theorem Tryz.internal_strconv_numDigits (u:Nat) (h1:1≤u) (h2:u<18446744073709551616) (w:World) (htab:Lib.TabIs Tryz.prog w "internal/strconv.uint64pow10" .u64 Lib.pow10Tab) :
  Calls Tryz.prog 279 #[.int .u64 u] w fun e w'=>e=.returned (.int .i64 (Lib.nDigits u))∧w'=w:=Any.internal_strconv_numDigits Tryz.laysM284 u h1 h2 w htab
def Tryz.lays285_ren:Go.Shelf.Ren:=⟨fun | 285=>280 | n=>n,fun | 37=>95 | 53=>25 | 3=>3 | 4=>4 | 51=>226 | 9=>9 | 5=>5 | 0=>0 | n=>n,fun | n=>n⟩
theorem Tryz.lays285:Go.Proofs.Lays.n285 Tryz.prog Tryz.lays285_ren:={
 mixed:=by kernel_rfl
 f285:=Tryz.func280.trans (congrArg some (by kernel_rfl))
 t0:=Tryz.underlying0
 a0:=Tryz.isAgg0
 z0:=Tryz.sizeOf0
 v0:=Tryz.zeroValue0
 t3:=Tryz.underlying3
 a3:=Tryz.isAgg3
 z3:=Tryz.sizeOf3
 v3:=Tryz.zeroValue3
 t4:=Tryz.underlying4
 a4:=Tryz.isAgg4
 z4:=Tryz.sizeOf4
 v4:=Tryz.zeroValue4
 t5:=Tryz.underlying5
 a5:=Tryz.isAgg5
 z5:=Tryz.sizeOf5
 v5:=Tryz.zeroValue5
 t9:=Tryz.underlying9
 a9:=Tryz.isAgg9
 z9:=Tryz.sizeOf9
 v9:=Tryz.zeroValue9
 t37:=Tryz.underlying95
 a37:=Tryz.isAgg95
 z37:=Tryz.sizeOf95
 v37:=Tryz.zeroValue95
 t51:=Tryz.underlying226
 a51:=Tryz.isAgg226
 z51:=Tryz.sizeOf226
 v51:=Tryz.zeroValue226
 t53:=Tryz.underlying25
 a53:=Tryz.isAgg25
 z53:=Tryz.sizeOf25
 v53:=Tryz.zeroValue25 }
open Go.RowKit Go.Sort Go.Lib in
theorem Tryz.internal_strconv_formatBase10 (blk off cap:Nat) (u:Nat) (d:Array UInt8) (w:World) (hH:Holds (fun (b:UInt8)=>Value.int .u8 (b.toNat:Int)) w blk off d) (hu:u<10 ^ d.size) (hu64:u<18446744073709551616) (hsz:d.size<4611686018427387904) :
  Calls Tryz.prog 280 #[.slice (some ⟨blk,off,none⟩) d.size cap,.int .u64 u] w fun e w' =>
   e=.returned (.tuple #[])∧∃ (n v':Nat) (dk:Array UInt8),w'=(putRow (fun (b:UInt8)=>Value.int .u8 (b.toNat:Int)) w blk off dk).drewN n∧FmtInv d.size u 0 v' dk:=Any.internal_strconv_formatBase10 Tryz.lays285 blk off cap u d w hH hu hu64 hsz
def Tryz.laysPu14_ren:Go.Shelf.Ren:=⟨fun | 14=>180 | 16=>217 | 17=>218 | 19=>252 | 20=>253 | 21=>254 | 22=>255 | 23=>256 | 24=>257 | 25=>273 | 27=>275 | 26=>274 | 28=>286 | 29=>297 | 30=>278 | 31=>279 | 32=>280 | 33=>281 | 35=>124 | 34=>288 | 36=>289 | 37=>290 | 38=>291 | 39=>298 | 40=>299 | n=>n,fun | 9=>9 | 3=>3 | 22=>25 | 24=>48 | 25=>210 | 4=>4 | 34=>284 | 5=>5 | 36=>131 | 37=>95 | 0=>0 | 39=>286 | 21=>21 | 44=>308 | 47=>164 | 50=>323 | 48=>321 | 2=>2 | 52=>313 | 55=>315 | 59=>326 | 60=>226 | 20=>20 | 61=>327 | 65=>331 | 66=>332 | 67=>101 | n=>n,fun | 0=>5 | 1=>6 | 2=>8 | 3=>9 | 4=>10 | n=>n⟩
theorem Tryz.laysPu14:Go.Proofs.LaysPu.n14 Tryz.prog Tryz.laysPu14_ren:={
 mixed:=by kernel_rfl
 f14:=Tryz.func180.trans (congrArg some (by kernel_rfl))
 f16:=Tryz.func217.trans (congrArg some (by kernel_rfl))
 f17:=Tryz.func218.trans (congrArg some (by kernel_rfl))
 f19:=Tryz.func252.trans (congrArg some (by kernel_rfl))
 f20:=Tryz.func253.trans (congrArg some (by kernel_rfl))
 f21:=Tryz.func254.trans (congrArg some (by kernel_rfl))
 f22:=Tryz.func255.trans (congrArg some (by kernel_rfl))
 f23:=Tryz.func256.trans (congrArg some (by kernel_rfl))
 f24:=Tryz.func257.trans (congrArg some (by kernel_rfl))
 f25:=Tryz.func273.trans (congrArg some (by kernel_rfl))
 f26:=Tryz.func274.trans (congrArg some (by kernel_rfl))
 f27:=Tryz.func275.trans (congrArg some (by kernel_rfl))
 f28:=Tryz.func286.trans (congrArg some (by kernel_rfl))
 f29:=Tryz.func297.trans (congrArg some (by kernel_rfl))
 f30:=Tryz.func278.trans (congrArg some (by kernel_rfl))
 f31:=Tryz.func279.trans (congrArg some (by kernel_rfl))
 f32:=Tryz.func280.trans (congrArg some (by kernel_rfl))
 f33:=Tryz.func281.trans (congrArg some (by kernel_rfl))
 f34:=Tryz.func288.trans (congrArg some (by kernel_rfl))
 f35:=Tryz.func124.trans (congrArg some (by kernel_rfl))
 f36:=Tryz.func289.trans (congrArg some (by kernel_rfl))
 f37:=Tryz.func290.trans (congrArg some (by kernel_rfl))
 f38:=Tryz.func291.trans (congrArg some (by kernel_rfl))
 f39:=Tryz.func298.trans (congrArg some (by kernel_rfl))
 f40:=Tryz.func299.trans (congrArg some (by kernel_rfl))
 t0:=Tryz.underlying0
 a0:=Tryz.isAgg0
 z0:=Tryz.sizeOf0
 v0:=Tryz.zeroValue0
 i0:=by kernel_rfl
 t2:=Tryz.underlying2
 a2:=Tryz.isAgg2
 z2:=Tryz.sizeOf2
 v2:=Tryz.zeroValue2
 i2:=by kernel_rfl
 t3:=Tryz.underlying3
 a3:=Tryz.isAgg3
 z3:=Tryz.sizeOf3
 v3:=Tryz.zeroValue3
 i3:=by kernel_rfl
 t4:=Tryz.underlying4
 a4:=Tryz.isAgg4
 z4:=Tryz.sizeOf4
 v4:=Tryz.zeroValue4
 i4:=by kernel_rfl
 t5:=Tryz.underlying5
 a5:=Tryz.isAgg5
 z5:=Tryz.sizeOf5
 v5:=Tryz.zeroValue5
 i5:=by kernel_rfl
 t9:=Tryz.underlying9
 a9:=Tryz.isAgg9
 z9:=Tryz.sizeOf9
 v9:=Tryz.zeroValue9
 i9:=by kernel_rfl
 t20:=Tryz.underlying20
 a20:=Tryz.isAgg20
 z20:=Tryz.sizeOf20
 v20:=Tryz.zeroValue20
 i20:=by kernel_rfl
 t21:=Tryz.underlying21
 a21:=Tryz.isAgg21
 z21:=Tryz.sizeOf21
 v21:=Tryz.zeroValue21
 i21:=by kernel_rfl
 t22:=Tryz.underlying25
 a22:=Tryz.isAgg25
 z22:=Tryz.sizeOf25
 v22:=Tryz.zeroValue25
 i22:=by kernel_rfl
 t24:=Tryz.underlying48
 a24:=Tryz.isAgg48
 z24:=Tryz.sizeOf48
 v24:=Tryz.zeroValue48
 i24:=by kernel_rfl
 t25:=Tryz.underlying210
 a25:=Tryz.isAgg210
 z25:=Tryz.sizeOf210
 v25:=Tryz.zeroValue210
 i25:=by kernel_rfl
 t34:=Tryz.underlying284
 a34:=Tryz.isAgg284
 z34:=Tryz.sizeOf284
 v34:=Tryz.zeroValue284
 i34:=by kernel_rfl
 c34:=by kernel_rfl
 t36:=Tryz.underlying131
 a36:=Tryz.isAgg131
 z36:=Tryz.sizeOf131
 v36:=Tryz.zeroValue131
 i36:=by kernel_rfl
 t37:=Tryz.underlying95
 a37:=Tryz.isAgg95
 z37:=Tryz.sizeOf95
 v37:=Tryz.zeroValue95
 i37:=by kernel_rfl
 t39:=Tryz.underlying286
 a39:=Tryz.isAgg286
 z39:=Tryz.sizeOf286
 v39:=Tryz.zeroValue286
 i39:=by kernel_rfl
 t44:=Tryz.underlying308
 a44:=Tryz.isAgg308
 z44:=Tryz.sizeOf308
 v44:=Tryz.zeroValue308
 i44:=by kernel_rfl
 t47:=Tryz.underlying164
 a47:=Tryz.isAgg164
 z47:=Tryz.sizeOf164
 v47:=Tryz.zeroValue164
 i47:=by kernel_rfl
 t48:=Tryz.underlying321
 a48:=Tryz.isAgg321
 z48:=Tryz.sizeOf321
 v48:=Tryz.zeroValue321
 i48:=by kernel_rfl
 t50:=Tryz.underlying323
 a50:=Tryz.isAgg323
 z50:=Tryz.sizeOf323
 v50:=Tryz.zeroValue323
 i50:=by kernel_rfl
 t52:=Tryz.underlying313
 a52:=Tryz.isAgg313
 z52:=Tryz.sizeOf313
 v52:=Tryz.zeroValue313
 i52:=by kernel_rfl
 t55:=Tryz.underlying315
 a55:=Tryz.isAgg315
 z55:=Tryz.sizeOf315
 v55:=Tryz.zeroValue315
 i55:=by kernel_rfl
 t59:=Tryz.underlying326
 a59:=Tryz.isAgg326
 z59:=Tryz.sizeOf326
 v59:=Tryz.zeroValue326
 i59:=by kernel_rfl
 t60:=Tryz.underlying226
 a60:=Tryz.isAgg226
 z60:=Tryz.sizeOf226
 v60:=Tryz.zeroValue226
 i60:=by kernel_rfl
 t61:=Tryz.underlying327
 a61:=Tryz.isAgg327
 z61:=Tryz.sizeOf327
 t65:=Tryz.underlying331
 a65:=Tryz.isAgg331
 z65:=Tryz.sizeOf331
 v65:=Tryz.zeroValue331
 i65:=by kernel_rfl
 t66:=Tryz.underlying332
 a66:=Tryz.isAgg332
 z66:=Tryz.sizeOf332
 v66:=Tryz.zeroValue332
 i66:=by kernel_rfl
 t67:=Tryz.underlying101
 a67:=Tryz.isAgg101
 z67:=Tryz.sizeOf101
 v67:=Tryz.zeroValue101
 i67:=by kernel_rfl
 g0:=by kernel_rfl
 m0:=by kernel_rfl
 g1:=by kernel_rfl
 m1:=by kernel_rfl
 g2:=by kernel_rfl
 m2:=by kernel_rfl
 g3:=by kernel_rfl
 m3:=by kernel_rfl
 g4:=by kernel_rfl
 m4:=by kernel_rfl }
open Go.RowKit in
theorem Tryz.strconv_ParseUint_10_at64_ok (s:ByteArray) (hmax:s.size≤9223372036854775806) (u:Nat) (h:Lib.parseUintB 64 s.data.toList=.ok u) (w:World) :
  Calls Tryz.prog 180 #[.string s,.int .i64 10,.int .i64 64] w fun e w'=>e=.returned (.tuple #[.int .u64 u,.nilIface])∧(w'=w∨w'=Lib.bytesWorld w 5 s):=Any.strconv_ParseUint_10_at64_ok Tryz.laysPu14 s hmax u h w
open Go.RowKit in
theorem Tryz.strconv_ParseUint_10_at32_ok (s:ByteArray) (hmax:s.size≤9223372036854775806) (u:Nat) (h:Lib.parseUintB 32 s.data.toList=.ok u) (w:World) :
  Calls Tryz.prog 180 #[.string s,.int .i64 10,.int .i64 32] w fun e w'=>e=.returned (.tuple #[.int .u64 u,.nilIface])∧(w'=w∨w'=Lib.bytesWorld w 5 s):=Any.strconv_ParseUint_10_at32_ok Tryz.laysPu14 s hmax u h w
open Go.RowKit in
open Go.RowKit in
theorem Tryz.strconv_ParseUint_10_at64_range_var (s:ByteArray) (hlim:s.size≤281474976710656) (h:Lib.parseUintB 64 s.data.toList=.range) (tp:TypeId) (p:Value) (w:World) (hvar:w.var? Tryz.prog "strconv.ErrRange" = some #[.iface tp p]) :
  Calls Tryz.prog 180 #[.string s,.int .i64 10,.int .i64 64] w fun e w'=>∃ N,e=.returned (.tuple #[.int .u64 18446744073709551615,.iface 286 (.pointer (some ⟨N,0,none⟩))])∧w.heap.size≤N∧w'.heap[N]? = some (.cells #[.string ⟨#[80,97,114,115,101,85,105,110,116]⟩,.string s,.iface tp p] 308 (0,0))∧Below w.heap.size w w':=Any.strconv_ParseUint_10_at64_range_var Tryz.laysPu14 s hlim h tp p w hvar
def Tryz.lays100_ren:Go.Shelf.Ren:=⟨fun | 100=>174 | 207=>215 | n=>n,fun | 9=>9 | 4=>4 | 3=>3 | n=>n,fun | n=>n⟩
theorem Tryz.lays100:Go.Proofs.Lays.n100 Tryz.prog Tryz.lays100_ren:={
 mixed:=by kernel_rfl
 f100:=Tryz.func174.trans (congrArg some (by kernel_rfl))
 f207:=Tryz.func215.trans (congrArg some (by kernel_rfl))
 t3:=Tryz.underlying3
 a3:=Tryz.isAgg3
 z3:=Tryz.sizeOf3
 v3:=Tryz.zeroValue3
 t4:=Tryz.underlying4
 a4:=Tryz.isAgg4
 z4:=Tryz.sizeOf4
 v4:=Tryz.zeroValue4
 t9:=Tryz.underlying9
 a9:=Tryz.isAgg9
 z9:=Tryz.sizeOf9
 v9:=Tryz.zeroValue9 }
open Go.RowKit Go.Lib in
theorem Tryz.strings_HasSuffix (s p:ByteArray) (w:World) (hs:s.size≤9223372036854775807) :
  Calls Tryz.prog 174 #[.string s,.string p] w fun e w'=>e=.returned (.bool (Lib.hasSuffix s.data.toList p.data.toList))∧w'=w:=Any.strings_HasSuffix Tryz.lays100 s p w hs
def Tryz.lays227_ren:Go.Shelf.Ren:=⟨fun | 227=>247 | n=>n,fun | 9=>9 | 116=>279 | 4=>4 | 0=>0 | 3=>3 | 5=>5 | n=>n,fun | n=>n⟩
theorem Tryz.lays227:Go.Proofs.Lays.n227 Tryz.prog Tryz.lays227_ren:={
 mixed:=by kernel_rfl
 f227:=Tryz.func247.trans (congrArg some (by kernel_rfl))
 t0:=Tryz.underlying0
 a0:=Tryz.isAgg0
 z0:=Tryz.sizeOf0
 v0:=Tryz.zeroValue0
 t3:=Tryz.underlying3
 a3:=Tryz.isAgg3
 z3:=Tryz.sizeOf3
 v3:=Tryz.zeroValue3
 t4:=Tryz.underlying4
 a4:=Tryz.isAgg4
 z4:=Tryz.sizeOf4
 v4:=Tryz.zeroValue4
 t5:=Tryz.underlying5
 a5:=Tryz.isAgg5
 z5:=Tryz.sizeOf5
 v5:=Tryz.zeroValue5
 t9:=Tryz.underlying9
 a9:=Tryz.isAgg9
 z9:=Tryz.sizeOf9
 v9:=Tryz.zeroValue9
 t116:=Tryz.underlying279
 a116:=Tryz.isAgg279
 z116:=Tryz.sizeOf279 }
open Go.RowKit Go.Lib in
theorem Tryz.strings_makeASCIISet (hv116:∀ w,(zeroValue 279).run Tryz.prog w=.ok (.agg (Array.replicate 256 (.bool false))) w) (chars:ByteArray) (w:World) (hs:chars.size<4294967281) (hascii:∀ (j:Nat) b,chars.data.toList[j]? = some b→b.toNat<128) :
  Calls Tryz.prog 247 #[.string chars] w fun e w'=>e=.returned (.tuple #[.agg (Lib.setCells chars.data.toList),.bool true])∧w'=w.alloc (.cells (Lib.setCells chars.data.toList) 279):=Any.strings_makeASCIISet Tryz.lays227 hv116 (by kernel_rfl) chars w hs hascii
def Tryz.lays228_ren:Go.Shelf.Ren:=⟨fun | 228=>269 | n=>n,fun | 124=>283 | 5=>5 | 4=>4 | 0=>0 | 116=>279 | n=>n,fun | n=>n⟩
theorem Tryz.lays228:Go.Proofs.Lays.n228 Tryz.prog Tryz.lays228_ren:={
 mixed:=by kernel_rfl
 f228:=Tryz.func269.trans (congrArg some (by kernel_rfl))
 t0:=Tryz.underlying0
 a0:=Tryz.isAgg0
 z0:=Tryz.sizeOf0
 v0:=Tryz.zeroValue0
 t4:=Tryz.underlying4
 a4:=Tryz.isAgg4
 z4:=Tryz.sizeOf4
 v4:=Tryz.zeroValue4
 t5:=Tryz.underlying5
 a5:=Tryz.isAgg5
 z5:=Tryz.sizeOf5
 v5:=Tryz.zeroValue5
 t116:=Tryz.underlying279
 a116:=Tryz.isAgg279
 z116:=Tryz.sizeOf279
 t124:=Tryz.underlying283
 a124:=Tryz.isAgg283
 z124:=Tryz.sizeOf283
 v124:=Tryz.zeroValue283 }
open Go.RowKit Go.Lib in
theorem Tryz.asciiSet_contains (b:Nat) (x:UInt8) (v:Bool) (w:World) (hc:w.cell? ⟨b,x.toNat,none⟩=some (.bool v)) :
  Calls Tryz.prog 269 #[.pointer (some ⟨b,0,none⟩),.int .u8 x.toNat] w fun e w'=>e=.returned (.bool v)∧w'=w:=Any.asciiSet_contains Tryz.lays228 b x v w hc
def Tryz.lays105_ren:Go.Shelf.Ren:=⟨fun | 105=>133 | 212=>181 | 99=>182 | 165=>183 | 166=>184 | 170=>185 | 169=>72 | 263=>219 | 264=>220 | 206=>221 | 240=>222 | 241=>223 | 276=>258 | 277=>259 | n=>n,fun | 9=>9 | 3=>3 | 4=>4 | 20=>20 | 0=>0 | 46=>131 | 109=>212 | 5=>5 | 72=>97 | 76=>215 | 51=>226 | 146=>252 | 53=>25 | 148=>254 | 70=>94 | 37=>95 | 75=>48 | 127=>164 | 164=>191 | 80=>101 | n=>n,fun | n=>n⟩
theorem Tryz.lays105:Go.Proofs.Lays.n105 Tryz.prog Tryz.lays105_ren:={
 mixed:=by kernel_rfl
 f99:=Tryz.func182.trans (congrArg some (by kernel_rfl))
 f105:=Tryz.func133.trans (congrArg some (by kernel_rfl))
 f165:=Tryz.func183.trans (congrArg some (by kernel_rfl))
 f166:=Tryz.func184.trans (congrArg some (by kernel_rfl))
 f169:=Tryz.func72.trans (congrArg some (by kernel_rfl))
 f170:=Tryz.func185.trans (congrArg some (by kernel_rfl))
 f206:=Tryz.func221.trans (congrArg some (by kernel_rfl))
 f212:=Tryz.func181.trans (congrArg some (by kernel_rfl))
 f240:=Tryz.func222.trans (congrArg some (by kernel_rfl))
 f241:=Tryz.func223.trans (congrArg some (by kernel_rfl))
 f263:=Tryz.func219.trans (congrArg some (by kernel_rfl))
 f264:=Tryz.func220.trans (congrArg some (by kernel_rfl))
 f276:=Tryz.func258.trans (congrArg some (by kernel_rfl))
 f277:=Tryz.func259.trans (congrArg some (by kernel_rfl))
 t0:=Tryz.underlying0
 a0:=Tryz.isAgg0
 z0:=Tryz.sizeOf0
 v0:=Tryz.zeroValue0
 t3:=Tryz.underlying3
 a3:=Tryz.isAgg3
 z3:=Tryz.sizeOf3
 v3:=Tryz.zeroValue3
 t4:=Tryz.underlying4
 a4:=Tryz.isAgg4
 z4:=Tryz.sizeOf4
 v4:=Tryz.zeroValue4
 t5:=Tryz.underlying5
 a5:=Tryz.isAgg5
 z5:=Tryz.sizeOf5
 v5:=Tryz.zeroValue5
 t9:=Tryz.underlying9
 a9:=Tryz.isAgg9
 z9:=Tryz.sizeOf9
 v9:=Tryz.zeroValue9
 t20:=Tryz.underlying20
 a20:=Tryz.isAgg20
 z20:=Tryz.sizeOf20
 v20:=Tryz.zeroValue20
 t37:=Tryz.underlying95
 a37:=Tryz.isAgg95
 z37:=Tryz.sizeOf95
 v37:=Tryz.zeroValue95
 t46:=Tryz.underlying131
 a46:=Tryz.isAgg131
 z46:=Tryz.sizeOf131
 v46:=Tryz.zeroValue131
 t51:=Tryz.underlying226
 a51:=Tryz.isAgg226
 z51:=Tryz.sizeOf226
 v51:=Tryz.zeroValue226
 t53:=Tryz.underlying25
 a53:=Tryz.isAgg25
 z53:=Tryz.sizeOf25
 v53:=Tryz.zeroValue25
 t70:=Tryz.underlying94
 a70:=Tryz.isAgg94
 z70:=Tryz.sizeOf94
 v70:=Tryz.zeroValue94
 t72:=Tryz.underlying97
 a72:=Tryz.isAgg97
 z72:=Tryz.sizeOf97
 v72:=Tryz.zeroValue97
 t75:=Tryz.underlying48
 a75:=Tryz.isAgg48
 z75:=Tryz.sizeOf48
 v75:=Tryz.zeroValue48
 t76:=Tryz.underlying215
 a76:=Tryz.isAgg215
 z76:=Tryz.sizeOf215
 v76:=Tryz.zeroValue215
 t109:=Tryz.underlying212
 a109:=Tryz.isAgg212
 z109:=Tryz.sizeOf212
 v109:=Tryz.zeroValue212
 t127:=Tryz.underlying164
 a127:=Tryz.isAgg164
 z127:=Tryz.sizeOf164
 v127:=Tryz.zeroValue164
 t146:=Tryz.underlying252
 a146:=Tryz.isAgg252
 z146:=Tryz.sizeOf252
 v146:=Tryz.zeroValue252
 t148:=Tryz.underlying254
 a148:=Tryz.isAgg254
 z148:=Tryz.sizeOf254
 v148:=Tryz.zeroValue254
 t164:=Tryz.underlying191
 a164:=Tryz.isAgg191
 z164:=Tryz.sizeOf191
 v164:=Tryz.zeroValue191 }
theorem Tryz.Builder_Extra_105:Builder.Extra Tryz.prog Tryz.lays105_ren:={
 sizeBuilder:=by kernel_rfl
 liesBuilder:=by kernel_rfl
 t5:=Tryz.underlying5
 a5:=Tryz.isAgg5
 z5:=Tryz.sizeOf5
 v5:=Tryz.zeroValue5
 infoByte:=by kernel_rfl
 cellsByte:=by kernel_rfl
 sizeByte:=by kernel_rfl
 neB5:=by decide }
open Go.RowKit Go.Lib in
theorem Tryz.strings_Repeat (s:ByteArray) (c:Nat) (w:World) (hc:c≤9223372036854775807) (hlen:s.size*c≤140737488355328) :
  Calls Tryz.prog 133 #[.string s,.int .i64 c] w fun e w'=>e=.returned (.string ⟨(Lib.repeatL s.data.toList c).toArray⟩)∧Below w.heap.size w w':=Any.strings_Repeat Tryz.lays105 Tryz.Builder_Extra_105 s c w hc hlen
def Tryz.lays107_ren:Go.Shelf.Ren:=⟨fun | 107=>130 | 108=>178 | n=>n,fun | 28=>179 | 3=>3 | 4=>4 | 0=>0 | n=>n,fun | n=>n⟩
theorem Tryz.lays107:Go.Proofs.Lays.n107 Tryz.prog Tryz.lays107_ren:={
 mixed:=by kernel_rfl
 f107:=Tryz.func130.trans (congrArg some (by kernel_rfl))
 f108:=Tryz.func178.trans (congrArg some (by kernel_rfl))
 t0:=Tryz.underlying0
 a0:=Tryz.isAgg0
 z0:=Tryz.sizeOf0
 v0:=Tryz.zeroValue0
 t3:=Tryz.underlying3
 a3:=Tryz.isAgg3
 z3:=Tryz.sizeOf3
 v3:=Tryz.zeroValue3
 t4:=Tryz.underlying4
 a4:=Tryz.isAgg4
 z4:=Tryz.sizeOf4
 v4:=Tryz.zeroValue4
 t28:=Tryz.underlying179
 a28:=Tryz.isAgg179
 z28:=Tryz.sizeOf179
 v28:=Tryz.zeroValue179 }
open Go.Lib in
theorem Tryz.slices_Contains_int (b off n c:Nat) (zs:List Int) (x:Int) (w:World) (hz:n≤zs.length) (hbig:n≤9223372036854775807) (hc:∀ j,j<zs.length→w.cell? ⟨b,off+j,none⟩=some (.int .i64 (zs.getD j 0))) :
  Calls Tryz.prog 130 #[.slice (some ⟨b,off,none⟩) n c,.int .i64 x] w fun e w'=>e=.returned (.bool ((zs.take n).contains x))∧w'=w:=Any.slices_Contains_int Tryz.lays107 b off n c zs x w hz hbig hc
def Tryz.lays196_ren:Go.Shelf.Ren:=⟨fun | 196=>175 | 259=>216 | n=>n,fun | 9=>9 | 4=>4 | 3=>3 | 5=>5 | 12=>12 | 119=>247 | 0=>0 | 46=>131 | 139=>250 | 138=>249 | 53=>25 | n=>n,fun | 3=>3 | 4=>4 | n=>n⟩
theorem Tryz.lays196:Go.Proofs.Lays.n196 Tryz.prog Tryz.lays196_ren:={
 mixed:=by kernel_rfl
 f196:=Tryz.func175.trans (congrArg some (by kernel_rfl))
 f259:=Tryz.func216.trans (congrArg some (by kernel_rfl))
 t0:=Tryz.underlying0
 a0:=Tryz.isAgg0
 z0:=Tryz.sizeOf0
 v0:=Tryz.zeroValue0
 t3:=Tryz.underlying3
 a3:=Tryz.isAgg3
 z3:=Tryz.sizeOf3
 v3:=Tryz.zeroValue3
 t4:=Tryz.underlying4
 a4:=Tryz.isAgg4
 z4:=Tryz.sizeOf4
 v4:=Tryz.zeroValue4
 t5:=Tryz.underlying5
 a5:=Tryz.isAgg5
 z5:=Tryz.sizeOf5
 v5:=Tryz.zeroValue5
 t9:=Tryz.underlying9
 a9:=Tryz.isAgg9
 z9:=Tryz.sizeOf9
 v9:=Tryz.zeroValue9
 t12:=Tryz.underlying12
 a12:=Tryz.isAgg12
 z12:=Tryz.sizeOf12
 v12:=Tryz.zeroValue12
 t46:=Tryz.underlying131
 a46:=Tryz.isAgg131
 z46:=Tryz.sizeOf131
 v46:=Tryz.zeroValue131
 t53:=Tryz.underlying25
 a53:=Tryz.isAgg25
 z53:=Tryz.sizeOf25
 v53:=Tryz.zeroValue25
 t119:=Tryz.underlying247
 a119:=Tryz.isAgg247
 z119:=Tryz.sizeOf247
 t138:=Tryz.underlying249
 a138:=Tryz.isAgg249
 z138:=Tryz.sizeOf249
 v138:=Tryz.zeroValue249
 t139:=Tryz.underlying250
 a139:=Tryz.isAgg250
 z139:=Tryz.sizeOf250
 v139:=Tryz.zeroValue250
 g3:=by kernel_rfl
 g4:=by kernel_rfl }
end Go.Proofs
