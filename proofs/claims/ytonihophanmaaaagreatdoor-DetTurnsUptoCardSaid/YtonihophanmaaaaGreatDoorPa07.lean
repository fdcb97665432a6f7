/- The texts Shelf, DsI, put together. -/
import Derived.Shelf.Strings.Builder1
import Derived.Shelf.Strings.Builder2
import Derived.Shelf.Strings.Trim
import Derived.Shelf.Small.Utf8
import Derived.Shelf.Small.Bits
import Derived.Shelf.Small.Strs
import Derived.Shelf.Strings.BuilderF
import Derived.Shelf.Strings.BuilderK
import Derived.Shelf.Strings.Builder2Cap
import Derived.Shelf.Strconv.Itoa0
import Derived.Shelf.Strconv.Itoa1
import Derived.Shelf.LaysM
import Derived.Shelf.Strconv.Itoa2
import Derived.Shelf.Strconv.Itoa3
import Derived.Shelf.Strconv.Clone
import Derived.Shelf.Strconv.SyntaxError
import Derived.Shelf.LaysC
import Derived.Shelf.Strconv.ToError
import Derived.Shelf.Strconv.Lower
import Derived.Shelf.Strconv.ParseUint10
import Derived.Shelf.Strconv.ParseUint10Empty
import Derived.Shelf.Strconv.ParseUint10Any
import Derived.Shelf.Strconv.RangeError
import Derived.Shelf.Strconv.ToErrorRange
import Derived.Shelf.Strconv.ParseUintEmpty
import Derived.Shelf.Strconv.ParseUint10b64
import Derived.Shelf.Strconv.ParseUint10b32
import Derived.Shelf.Strconv.ParseUint10b16
import Derived.Shelf.Strconv.ParseUint10b8
import Derived.Shelf.Strconv.ParseUint10At
import Derived.Ground.MpProg
import Derived.Shelf.Pu.ParseUintPublic10
import Derived.Shelf.Pu.ErrVarParseUint
import Derived.Shelf.Strings.Search1
import Derived.Shelf.Strings.Prefix
import Derived.Shelf.Unicode.Decode
import Derived.Shelf.Strings.Runes
import Derived.Shelf.Strings.AsciiSet
import Derived.Shelf.Bits.Mul64
import Derived.Shelf.Strings.Repeat
import Derived.Shelf.Unicode.DecodeSlow
import Derived.Shelf.Unicode.DecodeAny
import Derived.Shelf.Unicode.DecodeLast
import Derived.Shelf.Strings.BuilderCap
import Derived.Shelf.Slices.Turned
import Derived.Shelf.Unicode.ValidAny
import Derived.Test.YtonihophanmaaaaGreatDoorProg
import Derived.Test.YtonihophanmaaaaGreatDoorPa03
import Derived.Test.YtonihophanmaaaaGreatDoorPa05
import Derived.Test.YtonihophanmaaaaGreatDoorPa06
import Derived.Sort.OwnSorted
namespace Go.Proofs
open Go.Shelf
def Tryz.lays125_ren:Go.Shelf.Ren:=⟨fun | 125=>136 | 128=>194 | 129=>124 | n=>n,fun | 46=>131 | 3=>3 | 51=>226 | 53=>25 | 4=>4 | 5=>5 | 9=>9 | n=>n,fun | n=>n⟩
theorem Tryz.lays125:Go.Proofs.Lays.n125 Tryz.prog Tryz.lays125_ren:={
 mixed:=by kernel_rfl
 f125:=Tryz.func136.trans (congrArg some (by kernel_rfl))
 f128:=Tryz.func194.trans (congrArg some (by kernel_rfl))
 f129:=Tryz.func124.trans (congrArg some (by kernel_rfl))
 t3:=Tryz.underlying3
 a3:=Tryz.isAgg3
 z3:=Tryz.sizeOf3
 v3:=Tryz.zeroValue3
 t4:=Tryz.underlying4
 a4:=Tryz.isAgg4
 z4:=Tryz.sizeOf4
 v4:=Tryz.zeroValue4
 t5:=Tryz.underlying5
 a5:=Tryz.isAgg5
 z5:=Tryz.sizeOf5
 v5:=Tryz.zeroValue5
 t9:=Tryz.underlying9
 a9:=Tryz.isAgg9
 z9:=Tryz.sizeOf9
 v9:=Tryz.zeroValue9
 t46:=Tryz.underlying131
 a46:=Tryz.isAgg131
 z46:=Tryz.sizeOf131
 v46:=Tryz.zeroValue131
 t51:=Tryz.underlying226
 a51:=Tryz.isAgg226
 z51:=Tryz.sizeOf226
 v51:=Tryz.zeroValue226
 t53:=Tryz.underlying25
 a53:=Tryz.isAgg25
 z53:=Tryz.sizeOf25
 v53:=Tryz.zeroValue25 }
theorem Tryz.bits_Len (x:Int) (w:World) (h0:0≤x) (h1:x≤18446744073709551615) :
  Calls Tryz.prog 136 #[.int .u64 x] w fun e w'=>e=.returned (.int .i64 (Lib.bitLen x.toNat))∧w'=w:=Any.bits_Len Tryz.lays125 x w h0 h1
def Tryz.lays129_ren:Go.Shelf.Ren:=⟨fun | 129=>124 | n=>n,fun | 53=>25 | 3=>3 | 4=>4 | 46=>131 | 5=>5 | 9=>9 | n=>n,fun | n=>n⟩
theorem Tryz.lays129:Go.Proofs.Lays.n129 Tryz.prog Tryz.lays129_ren:={
 mixed:=by kernel_rfl
 f129:=Tryz.func124.trans (congrArg some (by kernel_rfl))
 t3:=Tryz.underlying3
 a3:=Tryz.isAgg3
 z3:=Tryz.sizeOf3
 v3:=Tryz.zeroValue3
 t4:=Tryz.underlying4
 a4:=Tryz.isAgg4
 z4:=Tryz.sizeOf4
 v4:=Tryz.zeroValue4
 t5:=Tryz.underlying5
 a5:=Tryz.isAgg5
 z5:=Tryz.sizeOf5
 v5:=Tryz.zeroValue5
 t9:=Tryz.underlying9
 a9:=Tryz.isAgg9
 z9:=Tryz.sizeOf9
 v9:=Tryz.zeroValue9
 t46:=Tryz.underlying131
 a46:=Tryz.isAgg131
 z46:=Tryz.sizeOf131
 v46:=Tryz.zeroValue131
 t53:=Tryz.underlying25
 a53:=Tryz.isAgg25
 z53:=Tryz.sizeOf25
 v53:=Tryz.zeroValue25 }
theorem Tryz.bits_Len64 (x:Int) (w:World) (h0:0≤x) (h1:x≤18446744073709551615) :
  Calls Tryz.prog 124 #[.int .u64 x] w fun e w'=>e=.returned (.int .i64 (Lib.bitLen x.toNat))∧w'=w:=Any.bits_Len64 Tryz.lays129 x w h0 h1
def Tryz.laysPu14_ren:Go.Shelf.Ren:=⟨fun | 14=>180 | 16=>217 | 17=>218 | 19=>252 | 20=>253 | 21=>254 | 22=>255 | 23=>256 | 24=>257 | 25=>273 | 27=>275 | 26=>274 | 28=>286 | 29=>297 | 30=>278 | 31=>279 | 32=>280 | 33=>281 | 35=>124 | 34=>288 | 36=>289 | 37=>290 | 38=>291 | 39=>298 | 40=>299 | n=>n,fun | 9=>9 | 3=>3 | 22=>25 | 24=>48 | 25=>210 | 4=>4 | 34=>284 | 5=>5 | 36=>131 | 37=>95 | 0=>0 | 39=>286 | 21=>21 | 44=>308 | 47=>164 | 50=>323 | 48=>321 | 2=>2 | 52=>313 | 55=>315 | 59=>326 | 60=>226 | 20=>20 | 61=>327 | 65=>331 | 66=>332 | 67=>101 | n=>n,fun | 0=>5 | 1=>6 | 2=>8 | 3=>9 | 4=>10 | n=>n⟩
theorem Tryz.laysPu14:Go.Proofs.LaysPu.n14 Tryz.prog Tryz.laysPu14_ren:={
 mixed:=by kernel_rfl
 f14:=Tryz.func180.trans (congrArg some (by kernel_rfl))
 f16:=Tryz.func217.trans (congrArg some (by kernel_rfl))
 f17:=Tryz.func218.trans (congrArg some (by kernel_rfl))
 f19:=Tryz.func252.trans (congrArg some (by kernel_rfl))
 f20:=Tryz.func253.trans (congrArg some (by kernel_rfl))
 f21:=Tryz.func254.trans (congrArg some (by kernel_rfl))
 f22:=Tryz.func255.trans (congrArg some (by kernel_rfl))
 f23:=Tryz.func256.trans (congrArg some (by kernel_rfl))
 f24:=Tryz.func257.trans (congrArg some (by kernel_rfl))
 f25:=Tryz.func273.trans (congrArg some (by kernel_rfl))
 f26:=Tryz.func274.trans (congrArg some (by kernel_rfl))
 f27:=Tryz.func275.trans (congrArg some (by kernel_rfl))
 f28:=Tryz.func286.trans (congrArg some (by kernel_rfl))
 f29:=Tryz.func297.trans (congrArg some (by kernel_rfl))
 f30:=Tryz.func278.trans (congrArg some (by kernel_rfl))
 f31:=Tryz.func279.trans (congrArg some (by kernel_rfl))
 f32:=Tryz.func280.trans (congrArg some (by kernel_rfl))
 f33:=Tryz.func281.trans (congrArg some (by kernel_rfl))
 f34:=Tryz.func288.trans (congrArg some (by kernel_rfl))
 f35:=Tryz.func124.trans (congrArg some (by kernel_rfl))
 f36:=Tryz.func289.trans (congrArg some (by kernel_rfl))
 f37:=Tryz.func290.trans (congrArg some (by kernel_rfl))
 f38:=Tryz.func291.trans (congrArg some (by kernel_rfl))
 f39:=Tryz.func298.trans (congrArg some (by kernel_rfl))
 f40:=Tryz.func299.trans (congrArg some (by kernel_rfl))
 t0:=Tryz.underlying0
 a0:=Tryz.isAgg0
 z0:=Tryz.sizeOf0
 v0:=Tryz.zeroValue0
 i0:=by kernel_rfl
 t2:=Tryz.underlying2
 a2:=Tryz.isAgg2
 z2:=Tryz.sizeOf2
 v2:=Tryz.zeroValue2
 i2:=by kernel_rfl
 t3:=Tryz.underlying3
 a3:=Tryz.isAgg3
 z3:=Tryz.sizeOf3
 v3:=Tryz.zeroValue3
 i3:=by kernel_rfl
 t4:=Tryz.underlying4
 a4:=Tryz.isAgg4
 z4:=Tryz.sizeOf4
 v4:=Tryz.zeroValue4
 i4:=by kernel_rfl
 t5:=Tryz.underlying5
 a5:=Tryz.isAgg5
 z5:=Tryz.sizeOf5
 v5:=Tryz.zeroValue5
 i5:=by kernel_rfl
 t9:=Tryz.underlying9
 a9:=Tryz.isAgg9
 z9:=Tryz.sizeOf9
 v9:=Tryz.zeroValue9
 i9:=by kernel_rfl
 t20:=Tryz.underlying20
 a20:=Tryz.isAgg20
 z20:=Tryz.sizeOf20
 v20:=Tryz.zeroValue20
 i20:=by kernel_rfl
 t21:=Tryz.underlying21
 a21:=Tryz.isAgg21
 z21:=Tryz.sizeOf21
 v21:=Tryz.zeroValue21
 i21:=by kernel_rfl
 t22:=Tryz.underlying25
 a22:=Tryz.isAgg25
 z22:=Tryz.sizeOf25
 v22:=Tryz.zeroValue25
 i22:=by kernel_rfl
 t24:=Tryz.underlying48
 a24:=Tryz.isAgg48
 z24:=Tryz.sizeOf48
 v24:=Tryz.zeroValue48
 i24:=by kernel_rfl
 t25:=Tryz.underlying210
 a25:=Tryz.isAgg210
 z25:=Tryz.sizeOf210
 v25:=Tryz.zeroValue210
 i25:=by kernel_rfl
 t34:=Tryz.underlying284
 a34:=Tryz.isAgg284
 z34:=Tryz.sizeOf284
 v34:=Tryz.zeroValue284
 i34:=by kernel_rfl
 c34:=by kernel_rfl
 t36:=Tryz.underlying131
 a36:=Tryz.isAgg131
 z36:=Tryz.sizeOf131
 v36:=Tryz.zeroValue131
 i36:=by kernel_rfl
 t37:=Tryz.underlying95
 a37:=Tryz.isAgg95
 z37:=Tryz.sizeOf95
 v37:=Tryz.zeroValue95
 i37:=by kernel_rfl
 t39:=Tryz.underlying286
 a39:=Tryz.isAgg286
 z39:=Tryz.sizeOf286
 v39:=Tryz.zeroValue286
 i39:=by kernel_rfl
 t44:=Tryz.underlying308
 a44:=Tryz.isAgg308
 z44:=Tryz.sizeOf308
 v44:=Tryz.zeroValue308
 i44:=by kernel_rfl
 t47:=Tryz.underlying164
 a47:=Tryz.isAgg164
 z47:=Tryz.sizeOf164
 v47:=Tryz.zeroValue164
 i47:=by kernel_rfl
 t48:=Tryz.underlying321
 a48:=Tryz.isAgg321
 z48:=Tryz.sizeOf321
 v48:=Tryz.zeroValue321
 i48:=by kernel_rfl
 t50:=Tryz.underlying323
 a50:=Tryz.isAgg323
 z50:=Tryz.sizeOf323
 v50:=Tryz.zeroValue323
 i50:=by kernel_rfl
 t52:=Tryz.underlying313
 a52:=Tryz.isAgg313
 z52:=Tryz.sizeOf313
 v52:=Tryz.zeroValue313
 i52:=by kernel_rfl
 t55:=Tryz.underlying315
 a55:=Tryz.isAgg315
 z55:=Tryz.sizeOf315
 v55:=Tryz.zeroValue315
 i55:=by kernel_rfl
 t59:=Tryz.underlying326
 a59:=Tryz.isAgg326
 z59:=Tryz.sizeOf326
 v59:=Tryz.zeroValue326
 i59:=by kernel_rfl
 t60:=Tryz.underlying226
 a60:=Tryz.isAgg226
 z60:=Tryz.sizeOf226
 v60:=Tryz.zeroValue226
 i60:=by kernel_rfl
 t61:=Tryz.underlying327
 a61:=Tryz.isAgg327
 z61:=Tryz.sizeOf327
 t65:=Tryz.underlying331
 a65:=Tryz.isAgg331
 z65:=Tryz.sizeOf331
 v65:=Tryz.zeroValue331
 i65:=by kernel_rfl
 t66:=Tryz.underlying332
 a66:=Tryz.isAgg332
 z66:=Tryz.sizeOf332
 v66:=Tryz.zeroValue332
 i66:=by kernel_rfl
 t67:=Tryz.underlying101
 a67:=Tryz.isAgg101
 z67:=Tryz.sizeOf101
 v67:=Tryz.zeroValue101
 i67:=by kernel_rfl
 g0:=by kernel_rfl
 m0:=by kernel_rfl
 g1:=by kernel_rfl
 m1:=by kernel_rfl
 g2:=by kernel_rfl
 m2:=by kernel_rfl
 g3:=by kernel_rfl
 m3:=by kernel_rfl
 g4:=by kernel_rfl
 m4:=by kernel_rfl }
open Go.RowKit in
theorem Tryz.strconv_ParseUint_10_at64_ok (s:ByteArray) (hmax:s.size≤9223372036854775806) (u:Nat) (h:Lib.parseUintB 64 s.data.toList=.ok u) (w:World) :
  Calls Tryz.prog 180 #[.string s,.int .i64 10,.int .i64 64] w fun e w'=>e=.returned (.tuple #[.int .u64 u,.nilIface])∧(w'=w∨w'=Lib.bytesWorld w 5 s):=Any.strconv_ParseUint_10_at64_ok Tryz.laysPu14 s hmax u h w
open Go.RowKit in
open Go.RowKit in
theorem Tryz.strconv_ParseUint_10_at64_range_var (s:ByteArray) (hlim:s.size≤281474976710656) (h:Lib.parseUintB 64 s.data.toList=.range) (tp:TypeId) (p:Value) (w:World) (hvar:w.var? Tryz.prog "strconv.ErrRange" = some #[.iface tp p]) :
  Calls Tryz.prog 180 #[.string s,.int .i64 10,.int .i64 64] w fun e w'=>∃ N,e=.returned (.tuple #[.int .u64 18446744073709551615,.iface 286 (.pointer (some ⟨N,0,none⟩))])∧w.heap.size≤N∧w'.heap[N]? = some (.cells #[.string ⟨#[80,97,114,115,101,85,105,110,116]⟩,.string s,.iface tp p] 308 (0,0))∧Below w.heap.size w w':=Any.strconv_ParseUint_10_at64_range_var Tryz.laysPu14 s hlim h tp p w hvar
def Tryz.lays100_ren:Go.Shelf.Ren:=⟨fun | 100=>174 | 207=>215 | n=>n,fun | 9=>9 | 4=>4 | 3=>3 | n=>n,fun | n=>n⟩
theorem Tryz.lays100:Go.Proofs.Lays.n100 Tryz.prog Tryz.lays100_ren:={
 mixed:=by kernel_rfl
 f100:=Tryz.func174.trans (congrArg some (by kernel_rfl))
 f207:=Tryz.func215.trans (congrArg some (by kernel_rfl))
 t3:=Tryz.underlying3
 a3:=Tryz.isAgg3
 z3:=Tryz.sizeOf3
 v3:=Tryz.zeroValue3
 t4:=Tryz.underlying4
 a4:=Tryz.isAgg4
 z4:=Tryz.sizeOf4
 v4:=Tryz.zeroValue4
 t9:=Tryz.underlying9
 a9:=Tryz.isAgg9
 z9:=Tryz.sizeOf9
 v9:=Tryz.zeroValue9 }
open Go.RowKit Go.Lib in
theorem Tryz.strings_HasSuffix (s p:ByteArray) (w:World) (hs:s.size≤9223372036854775807) :
  Calls Tryz.prog 174 #[.string s,.string p] w fun e w'=>e=.returned (.bool (Lib.hasSuffix s.data.toList p.data.toList))∧w'=w:=Any.strings_HasSuffix Tryz.lays100 s p w hs
def Tryz.lays227_ren:Go.Shelf.Ren:=⟨fun | 227=>247 | n=>n,fun | 9=>9 | 116=>279 | 4=>4 | 0=>0 | 3=>3 | 5=>5 | n=>n,fun | n=>n⟩
theorem Tryz.lays227:Go.Proofs.Lays.n227 Tryz.prog Tryz.lays227_ren:={
 mixed:=by kernel_rfl
 f227:=Tryz.func247.trans (congrArg some (by kernel_rfl))
 t0:=Tryz.underlying0
 a0:=Tryz.isAgg0
 z0:=Tryz.sizeOf0
 v0:=Tryz.zeroValue0
 t3:=Tryz.underlying3
 a3:=Tryz.isAgg3
 z3:=Tryz.sizeOf3
 v3:=Tryz.zeroValue3
 t4:=Tryz.underlying4
 a4:=Tryz.isAgg4
 z4:=Tryz.sizeOf4
 v4:=Tryz.zeroValue4
 t5:=Tryz.underlying5
 a5:=Tryz.isAgg5
 z5:=Tryz.sizeOf5
 v5:=Tryz.zeroValue5
 t9:=Tryz.underlying9
 a9:=Tryz.isAgg9
 z9:=Tryz.sizeOf9
 v9:=Tryz.zeroValue9
 t116:=Tryz.underlying279
 a116:=Tryz.isAgg279
 z116:=Tryz.sizeOf279 }
open Go.RowKit Go.Lib in
theorem Tryz.strings_makeASCIISet (hv116:∀ w,(zeroValue 279).run Tryz.prog w=.ok (.agg (Array.replicate 256 (.bool false))) w) (chars:ByteArray) (w:World) (hs:chars.size<4294967281) (hascii:∀ (j:Nat) b,chars.data.toList[j]? = some b→b.toNat<128) :
  Calls Tryz.prog 247 #[.string chars] w fun e w'=>e=.returned (.tuple #[.agg (Lib.setCells chars.data.toList),.bool true])∧w'=w.alloc (.cells (Lib.setCells chars.data.toList) 279):=Any.strings_makeASCIISet Tryz.lays227 hv116 (by kernel_rfl) chars w hs hascii
def Tryz.lays228_ren:Go.Shelf.Ren:=⟨fun | 228=>269 | n=>n,fun | 124=>283 | 5=>5 | 4=>4 | 0=>0 | 116=>279 | n=>n,fun | n=>n⟩
theorem Tryz.lays228:Go.Proofs.Lays.n228 Tryz.prog Tryz.lays228_ren:={
 mixed:=by kernel_rfl
 f228:=Tryz.func269.trans (congrArg some (by kernel_rfl))
 t0:=Tryz.underlying0
 a0:=Tryz.isAgg0
 z0:=Tryz.sizeOf0
 v0:=Tryz.zeroValue0
 t4:=Tryz.underlying4
 a4:=Tryz.isAgg4
 z4:=Tryz.sizeOf4
 v4:=Tryz.zeroValue4
 t5:=Tryz.underlying5
 a5:=Tryz.isAgg5
 z5:=Tryz.sizeOf5
 v5:=Tryz.zeroValue5
 t116:=Tryz.underlying279
 a116:=Tryz.isAgg279
 z116:=Tryz.sizeOf279
 t124:=Tryz.underlying283
 a124:=Tryz.isAgg283
 z124:=Tryz.sizeOf283
 v124:=Tryz.zeroValue283 }
open Go.RowKit Go.Lib in
theorem Tryz.asciiSet_contains (b:Nat) (x:UInt8) (v:Bool) (w:World) (hc:w.cell? ⟨b,x.toNat,none⟩=some (.bool v)) :
  Calls Tryz.prog 269 #[.pointer (some ⟨b,0,none⟩),.int .u8 x.toNat] w fun e w'=>e=.returned (.bool v)∧w'=w:=Any.asciiSet_contains Tryz.lays228 b x v w hc
def Tryz.lays105_ren:Go.Shelf.Ren:=⟨fun | 105=>133 | 212=>181 | 99=>182 | 165=>183 | 166=>184 | 170=>185 | 169=>72 | 263=>219 | 264=>220 | 206=>221 | 240=>222 | 241=>223 | 276=>258 | 277=>259 | n=>n,fun | 9=>9 | 3=>3 | 4=>4 | 20=>20 | 0=>0 | 46=>131 | 109=>212 | 5=>5 | 72=>97 | 76=>215 | 51=>226 | 146=>252 | 53=>25 | 148=>254 | 70=>94 | 37=>95 | 75=>48 | 127=>164 | 164=>191 | 80=>101 | n=>n,fun | n=>n⟩
theorem Tryz.lays105:Go.Proofs.Lays.n105 Tryz.prog Tryz.lays105_ren:={
 mixed:=by kernel_rfl
 f99:=Tryz.func182.trans (congrArg some (by kernel_rfl))
 f105:=Tryz.func133.trans (congrArg some (by kernel_rfl))
 f165:=Tryz.func183.trans (congrArg some (by kernel_rfl))
 f166:=Tryz.func184.trans (congrArg some (by kernel_rfl))
 f169:=Tryz.func72.trans (congrArg some (by kernel_rfl))
 f170:=Tryz.func185.trans (congrArg some (by kernel_rfl))
 f206:=Tryz.func221.trans (congrArg some (by kernel_rfl))
 f212:=Tryz.func181.trans (congrArg some (by kernel_rfl))
 f240:=Tryz.func222.trans (congrArg some (by kernel_rfl))
 f241:=Tryz.func223.trans (congrArg some (by kernel_rfl))
 f263:=Tryz.func219.trans (congrArg some (by kernel_rfl))
 f264:=Tryz.func220.trans (congrArg some (by kernel_rfl))
 f276:=Tryz.func258.trans (congrArg some (by kernel_rfl))
 f277:=Tryz.func259.trans (congrArg some (by kernel_rfl))
 t0:=Tryz.underlying0
 a0:=Tryz.isAgg0
 z0:=Tryz.sizeOf0
 v0:=Tryz.zeroValue0
 t3:=Tryz.underlying3
 a3:=Tryz.isAgg3
 z3:=Tryz.sizeOf3
 v3:=Tryz.zeroValue3
 t4:=Tryz.underlying4
 a4:=Tryz.isAgg4
 z4:=Tryz.sizeOf4
 v4:=Tryz.zeroValue4
 t5:=Tryz.underlying5
 a5:=Tryz.isAgg5
 z5:=Tryz.sizeOf5
 v5:=Tryz.zeroValue5
 t9:=Tryz.underlying9
 a9:=Tryz.isAgg9
 z9:=Tryz.sizeOf9
 v9:=Tryz.zeroValue9
 t20:=Tryz.underlying20
 a20:=Tryz.isAgg20
 z20:=Tryz.sizeOf20
 v20:=Tryz.zeroValue20
 t37:=Tryz.underlying95
 a37:=Tryz.isAgg95
 z37:=Tryz.sizeOf95
 v37:=Tryz.zeroValue95
 t46:=Tryz.underlying131
 a46:=Tryz.isAgg131
 z46:=Tryz.sizeOf131
 v46:=Tryz.zeroValue131
 t51:=Tryz.underlying226
 a51:=Tryz.isAgg226
 z51:=Tryz.sizeOf226
 v51:=Tryz.zeroValue226
 t53:=Tryz.underlying25
 a53:=Tryz.isAgg25
 z53:=Tryz.sizeOf25
 v53:=Tryz.zeroValue25
 t70:=Tryz.underlying94
 a70:=Tryz.isAgg94
 z70:=Tryz.sizeOf94
 v70:=Tryz.zeroValue94
 t72:=Tryz.underlying97
 a72:=Tryz.isAgg97
 z72:=Tryz.sizeOf97
 v72:=Tryz.zeroValue97
 t75:=Tryz.underlying48
 a75:=Tryz.isAgg48
 z75:=Tryz.sizeOf48
 v75:=Tryz.zeroValue48
 t76:=Tryz.underlying215
 a76:=Tryz.isAgg215
 z76:=Tryz.sizeOf215
 v76:=Tryz.zeroValue215
 t109:=Tryz.underlying212
 a109:=Tryz.isAgg212
 z109:=Tryz.sizeOf212
 v109:=Tryz.zeroValue212
 t127:=Tryz.underlying164
 a127:=Tryz.isAgg164
 z127:=Tryz.sizeOf164
 v127:=Tryz.zeroValue164
 t146:=Tryz.underlying252
 a146:=Tryz.isAgg252
 z146:=Tryz.sizeOf252
 v146:=Tryz.zeroValue252
 t148:=Tryz.underlying254
 a148:=Tryz.isAgg254
 z148:=Tryz.sizeOf254
 v148:=Tryz.zeroValue254
 t164:=Tryz.underlying191
 a164:=Tryz.isAgg191
 z164:=Tryz.sizeOf191
 v164:=Tryz.zeroValue191 }
theorem Tryz.Builder_Extra_105:Builder.Extra Tryz.prog Tryz.lays105_ren:={
 sizeBuilder:=by kernel_rfl
 liesBuilder:=by kernel_rfl
 t5:=Tryz.underlying5
 a5:=Tryz.isAgg5
 z5:=Tryz.sizeOf5
 v5:=Tryz.zeroValue5
 infoByte:=by kernel_rfl
 cellsByte:=by kernel_rfl
 sizeByte:=by kernel_rfl
 neB5:=by decide }
open Go.RowKit Go.Lib in
theorem Tryz.strings_Repeat (s:ByteArray) (c:Nat) (w:World) (hc:c≤9223372036854775807) (hlen:s.size*c≤140737488355328) :
  Calls Tryz.prog 133 #[.string s,.int .i64 c] w fun e w'=>e=.returned (.string ⟨(Lib.repeatL s.data.toList c).toArray⟩)∧Below w.heap.size w w':=Any.strings_Repeat Tryz.lays105 Tryz.Builder_Extra_105 s c w hc hlen
def Tryz.lays107_ren:Go.Shelf.Ren:=⟨fun | 107=>130 | 108=>178 | n=>n,fun | 28=>179 | 3=>3 | 4=>4 | 0=>0 | n=>n,fun | n=>n⟩
theorem Tryz.lays107:Go.Proofs.Lays.n107 Tryz.prog Tryz.lays107_ren:={
 mixed:=by kernel_rfl
 f107:=Tryz.func130.trans (congrArg some (by kernel_rfl))
 f108:=Tryz.func178.trans (congrArg some (by kernel_rfl))
 t0:=Tryz.underlying0
 a0:=Tryz.isAgg0
 z0:=Tryz.sizeOf0
 v0:=Tryz.zeroValue0
 t3:=Tryz.underlying3
 a3:=Tryz.isAgg3
 z3:=Tryz.sizeOf3
 v3:=Tryz.zeroValue3
 t4:=Tryz.underlying4
 a4:=Tryz.isAgg4
 z4:=Tryz.sizeOf4
 v4:=Tryz.zeroValue4
 t28:=Tryz.underlying179
 a28:=Tryz.isAgg179
 z28:=Tryz.sizeOf179
 v28:=Tryz.zeroValue179 }
open Go.Lib in
theorem Tryz.slices_Contains_int (b off n c:Nat) (zs:List Int) (x:Int) (w:World) (hz:n≤zs.length) (hbig:n≤9223372036854775807) (hc:∀ j,j<zs.length→w.cell? ⟨b,off+j,none⟩=some (.int .i64 (zs.getD j 0))) :
  Calls Tryz.prog 130 #[.slice (some ⟨b,off,none⟩) n c,.int .i64 x] w fun e w'=>e=.returned (.bool ((zs.take n).contains x))∧w'=w:=Any.slices_Contains_int Tryz.lays107 b off n c zs x w hz hbig hc
def Tryz.lays196_ren:Go.Shelf.Ren:=⟨fun | 196=>175 | 259=>216 | n=>n,fun | 9=>9 | 4=>4 | 3=>3 | 5=>5 | 12=>12 | 119=>247 | 0=>0 | 46=>131 | 139=>250 | 138=>249 | 53=>25 | n=>n,fun | 3=>3 | 4=>4 | n=>n⟩
theorem Tryz.lays196:Go.Proofs.Lays.n196 Tryz.prog Tryz.lays196_ren:={
 mixed:=by kernel_rfl
 f196:=Tryz.func175.trans (congrArg some (by kernel_rfl))
 f259:=Tryz.func216.trans (congrArg some (by kernel_rfl))
 t0:=Tryz.underlying0
 a0:=Tryz.isAgg0
 z0:=Tryz.sizeOf0
 v0:=Tryz.zeroValue0
 t3:=Tryz.underlying3
 a3:=Tryz.isAgg3
 z3:=Tryz.sizeOf3
 v3:=Tryz.zeroValue3
 t4:=Tryz.underlying4
 a4:=Tryz.isAgg4
 z4:=Tryz.sizeOf4
 v4:=Tryz.zeroValue4
 t5:=Tryz.underlying5
 a5:=Tryz.isAgg5
 z5:=Tryz.sizeOf5
 v5:=Tryz.zeroValue5
 t9:=Tryz.underlying9
 a9:=Tryz.isAgg9
 z9:=Tryz.sizeOf9
 v9:=Tryz.zeroValue9
 t12:=Tryz.underlying12
 a12:=Tryz.isAgg12
 z12:=Tryz.sizeOf12
 v12:=Tryz.zeroValue12
 t46:=Tryz.underlying131
 a46:=Tryz.isAgg131
 z46:=Tryz.sizeOf131
 v46:=Tryz.zeroValue131
 t53:=Tryz.underlying25
 a53:=Tryz.isAgg25
 z53:=Tryz.sizeOf25
 v53:=Tryz.zeroValue25
 t119:=Tryz.underlying247
 a119:=Tryz.isAgg247
 z119:=Tryz.sizeOf247
 t138:=Tryz.underlying249
 a138:=Tryz.isAgg249
 z138:=Tryz.sizeOf249
 v138:=Tryz.zeroValue249
 t139:=Tryz.underlying250
 a139:=Tryz.isAgg250
 z139:=Tryz.sizeOf250
 v139:=Tryz.zeroValue250
 g3:=by kernel_rfl
 g4:=by kernel_rfl }
end Go.Proofs
namespace Go.Proofs.YtonihophanmaaaaGreatDoor
open Go.RowKit Go.Shelf
structure PairG where
 k:Tr
 kA:Option Addr
 kn:Nat
 kc:Nat
 v:Tr
 hA:Option Addr
 hn:Nat
 hc:Nat
instance:Inhabited PairG:=⟨⟨.nd zeroO [],none,0,0,.nd zeroO [],none,0,0⟩⟩
def PairG.m (p:PairG):PairM:=⟨p.k.own,p.kA,p.kn,p.kc,bs (cbT p.k),p.v.own,p.hA,p.hn,p.hc⟩
def PairG.key (p:PairG):Tr×Tr:=(p.k,p.v)
def encG (p:PairG):List Value:=encP p.m
def cfG (p q:PairG):Int:=cmpS p.m.it q.m.it
theorem ltG (x y:PairG):ltOf cfG x y=decide (cbT x.k<cbT y.k):=by
 unfold ltOf cfG cmpS
 have e:Op.bytesLess x.m.it.toList y.m.it.toList=decide (cbT x.k<cbT y.k):=by
  rw [Go.Proofs.bytesLess_eq,ByteArray.toList_eq,ByteArray.toList_eq]
  rfl
 rw [e]
 by_cases h:cbT x.k<cbT y.k
 ·simp [h]
 ·simp only [h,decide_false,Bool.false_eq_true,if_false]
  split <;> decide
theorem swoG:Go.Sort.SWO (ltOf cfG) where
 irrefl x:=by rw [ltG]; simp [List.lt_irrefl]
 trans x y z h1 h2:=by
  rw [ltG,decide_eq_true_iff]at *
  exact List.lt_trans h1 h2
 ntrans x y z h1 h2:=by
  rw [ltG,decide_eq_false_iff_not]at *
  exact fun h=>h1 (by
   by_cases e:cbT x.k=cbT y.k
   ·rw [e]at h; exact absurd h h2
   ·rcases lt_or e with h3 | h3
    ·exact h3
    ·exact absurd (List.lt_trans h3 h) h2)
theorem flat_get:∀ (l:List PairG) (i c:Nat) (hi:i<l.length),c<19→(l.flatMap encG)[i*19+c]? = (encG l[i])[c]?
 | [],i,_,h,_=>by simp at h
 | p::l,0,c,_,hc=>by
  rw [List.flatMap_cons,List.getElem?_append_left (by rw [show (encG p).length=19 from rfl]; omega)]
  simp
 | p::l,i+1,c,h,hc=>by
  rw [List.flatMap_cons,List.getElem?_append_right (by rw [show (encG p).length=19 from rfl]; omega),show (encG p).length=19 from rfl,show (i+1)*19+c - 19=i*19+c by omega]
  have:=flat_get l i c (by simpa using h) hc
  simpa using this
theorem holds_row {w:World} {base g n cap:Nat} {e:TypeId} {d:Array PairG} (h:w.ownsRow base e 19 (.slice (some ⟨g,0,none⟩) n cap) n (d.toList.flatMap encG)) (hn:d.size=n):Go.Sort.HoldsK encG 19 w g 0 d:=by
 intro j hj
 rw [Go.Sort.size_flatK]at hj
 rw [Go.Sort.get_flatK _ _ _ _ hj]
 have hi:j / 19<d.size:=Nat.div_lt_of_lt_mul (by omega)
 have hc:j % 19<19:=Nat.mod_lt _ (by decide)
 have hg:=flat_get d.toList (j / 19) (j % 19) (by simpa using hi) hc
 rw [show j / 19*19+j % 19=j by omega]at hg
 have e1:d[j / 19]! = d.toList[j / 19]'(by simpa using hi):=by
  rw [getElem!_pos d (j / 19) hi,Array.getElem_toList]
 rw [e1]
 have hl:j % 19<(encG (d.toList[j / 19]'(by simpa using hi))).length:=by rw [show (encG (d.toList[j / 19]'(by simpa using hi))).length=19 from rfl]; exact hc
 rw [List.getElem?_eq_getElem hl]at hg
 rw [getElem!_pos (encG (d.toList[j / 19]'(by simpa using hi))) (j % 19) hl,Nat.zero_add]
 rcases h.2 with ⟨h2,_⟩ | ⟨g',cap',cur,hv,hb,hh,hnc,hcm,hs,ht⟩
 ·cases h2
 ·have hgg:g'=g:=by
   injection hv with h1
   injection h1 with h1
   injection h1 with h1
   exact h1.symm
  subst hgg
  rw [← ht,List.getElem?_take_of_lt (by omega)]at hg
  refine ⟨?_,by simp [World.frozen?,hh]⟩
  simp only [World.cell?,hh]
  simpa using hg
set_option maxHeartbeats 4000000 in
theorem sort_pairs (g cap n:Nat) (base:Nat) (e:TypeId) (d:Array PairG) (w:World) (h:w.ownsRow base e 19 (.slice (some ⟨g,0,none⟩) n cap) n (d.toList.flatMap encG)) (hn:d.size=n) (hs:n≤1000000) :
  Calls Tryz.prog 94 #[.slice (some ⟨g,0,none⟩) n cap,.func (.func 95) #[] #[]] w fun x w'=>x=.returned (.tuple #[])∧w.grownBy w' (some g) ∧
   ∃ d':Array PairG,d'.toList.Perm d.toList∧(ItemsApart cbT (d.toList.map PairG.key)→d'.toList.map PairG.key=sortP cbT (d.toList.map PairG.key))∧Go.Sort.HoldsK encG 19 w' g 0 d'∧d'.size=n:=by
 have hH:=holds_row h hn
 have hg:g<w.heap.size:=by
  rcases h.2 with ⟨h2,_⟩ | ⟨g',cap',cur,hv,hb,hh,_⟩
  ·cases h2
  ·injection hv with h1
   injection h1 with h1
   injection h1 with h1
   rw [h1]
   exact (Array.getElem?_eq_some_iff.1 hh).1
 subst hn
 have eg:∀ args w,(callFunc 95 args).run Tryz.prog w=.ok (.enter 95 args) w:=enters_of Tryz.func95 (by kernel_rfl) rfl
 have hcon:=AnyQ.slices_SortFunc Tryz.sortPairs 19 Tryz.isAgg124 Tryz.sizeOf124 encG (fun _=>rfl) (fun x=>encP_one x.m) cfG swoG 95 #[] g 0 cap d w eg (fun m os dk hdk x y=>(pair_compare x.m y.m _).mono (by
  rintro e w' ⟨rfl,rfl⟩
  exact ⟨rfl,0,_,by rw [Go.Sort.alloc_eq_grow,Go.Sort.alloc_eq_grow,Go.Sort.grow_grow]; rfl⟩)) hH hg (by omega)
 refine hcon.mono ?_
 rintro x w' ⟨rfl,d',m,os,hp,hso,rfl⟩
 refine ⟨rfl,?_,d',perm_of hp,fun ha=>sorted_pairs cbT PairG.key (ltOf cfG) (fun x y=>ltG x y) hp hso ha,?_,hp.1⟩
 ·unfold sortWorldK Go.Sort.putRowK
  refine ⟨rfl,rfl,rfl,by simp,fun k hk hne=>?_⟩
  rw [Go.Sort.heap_grow_old _ _ (by simpa using hk)]
  have:g≠k:=fun e=>hne (by rw [e])
  simp [Go.Sort.putRow,Go.Sort.mapBlock,Go.Sort.ahead,Array.getElem?_modify,this]
 ·exact holdsK_sortWorldK_c encG 19 w g 0 d d' m os hH hg hp.1
set_option maxHeartbeats 2000000 in
theorem insert_none (fv:Value) (w:World):Calls Tryz.prog 186 #[.slice none 0 0,.int .i64 0,.int .i64 0,fv] w fun e w'=>e=.returned (.tuple #[])∧w'=w:=by
 go_enter Tryz.func186,Tryz.ntmps186
 go_wp2
 refine wp_loop_rounds 1 ?_
 rw [rounds_succ]
 go_wp2
 go_end0
 exact ⟨rfl,rfl⟩
set_option maxHeartbeats 2000000 in
theorem pdq_none (lim:Int) (fv:Value) (w:World):Calls Tryz.prog 135 #[.slice none 0 0,.int .i64 0,.int .i64 0,.int .i64 lim,fv] w fun e w'=>e=.returned (.tuple #[])∧w'=w:=by
 have HI:=Lib.hid (fun W=>insert_none fv W)
 go_enter Tryz.func135,Tryz.ntmps135
 go_wp2
 refine wp_loop_rounds 1 ?_
 rw [rounds_succ]
 go_wp2_with fail
 refine (HI.out _).mono ?_
 rintro e w' ⟨rfl,rfl⟩
 go_wp2_with fail
 (try simp only [Exit.inBlock,Exit.then])
 refine bodyPost_ret (results_none rfl _ _ _) rfl ?_
 exact ⟨rfl,rfl⟩
set_option maxHeartbeats 2000000 in
theorem sort_none (fv:Value) (w:World):Calls Tryz.prog 94 #[.slice none 0 0,fv] w fun e w'=>e=.returned (.tuple #[])∧w'=w:=by
 have HP:=Lib.hid (fun lim W=>pdq_none lim fv W)
 have HL:=Lib.hid (fun W=>Tryz.bits_Len 0 W (by omega) (by omega))
 go_enter Tryz.func94,Tryz.ntmps94
 go_wp2_with fail
 refine (HL.out _).mono ?_
 rintro e w' ⟨rfl,rfl⟩
 go_wp2_with fail
 refine (HP.out _ _).mono ?_
 rintro e w' ⟨rfl,rfl⟩
 go_wp2_with fail
 go_end0
 exact ⟨rfl,rfl⟩
def RowP (W:World) (V:Value) (m:Nat) (ps:List PairG):Prop:=ps.length=m∧∃ A c,V=.slice A m c∧∀ i (h:i<ps.length),∃ g,A=some ⟨g,0,none⟩∧g<W.heap.size∧∀ j u,(encG ps[i])[j]? = some u→W.cell? ⟨g,i*19+j,none⟩=some u
theorem RowP.below {W W':World} {V:Value} {m:Nat} {ps:List PairG} (h:RowP W V m ps) (hb:Below W.heap.size W W'):RowP W' V m ps:=by
 obtain ⟨h1,A,c,h2,h3⟩:=h
 refine ⟨h1,A,c,h2,fun i hi=>?_⟩
 obtain ⟨g,e,hg,hc⟩:=h3 i hi
 exact ⟨g,e,Nat.lt_of_lt_of_le hg hb.size,fun j u hu=>(cell_keep (a:=⟨g,i*19+j,none⟩) (hb.block g hg)).trans (hc j u hu)⟩
theorem sort_row (V:Value) (m base:Nat) (e:TypeId) (ps:List PairG) (w:World) (hown:w.ownsRow base e 19 V m (ps.flatMap encG)) (hl:ps.length=m) (hs:m≤1000000) (ha:ItemsApart cbT (ps.map PairG.key)) :
  Calls Tryz.prog 94 #[V,.func (.func 95) #[] #[]] w fun x w'=>x=.returned (.tuple #[])∧w.grownBy w' V.ownBlock∧∃ ps':List PairG,ps'.Perm ps∧ps'.map PairG.key=sortP cbT (ps.map PairG.key)∧RowP w' V m ps':=by
 have hown0:=hown
 rcases hown.2 with ⟨rfl,h0⟩ | ⟨g,cap,cur,rfl,hb,hh,hnc,hcm,hsz,ht⟩
 ·have hp:ps=[]:=List.eq_nil_of_length_eq_zero (by omega)
  subst hp
  refine (sort_none _ w).mono ?_
  rintro x w' ⟨rfl,rfl⟩
  refine ⟨rfl,grown_refl _ _,[],.refl _,rfl,hl,none,0,?_,fun i hi=>by simp at hi⟩
  rw [← hl]
  rfl
 ·have hd:ps.toArray.size=m:=by simpa using hl
  refine (sort_pairs g cap m base e ps.toArray w (by simpa using hown0) hd hs).mono ?_
  rintro x w' ⟨rfl,hg,d',hp,hso,hH,hd'⟩
  have hlt:g<w.heap.size:=(Array.getElem?_eq_some_iff.1 hh).1
  refine ⟨rfl,hg,d'.toList,by simpa using hp,by simpa using hso (by simpa using ha),by simpa using hd',some ⟨g,0,none⟩,cap,rfl,fun i hi=>⟨g,rfl,Nat.lt_of_lt_of_le hlt hg.size,fun j u hu=>?_⟩⟩
  have hj:j<19:=(List.getElem?_eq_some_iff.1 hu).1
  have hi':i<d'.size:=by simpa using hi
  have hc:=(hH.cell hi' hj).1
  rw [Nat.zero_add]at hc
  rw [hc]
  have e1:d'[i]! = d'.toList[i]:=by rw [getElem!_pos d' i hi',Array.getElem_toList]
  rw [e1]
  have hl2:j<(encG d'.toList[i]).length:=hj
  rw [List.getElem?_eq_getElem hl2]at hu
  rw [getElem!_pos (encG d'.toList[i]) j hl2]
  exact hu
end Go.Proofs.YtonihophanmaaaaGreatDoor
