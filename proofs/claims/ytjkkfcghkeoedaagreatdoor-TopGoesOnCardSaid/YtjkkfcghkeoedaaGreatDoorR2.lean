/- The parts of the proof, part 2. -/
import Derived.Test.YtjkkfcghkeoedaaGreatDoorR0
import Derived.Shelf.Strings.Builder1
import Derived.Shelf.Strings.BuilderF
import Derived.Shelf.Strings.BuilderK
import Derived.Shelf.Utf8.RuneCount
import Derived.Shelf.Strconv.Atoi
import Derived.Shelf.Strconv.Itoa0
import Derived.Shelf.Strconv.Itoa1
import Derived.Shelf.LaysM
import Derived.Shelf.Strconv.Itoa2
import Derived.Shelf.Strconv.Itoa3
import Derived.Shelf.Bytes.Len
import Derived.Shelf.Bytes.TryGrow
import Derived.Shelf.Bytes.GrowSliceCatch
import Derived.Shelf.Bytes.GrowSlice
import Derived.Shelf.Bytes.GrowRow0
import Derived.Shelf.Bytes.GrowRow
import Derived.Shelf.Bytes.GrowNil
import Derived.Shelf.Bytes.Grow
import Derived.Shelf.Bytes.WriteString
import Derived.Shelf.Bytes.Reset
import Derived.Shelf.Bytes.Bytes
import Derived.Shelf.Strconv.AtoiErrFast
import Derived.Shelf.Strconv.ParseIntEmpty
import Derived.Shelf.Strconv.AtoiFail
import Derived.Shelf.Strconv.Clone
import Derived.Shelf.Strconv.SyntaxError
import Derived.Shelf.LaysC
import Derived.Shelf.Strconv.ToError
import Derived.Shelf.Strconv.AtoiErr
import Derived.Shelf.Strconv.ErrVar
import Derived.Shelf.Strconv.Lower
import Derived.Shelf.Strconv.ParseUint10
import Derived.Shelf.Strconv.ParseUint10Empty
import Derived.Shelf.Strconv.ParseUint10Any
import Derived.Shelf.Strconv.ParseInt10
import Derived.Shelf.Strconv.AtoiLong
import Derived.Shelf.Strconv.AtoiInnerAll
import Derived.Shelf.Strconv.RangeError
import Derived.Shelf.Strconv.ToErrorRange
import Derived.Shelf.Strconv.AtoiAll
import Derived.Shelf.Strconv.ErrVarAll
import Derived.Shelf.Strconv.ParseUintEmpty
import Derived.Shelf.Strconv.ParseUint10b64
import Derived.Shelf.Strconv.ParseUint10b32
import Derived.Shelf.Strconv.ParseUint10b16
import Derived.Shelf.Strconv.ParseUint10b8
import Derived.Shelf.Strconv.ParseUint10At
import Derived.Shelf.Strconv.ParseInt10At64
import Derived.Shelf.Strconv.ParseInt10At32
import Derived.Shelf.Strconv.ParseInt10At16
import Derived.Shelf.Strconv.ParseInt10At8
import Derived.Shelf.Strconv.ParseInt10All
import Derived.Ground.MpProg
import Derived.Shelf.Pu.ParseUintPublic10
import Derived.Shelf.Pu.ErrVarParseUint
import Derived.Shelf.Strings.Search1
import Derived.Shelf.Bytes.GrowRow0Kept
import Derived.Shelf.Strings.Search2
import Derived.Shelf.Bytes.GrowRowKept
import Derived.Shelf.Strings.Search3
import Derived.Shelf.Bytes.GrowNilKept
import Derived.Shelf.Strings.Cut
import Derived.Shelf.Bytes.GrowKept
import Derived.Shelf.Strings.Count
import Derived.Shelf.Strings.Shaped
import Derived.Shelf.Bytes.WriteStringKept
import Derived.Shelf.Bytes.ResetKept
import Derived.Shelf.Bytes.BufferK
import Derived.Shelf.Bytes.GrowRow0Own
import Derived.Shelf.Bytes.GrowRowOwn
import Derived.Shelf.Bytes.GrowNilOwn
import Derived.Shelf.Bytes.GrowOwn
import Derived.Shelf.Bytes.LenAt
import Derived.Shelf.Bytes.TryGrowAt
import Derived.Shelf.Bytes.GrowRow0At
import Derived.Shelf.Bytes.GrowRowAt
import Derived.Shelf.Bytes.GrowNilAt
import Derived.Shelf.Bytes.GrowAt
import Derived.Shelf.Bytes.WriteStringAt
import Derived.Shelf.Strings.Prefix
import Derived.Shelf.Strings.Split
import Derived.Shelf.Strings.SplitShaped
import Derived.Shelf.Unicode.Decode
import Derived.Shelf.Strings.RuneCount
import Derived.Shelf.Strings.Explode
import Derived.Shelf.Bits.Mul64
import Derived.Shelf.Unicode.DecodeSlow
import Derived.Shelf.Unicode.DecodeAny
import Derived.Shelf.Strings.BuilderCap
import Derived.Shelf.Slices.Turned
import Derived.Shelf.Slices.Reverse
import Derived.Shelf.Slices.Equal
import Derived.Ground.Names2Prog
import Derived.Shelf.Slices.Clone
import Derived.Shelf.Slices.Cells
import Derived.Shelf.Bytes.SlIndexSmall
import Derived.Shelf.Bytes.SlIndexAt
import Derived.Shelf.Slices.Empties2
import Derived.Shelf.Bytes.SlSearch0
import Derived.Shelf.Bytes.SlSearch1
import Derived.Shelf.Bytes.SlSearch2
import Derived.Shelf.Bytes.SlIndexWhole
import Derived.Shelf.Bytes.SlEqualAll
import Derived.Ground.SlbtProg
import Derived.Shelf.Bytes.SlCut
import Derived.Shelf.Bytes.Small
import Derived.Shelf.Bytes.IndexByte
import Derived.Test.YtjkkfcghkeoedaaGreatDoorProg
set_option maxHeartbeats 16000000
set_option maxRecDepth 20000
namespace Go.Proofs
open Go.Shelf
def Tryz.lays169_ren:Go.Shelf.Ren:=⟨fun|169=>68|n=>n,fun|70=>118|9=>9|0=>0|72=>120|37=>54|127=>197|3=>3|5=>5|n=>n,fun|n=>n⟩
theorem Tryz.Builder_Extra_169:Builder.Extra Tryz.prog Tryz.lays169_ren:={
 sizeBuilder:=by kernel_rfl
 liesBuilder:=by kernel_rfl
 t5:=Tryz.underlying5
 a5:=Tryz.isAgg5
 z5:=Tryz.sizeOf5
 v5:=Tryz.zeroValue5
 infoByte:=by kernel_rfl
 cellsByte:=by kernel_rfl
 sizeByte:=by kernel_rfl
 neB5:=by decide}
def Tryz.lays283_ren:Go.Shelf.Ren:=⟨fun|283=>191|n=>n,fun|3=>3|9=>9|4=>4|n=>n,fun|n=>n⟩
theorem Tryz.lays283:Go.Proofs.Lays.n283 Tryz.prog Tryz.lays283_ren:={
 mixed:=by kernel_rfl
 f283:=Tryz.func191.trans (congrArg some (by kernel_rfl))
 t3:=Tryz.underlying3
 a3:=Tryz.isAgg3
 z3:=Tryz.sizeOf3
 v3:=Tryz.zeroValue3
 t4:=Tryz.underlying4
 a4:=Tryz.isAgg4
 z4:=Tryz.sizeOf4
 v4:=Tryz.zeroValue4
 t9:=Tryz.underlying9
 a9:=Tryz.isAgg9
 z9:=Tryz.sizeOf9
 v9:=Tryz.zeroValue9}
open Go.Lib in
theorem Tryz.internal_strconv_small (i:Nat) (h:i<100) (w:World):
  Calls Tryz.prog 191 #[.int .i64 i] w fun e w'=>e=.returned (.string ⟨(Lib.decDigits i).toArray⟩)∧w'=w:=Any.internal_strconv_small Tryz.lays283 i h w
def Tryz.laysM284_ren:Go.Shelf.Ren:=⟨fun|284=>192|129=>231|317=>230|318=>232|n=>n,fun|53=>60|3=>3|212=>310|0=>0|4=>4|46=>284|5=>5|9=>9|n=>n,fun|17=>2|n=>n⟩
theorem Tryz.laysM284:Go.Proofs.LaysM.n284 Tryz.prog Tryz.laysM284_ren:={
 mixed:=by kernel_rfl
 f129:=Tryz.func231.trans (congrArg some (by kernel_rfl))
 f284:=Tryz.func192.trans (congrArg some (by kernel_rfl))
 f317:=Tryz.func230.trans (congrArg some (by kernel_rfl))
 f318:=Tryz.func232.trans (congrArg some (by kernel_rfl))
 t0:=Tryz.underlying0
 a0:=Tryz.isAgg0
 z0:=Tryz.sizeOf0
 v0:=Tryz.zeroValue0
 t3:=Tryz.underlying3
 a3:=Tryz.isAgg3
 z3:=Tryz.sizeOf3
 v3:=Tryz.zeroValue3
 t4:=Tryz.underlying4
 a4:=Tryz.isAgg4
 z4:=Tryz.sizeOf4
 v4:=Tryz.zeroValue4
 t5:=Tryz.underlying5
 a5:=Tryz.isAgg5
 z5:=Tryz.sizeOf5
 v5:=Tryz.zeroValue5
 t9:=Tryz.underlying9
 a9:=Tryz.isAgg9
 z9:=Tryz.sizeOf9
 v9:=Tryz.zeroValue9
 t46:=Tryz.underlying284
 a46:=Tryz.isAgg284
 z46:=Tryz.sizeOf284
 v46:=Tryz.zeroValue284
 t53:=Tryz.underlying60
 a53:=Tryz.isAgg60
 z53:=Tryz.sizeOf60
 v53:=Tryz.zeroValue60
 t212:=Tryz.underlying310
 a212:=Tryz.isAgg310
 z212:=Tryz.sizeOf310
 v212:=Tryz.zeroValue310
 g17:=by kernel_rfl
 i0:=by kernel_rfl
 i3:=by kernel_rfl
 i4:=by kernel_rfl
 i5:=by kernel_rfl
 i9:=by kernel_rfl
 i46:=by kernel_rfl
 i53:=by kernel_rfl
 i212:=by kernel_rfl
 m17:=by kernel_rfl}
open Go.Lib in
theorem Tryz.internal_strconv_numDigits (u:Nat) (h1:1<=u) (h2:u<18446744073709551616) (w:World) (htab:Lib.TabIs Tryz.prog w "internal/strconv.uint64pow10" .u64 Lib.pow10Tab):
  Calls Tryz.prog 192 #[.int .u64 u] w fun e w'=>e=.returned (.int .i64 (Lib.nDigits u))∧w'=w:=Any.internal_strconv_numDigits Tryz.laysM284 u h1 h2 w htab
def Tryz.lays285_ren:Go.Shelf.Ren:=⟨fun|285=>193|n=>n,fun|37=>54|53=>60|3=>3|4=>4|51=>311|9=>9|5=>5|0=>0|n=>n,fun|n=>n⟩
theorem Tryz.lays285:Go.Proofs.Lays.n285 Tryz.prog Tryz.lays285_ren:={
 mixed:=by kernel_rfl
 f285:=Tryz.func193.trans (congrArg some (by kernel_rfl))
 t0:=Tryz.underlying0
 a0:=Tryz.isAgg0
 z0:=Tryz.sizeOf0
 v0:=Tryz.zeroValue0
 t3:=Tryz.underlying3
 a3:=Tryz.isAgg3
 z3:=Tryz.sizeOf3
 v3:=Tryz.zeroValue3
 t4:=Tryz.underlying4
 a4:=Tryz.isAgg4
 z4:=Tryz.sizeOf4
 v4:=Tryz.zeroValue4
 t5:=Tryz.underlying5
 a5:=Tryz.isAgg5
 z5:=Tryz.sizeOf5
 v5:=Tryz.zeroValue5
 t9:=Tryz.underlying9
 a9:=Tryz.isAgg9
 z9:=Tryz.sizeOf9
 v9:=Tryz.zeroValue9
 t37:=Tryz.underlying54
 a37:=Tryz.isAgg54
 z37:=Tryz.sizeOf54
 v37:=Tryz.zeroValue54
 t51:=Tryz.underlying311
 a51:=Tryz.isAgg311
 z51:=Tryz.sizeOf311
 v51:=Tryz.zeroValue311
 t53:=Tryz.underlying60
 a53:=Tryz.isAgg60
 z53:=Tryz.sizeOf60
 v53:=Tryz.zeroValue60}
open Go.RowKit Go.Sort Go.Lib in
theorem Tryz.internal_strconv_formatBase10 (blk off cap:Nat) (u:Nat) (d:Array UInt8) (w:World) (hH:Holds (fun(b:UInt8)=>Value.int .u8 (b.toNat:Int)) w blk off d) (hu:u<10^d.size) (hu64:u<18446744073709551616) (hsz:d.size<4611686018427387904):
  Calls Tryz.prog 193 #[.slice (some ⟨blk,off,none⟩) d.size cap,.int .u64 u] w fun e w'=>
   e=.returned (.tuple #[])∧∃(n v':Nat) (dk:Array UInt8),w'=(putRow (fun(b:UInt8)=>Value.int .u8 (b.toNat:Int)) w blk off dk).drewN n∧FmtInv d.size u 0 v' dk:=Any.internal_strconv_formatBase10 Tryz.lays285 blk off cap u d w hH hu hu64 hsz
def Tryz.laysM171_ren:Go.Shelf.Ren:=⟨fun|171=>70|243=>124|246=>166|283=>191|284=>192|285=>193|286=>194|129=>231|317=>230|318=>232|319=>233|320=>234|337=>250|338=>251|n=>n,fun|3=>3|9=>9|2=>2|4=>4|171=>277|0=>0|53=>60|37=>54|5=>5|173=>280|212=>310|51=>311|20=>20|213=>312|46=>284|232=>337|233=>338|n=>n,fun|17=>2|18=>7|19=>8|n=>n⟩
theorem Tryz.laysM171:Go.Proofs.LaysM.n171 Tryz.prog Tryz.laysM171_ren:={
 mixed:=by kernel_rfl
 f129:=Tryz.func231.trans (congrArg some (by kernel_rfl))
 f171:=Tryz.func70.trans (congrArg some (by kernel_rfl))
 f243:=Tryz.func124.trans (congrArg some (by kernel_rfl))
 f246:=Tryz.func166.trans (congrArg some (by kernel_rfl))
 f283:=Tryz.func191.trans (congrArg some (by kernel_rfl))
 f284:=Tryz.func192.trans (congrArg some (by kernel_rfl))
 f285:=Tryz.func193.trans (congrArg some (by kernel_rfl))
 f286:=Tryz.func194.trans (congrArg some (by kernel_rfl))
 f317:=Tryz.func230.trans (congrArg some (by kernel_rfl))
 f318:=Tryz.func232.trans (congrArg some (by kernel_rfl))
 f319:=Tryz.func233.trans (congrArg some (by kernel_rfl))
 f320:=Tryz.func234.trans (congrArg some (by kernel_rfl))
 f337:=Tryz.func250.trans (congrArg some (by kernel_rfl))
 f338:=Tryz.func251.trans (congrArg some (by kernel_rfl))
 t0:=Tryz.underlying0
 a0:=Tryz.isAgg0
 z0:=Tryz.sizeOf0
 v0:=Tryz.zeroValue0
 t2:=Tryz.underlying2
 a2:=Tryz.isAgg2
 z2:=Tryz.sizeOf2
 v2:=Tryz.zeroValue2
 t3:=Tryz.underlying3
 a3:=Tryz.isAgg3
 z3:=Tryz.sizeOf3
 v3:=Tryz.zeroValue3
 t4:=Tryz.underlying4
 a4:=Tryz.isAgg4
 z4:=Tryz.sizeOf4
 v4:=Tryz.zeroValue4
 t5:=Tryz.underlying5
 a5:=Tryz.isAgg5
 z5:=Tryz.sizeOf5
 v5:=Tryz.zeroValue5
 t9:=Tryz.underlying9
 a9:=Tryz.isAgg9
 z9:=Tryz.sizeOf9
 v9:=Tryz.zeroValue9
 t20:=Tryz.underlying20
 a20:=Tryz.isAgg20
 z20:=Tryz.sizeOf20
 v20:=Tryz.zeroValue20
 t37:=Tryz.underlying54
 a37:=Tryz.isAgg54
 z37:=Tryz.sizeOf54
 v37:=Tryz.zeroValue54
 t46:=Tryz.underlying284
 a46:=Tryz.isAgg284
 z46:=Tryz.sizeOf284
 v46:=Tryz.zeroValue284
 t51:=Tryz.underlying311
 a51:=Tryz.isAgg311
 z51:=Tryz.sizeOf311
 v51:=Tryz.zeroValue311
 t53:=Tryz.underlying60
 a53:=Tryz.isAgg60
 z53:=Tryz.sizeOf60
 v53:=Tryz.zeroValue60
 t171:=Tryz.underlying277
 a171:=Tryz.isAgg277
 z171:=Tryz.sizeOf277
 v171:=Tryz.zeroValue277
 t173:=Tryz.underlying280
 a173:=Tryz.isAgg280
 z173:=Tryz.sizeOf280
 v173:=Tryz.zeroValue280
 t212:=Tryz.underlying310
 a212:=Tryz.isAgg310
 z212:=Tryz.sizeOf310
 v212:=Tryz.zeroValue310
 t213:=Tryz.underlying312
 a213:=Tryz.isAgg312
 z213:=Tryz.sizeOf312
 t232:=Tryz.underlying337
 a232:=Tryz.isAgg337
 z232:=Tryz.sizeOf337
 v232:=Tryz.zeroValue337
 t233:=Tryz.underlying338
 a233:=Tryz.isAgg338
 z233:=Tryz.sizeOf338
 v233:=Tryz.zeroValue338
 g17:=by kernel_rfl
 g18:=by kernel_rfl
 g19:=by kernel_rfl
 i0:=by kernel_rfl
 i2:=by kernel_rfl
 i3:=by kernel_rfl
 i4:=by kernel_rfl
 i5:=by kernel_rfl
 i9:=by kernel_rfl
 i20:=by kernel_rfl
 i37:=by kernel_rfl
 i46:=by kernel_rfl
 i51:=by kernel_rfl
 i53:=by kernel_rfl
 i171:=by kernel_rfl
 i173:=by kernel_rfl
 i212:=by kernel_rfl
 i232:=by kernel_rfl
 i233:=by kernel_rfl
 m17:=by kernel_rfl
 m18:=by kernel_rfl
 m19:=by kernel_rfl}
open Go.RowKit Go.Sort Go.Lib in
theorem Tryz.strconv_Itoa (n:Int) (h0:-9223372036854775808<=n) (h1:n<=9223372036854775807) (w:World) (htab:Lib.TabIs Tryz.prog w "internal/strconv.uint64pow10" .u64 Lib.pow10Tab):
  Calls Tryz.prog 70 #[.int .i64 n] w fun e w'=>e=.returned (.string ⟨(Lib.itoa n).toArray⟩)∧∃k os,w'=grow (w.drewN k) os:=Any.strconv_Itoa Tryz.laysM171 n h0 h1 w htab
def Tryz.laysM178_ren:Go.Shelf.Ren:=⟨fun|178=>69|251=>122|252=>123|181=>163|184=>164|290=>165|324=>190|n=>n,fun|130=>198|9=>9|3=>3|75=>129|0=>0|93=>136|91=>134|131=>199|4=>4|37=>54|20=>20|80=>132|5=>5|n=>n,fun|14=>0|n=>n⟩
theorem Tryz.laysM178:Go.Proofs.LaysM.n178 Tryz.prog Tryz.laysM178_ren:={
 mixed:=by kernel_rfl
 f178:=Tryz.func69.trans (congrArg some (by kernel_rfl))
 f181:=Tryz.func163.trans (congrArg some (by kernel_rfl))
 f184:=Tryz.func164.trans (congrArg some (by kernel_rfl))
 f251:=Tryz.func122.trans (congrArg some (by kernel_rfl))
 f252:=Tryz.func123.trans (congrArg some (by kernel_rfl))
 f290:=Tryz.func165.trans (congrArg some (by kernel_rfl))
 f324:=Tryz.func190.trans (congrArg some (by kernel_rfl))
 t0:=Tryz.underlying0
 a0:=Tryz.isAgg0
 z0:=Tryz.sizeOf0
 v0:=Tryz.zeroValue0
 t3:=Tryz.underlying3
 a3:=Tryz.isAgg3
 z3:=Tryz.sizeOf3
 v3:=Tryz.zeroValue3
 t4:=Tryz.underlying4
 a4:=Tryz.isAgg4
 z4:=Tryz.sizeOf4
 v4:=Tryz.zeroValue4
 t9:=Tryz.underlying9
 a9:=Tryz.isAgg9
 z9:=Tryz.sizeOf9
 v9:=Tryz.zeroValue9
 t20:=Tryz.underlying20
 a20:=Tryz.isAgg20
 z20:=Tryz.sizeOf20
 v20:=Tryz.zeroValue20
 t37:=Tryz.underlying54
 a37:=Tryz.isAgg54
 z37:=Tryz.sizeOf54
 v37:=Tryz.zeroValue54
 t75:=Tryz.underlying129
 a75:=Tryz.isAgg129
 z75:=Tryz.sizeOf129
 v75:=Tryz.zeroValue129
 t91:=Tryz.underlying134
 a91:=Tryz.isAgg134
 z91:=Tryz.sizeOf134
 v91:=Tryz.zeroValue134
 t93:=Tryz.underlying136
 a93:=Tryz.isAgg136
 z93:=Tryz.sizeOf136
 v93:=Tryz.zeroValue136
 t130:=Tryz.underlying198
 a130:=Tryz.isAgg198
 z130:=Tryz.sizeOf198
 v130:=Tryz.zeroValue198
 t131:=Tryz.underlying199
 a131:=Tryz.isAgg199
 z131:=Tryz.sizeOf199
 v131:=Tryz.zeroValue199
 g14:=by kernel_rfl
 t5:=Tryz.underlying5
 a5:=Tryz.isAgg5
 z5:=Tryz.sizeOf5
 v5:=Tryz.zeroValue5
 t80:=Tryz.underlying132
 a80:=Tryz.isAgg132
 z80:=Tryz.sizeOf132
 v80:=Tryz.zeroValue132
 i0:=by kernel_rfl
 i3:=by kernel_rfl
 i4:=by kernel_rfl
 i5:=by kernel_rfl
 i9:=by kernel_rfl
 i20:=by kernel_rfl
 i37:=by kernel_rfl
 i75:=by kernel_rfl
 i80:=by kernel_rfl
 i91:=by kernel_rfl
 i93:=by kernel_rfl
 i130:=by kernel_rfl
 i131:=by kernel_rfl
 m14:=by kernel_rfl}
open Go.RowKit in
theorem Tryz.Buffer_WriteString (B b:Nat) (bs:List Value) (s:ByteArray) (w:World) (h:Lib.IsBuffer 136 5 B b bs w) (hBw:B<=w.heap.size) (h1:∀v∈bs,v.oneCell'=true) (hlim:bs.length+s.size<=140737488355328):
  Calls Tryz.prog 69 #[.pointer (some ⟨b,0,none⟩),.string s] w fun e w'=>e=.returned (.tuple #[.int .i64 s.size,.nilIface])∧Lib.IsBuffer 136 5 B b (bs++Lib.byteCells s.data.toList) w'∧Below B w w':=Any.Buffer_WriteString Tryz.laysM178 B b bs s w h hBw h1 hlim
def Tryz.laysM183_ren:Go.Shelf.Ren:=⟨fun|183=>72|n=>n,fun|130=>198|37=>54|0=>0|93=>136|3=>3|5=>5|91=>134|n=>n,fun|n=>n⟩
theorem Tryz.laysM183:Go.Proofs.LaysM.n183 Tryz.prog Tryz.laysM183_ren:={
 mixed:=by kernel_rfl
 f183:=Tryz.func72.trans (congrArg some (by kernel_rfl))
 t0:=Tryz.underlying0
 a0:=Tryz.isAgg0
 z0:=Tryz.sizeOf0
 v0:=Tryz.zeroValue0
 t3:=Tryz.underlying3
 a3:=Tryz.isAgg3
 z3:=Tryz.sizeOf3
 v3:=Tryz.zeroValue3
 t37:=Tryz.underlying54
 a37:=Tryz.isAgg54
 z37:=Tryz.sizeOf54
 v37:=Tryz.zeroValue54
 t93:=Tryz.underlying136
 a93:=Tryz.isAgg136
 z93:=Tryz.sizeOf136
 v93:=Tryz.zeroValue136
 t130:=Tryz.underlying198
 a130:=Tryz.isAgg198
 z130:=Tryz.sizeOf198
 v130:=Tryz.zeroValue198
 t5:=Tryz.underlying5
 a5:=Tryz.isAgg5
 z5:=Tryz.sizeOf5
 v5:=Tryz.zeroValue5
 t91:=Tryz.underlying134
 a91:=Tryz.isAgg134
 z91:=Tryz.sizeOf134
 v91:=Tryz.zeroValue134
 i0:=by kernel_rfl
 i3:=by kernel_rfl
 i5:=by kernel_rfl
 i37:=by kernel_rfl
 i91:=by kernel_rfl
 i93:=by kernel_rfl
 i130:=by kernel_rfl}
open Go.RowKit in
theorem Tryz.Buffer_Bytes (B b:Nat) (bs:List Value) (w:World) (h:Lib.IsBuffer 136 5 B b bs w):
  Calls Tryz.prog 72 #[.pointer (some ⟨b,0,none⟩)] w fun e w'=>∃v,e=.returned v∧w'.ownsRow B 5 1 v bs.length bs∧∃n,w'=w.drewN n:=Any.Buffer_Bytes Tryz.laysM183 B b bs w h
def Tryz.laysC172_ren:Go.Shelf.Ren:=⟨fun|172=>149|244=>180|245=>181|247=>209|279=>210|280=>211|281=>212|282=>213|287=>200|316=>244|171=>70|205=>245|321=>237|322=>238|243=>124|246=>166|283=>191|284=>192|285=>193|286=>194|129=>231|317=>230|318=>232|319=>233|320=>234|337=>250|338=>251|n=>n,fun|9=>9|3=>3|75=>129|76=>130|4=>4|5=>5|167=>286|37=>54|0=>0|85=>287|2=>2|168=>289|53=>60|175=>250|46=>284|210=>325|127=>197|145=>336|143=>334|21=>21|171=>277|173=>280|212=>310|51=>311|20=>20|213=>312|232=>337|233=>338|80=>132|n=>n,fun|15=>5|16=>6|17=>2|18=>7|19=>8|n=>n⟩
theorem Tryz.laysC172:Go.Proofs.LaysC.n172 Tryz.prog Tryz.laysC172_ren:={
 mixed:=by kernel_rfl
 f129:=Tryz.func231.trans (congrArg some (by kernel_rfl))
 f171:=Tryz.func70.trans (congrArg some (by kernel_rfl))
 f172:=Tryz.func149.trans (congrArg some (by kernel_rfl))
 f205:=Tryz.func245.trans (congrArg some (by kernel_rfl))
 f243:=Tryz.func124.trans (congrArg some (by kernel_rfl))
 f244:=Tryz.func180.trans (congrArg some (by kernel_rfl))
 f245:=Tryz.func181.trans (congrArg some (by kernel_rfl))
 f246:=Tryz.func166.trans (congrArg some (by kernel_rfl))
 f247:=Tryz.func209.trans (congrArg some (by kernel_rfl))
 f279:=Tryz.func210.trans (congrArg some (by kernel_rfl))
 f280:=Tryz.func211.trans (congrArg some (by kernel_rfl))
 f281:=Tryz.func212.trans (congrArg some (by kernel_rfl))
 f282:=Tryz.func213.trans (congrArg some (by kernel_rfl))
 f283:=Tryz.func191.trans (congrArg some (by kernel_rfl))
 f284:=Tryz.func192.trans (congrArg some (by kernel_rfl))
 f285:=Tryz.func193.trans (congrArg some (by kernel_rfl))
 f286:=Tryz.func194.trans (congrArg some (by kernel_rfl))
 f287:=Tryz.func200.trans (congrArg some (by kernel_rfl))
 f316:=Tryz.func244.trans (congrArg some (by kernel_rfl))
 f317:=Tryz.func230.trans (congrArg some (by kernel_rfl))
 f318:=Tryz.func232.trans (congrArg some (by kernel_rfl))
 f319:=Tryz.func233.trans (congrArg some (by kernel_rfl))
 f320:=Tryz.func234.trans (congrArg some (by kernel_rfl))
 f321:=Tryz.func237.trans (congrArg some (by kernel_rfl))
 f322:=Tryz.func238.trans (congrArg some (by kernel_rfl))
 f337:=Tryz.func250.trans (congrArg some (by kernel_rfl))
 f338:=Tryz.func251.trans (congrArg some (by kernel_rfl))
 t0:=Tryz.underlying0
 a0:=Tryz.isAgg0
 z0:=Tryz.sizeOf0
 v0:=Tryz.zeroValue0
 t2:=Tryz.underlying2
 a2:=Tryz.isAgg2
 z2:=Tryz.sizeOf2
 v2:=Tryz.zeroValue2
 t3:=Tryz.underlying3
 a3:=Tryz.isAgg3
 z3:=Tryz.sizeOf3
 v3:=Tryz.zeroValue3
 t4:=Tryz.underlying4
 a4:=Tryz.isAgg4
 z4:=Tryz.sizeOf4
 v4:=Tryz.zeroValue4
 t5:=Tryz.underlying5
 a5:=Tryz.isAgg5
 z5:=Tryz.sizeOf5
 v5:=Tryz.zeroValue5
 t9:=Tryz.underlying9
 a9:=Tryz.isAgg9
 z9:=Tryz.sizeOf9
 v9:=Tryz.zeroValue9
 t20:=Tryz.underlying20
 a20:=Tryz.isAgg20
 z20:=Tryz.sizeOf20
 v20:=Tryz.zeroValue20
 t21:=Tryz.underlying21
 a21:=Tryz.isAgg21
 z21:=Tryz.sizeOf21
 v21:=Tryz.zeroValue21
 t37:=Tryz.underlying54
 a37:=Tryz.isAgg54
 z37:=Tryz.sizeOf54
 v37:=Tryz.zeroValue54
 t46:=Tryz.underlying284
 a46:=Tryz.isAgg284
 z46:=Tryz.sizeOf284
 v46:=Tryz.zeroValue284
 t51:=Tryz.underlying311
 a51:=Tryz.isAgg311
 z51:=Tryz.sizeOf311
 v51:=Tryz.zeroValue311
 t53:=Tryz.underlying60
 a53:=Tryz.isAgg60
 z53:=Tryz.sizeOf60
 v53:=Tryz.zeroValue60
 t75:=Tryz.underlying129
 a75:=Tryz.isAgg129
 z75:=Tryz.sizeOf129
 v75:=Tryz.zeroValue129
 t76:=Tryz.underlying130
 a76:=Tryz.isAgg130
 z76:=Tryz.sizeOf130
 v76:=Tryz.zeroValue130
 t85:=Tryz.underlying287
 a85:=Tryz.isAgg287
 z85:=Tryz.sizeOf287
 v85:=Tryz.zeroValue287
 t127:=Tryz.underlying197
 a127:=Tryz.isAgg197
 z127:=Tryz.sizeOf197
 v127:=Tryz.zeroValue197
 t143:=Tryz.underlying334
 a143:=Tryz.isAgg334
 z143:=Tryz.sizeOf334
 v143:=Tryz.zeroValue334
 t145:=Tryz.underlying336
 a145:=Tryz.isAgg336
 z145:=Tryz.sizeOf336
 v145:=Tryz.zeroValue336
 t167:=Tryz.underlying286
 a167:=Tryz.isAgg286
 z167:=Tryz.sizeOf286
 v167:=Tryz.zeroValue286
 t168:=Tryz.underlying289
 a168:=Tryz.isAgg289
 z168:=Tryz.sizeOf289
 v168:=Tryz.zeroValue289
 t171:=Tryz.underlying277
 a171:=Tryz.isAgg277
 z171:=Tryz.sizeOf277
 v171:=Tryz.zeroValue277
 t173:=Tryz.underlying280
 a173:=Tryz.isAgg280
 z173:=Tryz.sizeOf280
 v173:=Tryz.zeroValue280
 t175:=Tryz.underlying250
 a175:=Tryz.isAgg250
 z175:=Tryz.sizeOf250
 v175:=Tryz.zeroValue250
 t210:=Tryz.underlying325
 a210:=Tryz.isAgg325
 z210:=Tryz.sizeOf325
 v210:=Tryz.zeroValue325
 t212:=Tryz.underlying310
 a212:=Tryz.isAgg310
 z212:=Tryz.sizeOf310
 v212:=Tryz.zeroValue310
 t213:=Tryz.underlying312
 a213:=Tryz.isAgg312
 z213:=Tryz.sizeOf312
 t232:=Tryz.underlying337
 a232:=Tryz.isAgg337
 z232:=Tryz.sizeOf337
 v232:=Tryz.zeroValue337
 t233:=Tryz.underlying338
 a233:=Tryz.isAgg338
 z233:=Tryz.sizeOf338
 v233:=Tryz.zeroValue338
 g15:=by kernel_rfl
 g16:=by kernel_rfl
 g17:=by kernel_rfl
 g18:=by kernel_rfl
 g19:=by kernel_rfl
 t80:=Tryz.underlying132
 a80:=Tryz.isAgg132
 z80:=Tryz.sizeOf132
 v80:=Tryz.zeroValue132
 i0:=by kernel_rfl
 i2:=by kernel_rfl
 i3:=by kernel_rfl
 i4:=by kernel_rfl
 i5:=by kernel_rfl
 i9:=by kernel_rfl
 i20:=by kernel_rfl
 i21:=by kernel_rfl
 i37:=by kernel_rfl
 i46:=by kernel_rfl
 i51:=by kernel_rfl
 i53:=by kernel_rfl
 i75:=by kernel_rfl
 i76:=by kernel_rfl
 i80:=by kernel_rfl
 i85:=by kernel_rfl
 i127:=by kernel_rfl
 i143:=by kernel_rfl
 i145:=by kernel_rfl
 i167:=by kernel_rfl
 i168:=by kernel_rfl
 i171:=by kernel_rfl
 i173:=by kernel_rfl
 i175:=by kernel_rfl
 i210:=by kernel_rfl
 i212:=by kernel_rfl
 i232:=by kernel_rfl
 i233:=by kernel_rfl
 m15:=by kernel_rfl
 m16:=by kernel_rfl
 m17:=by kernel_rfl
 m18:=by kernel_rfl
 m19:=by kernel_rfl
 c0:=by kernel_rfl
 c2:=by kernel_rfl
 c3:=by kernel_rfl
 c4:=by kernel_rfl
 c5:=by kernel_rfl
 c9:=by kernel_rfl
 c20:=by kernel_rfl
 c21:=by kernel_rfl
 c37:=by kernel_rfl
 c46:=by kernel_rfl
 c51:=by kernel_rfl
 c53:=by kernel_rfl
 c75:=by kernel_rfl
 c76:=by kernel_rfl
 c80:=by kernel_rfl
 c85:=by kernel_rfl
 c127:=by kernel_rfl
 c143:=by kernel_rfl
 c145:=by kernel_rfl
 c167:=by kernel_rfl
 c168:=by kernel_rfl
 c171:=by kernel_rfl
 c173:=by kernel_rfl
 c175:=by kernel_rfl
 c210:=by kernel_rfl
 c212:=by kernel_rfl
 c213:=by kernel_rfl
 c232:=by kernel_rfl
 c233:=by kernel_rfl}
open Go.RowKit in
theorem Tryz.strconv_Atoi_ok (s:ByteArray) (hmax:s.size<=9223372036854775806) (v:Int) (h:Lib.atoiAll s.data.toList=.ok v) (w:World):
  Calls Tryz.prog 149 #[.string s] w fun e w'=>e=.returned (.tuple #[.int .i64 v,.nilIface])∧(w'=w∨∃t,w'=Lib.bytesWorld w 5 t):=Any.strconv_Atoi_ok Tryz.laysC172 s hmax v h w
open Go.RowKit in
theorem Tryz.strconv_Atoi_range (s:ByteArray) (hlim:s.size<=281474976710656) (h:Lib.atoiAll s.data.toList=.range) (ev:Value) (w:World) (hv:w.cell? ⟨6,0,none⟩=some ev) (hev:ev=.nilIface∨∃te pe,ev=.iface te pe):
  Calls Tryz.prog 149 #[.string s] w fun e w'=>∃N,e=.returned (.tuple #[.int .i64 (Lib.atoiSat s.data.toList),.iface 289 (.pointer (some ⟨N,0,none⟩))])∧w.heap.size<=N∧w'.heap[N]?=some (.cells #[.string ⟨#[65,116,111,105]⟩,.string s,ev] 325 (0,0))∧Below w.heap.size w w':=Any.strconv_Atoi_range Tryz.laysC172 s hlim h ev w hv hev
def Tryz.laysPu14_ren:Go.Shelf.Ren:=⟨fun|14=>170|16=>200|17=>181|19=>237|20=>238|21=>210|22=>211|23=>212|24=>213|25=>244|27=>70|26=>245|28=>124|29=>166|30=>191|31=>192|32=>193|33=>194|35=>231|34=>230|36=>232|37=>233|38=>234|39=>250|40=>251|n=>n,fun|9=>9|3=>3|22=>60|24=>129|25=>250|4=>4|34=>286|5=>5|36=>284|37=>54|0=>0|39=>289|21=>21|44=>325|47=>197|50=>336|48=>334|2=>2|52=>277|55=>280|59=>310|60=>311|20=>20|61=>312|65=>337|66=>338|67=>132|n=>n,fun|0=>5|1=>6|2=>2|3=>7|4=>8|n=>n⟩
theorem Tryz.laysPu14:Go.Proofs.LaysPu.n14 Tryz.prog Tryz.laysPu14_ren:={
 mixed:=by kernel_rfl
 f14:=Tryz.func170.trans (congrArg some (by kernel_rfl))
 f16:=Tryz.func200.trans (congrArg some (by kernel_rfl))
 f17:=Tryz.func181.trans (congrArg some (by kernel_rfl))
 f19:=Tryz.func237.trans (congrArg some (by kernel_rfl))
 f20:=Tryz.func238.trans (congrArg some (by kernel_rfl))
 f21:=Tryz.func210.trans (congrArg some (by kernel_rfl))
 f22:=Tryz.func211.trans (congrArg some (by kernel_rfl))
 f23:=Tryz.func212.trans (congrArg some (by kernel_rfl))
 f24:=Tryz.func213.trans (congrArg some (by kernel_rfl))
 f25:=Tryz.func244.trans (congrArg some (by kernel_rfl))
 f26:=Tryz.func245.trans (congrArg some (by kernel_rfl))
 f27:=Tryz.func70.trans (congrArg some (by kernel_rfl))
 f28:=Tryz.func124.trans (congrArg some (by kernel_rfl))
 f29:=Tryz.func166.trans (congrArg some (by kernel_rfl))
 f30:=Tryz.func191.trans (congrArg some (by kernel_rfl))
 f31:=Tryz.func192.trans (congrArg some (by kernel_rfl))
 f32:=Tryz.func193.trans (congrArg some (by kernel_rfl))
 f33:=Tryz.func194.trans (congrArg some (by kernel_rfl))
 f34:=Tryz.func230.trans (congrArg some (by kernel_rfl))
 f35:=Tryz.func231.trans (congrArg some (by kernel_rfl))
 f36:=Tryz.func232.trans (congrArg some (by kernel_rfl))
 f37:=Tryz.func233.trans (congrArg some (by kernel_rfl))
 f38:=Tryz.func234.trans (congrArg some (by kernel_rfl))
 f39:=Tryz.func250.trans (congrArg some (by kernel_rfl))
 f40:=Tryz.func251.trans (congrArg some (by kernel_rfl))
 t0:=Tryz.underlying0
 a0:=Tryz.isAgg0
 z0:=Tryz.sizeOf0
 v0:=Tryz.zeroValue0
 i0:=by kernel_rfl
 t2:=Tryz.underlying2
 a2:=Tryz.isAgg2
 z2:=Tryz.sizeOf2
 v2:=Tryz.zeroValue2
 i2:=by kernel_rfl
 t3:=Tryz.underlying3
 a3:=Tryz.isAgg3
 z3:=Tryz.sizeOf3
 v3:=Tryz.zeroValue3
 i3:=by kernel_rfl
 t4:=Tryz.underlying4
 a4:=Tryz.isAgg4
 z4:=Tryz.sizeOf4
 v4:=Tryz.zeroValue4
 i4:=by kernel_rfl
 t5:=Tryz.underlying5
 a5:=Tryz.isAgg5
 z5:=Tryz.sizeOf5
 v5:=Tryz.zeroValue5
 i5:=by kernel_rfl
 t9:=Tryz.underlying9
 a9:=Tryz.isAgg9
 z9:=Tryz.sizeOf9
 v9:=Tryz.zeroValue9
 i9:=by kernel_rfl
 t20:=Tryz.underlying20
 a20:=Tryz.isAgg20
 z20:=Tryz.sizeOf20
 v20:=Tryz.zeroValue20
 i20:=by kernel_rfl
 t21:=Tryz.underlying21
 a21:=Tryz.isAgg21
 z21:=Tryz.sizeOf21
 v21:=Tryz.zeroValue21
 i21:=by kernel_rfl
 t22:=Tryz.underlying60
 a22:=Tryz.isAgg60
 z22:=Tryz.sizeOf60
 v22:=Tryz.zeroValue60
 i22:=by kernel_rfl
 t24:=Tryz.underlying129
 a24:=Tryz.isAgg129
 z24:=Tryz.sizeOf129
 v24:=Tryz.zeroValue129
 i24:=by kernel_rfl
 t25:=Tryz.underlying250
 a25:=Tryz.isAgg250
 z25:=Tryz.sizeOf250
 v25:=Tryz.zeroValue250
 i25:=by kernel_rfl
 t34:=Tryz.underlying286
 a34:=Tryz.isAgg286
 z34:=Tryz.sizeOf286
 v34:=Tryz.zeroValue286
 i34:=by kernel_rfl
 c34:=by kernel_rfl
 t36:=Tryz.underlying284
 a36:=Tryz.isAgg284
 z36:=Tryz.sizeOf284
 v36:=Tryz.zeroValue284
 i36:=by kernel_rfl
 t37:=Tryz.underlying54
 a37:=Tryz.isAgg54
 z37:=Tryz.sizeOf54
 v37:=Tryz.zeroValue54
 i37:=by kernel_rfl
 t39:=Tryz.underlying289
 a39:=Tryz.isAgg289
 z39:=Tryz.sizeOf289
 v39:=Tryz.zeroValue289
 i39:=by kernel_rfl
 t44:=Tryz.underlying325
 a44:=Tryz.isAgg325
 z44:=Tryz.sizeOf325
 v44:=Tryz.zeroValue325
 i44:=by kernel_rfl
 t47:=Tryz.underlying197
 a47:=Tryz.isAgg197
 z47:=Tryz.sizeOf197
 v47:=Tryz.zeroValue197
 i47:=by kernel_rfl
 t48:=Tryz.underlying334
 a48:=Tryz.isAgg334
 z48:=Tryz.sizeOf334
 v48:=Tryz.zeroValue334
 i48:=by kernel_rfl
 t50:=Tryz.underlying336
 a50:=Tryz.isAgg336
 z50:=Tryz.sizeOf336
 v50:=Tryz.zeroValue336
 i50:=by kernel_rfl
 t52:=Tryz.underlying277
 a52:=Tryz.isAgg277
 z52:=Tryz.sizeOf277
 v52:=Tryz.zeroValue277
 i52:=by kernel_rfl
 t55:=Tryz.underlying280
 a55:=Tryz.isAgg280
 z55:=Tryz.sizeOf280
 v55:=Tryz.zeroValue280
 i55:=by kernel_rfl
 t59:=Tryz.underlying310
 a59:=Tryz.isAgg310
 z59:=Tryz.sizeOf310
 v59:=Tryz.zeroValue310
 i59:=by kernel_rfl
 t60:=Tryz.underlying311
 a60:=Tryz.isAgg311
 z60:=Tryz.sizeOf311
 v60:=Tryz.zeroValue311
 i60:=by kernel_rfl
 t61:=Tryz.underlying312
 a61:=Tryz.isAgg312
 z61:=Tryz.sizeOf312
 t65:=Tryz.underlying337
 a65:=Tryz.isAgg337
 z65:=Tryz.sizeOf337
 v65:=Tryz.zeroValue337
 i65:=by kernel_rfl
 t66:=Tryz.underlying338
 a66:=Tryz.isAgg338
 z66:=Tryz.sizeOf338
 v66:=Tryz.zeroValue338
 i66:=by kernel_rfl
 t67:=Tryz.underlying132
 a67:=Tryz.isAgg132
 z67:=Tryz.sizeOf132
 v67:=Tryz.zeroValue132
 i67:=by kernel_rfl
 g0:=by kernel_rfl
 m0:=by kernel_rfl
 g1:=by kernel_rfl
 m1:=by kernel_rfl
 g2:=by kernel_rfl
 m2:=by kernel_rfl
 g3:=by kernel_rfl
 m3:=by kernel_rfl
 g4:=by kernel_rfl
 m4:=by kernel_rfl}
open Go.RowKit in
theorem Tryz.strconv_ParseUint_10_at64_ok (s:ByteArray) (hmax:s.size<=9223372036854775806) (u:Nat) (h:Lib.parseUintB 64 s.data.toList=.ok u) (w:World):
  Calls Tryz.prog 170 #[.string s,.int .i64 10,.int .i64 64] w fun e w'=>e=.returned (.tuple #[.int .u64 u,.nilIface])∧(w'=w∨w'=Lib.bytesWorld w 5 s):=Any.strconv_ParseUint_10_at64_ok Tryz.laysPu14 s hmax u h w
open Go.RowKit in
theorem Tryz.strconv_ParseUint_10_at64_range (s:ByteArray) (hlim:s.size<=281474976710656) (h:Lib.parseUintB 64 s.data.toList=.range) (ev:Value) (w:World) (hv:w.cell? ⟨6,0,none⟩=some ev) (hev:ev=.nilIface∨∃te pe,ev=.iface te pe):
  Calls Tryz.prog 170 #[.string s,.int .i64 10,.int .i64 64] w fun e w'=>∃N,e=.returned (.tuple #[.int .u64 18446744073709551615,.iface 289 (.pointer (some ⟨N,0,none⟩))])∧w.heap.size<=N∧w'.heap[N]?=some (.cells #[.string ⟨#[80,97,114,115,101,85,105,110,116]⟩,.string s,ev] 325 (0,0))∧Below w.heap.size w w':=Any.strconv_ParseUint_10_at64_range Tryz.laysPu14 s hlim h ev w hv hev
def Tryz.lays145_ren:Go.Shelf.Ren:=⟨fun|145=>112|220=>148|219=>179|217=>206|225=>207|224=>198|267=>208|266=>242|314=>243|n=>n,fun|9=>9|4=>4|59=>171|3=>3|5=>5|46=>284|146=>314|51=>311|n=>n,fun|1=>1|n=>n⟩
theorem Tryz.lays145:Go.Proofs.Lays.n145 Tryz.prog Tryz.lays145_ren:={
 mixed:=by kernel_rfl
 f145:=Tryz.func112.trans (congrArg some (by kernel_rfl))
 f217:=Tryz.func206.trans (congrArg some (by kernel_rfl))
 f219:=Tryz.func179.trans (congrArg some (by kernel_rfl))
 f220:=Tryz.func148.trans (congrArg some (by kernel_rfl))
 f224:=Tryz.func198.trans (congrArg some (by kernel_rfl))
 f225:=Tryz.func207.trans (congrArg some (by kernel_rfl))
 f266:=Tryz.func242.trans (congrArg some (by kernel_rfl))
 f267:=Tryz.func208.trans (congrArg some (by kernel_rfl))
 f314:=Tryz.func243.trans (congrArg some (by kernel_rfl))
 t3:=Tryz.underlying3
 a3:=Tryz.isAgg3
 z3:=Tryz.sizeOf3
 v3:=Tryz.zeroValue3
 t4:=Tryz.underlying4
 a4:=Tryz.isAgg4
 z4:=Tryz.sizeOf4
 v4:=Tryz.zeroValue4
 t5:=Tryz.underlying5
 a5:=Tryz.isAgg5
 z5:=Tryz.sizeOf5
 v5:=Tryz.zeroValue5
 t9:=Tryz.underlying9
 a9:=Tryz.isAgg9
 z9:=Tryz.sizeOf9
 v9:=Tryz.zeroValue9
 t46:=Tryz.underlying284
 a46:=Tryz.isAgg284
 z46:=Tryz.sizeOf284
 v46:=Tryz.zeroValue284
 t51:=Tryz.underlying311
 a51:=Tryz.isAgg311
 z51:=Tryz.sizeOf311
 v51:=Tryz.zeroValue311
 t59:=Tryz.underlying171
 a59:=Tryz.isAgg171
 z59:=Tryz.sizeOf171
 v59:=Tryz.zeroValue171
 t146:=Tryz.underlying314
 a146:=Tryz.isAgg314
 z146:=Tryz.sizeOf314
 v146:=Tryz.zeroValue314
 g1:=by kernel_rfl}
open Go.RowKit Go.Lib in
theorem Tryz.strings_Cut (s sep:ByteArray) (m:Int) (w:World) (hs:s.size<4294967281) (hm:w.cell? ⟨1,0,none⟩=some (.int .i64 m)):
  Calls Tryz.prog 112 #[.string s,.string sep] w fun e w'=>e=.returned (.tuple #[.string ⟨(Lib.cut s.data.toList sep.data.toList).1.toArray⟩,.string ⟨(Lib.cut s.data.toList sep.data.toList).2.1.toArray⟩,.bool (Lib.cut s.data.toList sep.data.toList).2.2])∧∃n,w'=w.drewN n:=Any.strings_Cut Tryz.lays145 s sep m w hs hm
def Tryz.lays208_ren:Go.Shelf.Ren:=⟨fun|208=>183|206=>215|n=>n,fun|9=>9|4=>4|3=>3|n=>n,fun|n=>n⟩
theorem Tryz.lays208:Go.Proofs.Lays.n208 Tryz.prog Tryz.lays208_ren:={
 mixed:=by kernel_rfl
 f206:=Tryz.func215.trans (congrArg some (by kernel_rfl))
 f208:=Tryz.func183.trans (congrArg some (by kernel_rfl))
 t3:=Tryz.underlying3
 a3:=Tryz.isAgg3
 z3:=Tryz.sizeOf3
 v3:=Tryz.zeroValue3
 t4:=Tryz.underlying4
 a4:=Tryz.isAgg4
 z4:=Tryz.sizeOf4
 v4:=Tryz.zeroValue4
 t9:=Tryz.underlying9
 a9:=Tryz.isAgg9
 z9:=Tryz.sizeOf9
 v9:=Tryz.zeroValue9}
open Go.RowKit Go.Lib in
theorem Tryz.stringslite_TrimPrefix (s p:ByteArray) (w:World):
  Calls Tryz.prog 183 #[.string s,.string p] w fun e w'=>e=.returned (.string ⟨(Lib.trimPrefix s.data.toList p.data.toList).toArray⟩)∧w'=w:=Any.stringslite_TrimPrefix Tryz.lays208 s p w
def Tryz.lays146_ren:Go.Shelf.Ren:=⟨fun|146=>63|221=>111|268=>145|138=>146|143=>147|195=>176|197=>177|218=>178|219=>179|260=>205|217=>206|225=>207|224=>198|267=>208|266=>242|314=>243|n=>n,fun|9=>9|31=>43|3=>3|4=>4|0=>0|105=>261|21=>21|5=>5|46=>284|119=>318|139=>321|138=>320|146=>314|51=>311|n=>n,fun|1=>1|3=>3|4=>4|n=>n⟩
theorem Tryz.lays146:Go.Proofs.Lays.n146 Tryz.prog Tryz.lays146_ren:={
 mixed:=by kernel_rfl
 f138:=Tryz.func146.trans (congrArg some (by kernel_rfl))
 f143:=Tryz.func147.trans (congrArg some (by kernel_rfl))
 f146:=Tryz.func63.trans (congrArg some (by kernel_rfl))
 f195:=Tryz.func176.trans (congrArg some (by kernel_rfl))
 f197:=Tryz.func177.trans (congrArg some (by kernel_rfl))
 f217:=Tryz.func206.trans (congrArg some (by kernel_rfl))
 f218:=Tryz.func178.trans (congrArg some (by kernel_rfl))
 f219:=Tryz.func179.trans (congrArg some (by kernel_rfl))
 f221:=Tryz.func111.trans (congrArg some (by kernel_rfl))
 f224:=Tryz.func198.trans (congrArg some (by kernel_rfl))
 f225:=Tryz.func207.trans (congrArg some (by kernel_rfl))
 f260:=Tryz.func205.trans (congrArg some (by kernel_rfl))
 f266:=Tryz.func242.trans (congrArg some (by kernel_rfl))
 f267:=Tryz.func208.trans (congrArg some (by kernel_rfl))
 f268:=Tryz.func145.trans (congrArg some (by kernel_rfl))
 f314:=Tryz.func243.trans (congrArg some (by kernel_rfl))
 t0:=Tryz.underlying0
 a0:=Tryz.isAgg0
 z0:=Tryz.sizeOf0
 v0:=Tryz.zeroValue0
 t3:=Tryz.underlying3
 a3:=Tryz.isAgg3
 z3:=Tryz.sizeOf3
 v3:=Tryz.zeroValue3
 t4:=Tryz.underlying4
 a4:=Tryz.isAgg4
 z4:=Tryz.sizeOf4
 v4:=Tryz.zeroValue4
 t5:=Tryz.underlying5
 a5:=Tryz.isAgg5
 z5:=Tryz.sizeOf5
 v5:=Tryz.zeroValue5
 t9:=Tryz.underlying9
 a9:=Tryz.isAgg9
 z9:=Tryz.sizeOf9
 v9:=Tryz.zeroValue9
 t21:=Tryz.underlying21
 a21:=Tryz.isAgg21
 z21:=Tryz.sizeOf21
 v21:=Tryz.zeroValue21
 t31:=Tryz.underlying43
 a31:=Tryz.isAgg43
 z31:=Tryz.sizeOf43
 v31:=Tryz.zeroValue43
 t46:=Tryz.underlying284
 a46:=Tryz.isAgg284
 z46:=Tryz.sizeOf284
 v46:=Tryz.zeroValue284
 t51:=Tryz.underlying311
 a51:=Tryz.isAgg311
 z51:=Tryz.sizeOf311
 v51:=Tryz.zeroValue311
 t105:=Tryz.underlying261
 a105:=Tryz.isAgg261
 z105:=Tryz.sizeOf261
 v105:=Tryz.zeroValue261
 t119:=Tryz.underlying318
 a119:=Tryz.isAgg318
 z119:=Tryz.sizeOf318
 t138:=Tryz.underlying320
 a138:=Tryz.isAgg320
 z138:=Tryz.sizeOf320
 v138:=Tryz.zeroValue320
 t139:=Tryz.underlying321
 a139:=Tryz.isAgg321
 z139:=Tryz.sizeOf321
 v139:=Tryz.zeroValue321
 t146:=Tryz.underlying314
 a146:=Tryz.isAgg314
 z146:=Tryz.sizeOf314
 v146:=Tryz.zeroValue314
 g1:=by kernel_rfl
 g3:=by kernel_rfl
 g4:=by kernel_rfl}
open Go.RowKit Go.Lib in
theorem Tryz.strings_Split (s sep:ByteArray) (m:Int) (w:World) (hs:s.size<4294967281) (hm:w.cell? ⟨1,0,none⟩=some (.int .i64 m)) (h1:1<=sep.size):
  Calls Tryz.prog 63 #[.string s,.string sep] w fun e w'=>
   e=.returned (.slice (some ⟨w.heap.size,0,none⟩) (Lib.countB s sep+1) (Lib.countB s sep+1))∧w'=w.alloc (.cells ((Lib.splitB sep 0 (Lib.countB s sep) s).map Value.string).toArray 9):=Any.strings_Split Tryz.lays146 (by kernel_rfl) s sep m w hs hm h1
def Tryz.lays147_ren:Go.Shelf.Ren:=⟨fun|147=>169|221=>111|268=>145|138=>146|143=>147|195=>176|197=>177|218=>178|219=>179|260=>205|217=>206|225=>207|224=>198|267=>208|266=>242|314=>243|n=>n,fun|9=>9|3=>3|31=>43|4=>4|0=>0|105=>261|21=>21|5=>5|46=>284|119=>318|139=>321|138=>320|146=>314|51=>311|n=>n,fun|1=>1|3=>3|4=>4|n=>n⟩
theorem Tryz.lays147:Go.Proofs.Lays.n147 Tryz.prog Tryz.lays147_ren:={
 mixed:=by kernel_rfl
 f138:=Tryz.func146.trans (congrArg some (by kernel_rfl))
 f143:=Tryz.func147.trans (congrArg some (by kernel_rfl))
 f147:=Tryz.func169.trans (congrArg some (by kernel_rfl))
 f195:=Tryz.func176.trans (congrArg some (by kernel_rfl))
 f197:=Tryz.func177.trans (congrArg some (by kernel_rfl))
 f217:=Tryz.func206.trans (congrArg some (by kernel_rfl))
 f218:=Tryz.func178.trans (congrArg some (by kernel_rfl))
 f219:=Tryz.func179.trans (congrArg some (by kernel_rfl))
 f221:=Tryz.func111.trans (congrArg some (by kernel_rfl))
 f224:=Tryz.func198.trans (congrArg some (by kernel_rfl))
 f225:=Tryz.func207.trans (congrArg some (by kernel_rfl))
 f260:=Tryz.func205.trans (congrArg some (by kernel_rfl))
 f266:=Tryz.func242.trans (congrArg some (by kernel_rfl))
 f267:=Tryz.func208.trans (congrArg some (by kernel_rfl))
 f268:=Tryz.func145.trans (congrArg some (by kernel_rfl))
 f314:=Tryz.func243.trans (congrArg some (by kernel_rfl))
 t0:=Tryz.underlying0
 a0:=Tryz.isAgg0
 z0:=Tryz.sizeOf0
 v0:=Tryz.zeroValue0
 t3:=Tryz.underlying3
 a3:=Tryz.isAgg3
 z3:=Tryz.sizeOf3
 v3:=Tryz.zeroValue3
 t4:=Tryz.underlying4
 a4:=Tryz.isAgg4
 z4:=Tryz.sizeOf4
 v4:=Tryz.zeroValue4
 t5:=Tryz.underlying5
 a5:=Tryz.isAgg5
 z5:=Tryz.sizeOf5
 v5:=Tryz.zeroValue5
 t9:=Tryz.underlying9
 a9:=Tryz.isAgg9
 z9:=Tryz.sizeOf9
 v9:=Tryz.zeroValue9
 t21:=Tryz.underlying21
 a21:=Tryz.isAgg21
 z21:=Tryz.sizeOf21
 v21:=Tryz.zeroValue21
 t31:=Tryz.underlying43
 a31:=Tryz.isAgg43
 z31:=Tryz.sizeOf43
 v31:=Tryz.zeroValue43
 t46:=Tryz.underlying284
 a46:=Tryz.isAgg284
 z46:=Tryz.sizeOf284
 v46:=Tryz.zeroValue284
 t51:=Tryz.underlying311
 a51:=Tryz.isAgg311
 z51:=Tryz.sizeOf311
 v51:=Tryz.zeroValue311
 t105:=Tryz.underlying261
 a105:=Tryz.isAgg261
 z105:=Tryz.sizeOf261
 v105:=Tryz.zeroValue261
 t119:=Tryz.underlying318
 a119:=Tryz.isAgg318
 z119:=Tryz.sizeOf318
 t138:=Tryz.underlying320
 a138:=Tryz.isAgg320
 z138:=Tryz.sizeOf320
 v138:=Tryz.zeroValue320
 t139:=Tryz.underlying321
 a139:=Tryz.isAgg321
 z139:=Tryz.sizeOf321
 v139:=Tryz.zeroValue321
 t146:=Tryz.underlying314
 a146:=Tryz.isAgg314
 z146:=Tryz.sizeOf314
 v146:=Tryz.zeroValue314
 g1:=by kernel_rfl
 g3:=by kernel_rfl
 g4:=by kernel_rfl}
open Go.RowKit Go.Lib in
theorem Tryz.strings_SplitN (s sep:ByteArray) (n:Nat) (m:Int) (w:World) (hs:s.size<4294967281) (hm:w.cell? ⟨1,0,none⟩=some (.int .i64 m)) (h1:1<=sep.size) (hn:1<=n) (hn63:n<=9223372036854775807):
  Calls Tryz.prog 169 #[.string s,.string sep,.int .i64 n] w fun e w'=>
   e=.returned (.slice (some ⟨w.heap.size,0,none⟩) (Lib.splitB sep 0 (min n (s.size+1)-1) s).length (min n (s.size+1)))∧w'=w.alloc (.cells (Lib.cellsOf (Lib.splitB sep 0 (min n (s.size+1)-1) s) (min n (s.size+1))) 9):=Any.strings_SplitN Tryz.lays147 (by kernel_rfl) s sep n m w hs hm h1 hn hn63
def Tryz.lays264_ren:Go.Shelf.Ren:=⟨fun|264=>246|n=>n,fun|53=>60|46=>284|n=>n,fun|n=>n⟩
theorem Tryz.lays264:Go.Proofs.Lays.n264 Tryz.prog Tryz.lays264_ren:={
 mixed:=by kernel_rfl
 f264:=Tryz.func246.trans (congrArg some (by kernel_rfl))
 t46:=Tryz.underlying284
 a46:=Tryz.isAgg284
 z46:=Tryz.sizeOf284
 v46:=Tryz.zeroValue284
 t53:=Tryz.underlying60
 a53:=Tryz.isAgg60
 z53:=Tryz.sizeOf60
 v53:=Tryz.zeroValue60}
open Go.RowKit Go.Lib in
theorem Tryz.bits_Mul64 (x y:Nat) (hx:x<18446744073709551616) (hy:y<18446744073709551616) (w:World):
  Calls Tryz.prog 246 #[.int .u64 x,.int .u64 y] w fun e w'=>e=.returned (.tuple #[.int .u64 ((x*y/18446744073709551616:Nat):Int),.int .u64 ((x*y%18446744073709551616:Nat):Int)])∧w'=w:=Any.bits_Mul64 Tryz.lays264 x y hx hy w
def Tryz.lays112_ren:Go.Shelf.Ren:=⟨fun|112=>324|n=>n,fun|28=>40|3=>3|4=>4|0=>0|n=>n,fun|n=>n⟩
theorem Tryz.lays112:Go.Proofs.Lays.n112 Tryz.prog Tryz.lays112_ren:={
 mixed:=by kernel_rfl
 f112:=Tryz.func324.trans (congrArg some (by kernel_rfl))
 t0:=Tryz.underlying0
 a0:=Tryz.isAgg0
 z0:=Tryz.sizeOf0
 v0:=Tryz.zeroValue0
 t3:=Tryz.underlying3
 a3:=Tryz.isAgg3
 z3:=Tryz.sizeOf3
 v3:=Tryz.zeroValue3
 t4:=Tryz.underlying4
 a4:=Tryz.isAgg4
 z4:=Tryz.sizeOf4
 v4:=Tryz.zeroValue4
 t28:=Tryz.underlying40
 a28:=Tryz.isAgg40
 z28:=Tryz.sizeOf40
 v28:=Tryz.zeroValue40}
open Go.RowKit Go.Lib Go.Sort in
theorem Tryz.slices_Reverse_int_empty (a:Option Addr) (cap:Nat) (w:World):
  Calls Tryz.prog 324 #[.slice a 0 cap] w fun e w'=>e=.returned (.tuple #[])∧w'=w:=Any.slices_Reverse_int_empty Tryz.lays112 a cap w
open Go.RowKit Go.Lib Go.Sort in
theorem Tryz.slices_Reverse_int_cells (b off n c:Nat) (zs:List Int) (w:World) (hz:n<=zs.length) (hbig:n<=9223372036854775807) (hc:∀j,j<zs.length->w.cell? ⟨b,off+j,none⟩=some (.int .i64 (zs.getD j 0))) (hf:∀j,j<n->w.frozen? ⟨b,off+j,none⟩=false):
  Calls Tryz.prog 324 #[.slice (some ⟨b,off,none⟩) n c] w fun e w'=>e=.returned (.tuple #[])∧∃q,w'=(w.drewN q).setCells b off ((zs.take n).reverse.map (Value.int .i64)):=Any.slices_Reverse_int_cells Tryz.lays112 b off n c zs w hz hbig hc hf
def Tryz.laysSlT4_ren:Go.Shelf.Ren:=⟨fun|4=>127|5=>168|6=>195|7=>196|8=>197|9=>198|10=>199|11=>235|12=>236|n=>n,fun|22=>54|4=>4|3=>3|0=>0|5=>5|29=>284|9=>9|31=>314|30=>311|n=>n,fun|0=>1|n=>n⟩
theorem Tryz.laysSlT4:Go.Proofs.SlLaysT.n4 Tryz.prog Tryz.laysSlT4_ren:={
 mixed:=by kernel_rfl
 f4:=Tryz.func127.trans (congrArg some (by kernel_rfl))
 f5:=Tryz.func168.trans (congrArg some (by kernel_rfl))
 f6:=Tryz.func195.trans (congrArg some (by kernel_rfl))
 f7:=Tryz.func196.trans (congrArg some (by kernel_rfl))
 f8:=Tryz.func197.trans (congrArg some (by kernel_rfl))
 f9:=Tryz.func198.trans (congrArg some (by kernel_rfl))
 f10:=Tryz.func199.trans (congrArg some (by kernel_rfl))
 f11:=Tryz.func235.trans (congrArg some (by kernel_rfl))
 f12:=Tryz.func236.trans (congrArg some (by kernel_rfl))
 t0:=Tryz.underlying0
 a0:=Tryz.isAgg0
 z0:=Tryz.sizeOf0
 v0:=Tryz.zeroValue0
 t3:=Tryz.underlying3
 a3:=Tryz.isAgg3
 z3:=Tryz.sizeOf3
 v3:=Tryz.zeroValue3
 t4:=Tryz.underlying4
 a4:=Tryz.isAgg4
 z4:=Tryz.sizeOf4
 v4:=Tryz.zeroValue4
 t5:=Tryz.underlying5
 a5:=Tryz.isAgg5
 z5:=Tryz.sizeOf5
 v5:=Tryz.zeroValue5
 t9:=Tryz.underlying9
 a9:=Tryz.isAgg9
 z9:=Tryz.sizeOf9
 v9:=Tryz.zeroValue9
 t22:=Tryz.underlying54
 a22:=Tryz.isAgg54
 z22:=Tryz.sizeOf54
 v22:=Tryz.zeroValue54
 t29:=Tryz.underlying284
 a29:=Tryz.isAgg284
 z29:=Tryz.sizeOf284
 v29:=Tryz.zeroValue284
 t30:=Tryz.underlying311
 a30:=Tryz.isAgg311
 z30:=Tryz.sizeOf311
 v30:=Tryz.zeroValue311
 t31:=Tryz.underlying314
 a31:=Tryz.isAgg314
 z31:=Tryz.sizeOf314
 v31:=Tryz.zeroValue314
 g0:=by kernel_rfl}
theorem Tryz.bytes_Cut_all (p1 p2:Option Addr) (n c1 k c2:Nat) (xs ys:List Int) (m:Int) (w:World) (hx:xs.length=n) (hy:ys.length=k) (hr1:∀x∈xs,0<=x∧x<256) (hr2:∀y∈ys,0<=y∧y<256) (h1:Lib.BytesIn w p1 n xs) (h2:Lib.BytesIn w p2 k ys) (hp1:p1=none->c1=0) (hcap:n<=c1) (hs:n<4294967281) (hk:k<=9223372036854775807) (hm:w.cell? ⟨1,0,none⟩=some (.int .i64 m)):
  Calls Tryz.prog 127 #[.slice p1 n c1,.slice p2 k c2] w fun e w'=>e=.returned (Lib.cutV p1 n c1 k (Lib.index (Lib.bytesOf xs) (Lib.bytesOf ys)))∧∃q,w'=w.drewN q:=Any.bytes_Cut_all Tryz.laysSlT4 p1 p2 n c1 k c2 xs ys m w hx hy hr1 hr2 h1 h2 hp1 hcap hs hk hm
end Go.Proofs
