/- The parts of the proof, part 2. -/
import Derived.Test.YtgemlddincnfcaaGreatDoorQ0
import Derived.Test.YtgemlddincnfcaaGreatDoorQ1
import Derived.Shelf.Strings.Builder1
import Derived.Shelf.Strings.BuilderF
import Derived.Shelf.Strings.BuilderK
import Derived.Shelf.Utf8.RuneCount
import Derived.Shelf.Strconv.Atoi
import Derived.Shelf.Strconv.Itoa0
import Derived.Shelf.Strconv.Itoa1
import Derived.Shelf.LaysM
import Derived.Shelf.Strconv.Itoa2
import Derived.Shelf.Strconv.Itoa3
import Derived.Shelf.Strconv.AtoiErrFast
import Derived.Shelf.Strconv.ParseIntEmpty
import Derived.Shelf.Strconv.AtoiFail
import Derived.Shelf.Strconv.Clone
import Derived.Shelf.Strconv.SyntaxError
import Derived.Shelf.LaysC
import Derived.Shelf.Strconv.ToError
import Derived.Shelf.Strconv.AtoiErr
import Derived.Shelf.Strconv.ErrVar
import Derived.Shelf.Strconv.Lower
import Derived.Shelf.Strconv.ParseUint10
import Derived.Shelf.Strconv.ParseUint10Empty
import Derived.Shelf.Strconv.ParseUint10Any
import Derived.Shelf.Strconv.ParseInt10
import Derived.Shelf.Strconv.AtoiLong
import Derived.Shelf.Strconv.AtoiInnerAll
import Derived.Shelf.Strconv.RangeError
import Derived.Shelf.Strconv.ToErrorRange
import Derived.Shelf.Strconv.AtoiAll
import Derived.Shelf.Strconv.ErrVarAll
import Derived.Shelf.Strconv.ParseUintEmpty
import Derived.Shelf.Strconv.ParseUint10b64
import Derived.Shelf.Strconv.ParseUint10b32
import Derived.Shelf.Strconv.ParseUint10b16
import Derived.Shelf.Strconv.ParseUint10b8
import Derived.Shelf.Strconv.ParseUint10At
import Derived.Shelf.Strconv.ParseInt10At64
import Derived.Shelf.Strconv.ParseInt10At32
import Derived.Shelf.Strconv.ParseInt10At16
import Derived.Shelf.Strconv.ParseInt10At8
import Derived.Shelf.Strconv.ParseInt10All
import Derived.Shelf.Strings.Search1
import Derived.Shelf.Strings.Search2
import Derived.Shelf.Strings.Search3
import Derived.Shelf.Strings.Cut
import Derived.Shelf.Strings.Count
import Derived.Shelf.Strings.Shaped
import Derived.Shelf.Strings.Prefix
import Derived.Shelf.Strings.Split
import Derived.Shelf.Strings.SplitShaped
import Derived.Shelf.Unicode.Decode
import Derived.Shelf.Strings.RuneCount
import Derived.Shelf.Strings.Explode
import Derived.Shelf.Bits.Mul64
import Derived.Shelf.Unicode.DecodeSlow
import Derived.Shelf.Unicode.DecodeAny
import Derived.Shelf.Strings.BuilderCap
import Derived.Shelf.Slices.Turned
import Derived.Shelf.Slices.Reverse
import Derived.Ground.Names2Prog
import Derived.Shelf.Slices.Clone
import Derived.Shelf.Slices.Cells
import Derived.Ground.SlgnProg
import Derived.Shelf.SlicesE.Clone
import Derived.Test.YtgemlddincnfcaaGreatDoorProg
import Derived.Lib.AppendIntMem
import Derived.Lib.AtoiErrMem
import Derived.Test.YtgemlddincnfcaaGreatDoorRows
import Derived.Test.YtgemlddincnfcaaGreatDoorTie
import Derived.ProofKit
import Derived.LaidMore
import Derived.OpenShut
import Derived.Stop.Joined
import Derived.SevenTiedAt
import Derived.MakeChecks
import Derived.Lib.LaidTab
import Derived.Lay
import Derived.HandedShaped
import Derived.Shelf.Vars
set_option maxHeartbeats 16000000
set_option maxRecDepth 20000
namespace Go.Proofs
open Go.Shelf
def Tryz.lays169_ren : Go.Shelf.Ren := ⟨fun | 169 => 53 | n => n, fun | 70 => 101 | 9 => 9 | 0 => 0 | 72 => 104 | 37 => 102 | 127 => 192 | 3 => 3 | 5 => 5 | n => n, fun | n => n⟩
theorem Tryz.Builder_Extra_169 : Builder.Extra Tryz.prog Tryz.lays169_ren := {
 sizeBuilder := by kernel_rfl
 liesBuilder := by kernel_rfl
 t5 := Tryz.underlying5
 a5 := Tryz.isAgg5
 z5 := Tryz.sizeOf5
 v5 := Tryz.zeroValue5
 infoByte := by kernel_rfl
 cellsByte := by kernel_rfl
 sizeByte := by kernel_rfl
 neB5 := by decide }
def Tryz.lays283_ren : Go.Shelf.Ren := ⟨fun | 283 => 189 | n => n, fun | 3 => 3 | 9 => 9 | 4 => 4 | n => n, fun | n => n⟩
theorem Tryz.lays283 : Go.Proofs.Lays.n283 Tryz.prog Tryz.lays283_ren := {
 mixed := by kernel_rfl
 f283 := Tryz.func189.trans (congrArg some (by kernel_rfl))
 t3 := Tryz.underlying3
 a3 := Tryz.isAgg3
 z3 := Tryz.sizeOf3
 v3 := Tryz.zeroValue3
 t4 := Tryz.underlying4
 a4 := Tryz.isAgg4
 z4 := Tryz.sizeOf4
 v4 := Tryz.zeroValue4
 t9 := Tryz.underlying9
 a9 := Tryz.isAgg9
 z9 := Tryz.sizeOf9
 v9 := Tryz.zeroValue9 }
open Go.Lib in
theorem Tryz.internal_strconv_small (i : Nat) (h : i < 100) (w : World) :
  Calls Tryz.prog 189 #[.int .i64 i] w fun e w' => e = .returned (.string ⟨(Lib.decDigits i).toArray⟩) ∧ w' = w := Any.internal_strconv_small Tryz.lays283 i h w
def Tryz.laysM284_ren : Go.Shelf.Ren := ⟨fun | 284 => 190 | 129 => 220 | 317 => 219 | 318 => 221 | n => n, fun | 53 => 71 | 3 => 3 | 212 => 290 | 0 => 0 | 4 => 4 | 46 => 268 | 5 => 5 | 9 => 9 | n => n, fun | 17 => 1 | n => n⟩
theorem Tryz.laysM284 : Go.Proofs.LaysM.n284 Tryz.prog Tryz.laysM284_ren := {
 mixed := by kernel_rfl
 f129 := Tryz.func220.trans (congrArg some (by kernel_rfl))
 f284 := Tryz.func190.trans (congrArg some (by kernel_rfl))
 f317 := Tryz.func219.trans (congrArg some (by kernel_rfl))
 f318 := Tryz.func221.trans (congrArg some (by kernel_rfl))
 t0 := Tryz.underlying0
 a0 := Tryz.isAgg0
 z0 := Tryz.sizeOf0
 v0 := Tryz.zeroValue0
 t3 := Tryz.underlying3
 a3 := Tryz.isAgg3
 z3 := Tryz.sizeOf3
 v3 := Tryz.zeroValue3
 t4 := Tryz.underlying4
 a4 := Tryz.isAgg4
 z4 := Tryz.sizeOf4
 v4 := Tryz.zeroValue4
 t5 := Tryz.underlying5
 a5 := Tryz.isAgg5
 z5 := Tryz.sizeOf5
 v5 := Tryz.zeroValue5
 t9 := Tryz.underlying9
 a9 := Tryz.isAgg9
 z9 := Tryz.sizeOf9
 v9 := Tryz.zeroValue9
 t46 := Tryz.underlying268
 a46 := Tryz.isAgg268
 z46 := Tryz.sizeOf268
 v46 := Tryz.zeroValue268
 t53 := Tryz.underlying71
 a53 := Tryz.isAgg71
 z53 := Tryz.sizeOf71
 v53 := Tryz.zeroValue71
 t212 := Tryz.underlying290
 a212 := Tryz.isAgg290
 z212 := Tryz.sizeOf290
 v212 := Tryz.zeroValue290
 g17 := by kernel_rfl
 i0 := by kernel_rfl
 i3 := by kernel_rfl
 i4 := by kernel_rfl
 i5 := by kernel_rfl
 i9 := by kernel_rfl
 i46 := by kernel_rfl
 i53 := by kernel_rfl
 i212 := by kernel_rfl
 m17 := by kernel_rfl }
open Go.Lib in
theorem Tryz.internal_strconv_numDigits (u : Nat) (h1 : 1 <= u) (h2 : u < 18446744073709551616) (w : World) (htab : Lib.TabIs Tryz.prog w "internal/strconv.uint64pow10" .u64 Lib.pow10Tab) :
  Calls Tryz.prog 190 #[.int .u64 u] w fun e w' => e = .returned (.int .i64 (Lib.nDigits u)) ∧ w' = w := Any.internal_strconv_numDigits Tryz.laysM284 u h1 h2 w htab
def Tryz.lays285_ren : Go.Shelf.Ren := ⟨fun | 285 => 191 | n => n, fun | 37 => 102 | 53 => 71 | 3 => 3 | 4 => 4 | 51 => 291 | 9 => 9 | 5 => 5 | 0 => 0 | n => n, fun | n => n⟩
theorem Tryz.lays285 : Go.Proofs.Lays.n285 Tryz.prog Tryz.lays285_ren := {
 mixed := by kernel_rfl
 f285 := Tryz.func191.trans (congrArg some (by kernel_rfl))
 t0 := Tryz.underlying0
 a0 := Tryz.isAgg0
 z0 := Tryz.sizeOf0
 v0 := Tryz.zeroValue0
 t3 := Tryz.underlying3
 a3 := Tryz.isAgg3
 z3 := Tryz.sizeOf3
 v3 := Tryz.zeroValue3
 t4 := Tryz.underlying4
 a4 := Tryz.isAgg4
 z4 := Tryz.sizeOf4
 v4 := Tryz.zeroValue4
 t5 := Tryz.underlying5
 a5 := Tryz.isAgg5
 z5 := Tryz.sizeOf5
 v5 := Tryz.zeroValue5
 t9 := Tryz.underlying9
 a9 := Tryz.isAgg9
 z9 := Tryz.sizeOf9
 v9 := Tryz.zeroValue9
 t37 := Tryz.underlying102
 a37 := Tryz.isAgg102
 z37 := Tryz.sizeOf102
 v37 := Tryz.zeroValue102
 t51 := Tryz.underlying291
 a51 := Tryz.isAgg291
 z51 := Tryz.sizeOf291
 v51 := Tryz.zeroValue291
 t53 := Tryz.underlying71
 a53 := Tryz.isAgg71
 z53 := Tryz.sizeOf71
 v53 := Tryz.zeroValue71 }
open Go.RowKit Go.Sort Go.Lib in
theorem Tryz.internal_strconv_formatBase10 (blk off cap : Nat) (u : Nat) (d : Array UInt8) (w : World) (hH : Holds (fun (b : UInt8) => Value.int .u8 (b.toNat : Int)) w blk off d) (hu : u < 10 ^ d.size) (hu64 : u < 18446744073709551616) (hsz : d.size < 4611686018427387904) :
  Calls Tryz.prog 191 #[.slice (some ⟨blk, off, none⟩) d.size cap, .int .u64 u] w fun e w' =>
   e = .returned (.tuple #[]) ∧ ∃ (n v' : Nat) (dk : Array UInt8), w' = (putRow (fun (b : UInt8) => Value.int .u8 (b.toNat : Int)) w blk off dk).drewN n ∧ FmtInv d.size u 0 v' dk := Any.internal_strconv_formatBase10 Tryz.lays285 blk off cap u d w hH hu hu64 hsz
def Tryz.laysM171_ren : Go.Shelf.Ren := ⟨fun | 171 => 95 | 243 => 142 | 246 => 171 | 283 => 189 | 284 => 190 | 285 => 191 | 286 => 192 | 129 => 220 | 317 => 219 | 318 => 221 | 319 => 222 | 320 => 223 | 337 => 234 | 338 => 235 | n => n, fun | 3 => 3 | 9 => 9 | 2 => 2 | 4 => 4 | 171 => 263 | 0 => 0 | 53 => 71 | 37 => 102 | 5 => 5 | 173 => 266 | 212 => 290 | 51 => 291 | 20 => 20 | 213 => 292 | 46 => 268 | 232 => 316 | 233 => 317 | n => n, fun | 17 => 1 | 18 => 6 | 19 => 7 | n => n⟩
theorem Tryz.laysM171 : Go.Proofs.LaysM.n171 Tryz.prog Tryz.laysM171_ren := {
 mixed := by kernel_rfl
 f129 := Tryz.func220.trans (congrArg some (by kernel_rfl))
 f171 := Tryz.func95.trans (congrArg some (by kernel_rfl))
 f243 := Tryz.func142.trans (congrArg some (by kernel_rfl))
 f246 := Tryz.func171.trans (congrArg some (by kernel_rfl))
 f283 := Tryz.func189.trans (congrArg some (by kernel_rfl))
 f284 := Tryz.func190.trans (congrArg some (by kernel_rfl))
 f285 := Tryz.func191.trans (congrArg some (by kernel_rfl))
 f286 := Tryz.func192.trans (congrArg some (by kernel_rfl))
 f317 := Tryz.func219.trans (congrArg some (by kernel_rfl))
 f318 := Tryz.func221.trans (congrArg some (by kernel_rfl))
 f319 := Tryz.func222.trans (congrArg some (by kernel_rfl))
 f320 := Tryz.func223.trans (congrArg some (by kernel_rfl))
 f337 := Tryz.func234.trans (congrArg some (by kernel_rfl))
 f338 := Tryz.func235.trans (congrArg some (by kernel_rfl))
 t0 := Tryz.underlying0
 a0 := Tryz.isAgg0
 z0 := Tryz.sizeOf0
 v0 := Tryz.zeroValue0
 t2 := Tryz.underlying2
 a2 := Tryz.isAgg2
 z2 := Tryz.sizeOf2
 v2 := Tryz.zeroValue2
 t3 := Tryz.underlying3
 a3 := Tryz.isAgg3
 z3 := Tryz.sizeOf3
 v3 := Tryz.zeroValue3
 t4 := Tryz.underlying4
 a4 := Tryz.isAgg4
 z4 := Tryz.sizeOf4
 v4 := Tryz.zeroValue4
 t5 := Tryz.underlying5
 a5 := Tryz.isAgg5
 z5 := Tryz.sizeOf5
 v5 := Tryz.zeroValue5
 t9 := Tryz.underlying9
 a9 := Tryz.isAgg9
 z9 := Tryz.sizeOf9
 v9 := Tryz.zeroValue9
 t20 := Tryz.underlying20
 a20 := Tryz.isAgg20
 z20 := Tryz.sizeOf20
 v20 := Tryz.zeroValue20
 t37 := Tryz.underlying102
 a37 := Tryz.isAgg102
 z37 := Tryz.sizeOf102
 v37 := Tryz.zeroValue102
 t46 := Tryz.underlying268
 a46 := Tryz.isAgg268
 z46 := Tryz.sizeOf268
 v46 := Tryz.zeroValue268
 t51 := Tryz.underlying291
 a51 := Tryz.isAgg291
 z51 := Tryz.sizeOf291
 v51 := Tryz.zeroValue291
 t53 := Tryz.underlying71
 a53 := Tryz.isAgg71
 z53 := Tryz.sizeOf71
 v53 := Tryz.zeroValue71
 t171 := Tryz.underlying263
 a171 := Tryz.isAgg263
 z171 := Tryz.sizeOf263
 v171 := Tryz.zeroValue263
 t173 := Tryz.underlying266
 a173 := Tryz.isAgg266
 z173 := Tryz.sizeOf266
 v173 := Tryz.zeroValue266
 t212 := Tryz.underlying290
 a212 := Tryz.isAgg290
 z212 := Tryz.sizeOf290
 v212 := Tryz.zeroValue290
 t213 := Tryz.underlying292
 a213 := Tryz.isAgg292
 z213 := Tryz.sizeOf292
 t232 := Tryz.underlying316
 a232 := Tryz.isAgg316
 z232 := Tryz.sizeOf316
 v232 := Tryz.zeroValue316
 t233 := Tryz.underlying317
 a233 := Tryz.isAgg317
 z233 := Tryz.sizeOf317
 v233 := Tryz.zeroValue317
 g17 := by kernel_rfl
 g18 := by kernel_rfl
 g19 := by kernel_rfl
 i0 := by kernel_rfl
 i2 := by kernel_rfl
 i3 := by kernel_rfl
 i4 := by kernel_rfl
 i5 := by kernel_rfl
 i9 := by kernel_rfl
 i20 := by kernel_rfl
 i37 := by kernel_rfl
 i46 := by kernel_rfl
 i51 := by kernel_rfl
 i53 := by kernel_rfl
 i171 := by kernel_rfl
 i173 := by kernel_rfl
 i212 := by kernel_rfl
 i232 := by kernel_rfl
 i233 := by kernel_rfl
 m17 := by kernel_rfl
 m18 := by kernel_rfl
 m19 := by kernel_rfl }
open Go.RowKit Go.Sort Go.Lib in
theorem Tryz.strconv_Itoa (n : Int) (h0 : -9223372036854775808 <= n) (h1 : n <= 9223372036854775807) (w : World) (htab : Lib.TabIs Tryz.prog w "internal/strconv.uint64pow10" .u64 Lib.pow10Tab) :
  Calls Tryz.prog 95 #[.int .i64 n] w fun e w' => e = .returned (.string ⟨(Lib.itoa n).toArray⟩) ∧ ∃ k os, w' = grow (w.drewN k) os := Any.strconv_Itoa Tryz.laysM171 n h0 h1 w htab
def Tryz.laysC172_ren : Go.Shelf.Ren := ⟨fun | 172 => 147 | 244 => 176 | 245 => 177 | 247 => 198 | 279 => 199 | 280 => 200 | 281 => 201 | 282 => 202 | 287 => 226 | 316 => 227 | 171 => 95 | 205 => 228 | 321 => 236 | 322 => 237 | 243 => 142 | 246 => 171 | 283 => 189 | 284 => 190 | 285 => 191 | 286 => 192 | 129 => 220 | 317 => 219 | 318 => 221 | 319 => 222 | 320 => 223 | 337 => 234 | 338 => 235 | n => n, fun | 9 => 9 | 3 => 3 | 75 => 113 | 76 => 114 | 4 => 4 | 5 => 5 | 167 => 269 | 37 => 102 | 0 => 0 | 85 => 270 | 2 => 2 | 168 => 272 | 53 => 71 | 175 => 300 | 46 => 268 | 210 => 304 | 127 => 192 | 145 => 315 | 143 => 313 | 21 => 21 | 171 => 263 | 173 => 266 | 212 => 290 | 51 => 291 | 20 => 20 | 213 => 292 | 232 => 316 | 233 => 317 | 80 => 116 | n => n, fun | 15 => 4 | 16 => 5 | 17 => 1 | 18 => 6 | 19 => 7 | n => n⟩
theorem Tryz.laysC172 : Go.Proofs.LaysC.n172 Tryz.prog Tryz.laysC172_ren := {
 mixed := by kernel_rfl
 f129 := Tryz.func220.trans (congrArg some (by kernel_rfl))
 f171 := Tryz.func95.trans (congrArg some (by kernel_rfl))
 f172 := Tryz.func147.trans (congrArg some (by kernel_rfl))
 f205 := Tryz.func228.trans (congrArg some (by kernel_rfl))
 f243 := Tryz.func142.trans (congrArg some (by kernel_rfl))
 f244 := Tryz.func176.trans (congrArg some (by kernel_rfl))
 f245 := Tryz.func177.trans (congrArg some (by kernel_rfl))
 f246 := Tryz.func171.trans (congrArg some (by kernel_rfl))
 f247 := Tryz.func198.trans (congrArg some (by kernel_rfl))
 f279 := Tryz.func199.trans (congrArg some (by kernel_rfl))
 f280 := Tryz.func200.trans (congrArg some (by kernel_rfl))
 f281 := Tryz.func201.trans (congrArg some (by kernel_rfl))
 f282 := Tryz.func202.trans (congrArg some (by kernel_rfl))
 f283 := Tryz.func189.trans (congrArg some (by kernel_rfl))
 f284 := Tryz.func190.trans (congrArg some (by kernel_rfl))
 f285 := Tryz.func191.trans (congrArg some (by kernel_rfl))
 f286 := Tryz.func192.trans (congrArg some (by kernel_rfl))
 f287 := Tryz.func226.trans (congrArg some (by kernel_rfl))
 f316 := Tryz.func227.trans (congrArg some (by kernel_rfl))
 f317 := Tryz.func219.trans (congrArg some (by kernel_rfl))
 f318 := Tryz.func221.trans (congrArg some (by kernel_rfl))
 f319 := Tryz.func222.trans (congrArg some (by kernel_rfl))
 f320 := Tryz.func223.trans (congrArg some (by kernel_rfl))
 f321 := Tryz.func236.trans (congrArg some (by kernel_rfl))
 f322 := Tryz.func237.trans (congrArg some (by kernel_rfl))
 f337 := Tryz.func234.trans (congrArg some (by kernel_rfl))
 f338 := Tryz.func235.trans (congrArg some (by kernel_rfl))
 t0 := Tryz.underlying0
 a0 := Tryz.isAgg0
 z0 := Tryz.sizeOf0
 v0 := Tryz.zeroValue0
 t2 := Tryz.underlying2
 a2 := Tryz.isAgg2
 z2 := Tryz.sizeOf2
 v2 := Tryz.zeroValue2
 t3 := Tryz.underlying3
 a3 := Tryz.isAgg3
 z3 := Tryz.sizeOf3
 v3 := Tryz.zeroValue3
 t4 := Tryz.underlying4
 a4 := Tryz.isAgg4
 z4 := Tryz.sizeOf4
 v4 := Tryz.zeroValue4
 t5 := Tryz.underlying5
 a5 := Tryz.isAgg5
 z5 := Tryz.sizeOf5
 v5 := Tryz.zeroValue5
 t9 := Tryz.underlying9
 a9 := Tryz.isAgg9
 z9 := Tryz.sizeOf9
 v9 := Tryz.zeroValue9
 t20 := Tryz.underlying20
 a20 := Tryz.isAgg20
 z20 := Tryz.sizeOf20
 v20 := Tryz.zeroValue20
 t21 := Tryz.underlying21
 a21 := Tryz.isAgg21
 z21 := Tryz.sizeOf21
 v21 := Tryz.zeroValue21
 t37 := Tryz.underlying102
 a37 := Tryz.isAgg102
 z37 := Tryz.sizeOf102
 v37 := Tryz.zeroValue102
 t46 := Tryz.underlying268
 a46 := Tryz.isAgg268
 z46 := Tryz.sizeOf268
 v46 := Tryz.zeroValue268
 t51 := Tryz.underlying291
 a51 := Tryz.isAgg291
 z51 := Tryz.sizeOf291
 v51 := Tryz.zeroValue291
 t53 := Tryz.underlying71
 a53 := Tryz.isAgg71
 z53 := Tryz.sizeOf71
 v53 := Tryz.zeroValue71
 t75 := Tryz.underlying113
 a75 := Tryz.isAgg113
 z75 := Tryz.sizeOf113
 v75 := Tryz.zeroValue113
 t76 := Tryz.underlying114
 a76 := Tryz.isAgg114
 z76 := Tryz.sizeOf114
 v76 := Tryz.zeroValue114
 t85 := Tryz.underlying270
 a85 := Tryz.isAgg270
 z85 := Tryz.sizeOf270
 v85 := Tryz.zeroValue270
 t127 := Tryz.underlying192
 a127 := Tryz.isAgg192
 z127 := Tryz.sizeOf192
 v127 := Tryz.zeroValue192
 t143 := Tryz.underlying313
 a143 := Tryz.isAgg313
 z143 := Tryz.sizeOf313
 v143 := Tryz.zeroValue313
 t145 := Tryz.underlying315
 a145 := Tryz.isAgg315
 z145 := Tryz.sizeOf315
 v145 := Tryz.zeroValue315
 t167 := Tryz.underlying269
 a167 := Tryz.isAgg269
 z167 := Tryz.sizeOf269
 v167 := Tryz.zeroValue269
 t168 := Tryz.underlying272
 a168 := Tryz.isAgg272
 z168 := Tryz.sizeOf272
 v168 := Tryz.zeroValue272
 t171 := Tryz.underlying263
 a171 := Tryz.isAgg263
 z171 := Tryz.sizeOf263
 v171 := Tryz.zeroValue263
 t173 := Tryz.underlying266
 a173 := Tryz.isAgg266
 z173 := Tryz.sizeOf266
 v173 := Tryz.zeroValue266
 t175 := Tryz.underlying300
 a175 := Tryz.isAgg300
 z175 := Tryz.sizeOf300
 v175 := Tryz.zeroValue300
 t210 := Tryz.underlying304
 a210 := Tryz.isAgg304
 z210 := Tryz.sizeOf304
 v210 := Tryz.zeroValue304
 t212 := Tryz.underlying290
 a212 := Tryz.isAgg290
 z212 := Tryz.sizeOf290
 v212 := Tryz.zeroValue290
 t213 := Tryz.underlying292
 a213 := Tryz.isAgg292
 z213 := Tryz.sizeOf292
 t232 := Tryz.underlying316
 a232 := Tryz.isAgg316
 z232 := Tryz.sizeOf316
 v232 := Tryz.zeroValue316
 t233 := Tryz.underlying317
 a233 := Tryz.isAgg317
 z233 := Tryz.sizeOf317
 v233 := Tryz.zeroValue317
 g15 := by kernel_rfl
 g16 := by kernel_rfl
 g17 := by kernel_rfl
 g18 := by kernel_rfl
 g19 := by kernel_rfl
 t80 := Tryz.underlying116
 a80 := Tryz.isAgg116
 z80 := Tryz.sizeOf116
 v80 := Tryz.zeroValue116
 i0 := by kernel_rfl
 i2 := by kernel_rfl
 i3 := by kernel_rfl
 i4 := by kernel_rfl
 i5 := by kernel_rfl
 i9 := by kernel_rfl
 i20 := by kernel_rfl
 i21 := by kernel_rfl
 i37 := by kernel_rfl
 i46 := by kernel_rfl
 i51 := by kernel_rfl
 i53 := by kernel_rfl
 i75 := by kernel_rfl
 i76 := by kernel_rfl
 i80 := by kernel_rfl
 i85 := by kernel_rfl
 i127 := by kernel_rfl
 i143 := by kernel_rfl
 i145 := by kernel_rfl
 i167 := by kernel_rfl
 i168 := by kernel_rfl
 i171 := by kernel_rfl
 i173 := by kernel_rfl
 i175 := by kernel_rfl
 i210 := by kernel_rfl
 i212 := by kernel_rfl
 i232 := by kernel_rfl
 i233 := by kernel_rfl
 m15 := by kernel_rfl
 m16 := by kernel_rfl
 m17 := by kernel_rfl
 m18 := by kernel_rfl
 m19 := by kernel_rfl
 c0 := by kernel_rfl
 c2 := by kernel_rfl
 c3 := by kernel_rfl
 c4 := by kernel_rfl
 c5 := by kernel_rfl
 c9 := by kernel_rfl
 c20 := by kernel_rfl
 c21 := by kernel_rfl
 c37 := by kernel_rfl
 c46 := by kernel_rfl
 c51 := by kernel_rfl
 c53 := by kernel_rfl
 c75 := by kernel_rfl
 c76 := by kernel_rfl
 c80 := by kernel_rfl
 c85 := by kernel_rfl
 c127 := by kernel_rfl
 c143 := by kernel_rfl
 c145 := by kernel_rfl
 c167 := by kernel_rfl
 c168 := by kernel_rfl
 c171 := by kernel_rfl
 c173 := by kernel_rfl
 c175 := by kernel_rfl
 c210 := by kernel_rfl
 c212 := by kernel_rfl
 c213 := by kernel_rfl
 c232 := by kernel_rfl
 c233 := by kernel_rfl }
open Go.RowKit in
theorem Tryz.strconv_Atoi_ok (s : ByteArray) (hmax : s.size <= 9223372036854775806) (v : Int) (h : Lib.atoiAll s.data.toList = .ok v) (w : World) :
  Calls Tryz.prog 147 #[.string s] w fun e w' => e = .returned (.tuple #[.int .i64 v, .nilIface]) ∧ (w' = w ∨ ∃ t, w' = Lib.bytesWorld w 5 t) := Any.strconv_Atoi_ok Tryz.laysC172 s hmax v h w
open Go.RowKit in
theorem Tryz.strconv_Atoi_range (s : ByteArray) (hlim : s.size <= 281474976710656) (h : Lib.atoiAll s.data.toList = .range) (ev : Value) (w : World) (hv : w.cell? ⟨5, 0, none⟩ = some ev) (hev : ev = .nilIface ∨ ∃ te pe, ev = .iface te pe) :
  Calls Tryz.prog 147 #[.string s] w fun e w' => ∃ N, e = .returned (.tuple #[.int .i64 (Lib.atoiSat s.data.toList), .iface 272 (.pointer (some ⟨N, 0, none⟩))]) ∧ w.heap.size <= N ∧ w'.heap[N]? = some (.cells #[.string ⟨#[65, 116, 111, 105]⟩, .string s, ev] 304 (0, 0)) ∧ Below w.heap.size w w' := Any.strconv_Atoi_range Tryz.laysC172 s hlim h ev w hv hev
def Tryz.lays145_ren : Go.Shelf.Ren := ⟨fun | 145 => 97 | 220 => 146 | 219 => 175 | 217 => 194 | 225 => 195 | 224 => 196 | 267 => 197 | 266 => 224 | 314 => 225 | n => n, fun | 9 => 9 | 4 => 4 | 59 => 177 | 3 => 3 | 5 => 5 | 46 => 268 | 146 => 298 | 51 => 291 | n => n, fun | 1 => 0 | n => n⟩
theorem Tryz.lays145 : Go.Proofs.Lays.n145 Tryz.prog Tryz.lays145_ren := {
 mixed := by kernel_rfl
 f145 := Tryz.func97.trans (congrArg some (by kernel_rfl))
 f217 := Tryz.func194.trans (congrArg some (by kernel_rfl))
 f219 := Tryz.func175.trans (congrArg some (by kernel_rfl))
 f220 := Tryz.func146.trans (congrArg some (by kernel_rfl))
 f224 := Tryz.func196.trans (congrArg some (by kernel_rfl))
 f225 := Tryz.func195.trans (congrArg some (by kernel_rfl))
 f266 := Tryz.func224.trans (congrArg some (by kernel_rfl))
 f267 := Tryz.func197.trans (congrArg some (by kernel_rfl))
 f314 := Tryz.func225.trans (congrArg some (by kernel_rfl))
 t3 := Tryz.underlying3
 a3 := Tryz.isAgg3
 z3 := Tryz.sizeOf3
 v3 := Tryz.zeroValue3
 t4 := Tryz.underlying4
 a4 := Tryz.isAgg4
 z4 := Tryz.sizeOf4
 v4 := Tryz.zeroValue4
 t5 := Tryz.underlying5
 a5 := Tryz.isAgg5
 z5 := Tryz.sizeOf5
 v5 := Tryz.zeroValue5
 t9 := Tryz.underlying9
 a9 := Tryz.isAgg9
 z9 := Tryz.sizeOf9
 v9 := Tryz.zeroValue9
 t46 := Tryz.underlying268
 a46 := Tryz.isAgg268
 z46 := Tryz.sizeOf268
 v46 := Tryz.zeroValue268
 t51 := Tryz.underlying291
 a51 := Tryz.isAgg291
 z51 := Tryz.sizeOf291
 v51 := Tryz.zeroValue291
 t59 := Tryz.underlying177
 a59 := Tryz.isAgg177
 z59 := Tryz.sizeOf177
 v59 := Tryz.zeroValue177
 t146 := Tryz.underlying298
 a146 := Tryz.isAgg298
 z146 := Tryz.sizeOf298
 v146 := Tryz.zeroValue298
 g1 := by kernel_rfl }
open Go.RowKit Go.Lib in
theorem Tryz.strings_Cut (s sep : ByteArray) (m : Int) (w : World) (hs : s.size < 4294967281) (hm : w.cell? ⟨0, 0, none⟩ = some (.int .i64 m)) :
  Calls Tryz.prog 97 #[.string s, .string sep] w fun e w' => e = .returned (.tuple #[.string ⟨(Lib.cut s.data.toList sep.data.toList).1.toArray⟩, .string ⟨(Lib.cut s.data.toList sep.data.toList).2.1.toArray⟩, .bool (Lib.cut s.data.toList sep.data.toList).2.2]) ∧ ∃ n, w' = w.drewN n := Any.strings_Cut Tryz.lays145 s sep m w hs hm
def Tryz.lays208_ren : Go.Shelf.Ren := ⟨fun | 208 => 179 | 206 => 204 | n => n, fun | 9 => 9 | 4 => 4 | 3 => 3 | n => n, fun | n => n⟩
theorem Tryz.lays208 : Go.Proofs.Lays.n208 Tryz.prog Tryz.lays208_ren := {
 mixed := by kernel_rfl
 f206 := Tryz.func204.trans (congrArg some (by kernel_rfl))
 f208 := Tryz.func179.trans (congrArg some (by kernel_rfl))
 t3 := Tryz.underlying3
 a3 := Tryz.isAgg3
 z3 := Tryz.sizeOf3
 v3 := Tryz.zeroValue3
 t4 := Tryz.underlying4
 a4 := Tryz.isAgg4
 z4 := Tryz.sizeOf4
 v4 := Tryz.zeroValue4
 t9 := Tryz.underlying9
 a9 := Tryz.isAgg9
 z9 := Tryz.sizeOf9
 v9 := Tryz.zeroValue9 }
open Go.RowKit Go.Lib in
theorem Tryz.stringslite_TrimPrefix (s p : ByteArray) (w : World) :
  Calls Tryz.prog 179 #[.string s, .string p] w fun e w' => e = .returned (.string ⟨(Lib.trimPrefix s.data.toList p.data.toList).toArray⟩) ∧ w' = w := Any.stringslite_TrimPrefix Tryz.lays208 s p w
def Tryz.lays146_ren : Go.Shelf.Ren := ⟨fun | 146 => 48 | 221 => 96 | 268 => 143 | 138 => 144 | 143 => 145 | 195 => 172 | 197 => 173 | 218 => 174 | 219 => 175 | 260 => 193 | 217 => 194 | 225 => 195 | 224 => 196 | 267 => 197 | 266 => 224 | 314 => 225 | n => n, fun | 9 => 9 | 31 => 42 | 3 => 3 | 4 => 4 | 0 => 0 | 105 => 248 | 21 => 21 | 5 => 5 | 46 => 268 | 119 => 294 | 139 => 297 | 138 => 296 | 146 => 298 | 51 => 291 | n => n, fun | 1 => 0 | 3 => 2 | 4 => 3 | n => n⟩
theorem Tryz.lays146 : Go.Proofs.Lays.n146 Tryz.prog Tryz.lays146_ren := {
 mixed := by kernel_rfl
 f138 := Tryz.func144.trans (congrArg some (by kernel_rfl))
 f143 := Tryz.func145.trans (congrArg some (by kernel_rfl))
 f146 := Tryz.func48.trans (congrArg some (by kernel_rfl))
 f195 := Tryz.func172.trans (congrArg some (by kernel_rfl))
 f197 := Tryz.func173.trans (congrArg some (by kernel_rfl))
 f217 := Tryz.func194.trans (congrArg some (by kernel_rfl))
 f218 := Tryz.func174.trans (congrArg some (by kernel_rfl))
 f219 := Tryz.func175.trans (congrArg some (by kernel_rfl))
 f221 := Tryz.func96.trans (congrArg some (by kernel_rfl))
 f224 := Tryz.func196.trans (congrArg some (by kernel_rfl))
 f225 := Tryz.func195.trans (congrArg some (by kernel_rfl))
 f260 := Tryz.func193.trans (congrArg some (by kernel_rfl))
 f266 := Tryz.func224.trans (congrArg some (by kernel_rfl))
 f267 := Tryz.func197.trans (congrArg some (by kernel_rfl))
 f268 := Tryz.func143.trans (congrArg some (by kernel_rfl))
 f314 := Tryz.func225.trans (congrArg some (by kernel_rfl))
 t0 := Tryz.underlying0
 a0 := Tryz.isAgg0
 z0 := Tryz.sizeOf0
 v0 := Tryz.zeroValue0
 t3 := Tryz.underlying3
 a3 := Tryz.isAgg3
 z3 := Tryz.sizeOf3
 v3 := Tryz.zeroValue3
 t4 := Tryz.underlying4
 a4 := Tryz.isAgg4
 z4 := Tryz.sizeOf4
 v4 := Tryz.zeroValue4
 t5 := Tryz.underlying5
 a5 := Tryz.isAgg5
 z5 := Tryz.sizeOf5
 v5 := Tryz.zeroValue5
 t9 := Tryz.underlying9
 a9 := Tryz.isAgg9
 z9 := Tryz.sizeOf9
 v9 := Tryz.zeroValue9
 t21 := Tryz.underlying21
 a21 := Tryz.isAgg21
 z21 := Tryz.sizeOf21
 v21 := Tryz.zeroValue21
 t31 := Tryz.underlying42
 a31 := Tryz.isAgg42
 z31 := Tryz.sizeOf42
 v31 := Tryz.zeroValue42
 t46 := Tryz.underlying268
 a46 := Tryz.isAgg268
 z46 := Tryz.sizeOf268
 v46 := Tryz.zeroValue268
 t51 := Tryz.underlying291
 a51 := Tryz.isAgg291
 z51 := Tryz.sizeOf291
 v51 := Tryz.zeroValue291
 t105 := Tryz.underlying248
 a105 := Tryz.isAgg248
 z105 := Tryz.sizeOf248
 v105 := Tryz.zeroValue248
 t119 := Tryz.underlying294
 a119 := Tryz.isAgg294
 z119 := Tryz.sizeOf294
 t138 := Tryz.underlying296
 a138 := Tryz.isAgg296
 z138 := Tryz.sizeOf296
 v138 := Tryz.zeroValue296
 t139 := Tryz.underlying297
 a139 := Tryz.isAgg297
 z139 := Tryz.sizeOf297
 v139 := Tryz.zeroValue297
 t146 := Tryz.underlying298
 a146 := Tryz.isAgg298
 z146 := Tryz.sizeOf298
 v146 := Tryz.zeroValue298
 g1 := by kernel_rfl
 g3 := by kernel_rfl
 g4 := by kernel_rfl }
open Go.RowKit Go.Lib in
theorem Tryz.strings_Split (s sep : ByteArray) (m : Int) (w : World) (hs : s.size < 4294967281) (hm : w.cell? ⟨0, 0, none⟩ = some (.int .i64 m)) (h1 : 1 <= sep.size) :
  Calls Tryz.prog 48 #[.string s, .string sep] w fun e w' =>
   e = .returned (.slice (some ⟨w.heap.size, 0, none⟩) (Lib.countB s sep + 1) (Lib.countB s sep + 1)) ∧ w' = w.alloc (.cells ((Lib.splitB sep 0 (Lib.countB s sep) s).map Value.string).toArray 9) := Any.strings_Split Tryz.lays146 (by kernel_rfl) s sep m w hs hm h1
def Tryz.lays264_ren : Go.Shelf.Ren := ⟨fun | 264 => 229 | n => n, fun | 53 => 71 | 46 => 268 | n => n, fun | n => n⟩
theorem Tryz.lays264 : Go.Proofs.Lays.n264 Tryz.prog Tryz.lays264_ren := {
 mixed := by kernel_rfl
 f264 := Tryz.func229.trans (congrArg some (by kernel_rfl))
 t46 := Tryz.underlying268
 a46 := Tryz.isAgg268
 z46 := Tryz.sizeOf268
 v46 := Tryz.zeroValue268
 t53 := Tryz.underlying71
 a53 := Tryz.isAgg71
 z53 := Tryz.sizeOf71
 v53 := Tryz.zeroValue71 }
open Go.RowKit Go.Lib in
theorem Tryz.bits_Mul64 (x y : Nat) (hx : x < 18446744073709551616) (hy : y < 18446744073709551616) (w : World) :
  Calls Tryz.prog 229 #[.int .u64 x, .int .u64 y] w fun e w' => e = .returned (.tuple #[.int .u64 ((x * y / 18446744073709551616 : Nat) : Int), .int .u64 ((x * y % 18446744073709551616 : Nat) : Int)]) ∧ w' = w := Any.bits_Mul64 Tryz.lays264 x y hx hy w
def Tryz.lays112_ren : Go.Shelf.Ren := ⟨fun | 112 => 281 | n => n, fun | 28 => 48 | 3 => 3 | 4 => 4 | 0 => 0 | n => n, fun | n => n⟩
theorem Tryz.lays112 : Go.Proofs.Lays.n112 Tryz.prog Tryz.lays112_ren := {
 mixed := by kernel_rfl
 f112 := Tryz.func281.trans (congrArg some (by kernel_rfl))
 t0 := Tryz.underlying0
 a0 := Tryz.isAgg0
 z0 := Tryz.sizeOf0
 v0 := Tryz.zeroValue0
 t3 := Tryz.underlying3
 a3 := Tryz.isAgg3
 z3 := Tryz.sizeOf3
 v3 := Tryz.zeroValue3
 t4 := Tryz.underlying4
 a4 := Tryz.isAgg4
 z4 := Tryz.sizeOf4
 v4 := Tryz.zeroValue4
 t28 := Tryz.underlying48
 a28 := Tryz.isAgg48
 z28 := Tryz.sizeOf48
 v28 := Tryz.zeroValue48 }
open Go.RowKit Go.Lib Go.Sort in
theorem Tryz.slices_Reverse_int_empty (a : Option Addr) (cap : Nat) (w : World) :
  Calls Tryz.prog 281 #[.slice a 0 cap] w fun e w' => e = .returned (.tuple #[]) ∧ w' = w := Any.slices_Reverse_int_empty Tryz.lays112 a cap w
open Go.RowKit Go.Lib Go.Sort in
theorem Tryz.slices_Reverse_int_cells (b off n c : Nat) (zs : List Int) (w : World) (hz : n <= zs.length) (hbig : n <= 9223372036854775807) (hc : ∀ j, j < zs.length -> w.cell? ⟨b, off + j, none⟩ = some (.int .i64 (zs.getD j 0))) (hf : ∀ j, j < n -> w.frozen? ⟨b, off + j, none⟩ = false) :
  Calls Tryz.prog 281 #[.slice (some ⟨b, off, none⟩) n c] w fun e w' => e = .returned (.tuple #[]) ∧ ∃ q, w' = (w.drewN q).setCells b off ((zs.take n).reverse.map (Value.int .i64)) := Any.slices_Reverse_int_cells Tryz.lays112 b off n c zs w hz hbig hc hf
end Go.Proofs
set_option linter.unusedSimpArgs false
set_option linter.unusedVariables false
namespace Go.Proofs.YtgemlddincnfcaaGreatDoor.Tx
open Go.RowKit Go.Lib
abbrev TabP (w : World) : Prop := Lib.TabIs Tryz.prog w "internal/strconv.uint64pow10" .u64 Lib.pow10Tab
theorem tab_on {P : Program} {w w' : World} {name : String} {k : IntKind} {zs : List Int} (h : Lib.TabIs P w name k zs) (hb : Below w.heap.size w w') : Lib.TabIs P w' name k zs := by
 unfold Lib.TabIs World.var? at *
 cases hg : P.globalNamed name with
 | none => simp [hg] at h
 | some g =>
  simp only [hg, Option.bind_some] at h ⊢
  have hlt : g < w.heap.size := by
   rcases Nat.lt_or_ge g w.heap.size with h' | h'
   ·exact h'
   ·rw [Array.getElem?_eq_none h'] at h; simp at h
  rw [hb.block g hlt]
  exact h
structure LdW (w : World) : Prop where
 tab : TabP w
 mx : ∃ m, w.cell? ⟨0, 0, none⟩ = some (.int .i64 m)
 sy : ∃ ev, w.cell? ⟨4, 0, none⟩ = some ev ∧ (ev = .nilIface ∨ ∃ te pe, ev = .iface te pe)
 rg : ∃ ev, w.cell? ⟨5, 0, none⟩ = some ev ∧ (ev = .nilIface ∨ ∃ te pe, ev = .iface te pe)
theorem cell_on {w w' : World} {g o : Nat} {v : Value} (h : w.cell? ⟨g, o, none⟩ = some v) (hb : Below w.heap.size w w') : w'.cell? ⟨g, o, none⟩ = some v := by
 have hlt : g < w.heap.size := World.block_lt_of_cell? w ⟨g, o, none⟩ h
 exact ((bcell hb).1 g o hlt).trans h
theorem LdW.on {w w' : World} (h : LdW w) (hb : Below w.heap.size w w') : LdW w' :=
 ⟨tab_on h.tab hb, h.mx.imp fun _ q => cell_on q hb, h.sy.imp fun _ q => ⟨cell_on q.1 hb, q.2⟩, h.rg.imp fun _ q => ⟨cell_on q.1 hb, q.2⟩⟩
theorem c_AtoiB (s : ByteArray) (w : World) (hs : s.size <= 100000) (hL : LdW w) :
  Calls Tryz.prog 147 #[.string s] w fun e w' => (∃ er, e = .returned (.tuple #[.int .i64 (valA s.data.toList), er]) ∧ (okA s.data.toList = true -> er = .nilIface) ∧ (okA s.data.toList = false -> ∃ te pe, er = .iface te pe)) ∧ Below w.heap.size w w' := by
 cases h : atoiAll s.data.toList
 ·rename_i v
  refine (Tryz.strconv_Atoi_ok s (by omega) v h w).mono ?_
  rintro e w' ⟨rfl, hw⟩
  refine ⟨⟨_, by unfold valA; rw [h], fun _ => rfl, fun q => by unfold okA at q; rw [h] at q; cases q⟩, ?_⟩
  rcases hw with rfl | ⟨t, rfl⟩
  ·exact below_refl _
  ·exact Lib.bytesWorld_below _ _ _
 ·obtain ⟨ev, h1, h2⟩ := hL.sy
  refine (Any.strconv_Atoi_syntax Tryz.laysC172 s (by omega) h ev w h1 h2).mono ?_
  rintro e w' ⟨N, rfl, _, _, hb⟩
  exact ⟨⟨_, by unfold valA; rw [h], fun q => (by unfold okA at q; rw [h] at q; cases q), fun _ => ⟨_, _, rfl⟩⟩, hb⟩
 ·obtain ⟨ev, h1, h2⟩ := hL.rg
  refine (Tryz.strconv_Atoi_range s (by omega) h ev w h1 h2).mono ?_
  rintro e w' ⟨N, rfl, _, _, hb⟩
  exact ⟨⟨_, by unfold valA; rw [h], fun q => (by unfold okA at q; rw [h] at q; cases q), fun _ => ⟨_, _, rfl⟩⟩, hb⟩
theorem c_ItoaV (n : Int) (w : World) (h0 : -9223372036854775808 <= n) (h1 : n <= 9223372036854775807) (hT : TabP w) :
  Calls Tryz.prog 95 #[.int .i64 n] w fun e w' => e = .returned (.string (bts (itoa n))) ∧ Below w.heap.size w w' := by
 refine (Tryz.strconv_Itoa n h0 h1 w hT).mono ?_
 rintro e w' ⟨rfl, k, os, rfl⟩
 exact ⟨rfl, Lib.below_grow _ _ (Nat.le_refl _) _ _⟩
end Go.Proofs.YtgemlddincnfcaaGreatDoor.Tx
namespace Go.Proofs.YtgemlddincnfcaaGreatDoor
open Go.ChangeShapes Go.WideShapes Go.ChangeAt Go.RowKit Tx
def laidL : List (String × DataW Unit) := [("math/bits.deBruijn32tab", Rows.laid_math_bits_deBruijn32tab), ("math/bits.deBruijn64tab", Rows.laid_math_bits_deBruijn64tab), ("internal/strconv.uint64pow10", Rows.laid_internal_strconv_uint64pow10), ("unicode/utf8.acceptRanges", Rows.laid_unicode_utf8_acceptRanges), ("strconv.ErrRange", Rows.laid_strconv_ErrRange), ("strconv.ErrSyntax", Rows.laid_strconv_ErrSyntax), ("unicode/utf8.first", Rows.laid_unicode_utf8_first)]
set_option maxRecDepth 100000 in
theorem door_met (os : Os) (args : Array Value) : laidMetH Tryz.prog laidL ((World.laidAll Tryz.prog os laidL).forCall (fun _ _ => 0) ⟨#[], args, []⟩).memory := by
 rw [MakeChecks.laidMetH_plain _ _ _ (by kernel_rfl)]
 exact laidMet_laidAll _ (by kernel_rfl) (by kernel_rfl)
theorem pow_data : Rows.laid_internal_strconv_uint64pow10 = (Lib.tabData .u64 Lib.pow10Tab : DataW Unit) := rfl
theorem of_laid {W : World} (h : laidMetH Tryz.prog laidL W) : TabP W := by
 rw [MakeChecks.laidMetH_plain _ _ _ (by kernel_rfl)] at h
 obtain ⟨_, ⟨_, _, _, _, _, _, _, _, _, _, h2, _⟩, _⟩ := h
 obtain ⟨_, _, _, _, _, _, _, _, _, _, h3, _⟩ := h2
 obtain ⟨g', t', cs, fuel, p, q, hg', ht', hvar, hd, _, _⟩ := h3
 obtain rfl := Option.some.inj ((show Tryz.prog.globalNamed "internal/strconv.uint64pow10" = some 1 by kernel_rfl).symm.trans hg')
 obtain rfl := Option.some.inj ((show (Tryz.prog.globals[1]?).map (·.type) = some 290 by kernel_rfl).symm.trans ht')
 unfold TabP Lib.TabIs
 rw [pow_data] at hd
 rw [hvar, ← Lib.cells_of_tab (n := 20) (e := 71) (by kernel_rfl) (by kernel_rfl) (by kernel_rfl) (by kernel_rfl) hd]
theorem lv_tail {P : Program} {W : World} {n : String} {d : DataW Unit} {r : List (String × DataW Unit)} {ps : List MemPlace} (h : DataW.LaidVars P W ((n, d) :: r) ps) : ∃ q, DataW.LaidVars P W r q := by
 obtain ⟨_, _, _, _, _, q, _, _, _, _, hr, _⟩ := h
 exact ⟨q, hr⟩
theorem iface_var {W : World} {n nm : String} {g : Nat} {d : DataW Unit} {r : List (String × DataW Unit)} (hg : Tryz.prog.globalNamed n = some g) (hty : (Tryz.prog.globals[g]?).map (·.type) = some 113)
  {ps : List MemPlace} (h : DataW.LaidVars Tryz.prog W ((n, .iface nm d) :: r) ps) : ∃ ev, W.cell? ⟨g, 0, none⟩ = some ev ∧ (ev = .nilIface ∨ ∃ te pe, ev = .iface te pe) := by
 obtain ⟨g', t', cs, fuel, p, q, hg', ht', hvar, hd, _, _⟩ := h
 obtain rfl := Option.some.inj (hg.symm.trans hg')
 obtain rfl := Option.some.inj (hty.symm.trans ht')
 obtain ⟨_, u, v, hcs, _, _⟩ := iface_of_trod Tryz.underlying113 hd
 have h0 := World.var?_cell hg hvar 0
 refine ⟨.iface u v, ?_, .inr ⟨u, v, rfl⟩⟩
 rw [h0]
 have : cs[0]? = cs.toList[0]? := by simp
 rw [this, hcs]; rfl
theorem ld_of {W : World} (h : laidMetH Tryz.prog laidL W) (hs : W.ShapedOpen Tryz.prog) : LdW W := by
 have h1 := h
 rw [MakeChecks.laidMetH_plain _ _ _ (by kernel_rfl)] at h1
 unfold laidL at h1
 obtain ⟨_, h1, _⟩ := h1
 obtain ⟨_, h1⟩ := lv_tail h1
 obtain ⟨_, h1⟩ := lv_tail h1
 obtain ⟨_, h1⟩ := lv_tail h1
 obtain ⟨_, h1⟩ := lv_tail h1
 obtain ⟨_, h2⟩ := lv_tail h1
 exact ⟨of_laid h,
  Go.Proofs.cell_of_shapedOpen_int (t := 3) (zero := #[.int .i64 0]) hs (of_decide_eq_true (by kernel_rfl)) (by kernel_rfl) rfl (by kernel_rfl) (by kernel_rfl) (by kernel_rfl),
  iface_var (by kernel_rfl) (by kernel_rfl) h2,
  iface_var (by kernel_rfl) (by kernel_rfl) h1⟩
variable {H : Type} {enc : TypeId × Value -> H}
set_option maxRecDepth 100000 in
theorem ret_ls {os : Os} {f : FuncId} {fn : Func} {s : ChangeSpec}
  (own : ownKnob Tryz.checked.prog.godebug = none) (started : os.Started) (noInit : Tryz.checked.prog.inits.idxOf? f = none) (hfn : Tryz.checked.prog.funcs[f]? = some fn)
  (witness : ∃ (w : World) (tape : Tape) (i : Input), w.os = os ∧ (w.forCall tape i).Shaped Tryz.checked.prog ∧ i.vars = [] ∧ Input.okWide Tryz.checked.prog (w.forCall tape i) .any w.heap.size f i ∧
   ((s.pre enc Tryz.checked.prog fn [] false (w.forCall tape i).memory i.args ∧ laidMetH Tryz.checked.prog laidL (w.forCall tape i).memory) ∧ sizedMet enc Tryz.checked.prog fn (OpenSpec.ofChange s) false (w.forCall tape i).memory i.args) ∧
   Assume.holds {} Tryz.checked.prog (lone (Frame.enter Tryz.checked.prog f i.args .normal) [] (w.forCall tape i)))
  (contract : ∀ (W : World) (base : Nat) (args : Array Value) (ds gs : List (DataW H)) (before : List MemPlace),
   (∀ (j : Nat) t v, fn.params[j]? = some t -> args[j]? = some v -> Value.okWide Tryz.checked.prog W .any base t v) ->
   DataW.Whole enc Tryz.checked.prog fn.params.toList s.vars false W args.toList ds gs before -> laidMetH Tryz.checked.prog laidL W -> W.ShapedOpen Tryz.checked.prog ->
   Calls Tryz.checked.prog f args W fun e W' => ∃ v, e = .returned v ∧ s.post enc Tryz.checked.prog fn false true false false W args v W') :
  ReturnsInHanded {} Tryz.checked os f .any (fun w args => (s.pre enc Tryz.checked.prog fn [] false w args ∧ laidMetH Tryz.checked.prog laidL w) ∧ sizedMet enc Tryz.checked.prog fn (OpenSpec.ofChange s) false w args) (s.post enc Tryz.checked.prog fn false true false false) := by
 refine returnsInHanded_of_calls own started noInit witness ?_
 intro w tape i _ hsh _ hok hpre _
 obtain ⟨_, _, _, fn', hfn', _, _, _, _, hval⟩ := hok
 obtain rfl : fn' = fn := Option.some.inj (hfn'.symm.trans hfn)
 obtain ⟨⟨⟨ds, gs, before, hw, _⟩, hx⟩, _⟩ := hpre
 refine (contract (w.forCall tape i) w.heap.size i.args ds gs before hval (DataW.Whole.of_heap (w' := w.forCall tape i) (by rfl) hw) (laidMetH.of_heap (w' := w.forCall tape i) (by rfl) hx) hsh).mono fun e W' hq => ?_
 obtain ⟨v, rfl, hp⟩ := hq
 exact ChangeSpec.post_blind hp
end Go.Proofs.YtgemlddincnfcaaGreatDoor
namespace Go.Proofs.YtgemlddincnfcaaGreatDoor.T6
open Go.Lib Tx
def wn (n lo hi : Int) : Bool := decide (lo <= n) && decide (n <= hi)
theorem wn_iff {n a b : Int} : wn n a b = true ↔ a <= n ∧ n <= b := by simp [wn]
def bodyZ (s : List UInt8) : List UInt8 := if s.head? = some 45 then s.tail else s
def numV (s : List UInt8) : Int := if s.head? = some 45 then -(valD 0 s.tail : Nat) else (valD 0 s : Nat)
def numB (s : List UInt8) : Bool := decide (s ≠ []) && (decide (s.length <= 17) && ((bodyZ s).all digB && (decide (itoa (numV s) = s) && (decide (-1000000000000000 <= numV s) && decide (numV s <= 1000000000000000)))))
theorem itoa_head (m : Int) : ((itoa m).head? = some 45 ↔ m < 0) ∧ (m < 0 -> (itoa m).tail = decDigits m.natAbs) ∧ (¬ m < 0 -> itoa m = decDigits m.toNat) := by
 unfold itoa
 by_cases h : m < 0
 ·rw [if_pos h]; exact ⟨by simp [h], fun _ => rfl, fun h' => absurd h h'⟩
 ·rw [if_neg h]
  refine ⟨⟨fun e => ?_, fun e => absurd e h⟩, fun e => absurd e h, fun _ => rfl⟩
  obtain ⟨c, r, hcr⟩ := List.exists_cons_of_ne_nil (decD_ne m.toNat)
  have hc := decD_dig m.toNat c (by rw [hcr]; exact List.mem_cons_self ..)
  rw [hcr] at e
  injection e with e
  subst e; exact absurd hc (by decide)
theorem numV_itoa (m : Int) : numV (itoa m) = m ∧ (bodyZ (itoa m)).all digB = true := by
 obtain ⟨h1, h2, h3⟩ := itoa_head m
 unfold numV bodyZ
 by_cases h : m < 0
 ·rw [if_pos (h1.2 h), if_pos (h1.2 h), h2 h, valD_dec]
  exact ⟨by omega, List.all_eq_true.2 (decD_dig _)⟩
 ·rw [if_neg (fun e => h (h1.1 e)), if_neg (fun e => h (h1.1 e)), h3 h, valD_dec]
  exact ⟨by omega, List.all_eq_true.2 (decD_dig _)⟩
theorem num_iff (s : List UInt8) : numB s = true ↔ itoa (numV s) = s ∧ -1000000000000000 <= numV s ∧ numV s <= 1000000000000000 := by
 unfold numB
 simp only [Bool.and_eq_true, decide_eq_true_eq]
 constructor
 ·rintro ⟨_, _, _, h1, h2, h3⟩; exact ⟨h1, h2, h3⟩
 ·rintro ⟨h1, h2, h3⟩
  have h4 := (numV_itoa (numV s)).2
  rw [h1] at h4
  have h5 := itoa_ne (numV s)
  rw [h1] at h5
  refine ⟨h5, ?_, h4, h1, h2, h3⟩
  have h6 : (itoa (numV s)).length <= 17 := by
   obtain ⟨_, a, b⟩ := itoa_head (numV s)
   by_cases hn : numV s < 0
   ·have e : itoa (numV s) = 45 :: decDigits (numV s).natAbs := by unfold itoa; rw [if_pos hn]
    rw [e]
    have := decD_le (u := (numV s).natAbs) (k := 15) (by omega)
    simp; omega
   ·rw [b hn]
    have := decD_le (u := (numV s).toNat) (k := 15) (by omega)
    omega
  rwa [h1] at h6
theorem valD_lt : ∀ (l : List UInt8) (a : Nat), (∀ c ∈ l, digB c = true) -> valD a l < (a + 1) * 10 ^ l.length
 | [], a, _ => by simp [valD]
 | c :: r, a, h => by
  have hc := h c (List.mem_cons_self ..)
  unfold digB at hc
  have hc' := of_decide_eq_true hc
  have ih := valD_lt r (a * 10 + (c.toNat - 48)) fun x hx => h x (List.mem_cons_of_mem _ hx)
  have e : valD a (c :: r) = valD (a * 10 + (c.toNat - 48)) r := rfl
  rw [e, List.length_cons, Nat.pow_succ]
  refine Nat.lt_of_lt_of_le ih ?_
  rw [show (a + 1) * (10 ^ r.length * 10) = ((a + 1) * 10) * 10 ^ r.length by rw [Nat.mul_comm (10 ^ r.length) 10, Nat.mul_assoc]]
  exact Nat.mul_le_mul_right _ (by omega)
end Go.Proofs.YtgemlddincnfcaaGreatDoor.T6
