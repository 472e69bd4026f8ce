/-
  The contracts of the library functions at this translation (laid by the kit).
-/
import Derived.Shelf.Strings.Builder1
import Derived.Shelf.Strings.Builder2
import Derived.Shelf.Strings.Trim
import Derived.Shelf.Small.Utf8
import Derived.Shelf.Small.Strs
import Derived.Shelf.Strings.BuilderF
import Derived.Shelf.Strings.BuilderK
import Derived.Shelf.Strings.BuilderRune
import Derived.Shelf.Utf8.AppendRune
import Derived.Shelf.Utf8.AppendRunePlain
import Derived.Shelf.Strings.Builder2Cap
import Derived.Shelf.Strconv.Atoi
import Derived.Shelf.Strconv.Itoa0
import Derived.Shelf.Strconv.Itoa1
import Derived.Shelf.LaysM
import Derived.Shelf.Strconv.Itoa2
import Derived.Shelf.Strconv.Itoa3
import Derived.Shelf.Strconv.AtoiErrFast
import Derived.Shelf.Strconv.ParseIntEmpty
import Derived.Shelf.Strconv.AtoiFail
import Derived.Shelf.Strconv.Clone
import Derived.Shelf.Strconv.SyntaxError
import Derived.Shelf.LaysC
import Derived.Shelf.Strconv.ToError
import Derived.Shelf.Strconv.AtoiErr
import Derived.Shelf.Strconv.ErrVar
import Derived.Shelf.Strconv.Lower
import Derived.Shelf.Strconv.ParseUint10
import Derived.Shelf.Strconv.ParseUint10Empty
import Derived.Shelf.Strconv.ParseUint10Any
import Derived.Shelf.Strconv.ParseInt10
import Derived.Shelf.Strconv.AtoiLong
import Derived.Shelf.Strconv.AtoiInnerAll
import Derived.Shelf.Strconv.RangeError
import Derived.Shelf.Strconv.ToErrorRange
import Derived.Shelf.Strconv.AtoiAll
import Derived.Shelf.Strconv.ErrVarAll
import Derived.Shelf.Strconv.ParseUintEmpty
import Derived.Shelf.Strconv.ParseUint10b64
import Derived.Shelf.Strconv.ParseUint10b32
import Derived.Shelf.Strconv.ParseUint10b16
import Derived.Shelf.Strconv.ParseUint10b8
import Derived.Shelf.Strconv.ParseUint10At
import Derived.Shelf.Strconv.ParseInt10At64
import Derived.Shelf.Strings.Search1
import Derived.Shelf.Strings.Prefix
import Derived.Shelf.Unicode.Decode
import Derived.Shelf.Strings.Runes
import Derived.Shelf.Strings.AsciiSet
import Derived.Shelf.Bits.Mul64
import Derived.Shelf.Strings.Repeat
import Derived.Shelf.Unicode.DecodeSlow
import Derived.Shelf.Unicode.DecodeAny
import Derived.Shelf.Unicode.DecodeLast
import Derived.Shelf.Strings.BuilderCap
import Derived.Shelf.Unicode.ValidAny
import Derived.Lib.LaidU8T
import Derived.Test.YtacogbfgegcliaaGreatDoorProg
namespace Go.Proofs
open Go.Shelf
def Tryz.laysValid_ren : Go.Shelf.Ren := ⟨fun | 196 => 71 | 259 => 106 | n => n, fun | 9 => 9 | 4 => 4 | 3 => 3 | 5 => 5 | 12 => 12 | 119 => 149 | 0 => 0 | 46 => 153 | 139 => 152 | 138 => 151 | 53 => 44 | n => n, fun | 3 => 0 | 4 => 1 | n => n⟩
theorem Tryz.laysValid : Go.Proofs.Lays.n196 Tryz.prog Tryz.laysValid_ren := {
  mixed := by kernel_rfl
  f196 := Tryz.func71.trans (congrArg some (by kernel_rfl))
  f259 := Tryz.func106.trans (congrArg some (by kernel_rfl))
  t0 := Tryz.underlying0
  a0 := Tryz.isAgg0
  z0 := Tryz.sizeOf0
  v0 := Tryz.zeroValue0
  t3 := Tryz.underlying3
  a3 := Tryz.isAgg3
  z3 := Tryz.sizeOf3
  v3 := Tryz.zeroValue3
  t4 := Tryz.underlying4
  a4 := Tryz.isAgg4
  z4 := Tryz.sizeOf4
  v4 := Tryz.zeroValue4
  t5 := Tryz.underlying5
  a5 := Tryz.isAgg5
  z5 := Tryz.sizeOf5
  v5 := Tryz.zeroValue5
  t9 := Tryz.underlying9
  a9 := Tryz.isAgg9
  z9 := Tryz.sizeOf9
  v9 := Tryz.zeroValue9
  t12 := Tryz.underlying12
  a12 := Tryz.isAgg12
  z12 := Tryz.sizeOf12
  v12 := Tryz.zeroValue12
  t46 := Tryz.underlying153
  a46 := Tryz.isAgg153
  z46 := Tryz.sizeOf153
  v46 := Tryz.zeroValue153
  t53 := Tryz.underlying44
  a53 := Tryz.isAgg44
  z53 := Tryz.sizeOf44
  v53 := Tryz.zeroValue44
  t119 := Tryz.underlying149
  a119 := Tryz.isAgg149
  z119 := Tryz.sizeOf149
  t138 := Tryz.underlying151
  a138 := Tryz.isAgg151
  z138 := Tryz.sizeOf151
  v138 := Tryz.zeroValue151
  t139 := Tryz.underlying152
  a139 := Tryz.isAgg152
  z139 := Tryz.sizeOf152
  v139 := Tryz.zeroValue152
  g3 := by kernel_rfl
  g4 := by kernel_rfl }
open Go.RowKit in
theorem Tryz.utf8_ValidString (s : ByteArray) (w : World) (hs : s.size ≤ 9223372036854775807) (hT : Lib.Utf8Tabs (Tryz.laysValid_ren.g 3) (Tryz.laysValid_ren.g 4) w) :
    Calls Tryz.prog 71 #[.string s] w fun e w' => e = .returned (.bool (Lib.validD s.data.toList)) ∧ Below w.heap.size w w' := Any.utf8_ValidString Tryz.laysValid s w hs hT
def Tryz.lays162_ren : Go.Shelf.Ren := ⟨fun | 162 => 129 | 232 => 150 | 227 => 151 | 234 => 152 | 236 => 153 | 228 => 170 | 271 => 171 | 151 => 172 | 120 => 184 | 197 => 111 | 152 => 185 | 260 => 138 | 137 => 82 | 119 => 191 | 224 => 192 | 225 => 193 | 217 => 118 | 266 => 144 | n => n, fun | 9 => 9 | 4 => 4 | 3 => 3 | 5 => 5 | 117 => 187 | 116 => 186 | 0 => 0 | 124 => 190 | 21 => 21 | 105 => 155 | 46 => 153 | 119 => 149 | 139 => 152 | 138 => 151 | n => n, fun | 3 => 0 | 4 => 1 | n => n⟩
theorem Tryz.lays162 : Go.Proofs.Lays.n162 Tryz.prog Tryz.lays162_ren := {
  mixed := by kernel_rfl
  f119 := Tryz.func191.trans (congrArg some (by kernel_rfl))
  f120 := Tryz.func184.trans (congrArg some (by kernel_rfl))
  f137 := Tryz.func82.trans (congrArg some (by kernel_rfl))
  f151 := Tryz.func172.trans (congrArg some (by kernel_rfl))
  f152 := Tryz.func185.trans (congrArg some (by kernel_rfl))
  f162 := Tryz.func129.trans (congrArg some (by kernel_rfl))
  f197 := Tryz.func111.trans (congrArg some (by kernel_rfl))
  f217 := Tryz.func118.trans (congrArg some (by kernel_rfl))
  f224 := Tryz.func192.trans (congrArg some (by kernel_rfl))
  f225 := Tryz.func193.trans (congrArg some (by kernel_rfl))
  f227 := Tryz.func151.trans (congrArg some (by kernel_rfl))
  f228 := Tryz.func170.trans (congrArg some (by kernel_rfl))
  f232 := Tryz.func150.trans (congrArg some (by kernel_rfl))
  f234 := Tryz.func152.trans (congrArg some (by kernel_rfl))
  f236 := Tryz.func153.trans (congrArg some (by kernel_rfl))
  f260 := Tryz.func138.trans (congrArg some (by kernel_rfl))
  f266 := Tryz.func144.trans (congrArg some (by kernel_rfl))
  f271 := Tryz.func171.trans (congrArg some (by kernel_rfl))
  t0 := Tryz.underlying0
  a0 := Tryz.isAgg0
  z0 := Tryz.sizeOf0
  v0 := Tryz.zeroValue0
  t3 := Tryz.underlying3
  a3 := Tryz.isAgg3
  z3 := Tryz.sizeOf3
  v3 := Tryz.zeroValue3
  t4 := Tryz.underlying4
  a4 := Tryz.isAgg4
  z4 := Tryz.sizeOf4
  v4 := Tryz.zeroValue4
  t5 := Tryz.underlying5
  a5 := Tryz.isAgg5
  z5 := Tryz.sizeOf5
  v5 := Tryz.zeroValue5
  t9 := Tryz.underlying9
  a9 := Tryz.isAgg9
  z9 := Tryz.sizeOf9
  v9 := Tryz.zeroValue9
  t21 := Tryz.underlying21
  a21 := Tryz.isAgg21
  z21 := Tryz.sizeOf21
  v21 := Tryz.zeroValue21
  t46 := Tryz.underlying153
  a46 := Tryz.isAgg153
  z46 := Tryz.sizeOf153
  v46 := Tryz.zeroValue153
  t105 := Tryz.underlying155
  a105 := Tryz.isAgg155
  z105 := Tryz.sizeOf155
  v105 := Tryz.zeroValue155
  t116 := Tryz.underlying186
  a116 := Tryz.isAgg186
  z116 := Tryz.sizeOf186
  t117 := Tryz.underlying187
  a117 := Tryz.isAgg187
  z117 := Tryz.sizeOf187
  v117 := Tryz.zeroValue187
  t119 := Tryz.underlying149
  a119 := Tryz.isAgg149
  z119 := Tryz.sizeOf149
  t124 := Tryz.underlying190
  a124 := Tryz.isAgg190
  z124 := Tryz.sizeOf190
  v124 := Tryz.zeroValue190
  t138 := Tryz.underlying151
  a138 := Tryz.isAgg151
  z138 := Tryz.sizeOf151
  v138 := Tryz.zeroValue151
  t139 := Tryz.underlying152
  a139 := Tryz.isAgg152
  z139 := Tryz.sizeOf152
  v139 := Tryz.zeroValue152
  g3 := by kernel_rfl
  g4 := by kernel_rfl }
open Go.RowKit in
theorem Tryz.strings_TrimRight_one (s : ByteArray) (c : UInt8) (hc : c.toNat < 128) (w : World) (hs : s.size ≤ 9223372036854775807) :
    Calls Tryz.prog 129 #[.string s, .string ⟨#[c]⟩] w fun e w' => e = .returned (.string ⟨(Lib.trimRightB s.data.toList c).toArray⟩) ∧ w' = w := Any.strings_TrimRight_one Tryz.lays162 s c hc w hs
def Tryz.lays283_ren : Go.Shelf.Ren := ⟨fun | 283 => 163 | n => n, fun | 3 => 3 | 9 => 9 | 4 => 4 | n => n, fun | n => n⟩
theorem Tryz.lays283 : Go.Proofs.Lays.n283 Tryz.prog Tryz.lays283_ren := {
  mixed := by kernel_rfl
  f283 := Tryz.func163.trans (congrArg some (by kernel_rfl))
  t3 := Tryz.underlying3
  a3 := Tryz.isAgg3
  z3 := Tryz.sizeOf3
  v3 := Tryz.zeroValue3
  t4 := Tryz.underlying4
  a4 := Tryz.isAgg4
  z4 := Tryz.sizeOf4
  v4 := Tryz.zeroValue4
  t9 := Tryz.underlying9
  a9 := Tryz.isAgg9
  z9 := Tryz.sizeOf9
  v9 := Tryz.zeroValue9 }
open Go.Lib in
theorem Tryz.internal_strconv_small (i : Nat) (h : i < 100) (w : World) :
    Calls Tryz.prog 163 #[.int .i64 i] w fun e w' => e = .returned (.string ⟨(Lib.decDigits i).toArray⟩) ∧ w' = w := Any.internal_strconv_small Tryz.lays283 i h w
def Tryz.laysM284_ren : Go.Shelf.Ren := ⟨fun | 284 => 164 | 129 => 179 | 317 => 178 | 318 => 180 | n => n, fun | 53 => 44 | 3 => 3 | 212 => 212 | 0 => 0 | 4 => 4 | 46 => 153 | 5 => 5 | 9 => 9 | n => n, fun | 17 => 3 | n => n⟩
theorem Tryz.laysM284 : Go.Proofs.LaysM.n284 Tryz.prog Tryz.laysM284_ren := {
  mixed := by kernel_rfl
  f129 := Tryz.func179.trans (congrArg some (by kernel_rfl))
  f284 := Tryz.func164.trans (congrArg some (by kernel_rfl))
  f317 := Tryz.func178.trans (congrArg some (by kernel_rfl))
  f318 := Tryz.func180.trans (congrArg some (by kernel_rfl))
  t0 := Tryz.underlying0
  a0 := Tryz.isAgg0
  z0 := Tryz.sizeOf0
  v0 := Tryz.zeroValue0
  t3 := Tryz.underlying3
  a3 := Tryz.isAgg3
  z3 := Tryz.sizeOf3
  v3 := Tryz.zeroValue3
  t4 := Tryz.underlying4
  a4 := Tryz.isAgg4
  z4 := Tryz.sizeOf4
  v4 := Tryz.zeroValue4
  t5 := Tryz.underlying5
  a5 := Tryz.isAgg5
  z5 := Tryz.sizeOf5
  v5 := Tryz.zeroValue5
  t9 := Tryz.underlying9
  a9 := Tryz.isAgg9
  z9 := Tryz.sizeOf9
  v9 := Tryz.zeroValue9
  t46 := Tryz.underlying153
  a46 := Tryz.isAgg153
  z46 := Tryz.sizeOf153
  v46 := Tryz.zeroValue153
  t53 := Tryz.underlying44
  a53 := Tryz.isAgg44
  z53 := Tryz.sizeOf44
  v53 := Tryz.zeroValue44
  t212 := Tryz.underlying212
  a212 := Tryz.isAgg212
  z212 := Tryz.sizeOf212
  v212 := Tryz.zeroValue212
  g17 := by kernel_rfl
  i0 := by kernel_rfl
  i3 := by kernel_rfl
  i4 := by kernel_rfl
  i5 := by kernel_rfl
  i9 := by kernel_rfl
  i46 := by kernel_rfl
  i53 := by kernel_rfl
  i212 := by kernel_rfl
  m17 := by kernel_rfl }
open Go.Lib in
theorem Tryz.internal_strconv_numDigits (u : Nat) (h1 : 1 ≤ u) (h2 : u < 18446744073709551616) (w : World) (htab : Lib.TabIs Tryz.prog w "internal/strconv.uint64pow10" .u64 Lib.pow10Tab) :
    Calls Tryz.prog 164 #[.int .u64 u] w fun e w' => e = .returned (.int .i64 (Lib.nDigits u)) ∧ w' = w := Any.internal_strconv_numDigits Tryz.laysM284 u h1 h2 w htab
def Tryz.lays285_ren : Go.Shelf.Ren := ⟨fun | 285 => 165 | n => n, fun | 37 => 22 | 53 => 44 | 3 => 3 | 4 => 4 | 51 => 193 | 9 => 9 | 5 => 5 | 0 => 0 | n => n, fun | n => n⟩
theorem Tryz.lays285 : Go.Proofs.Lays.n285 Tryz.prog Tryz.lays285_ren := {
  mixed := by kernel_rfl
  f285 := Tryz.func165.trans (congrArg some (by kernel_rfl))
  t0 := Tryz.underlying0
  a0 := Tryz.isAgg0
  z0 := Tryz.sizeOf0
  v0 := Tryz.zeroValue0
  t3 := Tryz.underlying3
  a3 := Tryz.isAgg3
  z3 := Tryz.sizeOf3
  v3 := Tryz.zeroValue3
  t4 := Tryz.underlying4
  a4 := Tryz.isAgg4
  z4 := Tryz.sizeOf4
  v4 := Tryz.zeroValue4
  t5 := Tryz.underlying5
  a5 := Tryz.isAgg5
  z5 := Tryz.sizeOf5
  v5 := Tryz.zeroValue5
  t9 := Tryz.underlying9
  a9 := Tryz.isAgg9
  z9 := Tryz.sizeOf9
  v9 := Tryz.zeroValue9
  t37 := Tryz.underlying22
  a37 := Tryz.isAgg22
  z37 := Tryz.sizeOf22
  v37 := Tryz.zeroValue22
  t51 := Tryz.underlying193
  a51 := Tryz.isAgg193
  z51 := Tryz.sizeOf193
  v51 := Tryz.zeroValue193
  t53 := Tryz.underlying44
  a53 := Tryz.isAgg44
  z53 := Tryz.sizeOf44
  v53 := Tryz.zeroValue44 }
open Go.RowKit Go.Sort Go.Lib in
theorem Tryz.internal_strconv_formatBase10 (blk off cap : Nat) (u : Nat) (d : Array UInt8) (w : World) (hH : Holds (fun (b : UInt8) => Value.int .u8 (b.toNat : Int)) w blk off d) (hu : u < 10 ^ d.size) (hu64 : u < 18446744073709551616) (hsz : d.size < 4611686018427387904) :
    Calls Tryz.prog 165 #[.slice (some ⟨blk, off, none⟩) d.size cap, .int .u64 u] w fun e w' =>
      e = .returned (.tuple #[]) ∧ ∃ (n v' : Nat) (dk : Array UInt8), w' = (putRow (fun (b : UInt8) => Value.int .u8 (b.toNat : Int)) w blk off dk).drewN n ∧ FmtInv d.size u 0 v' dk := Any.internal_strconv_formatBase10 Tryz.lays285 blk off cap u d w hH hu hu64 hsz
def Tryz.laysM171_ren : Go.Shelf.Ren := ⟨fun | 171 => 109 | 243 => 136 | 246 => 156 | 283 => 163 | 284 => 164 | 285 => 165 | 286 => 166 | 129 => 179 | 317 => 178 | 318 => 180 | 319 => 181 | 320 => 182 | 337 => 189 | 338 => 190 | n => n, fun | 3 => 3 | 9 => 9 | 2 => 2 | 4 => 4 | 171 => 194 | 0 => 0 | 53 => 44 | 37 => 22 | 5 => 5 | 173 => 197 | 212 => 212 | 51 => 193 | 20 => 20 | 213 => 213 | 46 => 153 | 232 => 230 | 233 => 231 | n => n, fun | 17 => 3 | 18 => 6 | 19 => 7 | n => n⟩
theorem Tryz.laysM171 : Go.Proofs.LaysM.n171 Tryz.prog Tryz.laysM171_ren := {
  mixed := by kernel_rfl
  f129 := Tryz.func179.trans (congrArg some (by kernel_rfl))
  f171 := Tryz.func109.trans (congrArg some (by kernel_rfl))
  f243 := Tryz.func136.trans (congrArg some (by kernel_rfl))
  f246 := Tryz.func156.trans (congrArg some (by kernel_rfl))
  f283 := Tryz.func163.trans (congrArg some (by kernel_rfl))
  f284 := Tryz.func164.trans (congrArg some (by kernel_rfl))
  f285 := Tryz.func165.trans (congrArg some (by kernel_rfl))
  f286 := Tryz.func166.trans (congrArg some (by kernel_rfl))
  f317 := Tryz.func178.trans (congrArg some (by kernel_rfl))
  f318 := Tryz.func180.trans (congrArg some (by kernel_rfl))
  f319 := Tryz.func181.trans (congrArg some (by kernel_rfl))
  f320 := Tryz.func182.trans (congrArg some (by kernel_rfl))
  f337 := Tryz.func189.trans (congrArg some (by kernel_rfl))
  f338 := Tryz.func190.trans (congrArg some (by kernel_rfl))
  t0 := Tryz.underlying0
  a0 := Tryz.isAgg0
  z0 := Tryz.sizeOf0
  v0 := Tryz.zeroValue0
  t2 := Tryz.underlying2
  a2 := Tryz.isAgg2
  z2 := Tryz.sizeOf2
  v2 := Tryz.zeroValue2
  t3 := Tryz.underlying3
  a3 := Tryz.isAgg3
  z3 := Tryz.sizeOf3
  v3 := Tryz.zeroValue3
  t4 := Tryz.underlying4
  a4 := Tryz.isAgg4
  z4 := Tryz.sizeOf4
  v4 := Tryz.zeroValue4
  t5 := Tryz.underlying5
  a5 := Tryz.isAgg5
  z5 := Tryz.sizeOf5
  v5 := Tryz.zeroValue5
  t9 := Tryz.underlying9
  a9 := Tryz.isAgg9
  z9 := Tryz.sizeOf9
  v9 := Tryz.zeroValue9
  t20 := Tryz.underlying20
  a20 := Tryz.isAgg20
  z20 := Tryz.sizeOf20
  v20 := Tryz.zeroValue20
  t37 := Tryz.underlying22
  a37 := Tryz.isAgg22
  z37 := Tryz.sizeOf22
  v37 := Tryz.zeroValue22
  t46 := Tryz.underlying153
  a46 := Tryz.isAgg153
  z46 := Tryz.sizeOf153
  v46 := Tryz.zeroValue153
  t51 := Tryz.underlying193
  a51 := Tryz.isAgg193
  z51 := Tryz.sizeOf193
  v51 := Tryz.zeroValue193
  t53 := Tryz.underlying44
  a53 := Tryz.isAgg44
  z53 := Tryz.sizeOf44
  v53 := Tryz.zeroValue44
  t171 := Tryz.underlying194
  a171 := Tryz.isAgg194
  z171 := Tryz.sizeOf194
  v171 := Tryz.zeroValue194
  t173 := Tryz.underlying197
  a173 := Tryz.isAgg197
  z173 := Tryz.sizeOf197
  v173 := Tryz.zeroValue197
  t212 := Tryz.underlying212
  a212 := Tryz.isAgg212
  z212 := Tryz.sizeOf212
  v212 := Tryz.zeroValue212
  t213 := Tryz.underlying213
  a213 := Tryz.isAgg213
  z213 := Tryz.sizeOf213
  t232 := Tryz.underlying230
  a232 := Tryz.isAgg230
  z232 := Tryz.sizeOf230
  v232 := Tryz.zeroValue230
  t233 := Tryz.underlying231
  a233 := Tryz.isAgg231
  z233 := Tryz.sizeOf231
  v233 := Tryz.zeroValue231
  g17 := by kernel_rfl
  g18 := by kernel_rfl
  g19 := by kernel_rfl
  i0 := by kernel_rfl
  i2 := by kernel_rfl
  i3 := by kernel_rfl
  i4 := by kernel_rfl
  i5 := by kernel_rfl
  i9 := by kernel_rfl
  i20 := by kernel_rfl
  i37 := by kernel_rfl
  i46 := by kernel_rfl
  i51 := by kernel_rfl
  i53 := by kernel_rfl
  i171 := by kernel_rfl
  i173 := by kernel_rfl
  i212 := by kernel_rfl
  i232 := by kernel_rfl
  i233 := by kernel_rfl
  m17 := by kernel_rfl
  m18 := by kernel_rfl
  m19 := by kernel_rfl }
open Go.RowKit Go.Sort Go.Lib in
theorem Tryz.strconv_Itoa (n : Int) (h0 : -9223372036854775808 ≤ n) (h1 : n ≤ 9223372036854775807) (w : World) (htab : Lib.TabIs Tryz.prog w "internal/strconv.uint64pow10" .u64 Lib.pow10Tab) :
    Calls Tryz.prog 109 #[.int .i64 n] w fun e w' => e = .returned (.string ⟨(Lib.itoa n).toArray⟩) ∧ ∃ k os, w' = grow (w.drewN k) os := Any.strconv_Itoa Tryz.laysM171 n h0 h1 w htab
def Tryz.laysC172_ren : Go.Shelf.Ren := ⟨fun | 172 => 135 | 244 => 154 | 245 => 155 | 247 => 173 | 279 => 174 | 280 => 175 | 281 => 176 | 282 => 177 | 287 => 186 | 316 => 187 | 171 => 109 | 205 => 188 | 321 => 194 | 322 => 195 | 243 => 136 | 246 => 156 | 283 => 163 | 284 => 164 | 285 => 165 | 286 => 166 | 129 => 179 | 317 => 178 | 318 => 180 | 319 => 181 | 320 => 182 | 337 => 189 | 338 => 190 | n => n, fun | 9 => 9 | 3 => 3 | 75 => 126 | 76 => 127 | 4 => 4 | 5 => 5 | 167 => 204 | 37 => 22 | 0 => 0 | 85 => 205 | 2 => 2 | 168 => 207 | 53 => 44 | 175 => 218 | 46 => 153 | 210 => 221 | 127 => 134 | 145 => 229 | 143 => 227 | 21 => 21 | 171 => 194 | 173 => 197 | 212 => 212 | 51 => 193 | 20 => 20 | 213 => 213 | 232 => 230 | 233 => 231 | 80 => 96 | n => n, fun | 15 => 4 | 16 => 5 | 17 => 3 | 18 => 6 | 19 => 7 | n => n⟩
theorem Tryz.laysC172 : Go.Proofs.LaysC.n172 Tryz.prog Tryz.laysC172_ren := {
  mixed := by kernel_rfl
  f129 := Tryz.func179.trans (congrArg some (by kernel_rfl))
  f171 := Tryz.func109.trans (congrArg some (by kernel_rfl))
  f172 := Tryz.func135.trans (congrArg some (by kernel_rfl))
  f205 := Tryz.func188.trans (congrArg some (by kernel_rfl))
  f243 := Tryz.func136.trans (congrArg some (by kernel_rfl))
  f244 := Tryz.func154.trans (congrArg some (by kernel_rfl))
  f245 := Tryz.func155.trans (congrArg some (by kernel_rfl))
  f246 := Tryz.func156.trans (congrArg some (by kernel_rfl))
  f247 := Tryz.func173.trans (congrArg some (by kernel_rfl))
  f279 := Tryz.func174.trans (congrArg some (by kernel_rfl))
  f280 := Tryz.func175.trans (congrArg some (by kernel_rfl))
  f281 := Tryz.func176.trans (congrArg some (by kernel_rfl))
  f282 := Tryz.func177.trans (congrArg some (by kernel_rfl))
  f283 := Tryz.func163.trans (congrArg some (by kernel_rfl))
  f284 := Tryz.func164.trans (congrArg some (by kernel_rfl))
  f285 := Tryz.func165.trans (congrArg some (by kernel_rfl))
  f286 := Tryz.func166.trans (congrArg some (by kernel_rfl))
  f287 := Tryz.func186.trans (congrArg some (by kernel_rfl))
  f316 := Tryz.func187.trans (congrArg some (by kernel_rfl))
  f317 := Tryz.func178.trans (congrArg some (by kernel_rfl))
  f318 := Tryz.func180.trans (congrArg some (by kernel_rfl))
  f319 := Tryz.func181.trans (congrArg some (by kernel_rfl))
  f320 := Tryz.func182.trans (congrArg some (by kernel_rfl))
  f321 := Tryz.func194.trans (congrArg some (by kernel_rfl))
  f322 := Tryz.func195.trans (congrArg some (by kernel_rfl))
  f337 := Tryz.func189.trans (congrArg some (by kernel_rfl))
  f338 := Tryz.func190.trans (congrArg some (by kernel_rfl))
  t0 := Tryz.underlying0
  a0 := Tryz.isAgg0
  z0 := Tryz.sizeOf0
  v0 := Tryz.zeroValue0
  t2 := Tryz.underlying2
  a2 := Tryz.isAgg2
  z2 := Tryz.sizeOf2
  v2 := Tryz.zeroValue2
  t3 := Tryz.underlying3
  a3 := Tryz.isAgg3
  z3 := Tryz.sizeOf3
  v3 := Tryz.zeroValue3
  t4 := Tryz.underlying4
  a4 := Tryz.isAgg4
  z4 := Tryz.sizeOf4
  v4 := Tryz.zeroValue4
  t5 := Tryz.underlying5
  a5 := Tryz.isAgg5
  z5 := Tryz.sizeOf5
  v5 := Tryz.zeroValue5
  t9 := Tryz.underlying9
  a9 := Tryz.isAgg9
  z9 := Tryz.sizeOf9
  v9 := Tryz.zeroValue9
  t20 := Tryz.underlying20
  a20 := Tryz.isAgg20
  z20 := Tryz.sizeOf20
  v20 := Tryz.zeroValue20
  t21 := Tryz.underlying21
  a21 := Tryz.isAgg21
  z21 := Tryz.sizeOf21
  v21 := Tryz.zeroValue21
  t37 := Tryz.underlying22
  a37 := Tryz.isAgg22
  z37 := Tryz.sizeOf22
  v37 := Tryz.zeroValue22
  t46 := Tryz.underlying153
  a46 := Tryz.isAgg153
  z46 := Tryz.sizeOf153
  v46 := Tryz.zeroValue153
  t51 := Tryz.underlying193
  a51 := Tryz.isAgg193
  z51 := Tryz.sizeOf193
  v51 := Tryz.zeroValue193
  t53 := Tryz.underlying44
  a53 := Tryz.isAgg44
  z53 := Tryz.sizeOf44
  v53 := Tryz.zeroValue44
  t75 := Tryz.underlying126
  a75 := Tryz.isAgg126
  z75 := Tryz.sizeOf126
  v75 := Tryz.zeroValue126
  t76 := Tryz.underlying127
  a76 := Tryz.isAgg127
  z76 := Tryz.sizeOf127
  v76 := Tryz.zeroValue127
  t85 := Tryz.underlying205
  a85 := Tryz.isAgg205
  z85 := Tryz.sizeOf205
  v85 := Tryz.zeroValue205
  t127 := Tryz.underlying134
  a127 := Tryz.isAgg134
  z127 := Tryz.sizeOf134
  v127 := Tryz.zeroValue134
  t143 := Tryz.underlying227
  a143 := Tryz.isAgg227
  z143 := Tryz.sizeOf227
  v143 := Tryz.zeroValue227
  t145 := Tryz.underlying229
  a145 := Tryz.isAgg229
  z145 := Tryz.sizeOf229
  v145 := Tryz.zeroValue229
  t167 := Tryz.underlying204
  a167 := Tryz.isAgg204
  z167 := Tryz.sizeOf204
  v167 := Tryz.zeroValue204
  t168 := Tryz.underlying207
  a168 := Tryz.isAgg207
  z168 := Tryz.sizeOf207
  v168 := Tryz.zeroValue207
  t171 := Tryz.underlying194
  a171 := Tryz.isAgg194
  z171 := Tryz.sizeOf194
  v171 := Tryz.zeroValue194
  t173 := Tryz.underlying197
  a173 := Tryz.isAgg197
  z173 := Tryz.sizeOf197
  v173 := Tryz.zeroValue197
  t175 := Tryz.underlying218
  a175 := Tryz.isAgg218
  z175 := Tryz.sizeOf218
  v175 := Tryz.zeroValue218
  t210 := Tryz.underlying221
  a210 := Tryz.isAgg221
  z210 := Tryz.sizeOf221
  v210 := Tryz.zeroValue221
  t212 := Tryz.underlying212
  a212 := Tryz.isAgg212
  z212 := Tryz.sizeOf212
  v212 := Tryz.zeroValue212
  t213 := Tryz.underlying213
  a213 := Tryz.isAgg213
  z213 := Tryz.sizeOf213
  t232 := Tryz.underlying230
  a232 := Tryz.isAgg230
  z232 := Tryz.sizeOf230
  v232 := Tryz.zeroValue230
  t233 := Tryz.underlying231
  a233 := Tryz.isAgg231
  z233 := Tryz.sizeOf231
  v233 := Tryz.zeroValue231
  g15 := by kernel_rfl
  g16 := by kernel_rfl
  g17 := by kernel_rfl
  g18 := by kernel_rfl
  g19 := by kernel_rfl
  t80 := Tryz.underlying96
  a80 := Tryz.isAgg96
  z80 := Tryz.sizeOf96
  v80 := Tryz.zeroValue96
  i0 := by kernel_rfl
  i2 := by kernel_rfl
  i3 := by kernel_rfl
  i4 := by kernel_rfl
  i5 := by kernel_rfl
  i9 := by kernel_rfl
  i20 := by kernel_rfl
  i21 := by kernel_rfl
  i37 := by kernel_rfl
  i46 := by kernel_rfl
  i51 := by kernel_rfl
  i53 := by kernel_rfl
  i75 := by kernel_rfl
  i76 := by kernel_rfl
  i80 := by kernel_rfl
  i85 := by kernel_rfl
  i127 := by kernel_rfl
  i143 := by kernel_rfl
  i145 := by kernel_rfl
  i167 := by kernel_rfl
  i168 := by kernel_rfl
  i171 := by kernel_rfl
  i173 := by kernel_rfl
  i175 := by kernel_rfl
  i210 := by kernel_rfl
  i212 := by kernel_rfl
  i232 := by kernel_rfl
  i233 := by kernel_rfl
  m15 := by kernel_rfl
  m16 := by kernel_rfl
  m17 := by kernel_rfl
  m18 := by kernel_rfl
  m19 := by kernel_rfl
  c0 := by kernel_rfl
  c2 := by kernel_rfl
  c3 := by kernel_rfl
  c4 := by kernel_rfl
  c5 := by kernel_rfl
  c9 := by kernel_rfl
  c20 := by kernel_rfl
  c21 := by kernel_rfl
  c37 := by kernel_rfl
  c46 := by kernel_rfl
  c51 := by kernel_rfl
  c53 := by kernel_rfl
  c75 := by kernel_rfl
  c76 := by kernel_rfl
  c80 := by kernel_rfl
  c85 := by kernel_rfl
  c127 := by kernel_rfl
  c143 := by kernel_rfl
  c145 := by kernel_rfl
  c167 := by kernel_rfl
  c168 := by kernel_rfl
  c171 := by kernel_rfl
  c173 := by kernel_rfl
  c175 := by kernel_rfl
  c210 := by kernel_rfl
  c212 := by kernel_rfl
  c213 := by kernel_rfl
  c232 := by kernel_rfl
  c233 := by kernel_rfl }
open Go.RowKit in
theorem Tryz.strconv_Atoi_ok (s : ByteArray) (hmax : s.size ≤ 9223372036854775806) (v : Int) (h : Lib.atoiAll s.data.toList = .ok v) (w : World) :
    Calls Tryz.prog 135 #[.string s] w fun e w' => e = .returned (.tuple #[.int .i64 v, .nilIface]) ∧ (w' = w ∨ ∃ t, w' = Lib.bytesWorld w 5 t) := Any.strconv_Atoi_ok Tryz.laysC172 s hmax v h w
open Go.RowKit in
theorem Tryz.strconv_Atoi_syntax (s : ByteArray) (hlim : s.size ≤ 281474976710656) (h : Lib.atoiAll s.data.toList = Lib.atoiAll []) (ev : Value) (w : World) (hv : w.cell? ⟨4, 0, none⟩ = some ev) (hev : ev = .nilIface ∨ ∃ te pe, ev = .iface te pe) :
    Calls Tryz.prog 135 #[.string s] w fun e w' => ∃ N, e = .returned (.tuple #[.int .i64 (0), .iface 207 (.pointer (some ⟨N, 0, none⟩))]) ∧ w.heap.size ≤ N ∧ w'.heap[N]? = some (.cells #[.string ⟨#[65, 116, 111, 105]⟩, .string s, ev] 221 (0, 0)) ∧ Below w.heap.size w w' := Any.strconv_Atoi_syntax Tryz.laysC172 s hlim h ev w hv hev
open Go.RowKit in
theorem Tryz.strconv_Atoi_range (s : ByteArray) (hlim : s.size ≤ 281474976710656) (h : Lib.atoiAll s.data.toList = .range) (ev : Value) (w : World) (hv : w.cell? ⟨5, 0, none⟩ = some ev) (hev : ev = .nilIface ∨ ∃ te pe, ev = .iface te pe) :
    Calls Tryz.prog 135 #[.string s] w fun e w' => ∃ N, e = .returned (.tuple #[.int .i64 (Lib.atoiSat s.data.toList), .iface 207 (.pointer (some ⟨N, 0, none⟩))]) ∧ w.heap.size ≤ N ∧ w'.heap[N]? = some (.cells #[.string ⟨#[65, 116, 111, 105]⟩, .string s, ev] 221 (0, 0)) ∧ Below w.heap.size w w' := Any.strconv_Atoi_range Tryz.laysC172 s hlim h ev w hv hev
def Tryz.lays105_ren : Go.Shelf.Ren := ⟨fun | 105 => 128 | 212 => 147 | 99 => 110 | 165 => 148 | 166 => 88 | 170 => 149 | 169 => 56 | 263 => 167 | 264 => 168 | 206 => 137 | 240 => 124 | 241 => 169 | 276 => 145 | 277 => 183 | n => n, fun | 9 => 9 | 3 => 3 | 4 => 4 | 20 => 20 | 0 => 0 | 46 => 153 | 109 => 181 | 5 => 5 | 72 => 92 | 76 => 127 | 51 => 193 | 146 => 199 | 53 => 44 | 148 => 201 | 70 => 90 | 37 => 22 | 75 => 126 | 127 => 134 | 164 => 179 | 80 => 96 | n => n, fun | n => n⟩
theorem Tryz.lays105 : Go.Proofs.Lays.n105 Tryz.prog Tryz.lays105_ren := {
  mixed := by kernel_rfl
  f99 := Tryz.func110.trans (congrArg some (by kernel_rfl))
  f105 := Tryz.func128.trans (congrArg some (by kernel_rfl))
  f165 := Tryz.func148.trans (congrArg some (by kernel_rfl))
  f166 := Tryz.func88.trans (congrArg some (by kernel_rfl))
  f169 := Tryz.func56.trans (congrArg some (by kernel_rfl))
  f170 := Tryz.func149.trans (congrArg some (by kernel_rfl))
  f206 := Tryz.func137.trans (congrArg some (by kernel_rfl))
  f212 := Tryz.func147.trans (congrArg some (by kernel_rfl))
  f240 := Tryz.func124.trans (congrArg some (by kernel_rfl))
  f241 := Tryz.func169.trans (congrArg some (by kernel_rfl))
  f263 := Tryz.func167.trans (congrArg some (by kernel_rfl))
  f264 := Tryz.func168.trans (congrArg some (by kernel_rfl))
  f276 := Tryz.func145.trans (congrArg some (by kernel_rfl))
  f277 := Tryz.func183.trans (congrArg some (by kernel_rfl))
  t0 := Tryz.underlying0
  a0 := Tryz.isAgg0
  z0 := Tryz.sizeOf0
  v0 := Tryz.zeroValue0
  t3 := Tryz.underlying3
  a3 := Tryz.isAgg3
  z3 := Tryz.sizeOf3
  v3 := Tryz.zeroValue3
  t4 := Tryz.underlying4
  a4 := Tryz.isAgg4
  z4 := Tryz.sizeOf4
  v4 := Tryz.zeroValue4
  t5 := Tryz.underlying5
  a5 := Tryz.isAgg5
  z5 := Tryz.sizeOf5
  v5 := Tryz.zeroValue5
  t9 := Tryz.underlying9
  a9 := Tryz.isAgg9
  z9 := Tryz.sizeOf9
  v9 := Tryz.zeroValue9
  t20 := Tryz.underlying20
  a20 := Tryz.isAgg20
  z20 := Tryz.sizeOf20
  v20 := Tryz.zeroValue20
  t37 := Tryz.underlying22
  a37 := Tryz.isAgg22
  z37 := Tryz.sizeOf22
  v37 := Tryz.zeroValue22
  t46 := Tryz.underlying153
  a46 := Tryz.isAgg153
  z46 := Tryz.sizeOf153
  v46 := Tryz.zeroValue153
  t51 := Tryz.underlying193
  a51 := Tryz.isAgg193
  z51 := Tryz.sizeOf193
  v51 := Tryz.zeroValue193
  t53 := Tryz.underlying44
  a53 := Tryz.isAgg44
  z53 := Tryz.sizeOf44
  v53 := Tryz.zeroValue44
  t70 := Tryz.underlying90
  a70 := Tryz.isAgg90
  z70 := Tryz.sizeOf90
  v70 := Tryz.zeroValue90
  t72 := Tryz.underlying92
  a72 := Tryz.isAgg92
  z72 := Tryz.sizeOf92
  v72 := Tryz.zeroValue92
  t75 := Tryz.underlying126
  a75 := Tryz.isAgg126
  z75 := Tryz.sizeOf126
  v75 := Tryz.zeroValue126
  t76 := Tryz.underlying127
  a76 := Tryz.isAgg127
  z76 := Tryz.sizeOf127
  v76 := Tryz.zeroValue127
  t109 := Tryz.underlying181
  a109 := Tryz.isAgg181
  z109 := Tryz.sizeOf181
  v109 := Tryz.zeroValue181
  t127 := Tryz.underlying134
  a127 := Tryz.isAgg134
  z127 := Tryz.sizeOf134
  v127 := Tryz.zeroValue134
  t146 := Tryz.underlying199
  a146 := Tryz.isAgg199
  z146 := Tryz.sizeOf199
  v146 := Tryz.zeroValue199
  t148 := Tryz.underlying201
  a148 := Tryz.isAgg201
  z148 := Tryz.sizeOf201
  v148 := Tryz.zeroValue201
  t164 := Tryz.underlying179
  a164 := Tryz.isAgg179
  z164 := Tryz.sizeOf179
  v164 := Tryz.zeroValue179 }
theorem Tryz.Builder_Extra_105 : Builder.Extra Tryz.prog Tryz.lays105_ren := {
  sizeBuilder := by kernel_rfl
  liesBuilder := by kernel_rfl
  t5 := Tryz.underlying5
  a5 := Tryz.isAgg5
  z5 := Tryz.sizeOf5
  v5 := Tryz.zeroValue5
  infoByte := by kernel_rfl
  cellsByte := by kernel_rfl
  sizeByte := by kernel_rfl
  neB5 := by decide }
open Go.RowKit Go.Lib in
theorem Tryz.strings_Repeat (s : ByteArray) (c : Nat) (w : World) (hc : c ≤ 9223372036854775807) (hlen : s.size * c ≤ 140737488355328) :
    Calls Tryz.prog 128 #[.string s, .int .i64 c] w fun e w' => e = .returned (.string ⟨(Lib.repeatL s.data.toList c).toArray⟩) ∧ Below w.heap.size w w' := Any.strings_Repeat Tryz.lays105 Tryz.Builder_Extra_105 s c w hc hlen
end Go.Proofs
