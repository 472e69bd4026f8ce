/-
  The contracts of the library functions at this translation (laid by the kit).
-/
import Derived.Shelf.Strings.Builder1
import Derived.Shelf.Strings.Builder2
import Derived.Shelf.Strings.Trim
import Derived.Shelf.Small.Utf8
import Derived.Shelf.Small.Bits
import Derived.Shelf.Small.Strs
import Derived.Shelf.Strings.BuilderF
import Derived.Shelf.Strings.BuilderK
import Derived.Shelf.Strings.BuilderRune
import Derived.Shelf.Utf8.AppendRune
import Derived.Shelf.Utf8.AppendRunePlain
import Derived.Shelf.Strings.Builder2Cap
import Derived.Shelf.Strconv.Atoi
import Derived.Shelf.Strconv.Itoa0
import Derived.Shelf.Strconv.Itoa1
import Derived.Shelf.LaysM
import Derived.Shelf.Strconv.Itoa2
import Derived.Shelf.Strconv.Itoa3
import Derived.Shelf.Strconv.AtoiErrFast
import Derived.Shelf.Strconv.ParseIntEmpty
import Derived.Shelf.Strconv.AtoiFail
import Derived.Shelf.Strconv.Clone
import Derived.Shelf.Strconv.SyntaxError
import Derived.Shelf.LaysC
import Derived.Shelf.Strconv.ToError
import Derived.Shelf.Strconv.AtoiErr
import Derived.Shelf.Strconv.ErrVar
import Derived.Shelf.Strconv.Lower
import Derived.Shelf.Strconv.ParseUint10
import Derived.Shelf.Strconv.ParseUint10Empty
import Derived.Shelf.Strconv.ParseUint10Any
import Derived.Shelf.Strconv.ParseInt10
import Derived.Shelf.Strconv.AtoiLong
import Derived.Shelf.Strconv.AtoiInnerAll
import Derived.Shelf.Strconv.RangeError
import Derived.Shelf.Strconv.ToErrorRange
import Derived.Shelf.Strconv.AtoiAll
import Derived.Shelf.Strconv.ErrVarAll
import Derived.Shelf.Strconv.ParseUintEmpty
import Derived.Shelf.Strconv.ParseUint10b64
import Derived.Shelf.Strconv.ParseUint10b32
import Derived.Shelf.Strconv.ParseUint10b16
import Derived.Shelf.Strconv.ParseUint10b8
import Derived.Shelf.Strconv.ParseUint10At
import Derived.Shelf.Strconv.ParseInt10At64
import Derived.Shelf.Strings.Search1
import Derived.Shelf.Strings.Prefix
import Derived.Shelf.Unicode.Decode
import Derived.Shelf.Strings.Runes
import Derived.Shelf.Strings.AsciiSet
import Derived.Shelf.Bits.Mul64
import Derived.Shelf.Strings.Repeat
import Derived.Shelf.Unicode.DecodeSlow
import Derived.Shelf.Unicode.DecodeAny
import Derived.Shelf.Unicode.DecodeLast
import Derived.Shelf.Strings.BuilderCap
import Derived.Ground.SlbCloneProg
import Derived.Shelf.Bytes.SlClone
import Derived.Shelf.Unicode.ValidAny
import Derived.Lib.LaidU8T
import Derived.Test.YthngolfabfijpaaGreatDoorProg
namespace Go.Proofs
open Go.Shelf
def Tryz.laysValid_ren : Go.Shelf.Ren := ⟨fun | 196 => 73 | 259 => 111 | n => n, fun | 9 => 9 | 4 => 4 | 3 => 3 | 5 => 5 | 12 => 12 | 119 => 159 | 0 => 0 | 46 => 129 | 139 => 162 | 138 => 161 | 53 => 128 | n => n, fun | 3 => 0 | 4 => 1 | n => n⟩
theorem Tryz.laysValid : Go.Proofs.Lays.n196 Tryz.prog Tryz.laysValid_ren := {
  mixed := by kernel_rfl
  f196 := Tryz.func73.trans (congrArg some (by kernel_rfl))
  f259 := Tryz.func111.trans (congrArg some (by kernel_rfl))
  t0 := Tryz.underlying0
  a0 := Tryz.isAgg0
  z0 := Tryz.sizeOf0
  v0 := Tryz.zeroValue0
  t3 := Tryz.underlying3
  a3 := Tryz.isAgg3
  z3 := Tryz.sizeOf3
  v3 := Tryz.zeroValue3
  t4 := Tryz.underlying4
  a4 := Tryz.isAgg4
  z4 := Tryz.sizeOf4
  v4 := Tryz.zeroValue4
  t5 := Tryz.underlying5
  a5 := Tryz.isAgg5
  z5 := Tryz.sizeOf5
  v5 := Tryz.zeroValue5
  t9 := Tryz.underlying9
  a9 := Tryz.isAgg9
  z9 := Tryz.sizeOf9
  v9 := Tryz.zeroValue9
  t12 := Tryz.underlying12
  a12 := Tryz.isAgg12
  z12 := Tryz.sizeOf12
  v12 := Tryz.zeroValue12
  t46 := Tryz.underlying129
  a46 := Tryz.isAgg129
  z46 := Tryz.sizeOf129
  v46 := Tryz.zeroValue129
  t53 := Tryz.underlying128
  a53 := Tryz.isAgg128
  z53 := Tryz.sizeOf128
  v53 := Tryz.zeroValue128
  t119 := Tryz.underlying159
  a119 := Tryz.isAgg159
  z119 := Tryz.sizeOf159
  t138 := Tryz.underlying161
  a138 := Tryz.isAgg161
  z138 := Tryz.sizeOf161
  v138 := Tryz.zeroValue161
  t139 := Tryz.underlying162
  a139 := Tryz.isAgg162
  z139 := Tryz.sizeOf162
  v139 := Tryz.zeroValue162
  g3 := by kernel_rfl
  g4 := by kernel_rfl }
open Go.RowKit in
theorem Tryz.utf8_ValidString (s : ByteArray) (w : World) (hs : s.size ≤ 9223372036854775807) (hT : Lib.Utf8Tabs (Tryz.laysValid_ren.g 3) (Tryz.laysValid_ren.g 4) w) :
    Calls Tryz.prog 73 #[.string s] w fun e w' => e = .returned (.bool (Lib.validD s.data.toList)) ∧ Below w.heap.size w w' := Any.utf8_ValidString Tryz.laysValid s w hs hT
def Tryz.lays162_ren : Go.Shelf.Ren := ⟨fun | 162 => 122 | 232 => 150 | 227 => 151 | 234 => 152 | 236 => 153 | 228 => 175 | 271 => 176 | 151 => 177 | 120 => 191 | 197 => 192 | 152 => 193 | 260 => 198 | 137 => 199 | 119 => 200 | 224 => 201 | 225 => 202 | 217 => 203 | 266 => 204 | n => n, fun | 9 => 9 | 4 => 4 | 3 => 3 | 5 => 5 | 117 => 202 | 116 => 201 | 0 => 0 | 124 => 205 | 21 => 21 | 105 => 228 | 46 => 129 | 119 => 159 | 139 => 162 | 138 => 161 | n => n, fun | 3 => 0 | 4 => 1 | n => n⟩
theorem Tryz.lays162 : Go.Proofs.Lays.n162 Tryz.prog Tryz.lays162_ren := {
  mixed := by kernel_rfl
  f119 := Tryz.func200.trans (congrArg some (by kernel_rfl))
  f120 := Tryz.func191.trans (congrArg some (by kernel_rfl))
  f137 := Tryz.func199.trans (congrArg some (by kernel_rfl))
  f151 := Tryz.func177.trans (congrArg some (by kernel_rfl))
  f152 := Tryz.func193.trans (congrArg some (by kernel_rfl))
  f162 := Tryz.func122.trans (congrArg some (by kernel_rfl))
  f197 := Tryz.func192.trans (congrArg some (by kernel_rfl))
  f217 := Tryz.func203.trans (congrArg some (by kernel_rfl))
  f224 := Tryz.func201.trans (congrArg some (by kernel_rfl))
  f225 := Tryz.func202.trans (congrArg some (by kernel_rfl))
  f227 := Tryz.func151.trans (congrArg some (by kernel_rfl))
  f228 := Tryz.func175.trans (congrArg some (by kernel_rfl))
  f232 := Tryz.func150.trans (congrArg some (by kernel_rfl))
  f234 := Tryz.func152.trans (congrArg some (by kernel_rfl))
  f236 := Tryz.func153.trans (congrArg some (by kernel_rfl))
  f260 := Tryz.func198.trans (congrArg some (by kernel_rfl))
  f266 := Tryz.func204.trans (congrArg some (by kernel_rfl))
  f271 := Tryz.func176.trans (congrArg some (by kernel_rfl))
  t0 := Tryz.underlying0
  a0 := Tryz.isAgg0
  z0 := Tryz.sizeOf0
  v0 := Tryz.zeroValue0
  t3 := Tryz.underlying3
  a3 := Tryz.isAgg3
  z3 := Tryz.sizeOf3
  v3 := Tryz.zeroValue3
  t4 := Tryz.underlying4
  a4 := Tryz.isAgg4
  z4 := Tryz.sizeOf4
  v4 := Tryz.zeroValue4
  t5 := Tryz.underlying5
  a5 := Tryz.isAgg5
  z5 := Tryz.sizeOf5
  v5 := Tryz.zeroValue5
  t9 := Tryz.underlying9
  a9 := Tryz.isAgg9
  z9 := Tryz.sizeOf9
  v9 := Tryz.zeroValue9
  t21 := Tryz.underlying21
  a21 := Tryz.isAgg21
  z21 := Tryz.sizeOf21
  v21 := Tryz.zeroValue21
  t46 := Tryz.underlying129
  a46 := Tryz.isAgg129
  z46 := Tryz.sizeOf129
  v46 := Tryz.zeroValue129
  t105 := Tryz.underlying228
  a105 := Tryz.isAgg228
  z105 := Tryz.sizeOf228
  v105 := Tryz.zeroValue228
  t116 := Tryz.underlying201
  a116 := Tryz.isAgg201
  z116 := Tryz.sizeOf201
  t117 := Tryz.underlying202
  a117 := Tryz.isAgg202
  z117 := Tryz.sizeOf202
  v117 := Tryz.zeroValue202
  t119 := Tryz.underlying159
  a119 := Tryz.isAgg159
  z119 := Tryz.sizeOf159
  t124 := Tryz.underlying205
  a124 := Tryz.isAgg205
  z124 := Tryz.sizeOf205
  v124 := Tryz.zeroValue205
  t138 := Tryz.underlying161
  a138 := Tryz.isAgg161
  z138 := Tryz.sizeOf161
  v138 := Tryz.zeroValue161
  t139 := Tryz.underlying162
  a139 := Tryz.isAgg162
  z139 := Tryz.sizeOf162
  v139 := Tryz.zeroValue162
  g3 := by kernel_rfl
  g4 := by kernel_rfl }
open Go.RowKit in
theorem Tryz.strings_TrimRight_one (s : ByteArray) (c : UInt8) (hc : c.toNat < 128) (w : World) (hs : s.size ≤ 9223372036854775807) :
    Calls Tryz.prog 122 #[.string s, .string ⟨#[c]⟩] w fun e w' => e = .returned (.string ⟨(Lib.trimRightB s.data.toList c).toArray⟩) ∧ w' = w := Any.strings_TrimRight_one Tryz.lays162 s c hc w hs
def Tryz.lays134_ren : Go.Shelf.Ren := ⟨fun | 134 => 160 | 129 => 181 | n => n, fun | 53 => 128 | 3 => 3 | 4 => 4 | 46 => 129 | 5 => 5 | 9 => 9 | n => n, fun | n => n⟩
theorem Tryz.lays134 : Go.Proofs.Lays.n134 Tryz.prog Tryz.lays134_ren := {
  mixed := by kernel_rfl
  f129 := Tryz.func181.trans (congrArg some (by kernel_rfl))
  f134 := Tryz.func160.trans (congrArg some (by kernel_rfl))
  t3 := Tryz.underlying3
  a3 := Tryz.isAgg3
  z3 := Tryz.sizeOf3
  v3 := Tryz.zeroValue3
  t4 := Tryz.underlying4
  a4 := Tryz.isAgg4
  z4 := Tryz.sizeOf4
  v4 := Tryz.zeroValue4
  t5 := Tryz.underlying5
  a5 := Tryz.isAgg5
  z5 := Tryz.sizeOf5
  v5 := Tryz.zeroValue5
  t9 := Tryz.underlying9
  a9 := Tryz.isAgg9
  z9 := Tryz.sizeOf9
  v9 := Tryz.zeroValue9
  t46 := Tryz.underlying129
  a46 := Tryz.isAgg129
  z46 := Tryz.sizeOf129
  v46 := Tryz.zeroValue129
  t53 := Tryz.underlying128
  a53 := Tryz.isAgg128
  z53 := Tryz.sizeOf128
  v53 := Tryz.zeroValue128 }
theorem Tryz.bits_LeadingZeros64 (x : Int) (w : World) (h0 : 0 ≤ x) (h1 : x ≤ 18446744073709551615) :
    Calls Tryz.prog 160 #[.int .u64 x] w fun e w' => e = .returned (.int .i64 (64 - (Lib.bitLen x.toNat : Int))) ∧ w' = w := Any.bits_LeadingZeros64 Tryz.lays134 x w h0 h1
def Tryz.lays106_ren : Go.Shelf.Ren := ⟨fun | 106 => 90 | 213 => 128 | 265 => 156 | n => n, fun | 9 => 9 | 3 => 3 | n => n, fun | n => n⟩
theorem Tryz.lays106 : Go.Proofs.Lays.n106 Tryz.prog Tryz.lays106_ren := {
  mixed := by kernel_rfl
  f106 := Tryz.func90.trans (congrArg some (by kernel_rfl))
  f213 := Tryz.func128.trans (congrArg some (by kernel_rfl))
  f265 := Tryz.func156.trans (congrArg some (by kernel_rfl))
  t3 := Tryz.underlying3
  a3 := Tryz.isAgg3
  z3 := Tryz.sizeOf3
  v3 := Tryz.zeroValue3
  t9 := Tryz.underlying9
  a9 := Tryz.isAgg9
  z9 := Tryz.sizeOf9
  v9 := Tryz.zeroValue9 }
open Go.RowKit in
theorem Tryz.strings_Compare (a b : ByteArray) (w : World) :
    Calls Tryz.prog 90 #[.string a, .string b] w fun e w' => e = .returned (.int .i64 (Lib.compareBytes a.data.toList b.data.toList)) ∧ w' = w := Any.strings_Compare Tryz.lays106 a b w
def Tryz.lays283_ren : Go.Shelf.Ren := ⟨fun | 283 => 168 | n => n, fun | 3 => 3 | 9 => 9 | 4 => 4 | n => n, fun | n => n⟩
theorem Tryz.lays283 : Go.Proofs.Lays.n283 Tryz.prog Tryz.lays283_ren := {
  mixed := by kernel_rfl
  f283 := Tryz.func168.trans (congrArg some (by kernel_rfl))
  t3 := Tryz.underlying3
  a3 := Tryz.isAgg3
  z3 := Tryz.sizeOf3
  v3 := Tryz.zeroValue3
  t4 := Tryz.underlying4
  a4 := Tryz.isAgg4
  z4 := Tryz.sizeOf4
  v4 := Tryz.zeroValue4
  t9 := Tryz.underlying9
  a9 := Tryz.isAgg9
  z9 := Tryz.sizeOf9
  v9 := Tryz.zeroValue9 }
open Go.Lib in
theorem Tryz.internal_strconv_small (i : Nat) (h : i < 100) (w : World) :
    Calls Tryz.prog 168 #[.int .i64 i] w fun e w' => e = .returned (.string ⟨(Lib.decDigits i).toArray⟩) ∧ w' = w := Any.internal_strconv_small Tryz.lays283 i h w
def Tryz.laysM284_ren : Go.Shelf.Ren := ⟨fun | 284 => 169 | 129 => 181 | 317 => 186 | 318 => 187 | n => n, fun | 53 => 128 | 3 => 3 | 212 => 241 | 0 => 0 | 4 => 4 | 46 => 129 | 5 => 5 | 9 => 9 | n => n, fun | 17 => 7 | n => n⟩
theorem Tryz.laysM284 : Go.Proofs.LaysM.n284 Tryz.prog Tryz.laysM284_ren := {
  mixed := by kernel_rfl
  f129 := Tryz.func181.trans (congrArg some (by kernel_rfl))
  f284 := Tryz.func169.trans (congrArg some (by kernel_rfl))
  f317 := Tryz.func186.trans (congrArg some (by kernel_rfl))
  f318 := Tryz.func187.trans (congrArg some (by kernel_rfl))
  t0 := Tryz.underlying0
  a0 := Tryz.isAgg0
  z0 := Tryz.sizeOf0
  v0 := Tryz.zeroValue0
  t3 := Tryz.underlying3
  a3 := Tryz.isAgg3
  z3 := Tryz.sizeOf3
  v3 := Tryz.zeroValue3
  t4 := Tryz.underlying4
  a4 := Tryz.isAgg4
  z4 := Tryz.sizeOf4
  v4 := Tryz.zeroValue4
  t5 := Tryz.underlying5
  a5 := Tryz.isAgg5
  z5 := Tryz.sizeOf5
  v5 := Tryz.zeroValue5
  t9 := Tryz.underlying9
  a9 := Tryz.isAgg9
  z9 := Tryz.sizeOf9
  v9 := Tryz.zeroValue9
  t46 := Tryz.underlying129
  a46 := Tryz.isAgg129
  z46 := Tryz.sizeOf129
  v46 := Tryz.zeroValue129
  t53 := Tryz.underlying128
  a53 := Tryz.isAgg128
  z53 := Tryz.sizeOf128
  v53 := Tryz.zeroValue128
  t212 := Tryz.underlying241
  a212 := Tryz.isAgg241
  z212 := Tryz.sizeOf241
  v212 := Tryz.zeroValue241
  g17 := by kernel_rfl
  i0 := by kernel_rfl
  i3 := by kernel_rfl
  i4 := by kernel_rfl
  i5 := by kernel_rfl
  i9 := by kernel_rfl
  i46 := by kernel_rfl
  i53 := by kernel_rfl
  i212 := by kernel_rfl
  m17 := by kernel_rfl }
open Go.Lib in
theorem Tryz.internal_strconv_numDigits (u : Nat) (h1 : 1 ≤ u) (h2 : u < 18446744073709551616) (w : World) (htab : Lib.TabIs Tryz.prog w "internal/strconv.uint64pow10" .u64 Lib.pow10Tab) :
    Calls Tryz.prog 169 #[.int .u64 u] w fun e w' => e = .returned (.int .i64 (Lib.nDigits u)) ∧ w' = w := Any.internal_strconv_numDigits Tryz.laysM284 u h1 h2 w htab
def Tryz.lays285_ren : Go.Shelf.Ren := ⟨fun | 285 => 170 | n => n, fun | 37 => 22 | 53 => 128 | 3 => 3 | 4 => 4 | 51 => 225 | 9 => 9 | 5 => 5 | 0 => 0 | n => n, fun | n => n⟩
theorem Tryz.lays285 : Go.Proofs.Lays.n285 Tryz.prog Tryz.lays285_ren := {
  mixed := by kernel_rfl
  f285 := Tryz.func170.trans (congrArg some (by kernel_rfl))
  t0 := Tryz.underlying0
  a0 := Tryz.isAgg0
  z0 := Tryz.sizeOf0
  v0 := Tryz.zeroValue0
  t3 := Tryz.underlying3
  a3 := Tryz.isAgg3
  z3 := Tryz.sizeOf3
  v3 := Tryz.zeroValue3
  t4 := Tryz.underlying4
  a4 := Tryz.isAgg4
  z4 := Tryz.sizeOf4
  v4 := Tryz.zeroValue4
  t5 := Tryz.underlying5
  a5 := Tryz.isAgg5
  z5 := Tryz.sizeOf5
  v5 := Tryz.zeroValue5
  t9 := Tryz.underlying9
  a9 := Tryz.isAgg9
  z9 := Tryz.sizeOf9
  v9 := Tryz.zeroValue9
  t37 := Tryz.underlying22
  a37 := Tryz.isAgg22
  z37 := Tryz.sizeOf22
  v37 := Tryz.zeroValue22
  t51 := Tryz.underlying225
  a51 := Tryz.isAgg225
  z51 := Tryz.sizeOf225
  v51 := Tryz.zeroValue225
  t53 := Tryz.underlying128
  a53 := Tryz.isAgg128
  z53 := Tryz.sizeOf128
  v53 := Tryz.zeroValue128 }
open Go.RowKit Go.Sort Go.Lib in
theorem Tryz.internal_strconv_formatBase10 (blk off cap : Nat) (u : Nat) (d : Array UInt8) (w : World) (hH : Holds (fun (b : UInt8) => Value.int .u8 (b.toNat : Int)) w blk off d) (hu : u < 10 ^ d.size) (hu64 : u < 18446744073709551616) (hsz : d.size < 4611686018427387904) :
    Calls Tryz.prog 170 #[.slice (some ⟨blk, off, none⟩) d.size cap, .int .u64 u] w fun e w' =>
      e = .returned (.tuple #[]) ∧ ∃ (n v' : Nat) (dk : Array UInt8), w' = (putRow (fun (b : UInt8) => Value.int .u8 (b.toNat : Int)) w blk off dk).drewN n ∧ FmtInv d.size u 0 v' dk := Any.internal_strconv_formatBase10 Tryz.lays285 blk off cap u d w hH hu hu64 hsz
def Tryz.laysM171_ren : Go.Shelf.Ren := ⟨fun | 171 => 117 | 243 => 144 | 246 => 167 | 283 => 168 | 284 => 169 | 285 => 170 | 286 => 171 | 129 => 181 | 317 => 186 | 318 => 187 | 319 => 188 | 320 => 189 | 337 => 196 | 338 => 197 | n => n, fun | 3 => 3 | 9 => 9 | 2 => 2 | 4 => 4 | 171 => 221 | 0 => 0 | 53 => 128 | 37 => 22 | 5 => 5 | 173 => 223 | 212 => 241 | 51 => 225 | 20 => 20 | 213 => 242 | 46 => 129 | 232 => 253 | 233 => 254 | n => n, fun | 17 => 7 | 18 => 8 | 19 => 9 | n => n⟩
theorem Tryz.laysM171 : Go.Proofs.LaysM.n171 Tryz.prog Tryz.laysM171_ren := {
  mixed := by kernel_rfl
  f129 := Tryz.func181.trans (congrArg some (by kernel_rfl))
  f171 := Tryz.func117.trans (congrArg some (by kernel_rfl))
  f243 := Tryz.func144.trans (congrArg some (by kernel_rfl))
  f246 := Tryz.func167.trans (congrArg some (by kernel_rfl))
  f283 := Tryz.func168.trans (congrArg some (by kernel_rfl))
  f284 := Tryz.func169.trans (congrArg some (by kernel_rfl))
  f285 := Tryz.func170.trans (congrArg some (by kernel_rfl))
  f286 := Tryz.func171.trans (congrArg some (by kernel_rfl))
  f317 := Tryz.func186.trans (congrArg some (by kernel_rfl))
  f318 := Tryz.func187.trans (congrArg some (by kernel_rfl))
  f319 := Tryz.func188.trans (congrArg some (by kernel_rfl))
  f320 := Tryz.func189.trans (congrArg some (by kernel_rfl))
  f337 := Tryz.func196.trans (congrArg some (by kernel_rfl))
  f338 := Tryz.func197.trans (congrArg some (by kernel_rfl))
  t0 := Tryz.underlying0
  a0 := Tryz.isAgg0
  z0 := Tryz.sizeOf0
  v0 := Tryz.zeroValue0
  t2 := Tryz.underlying2
  a2 := Tryz.isAgg2
  z2 := Tryz.sizeOf2
  v2 := Tryz.zeroValue2
  t3 := Tryz.underlying3
  a3 := Tryz.isAgg3
  z3 := Tryz.sizeOf3
  v3 := Tryz.zeroValue3
  t4 := Tryz.underlying4
  a4 := Tryz.isAgg4
  z4 := Tryz.sizeOf4
  v4 := Tryz.zeroValue4
  t5 := Tryz.underlying5
  a5 := Tryz.isAgg5
  z5 := Tryz.sizeOf5
  v5 := Tryz.zeroValue5
  t9 := Tryz.underlying9
  a9 := Tryz.isAgg9
  z9 := Tryz.sizeOf9
  v9 := Tryz.zeroValue9
  t20 := Tryz.underlying20
  a20 := Tryz.isAgg20
  z20 := Tryz.sizeOf20
  v20 := Tryz.zeroValue20
  t37 := Tryz.underlying22
  a37 := Tryz.isAgg22
  z37 := Tryz.sizeOf22
  v37 := Tryz.zeroValue22
  t46 := Tryz.underlying129
  a46 := Tryz.isAgg129
  z46 := Tryz.sizeOf129
  v46 := Tryz.zeroValue129
  t51 := Tryz.underlying225
  a51 := Tryz.isAgg225
  z51 := Tryz.sizeOf225
  v51 := Tryz.zeroValue225
  t53 := Tryz.underlying128
  a53 := Tryz.isAgg128
  z53 := Tryz.sizeOf128
  v53 := Tryz.zeroValue128
  t171 := Tryz.underlying221
  a171 := Tryz.isAgg221
  z171 := Tryz.sizeOf221
  v171 := Tryz.zeroValue221
  t173 := Tryz.underlying223
  a173 := Tryz.isAgg223
  z173 := Tryz.sizeOf223
  v173 := Tryz.zeroValue223
  t212 := Tryz.underlying241
  a212 := Tryz.isAgg241
  z212 := Tryz.sizeOf241
  v212 := Tryz.zeroValue241
  t213 := Tryz.underlying242
  a213 := Tryz.isAgg242
  z213 := Tryz.sizeOf242
  t232 := Tryz.underlying253
  a232 := Tryz.isAgg253
  z232 := Tryz.sizeOf253
  v232 := Tryz.zeroValue253
  t233 := Tryz.underlying254
  a233 := Tryz.isAgg254
  z233 := Tryz.sizeOf254
  v233 := Tryz.zeroValue254
  g17 := by kernel_rfl
  g18 := by kernel_rfl
  g19 := by kernel_rfl
  i0 := by kernel_rfl
  i2 := by kernel_rfl
  i3 := by kernel_rfl
  i4 := by kernel_rfl
  i5 := by kernel_rfl
  i9 := by kernel_rfl
  i20 := by kernel_rfl
  i37 := by kernel_rfl
  i46 := by kernel_rfl
  i51 := by kernel_rfl
  i53 := by kernel_rfl
  i171 := by kernel_rfl
  i173 := by kernel_rfl
  i212 := by kernel_rfl
  i232 := by kernel_rfl
  i233 := by kernel_rfl
  m17 := by kernel_rfl
  m18 := by kernel_rfl
  m19 := by kernel_rfl }
open Go.RowKit Go.Sort Go.Lib in
theorem Tryz.strconv_Itoa (n : Int) (h0 : -9223372036854775808 ≤ n) (h1 : n ≤ 9223372036854775807) (w : World) (htab : Lib.TabIs Tryz.prog w "internal/strconv.uint64pow10" .u64 Lib.pow10Tab) :
    Calls Tryz.prog 117 #[.int .i64 n] w fun e w' => e = .returned (.string ⟨(Lib.itoa n).toArray⟩) ∧ ∃ k os, w' = grow (w.drewN k) os := Any.strconv_Itoa Tryz.laysM171 n h0 h1 w htab
def Tryz.laysC172_ren : Go.Shelf.Ren := ⟨fun | 172 => 116 | 244 => 142 | 245 => 143 | 247 => 162 | 279 => 163 | 280 => 164 | 281 => 165 | 282 => 166 | 287 => 183 | 316 => 184 | 171 => 117 | 205 => 185 | 321 => 194 | 322 => 195 | 243 => 144 | 246 => 167 | 283 => 168 | 284 => 169 | 285 => 170 | 286 => 171 | 129 => 181 | 317 => 186 | 318 => 187 | 319 => 188 | 320 => 189 | 337 => 196 | 338 => 197 | n => n, fun | 9 => 9 | 3 => 3 | 75 => 131 | 76 => 164 | 4 => 4 | 5 => 5 | 167 => 214 | 37 => 22 | 0 => 0 | 85 => 215 | 2 => 2 | 168 => 217 | 53 => 128 | 175 => 233 | 46 => 129 | 210 => 237 | 127 => 167 | 145 => 249 | 143 => 247 | 21 => 21 | 171 => 221 | 173 => 223 | 212 => 241 | 51 => 225 | 20 => 20 | 213 => 242 | 232 => 253 | 233 => 254 | 80 => 93 | n => n, fun | 15 => 5 | 16 => 6 | 17 => 7 | 18 => 8 | 19 => 9 | n => n⟩
theorem Tryz.laysC172 : Go.Proofs.LaysC.n172 Tryz.prog Tryz.laysC172_ren := {
  mixed := by kernel_rfl
  f129 := Tryz.func181.trans (congrArg some (by kernel_rfl))
  f171 := Tryz.func117.trans (congrArg some (by kernel_rfl))
  f172 := Tryz.func116.trans (congrArg some (by kernel_rfl))
  f205 := Tryz.func185.trans (congrArg some (by kernel_rfl))
  f243 := Tryz.func144.trans (congrArg some (by kernel_rfl))
  f244 := Tryz.func142.trans (congrArg some (by kernel_rfl))
  f245 := Tryz.func143.trans (congrArg some (by kernel_rfl))
  f246 := Tryz.func167.trans (congrArg some (by kernel_rfl))
  f247 := Tryz.func162.trans (congrArg some (by kernel_rfl))
  f279 := Tryz.func163.trans (congrArg some (by kernel_rfl))
  f280 := Tryz.func164.trans (congrArg some (by kernel_rfl))
  f281 := Tryz.func165.trans (congrArg some (by kernel_rfl))
  f282 := Tryz.func166.trans (congrArg some (by kernel_rfl))
  f283 := Tryz.func168.trans (congrArg some (by kernel_rfl))
  f284 := Tryz.func169.trans (congrArg some (by kernel_rfl))
  f285 := Tryz.func170.trans (congrArg some (by kernel_rfl))
  f286 := Tryz.func171.trans (congrArg some (by kernel_rfl))
  f287 := Tryz.func183.trans (congrArg some (by kernel_rfl))
  f316 := Tryz.func184.trans (congrArg some (by kernel_rfl))
  f317 := Tryz.func186.trans (congrArg some (by kernel_rfl))
  f318 := Tryz.func187.trans (congrArg some (by kernel_rfl))
  f319 := Tryz.func188.trans (congrArg some (by kernel_rfl))
  f320 := Tryz.func189.trans (congrArg some (by kernel_rfl))
  f321 := Tryz.func194.trans (congrArg some (by kernel_rfl))
  f322 := Tryz.func195.trans (congrArg some (by kernel_rfl))
  f337 := Tryz.func196.trans (congrArg some (by kernel_rfl))
  f338 := Tryz.func197.trans (congrArg some (by kernel_rfl))
  t0 := Tryz.underlying0
  a0 := Tryz.isAgg0
  z0 := Tryz.sizeOf0
  v0 := Tryz.zeroValue0
  t2 := Tryz.underlying2
  a2 := Tryz.isAgg2
  z2 := Tryz.sizeOf2
  v2 := Tryz.zeroValue2
  t3 := Tryz.underlying3
  a3 := Tryz.isAgg3
  z3 := Tryz.sizeOf3
  v3 := Tryz.zeroValue3
  t4 := Tryz.underlying4
  a4 := Tryz.isAgg4
  z4 := Tryz.sizeOf4
  v4 := Tryz.zeroValue4
  t5 := Tryz.underlying5
  a5 := Tryz.isAgg5
  z5 := Tryz.sizeOf5
  v5 := Tryz.zeroValue5
  t9 := Tryz.underlying9
  a9 := Tryz.isAgg9
  z9 := Tryz.sizeOf9
  v9 := Tryz.zeroValue9
  t20 := Tryz.underlying20
  a20 := Tryz.isAgg20
  z20 := Tryz.sizeOf20
  v20 := Tryz.zeroValue20
  t21 := Tryz.underlying21
  a21 := Tryz.isAgg21
  z21 := Tryz.sizeOf21
  v21 := Tryz.zeroValue21
  t37 := Tryz.underlying22
  a37 := Tryz.isAgg22
  z37 := Tryz.sizeOf22
  v37 := Tryz.zeroValue22
  t46 := Tryz.underlying129
  a46 := Tryz.isAgg129
  z46 := Tryz.sizeOf129
  v46 := Tryz.zeroValue129
  t51 := Tryz.underlying225
  a51 := Tryz.isAgg225
  z51 := Tryz.sizeOf225
  v51 := Tryz.zeroValue225
  t53 := Tryz.underlying128
  a53 := Tryz.isAgg128
  z53 := Tryz.sizeOf128
  v53 := Tryz.zeroValue128
  t75 := Tryz.underlying131
  a75 := Tryz.isAgg131
  z75 := Tryz.sizeOf131
  v75 := Tryz.zeroValue131
  t76 := Tryz.underlying164
  a76 := Tryz.isAgg164
  z76 := Tryz.sizeOf164
  v76 := Tryz.zeroValue164
  t85 := Tryz.underlying215
  a85 := Tryz.isAgg215
  z85 := Tryz.sizeOf215
  v85 := Tryz.zeroValue215
  t127 := Tryz.underlying167
  a127 := Tryz.isAgg167
  z127 := Tryz.sizeOf167
  v127 := Tryz.zeroValue167
  t143 := Tryz.underlying247
  a143 := Tryz.isAgg247
  z143 := Tryz.sizeOf247
  v143 := Tryz.zeroValue247
  t145 := Tryz.underlying249
  a145 := Tryz.isAgg249
  z145 := Tryz.sizeOf249
  v145 := Tryz.zeroValue249
  t167 := Tryz.underlying214
  a167 := Tryz.isAgg214
  z167 := Tryz.sizeOf214
  v167 := Tryz.zeroValue214
  t168 := Tryz.underlying217
  a168 := Tryz.isAgg217
  z168 := Tryz.sizeOf217
  v168 := Tryz.zeroValue217
  t171 := Tryz.underlying221
  a171 := Tryz.isAgg221
  z171 := Tryz.sizeOf221
  v171 := Tryz.zeroValue221
  t173 := Tryz.underlying223
  a173 := Tryz.isAgg223
  z173 := Tryz.sizeOf223
  v173 := Tryz.zeroValue223
  t175 := Tryz.underlying233
  a175 := Tryz.isAgg233
  z175 := Tryz.sizeOf233
  v175 := Tryz.zeroValue233
  t210 := Tryz.underlying237
  a210 := Tryz.isAgg237
  z210 := Tryz.sizeOf237
  v210 := Tryz.zeroValue237
  t212 := Tryz.underlying241
  a212 := Tryz.isAgg241
  z212 := Tryz.sizeOf241
  v212 := Tryz.zeroValue241
  t213 := Tryz.underlying242
  a213 := Tryz.isAgg242
  z213 := Tryz.sizeOf242
  t232 := Tryz.underlying253
  a232 := Tryz.isAgg253
  z232 := Tryz.sizeOf253
  v232 := Tryz.zeroValue253
  t233 := Tryz.underlying254
  a233 := Tryz.isAgg254
  z233 := Tryz.sizeOf254
  v233 := Tryz.zeroValue254
  g15 := by kernel_rfl
  g16 := by kernel_rfl
  g17 := by kernel_rfl
  g18 := by kernel_rfl
  g19 := by kernel_rfl
  t80 := Tryz.underlying93
  a80 := Tryz.isAgg93
  z80 := Tryz.sizeOf93
  v80 := Tryz.zeroValue93
  i0 := by kernel_rfl
  i2 := by kernel_rfl
  i3 := by kernel_rfl
  i4 := by kernel_rfl
  i5 := by kernel_rfl
  i9 := by kernel_rfl
  i20 := by kernel_rfl
  i21 := by kernel_rfl
  i37 := by kernel_rfl
  i46 := by kernel_rfl
  i51 := by kernel_rfl
  i53 := by kernel_rfl
  i75 := by kernel_rfl
  i76 := by kernel_rfl
  i80 := by kernel_rfl
  i85 := by kernel_rfl
  i127 := by kernel_rfl
  i143 := by kernel_rfl
  i145 := by kernel_rfl
  i167 := by kernel_rfl
  i168 := by kernel_rfl
  i171 := by kernel_rfl
  i173 := by kernel_rfl
  i175 := by kernel_rfl
  i210 := by kernel_rfl
  i212 := by kernel_rfl
  i232 := by kernel_rfl
  i233 := by kernel_rfl
  m15 := by kernel_rfl
  m16 := by kernel_rfl
  m17 := by kernel_rfl
  m18 := by kernel_rfl
  m19 := by kernel_rfl
  c0 := by kernel_rfl
  c2 := by kernel_rfl
  c3 := by kernel_rfl
  c4 := by kernel_rfl
  c5 := by kernel_rfl
  c9 := by kernel_rfl
  c20 := by kernel_rfl
  c21 := by kernel_rfl
  c37 := by kernel_rfl
  c46 := by kernel_rfl
  c51 := by kernel_rfl
  c53 := by kernel_rfl
  c75 := by kernel_rfl
  c76 := by kernel_rfl
  c80 := by kernel_rfl
  c85 := by kernel_rfl
  c127 := by kernel_rfl
  c143 := by kernel_rfl
  c145 := by kernel_rfl
  c167 := by kernel_rfl
  c168 := by kernel_rfl
  c171 := by kernel_rfl
  c173 := by kernel_rfl
  c175 := by kernel_rfl
  c210 := by kernel_rfl
  c212 := by kernel_rfl
  c213 := by kernel_rfl
  c232 := by kernel_rfl
  c233 := by kernel_rfl }
open Go.RowKit in
theorem Tryz.strconv_Atoi_ok (s : ByteArray) (hmax : s.size ≤ 9223372036854775806) (v : Int) (h : Lib.atoiAll s.data.toList = .ok v) (w : World) :
    Calls Tryz.prog 116 #[.string s] w fun e w' => e = .returned (.tuple #[.int .i64 v, .nilIface]) ∧ (w' = w ∨ ∃ t, w' = Lib.bytesWorld w 5 t) := Any.strconv_Atoi_ok Tryz.laysC172 s hmax v h w
open Go.RowKit in
theorem Tryz.strconv_Atoi_syntax (s : ByteArray) (hlim : s.size ≤ 281474976710656) (h : Lib.atoiAll s.data.toList = Lib.atoiAll []) (ev : Value) (w : World) (hv : w.cell? ⟨5, 0, none⟩ = some ev) (hev : ev = .nilIface ∨ ∃ te pe, ev = .iface te pe) :
    Calls Tryz.prog 116 #[.string s] w fun e w' => ∃ N, e = .returned (.tuple #[.int .i64 (0), .iface 217 (.pointer (some ⟨N, 0, none⟩))]) ∧ w.heap.size ≤ N ∧ w'.heap[N]? = some (.cells #[.string ⟨#[65, 116, 111, 105]⟩, .string s, ev] 237 (0, 0)) ∧ Below w.heap.size w w' := Any.strconv_Atoi_syntax Tryz.laysC172 s hlim h ev w hv hev
open Go.RowKit in
theorem Tryz.strconv_Atoi_range (s : ByteArray) (hlim : s.size ≤ 281474976710656) (h : Lib.atoiAll s.data.toList = .range) (ev : Value) (w : World) (hv : w.cell? ⟨6, 0, none⟩ = some ev) (hev : ev = .nilIface ∨ ∃ te pe, ev = .iface te pe) :
    Calls Tryz.prog 116 #[.string s] w fun e w' => ∃ N, e = .returned (.tuple #[.int .i64 (Lib.atoiSat s.data.toList), .iface 217 (.pointer (some ⟨N, 0, none⟩))]) ∧ w.heap.size ≤ N ∧ w'.heap[N]? = some (.cells #[.string ⟨#[65, 116, 111, 105]⟩, .string s, ev] 237 (0, 0)) ∧ Below w.heap.size w w' := Any.strconv_Atoi_range Tryz.laysC172 s hlim h ev w hv hev
def Tryz.lays264_ren : Go.Shelf.Ren := ⟨fun | 264 => 135 | n => n, fun | 53 => 128 | 46 => 129 | n => n, fun | n => n⟩
theorem Tryz.lays264 : Go.Proofs.Lays.n264 Tryz.prog Tryz.lays264_ren := {
  mixed := by kernel_rfl
  f264 := Tryz.func135.trans (congrArg some (by kernel_rfl))
  t46 := Tryz.underlying129
  a46 := Tryz.isAgg129
  z46 := Tryz.sizeOf129
  v46 := Tryz.zeroValue129
  t53 := Tryz.underlying128
  a53 := Tryz.isAgg128
  z53 := Tryz.sizeOf128
  v53 := Tryz.zeroValue128 }
open Go.RowKit Go.Lib in
theorem Tryz.bits_Mul64 (x y : Nat) (hx : x < 18446744073709551616) (hy : y < 18446744073709551616) (w : World) :
    Calls Tryz.prog 135 #[.int .u64 x, .int .u64 y] w fun e w' => e = .returned (.tuple #[.int .u64 ((x * y / 18446744073709551616 : Nat) : Int), .int .u64 ((x * y % 18446744073709551616 : Nat) : Int)]) ∧ w' = w := Any.bits_Mul64 Tryz.lays264 x y hx hy w
def Tryz.lays105_ren : Go.Shelf.Ren := ⟨fun | 105 => 121 | 212 => 146 | 99 => 147 | 165 => 148 | 166 => 113 | 170 => 149 | 169 => 76 | 263 => 172 | 264 => 135 | 206 => 173 | 240 => 125 | 241 => 174 | 276 => 155 | 277 => 190 | n => n, fun | 9 => 9 | 3 => 3 | 4 => 4 | 20 => 20 | 0 => 0 | 46 => 129 | 109 => 194 | 5 => 5 | 72 => 117 | 76 => 164 | 51 => 225 | 146 => 226 | 53 => 128 | 148 => 184 | 70 => 115 | 37 => 22 | 75 => 131 | 127 => 167 | 164 => 207 | 80 => 93 | n => n, fun | n => n⟩
theorem Tryz.lays105 : Go.Proofs.Lays.n105 Tryz.prog Tryz.lays105_ren := {
  mixed := by kernel_rfl
  f99 := Tryz.func147.trans (congrArg some (by kernel_rfl))
  f105 := Tryz.func121.trans (congrArg some (by kernel_rfl))
  f165 := Tryz.func148.trans (congrArg some (by kernel_rfl))
  f166 := Tryz.func113.trans (congrArg some (by kernel_rfl))
  f169 := Tryz.func76.trans (congrArg some (by kernel_rfl))
  f170 := Tryz.func149.trans (congrArg some (by kernel_rfl))
  f206 := Tryz.func173.trans (congrArg some (by kernel_rfl))
  f212 := Tryz.func146.trans (congrArg some (by kernel_rfl))
  f240 := Tryz.func125.trans (congrArg some (by kernel_rfl))
  f241 := Tryz.func174.trans (congrArg some (by kernel_rfl))
  f263 := Tryz.func172.trans (congrArg some (by kernel_rfl))
  f264 := Tryz.func135.trans (congrArg some (by kernel_rfl))
  f276 := Tryz.func155.trans (congrArg some (by kernel_rfl))
  f277 := Tryz.func190.trans (congrArg some (by kernel_rfl))
  t0 := Tryz.underlying0
  a0 := Tryz.isAgg0
  z0 := Tryz.sizeOf0
  v0 := Tryz.zeroValue0
  t3 := Tryz.underlying3
  a3 := Tryz.isAgg3
  z3 := Tryz.sizeOf3
  v3 := Tryz.zeroValue3
  t4 := Tryz.underlying4
  a4 := Tryz.isAgg4
  z4 := Tryz.sizeOf4
  v4 := Tryz.zeroValue4
  t5 := Tryz.underlying5
  a5 := Tryz.isAgg5
  z5 := Tryz.sizeOf5
  v5 := Tryz.zeroValue5
  t9 := Tryz.underlying9
  a9 := Tryz.isAgg9
  z9 := Tryz.sizeOf9
  v9 := Tryz.zeroValue9
  t20 := Tryz.underlying20
  a20 := Tryz.isAgg20
  z20 := Tryz.sizeOf20
  v20 := Tryz.zeroValue20
  t37 := Tryz.underlying22
  a37 := Tryz.isAgg22
  z37 := Tryz.sizeOf22
  v37 := Tryz.zeroValue22
  t46 := Tryz.underlying129
  a46 := Tryz.isAgg129
  z46 := Tryz.sizeOf129
  v46 := Tryz.zeroValue129
  t51 := Tryz.underlying225
  a51 := Tryz.isAgg225
  z51 := Tryz.sizeOf225
  v51 := Tryz.zeroValue225
  t53 := Tryz.underlying128
  a53 := Tryz.isAgg128
  z53 := Tryz.sizeOf128
  v53 := Tryz.zeroValue128
  t70 := Tryz.underlying115
  a70 := Tryz.isAgg115
  z70 := Tryz.sizeOf115
  v70 := Tryz.zeroValue115
  t72 := Tryz.underlying117
  a72 := Tryz.isAgg117
  z72 := Tryz.sizeOf117
  v72 := Tryz.zeroValue117
  t75 := Tryz.underlying131
  a75 := Tryz.isAgg131
  z75 := Tryz.sizeOf131
  v75 := Tryz.zeroValue131
  t76 := Tryz.underlying164
  a76 := Tryz.isAgg164
  z76 := Tryz.sizeOf164
  v76 := Tryz.zeroValue164
  t109 := Tryz.underlying194
  a109 := Tryz.isAgg194
  z109 := Tryz.sizeOf194
  v109 := Tryz.zeroValue194
  t127 := Tryz.underlying167
  a127 := Tryz.isAgg167
  z127 := Tryz.sizeOf167
  v127 := Tryz.zeroValue167
  t146 := Tryz.underlying226
  a146 := Tryz.isAgg226
  z146 := Tryz.sizeOf226
  v146 := Tryz.zeroValue226
  t148 := Tryz.underlying184
  a148 := Tryz.isAgg184
  z148 := Tryz.sizeOf184
  v148 := Tryz.zeroValue184
  t164 := Tryz.underlying207
  a164 := Tryz.isAgg207
  z164 := Tryz.sizeOf207
  v164 := Tryz.zeroValue207 }
theorem Tryz.Builder_Extra_105 : Builder.Extra Tryz.prog Tryz.lays105_ren := {
  sizeBuilder := by kernel_rfl
  liesBuilder := by kernel_rfl
  t5 := Tryz.underlying5
  a5 := Tryz.isAgg5
  z5 := Tryz.sizeOf5
  v5 := Tryz.zeroValue5
  infoByte := by kernel_rfl
  cellsByte := by kernel_rfl
  sizeByte := by kernel_rfl
  neB5 := by decide }
open Go.RowKit Go.Lib in
theorem Tryz.strings_Repeat (s : ByteArray) (c : Nat) (w : World) (hc : c ≤ 9223372036854775807) (hlen : s.size * c ≤ 140737488355328) :
    Calls Tryz.prog 121 #[.string s, .int .i64 c] w fun e w' => e = .returned (.string ⟨(Lib.repeatL s.data.toList c).toArray⟩) ∧ Below w.heap.size w w' := Any.strings_Repeat Tryz.lays105 Tryz.Builder_Extra_105 s c w hc hlen
end Go.Proofs
