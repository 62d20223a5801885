/- The contracts of strings.IndexByte, Contains and Index at this seat, out of the laid Shelf. No condition. -/
import Derived.Shelf.Strings.Builder1
import Derived.Shelf.Strings.Trim
import Derived.Shelf.Small.Utf8
import Derived.Shelf.Small.Strs
import Derived.Shelf.Strings.BuilderF
import Derived.Shelf.Strings.BuilderK
import Derived.Shelf.Strings.Search1
import Derived.Shelf.Strings.Search2
import Derived.Shelf.Strings.Search3
import Derived.Shelf.Strings.Cut
import Derived.Shelf.LaysM
import Derived.Shelf.Strings.Shaped
import Derived.Shelf.Strings.Prefix
import Derived.Shelf.Unicode.Decode
import Derived.Shelf.Strings.Runes
import Derived.Shelf.Strings.AsciiSet
import Derived.Shelf.Unicode.DecodeSlow
import Derived.Shelf.Unicode.DecodeAny
import Derived.Shelf.Unicode.DecodeLast
import Derived.Test.YtcgbccfpcgaikaaGreatDoorProg
namespace Go.Proofs
open Go.Shelf
def Tryz.lays160_ren : Go.Shelf.Ren := ⟨fun | 160 => 148 | 232 => 159 | 231 => 158 | 227 => 160 | 234 => 162 | 233 => 161 | 236 => 164 | 235 => 163 | 228 => 172 | 271 => 175 | 151 => 174 | 197 => 173 | 120 => 184 | 152 => 183 | 260 => 182 | 137 => 95 | 119 => 188 | 224 => 167 | 225 => 166 | 217 => 130 | 266 => 153 | n => n, fun | 9 => 9 | 4 => 4 | 3 => 3 | 5 => 5 | 117 => 186 | 116 => 185 | 0 => 0 | 124 => 189 | 21 => 21 | 105 => 196 | 46 => 191 | 119 => 107 | 139 => 222 | 138 => 221 | n => n, fun | 3 => 1 | 4 => 2 | n => n⟩
theorem Tryz.lays160 : Go.Proofs.Lays.n160 Tryz.prog Tryz.lays160_ren := {
  mixed := by kernel_rfl
  f119 := Tryz.func188.trans (congrArg some (by kernel_rfl))
  f120 := Tryz.func184.trans (congrArg some (by kernel_rfl))
  f137 := Tryz.func95.trans (congrArg some (by kernel_rfl))
  f151 := Tryz.func174.trans (congrArg some (by kernel_rfl))
  f152 := Tryz.func183.trans (congrArg some (by kernel_rfl))
  f160 := Tryz.func148.trans (congrArg some (by kernel_rfl))
  f197 := Tryz.func173.trans (congrArg some (by kernel_rfl))
  f217 := Tryz.func130.trans (congrArg some (by kernel_rfl))
  f224 := Tryz.func167.trans (congrArg some (by kernel_rfl))
  f225 := Tryz.func166.trans (congrArg some (by kernel_rfl))
  f227 := Tryz.func160.trans (congrArg some (by kernel_rfl))
  f228 := Tryz.func172.trans (congrArg some (by kernel_rfl))
  f231 := Tryz.func158.trans (congrArg some (by kernel_rfl))
  f232 := Tryz.func159.trans (congrArg some (by kernel_rfl))
  f233 := Tryz.func161.trans (congrArg some (by kernel_rfl))
  f234 := Tryz.func162.trans (congrArg some (by kernel_rfl))
  f235 := Tryz.func163.trans (congrArg some (by kernel_rfl))
  f236 := Tryz.func164.trans (congrArg some (by kernel_rfl))
  f260 := Tryz.func182.trans (congrArg some (by kernel_rfl))
  f266 := Tryz.func153.trans (congrArg some (by kernel_rfl))
  f271 := Tryz.func175.trans (congrArg some (by kernel_rfl))
  t0 := Tryz.underlying0
  a0 := Tryz.isAgg0
  z0 := Tryz.sizeOf0
  v0 := Tryz.zeroValue0
  t3 := Tryz.underlying3
  a3 := Tryz.isAgg3
  z3 := Tryz.sizeOf3
  v3 := Tryz.zeroValue3
  t4 := Tryz.underlying4
  a4 := Tryz.isAgg4
  z4 := Tryz.sizeOf4
  v4 := Tryz.zeroValue4
  t5 := Tryz.underlying5
  a5 := Tryz.isAgg5
  z5 := Tryz.sizeOf5
  v5 := Tryz.zeroValue5
  t9 := Tryz.underlying9
  a9 := Tryz.isAgg9
  z9 := Tryz.sizeOf9
  v9 := Tryz.zeroValue9
  t21 := Tryz.underlying21
  a21 := Tryz.isAgg21
  z21 := Tryz.sizeOf21
  v21 := Tryz.zeroValue21
  t46 := Tryz.underlying191
  a46 := Tryz.isAgg191
  z46 := Tryz.sizeOf191
  v46 := Tryz.zeroValue191
  t105 := Tryz.underlying196
  a105 := Tryz.isAgg196
  z105 := Tryz.sizeOf196
  v105 := Tryz.zeroValue196
  t116 := Tryz.underlying185
  a116 := Tryz.isAgg185
  z116 := Tryz.sizeOf185
  t117 := Tryz.underlying186
  a117 := Tryz.isAgg186
  z117 := Tryz.sizeOf186
  v117 := Tryz.zeroValue186
  t119 := Tryz.underlying107
  a119 := Tryz.isAgg107
  z119 := Tryz.sizeOf107
  t124 := Tryz.underlying189
  a124 := Tryz.isAgg189
  z124 := Tryz.sizeOf189
  v124 := Tryz.zeroValue189
  t138 := Tryz.underlying221
  a138 := Tryz.isAgg221
  z138 := Tryz.sizeOf221
  v138 := Tryz.zeroValue221
  t139 := Tryz.underlying222
  a139 := Tryz.isAgg222
  z139 := Tryz.sizeOf222
  v139 := Tryz.zeroValue222
  g3 := by kernel_rfl
  g4 := by kernel_rfl }
open Go.RowKit in
theorem Tryz.strings_Trim_one (s : ByteArray) (c : UInt8) (hc : c.toNat < 128) (w : World) (hs : s.size ≤ 9223372036854775807) :
    Calls Tryz.prog 148 #[.string s, .string ⟨#[c]⟩] w fun e w' => e = .returned (.string ⟨(Lib.trimB s.data.toList c).toArray⟩) ∧ (w' = w ∨ w' = w.drew) := Any.strings_Trim_one Tryz.lays160 s c hc w hs
def Tryz.lays137_ren : Go.Shelf.Ren := ⟨fun | 137 => 95 | 217 => 130 | 266 => 153 | n => n, fun | 9 => 9 | 5 => 5 | 3 => 3 | n => n, fun | n => n⟩
theorem Tryz.lays137 : Go.Proofs.Lays.n137 Tryz.prog Tryz.lays137_ren := {
  mixed := by kernel_rfl
  f137 := Tryz.func95.trans (congrArg some (by kernel_rfl))
  f217 := Tryz.func130.trans (congrArg some (by kernel_rfl))
  f266 := Tryz.func153.trans (congrArg some (by kernel_rfl))
  t3 := Tryz.underlying3
  a3 := Tryz.isAgg3
  z3 := Tryz.sizeOf3
  v3 := Tryz.zeroValue3
  t5 := Tryz.underlying5
  a5 := Tryz.isAgg5
  z5 := Tryz.sizeOf5
  v5 := Tryz.zeroValue5
  t9 := Tryz.underlying9
  a9 := Tryz.isAgg9
  z9 := Tryz.sizeOf9
  v9 := Tryz.zeroValue9 }
open Go.RowKit in
theorem Tryz.strings_IndexByte (s : ByteArray) (c : Int) (w : World) :
    Calls Tryz.prog 95 #[.string s, .int .u8 c] w fun e w' => e = .returned (.int .i64 (Lib.indexByte s.data.toList c.toNat.toUInt8)) ∧ w' = w := Any.strings_IndexByte Tryz.lays137 s c w
def Tryz.lays219_ren : Go.Shelf.Ren := ⟨fun | 219 => 152 | 217 => 130 | 225 => 166 | 224 => 167 | 267 => 168 | 266 => 153 | 314 => 177 | n => n, fun | 9 => 9 | 3 => 3 | 4 => 4 | 5 => 5 | 46 => 191 | 146 => 202 | 51 => 201 | n => n, fun | 1 => 0 | n => n⟩
theorem Tryz.lays219 : Go.Proofs.Lays.n219 Tryz.prog Tryz.lays219_ren := {
  mixed := by kernel_rfl
  f217 := Tryz.func130.trans (congrArg some (by kernel_rfl))
  f219 := Tryz.func152.trans (congrArg some (by kernel_rfl))
  f224 := Tryz.func167.trans (congrArg some (by kernel_rfl))
  f225 := Tryz.func166.trans (congrArg some (by kernel_rfl))
  f266 := Tryz.func153.trans (congrArg some (by kernel_rfl))
  f267 := Tryz.func168.trans (congrArg some (by kernel_rfl))
  f314 := Tryz.func177.trans (congrArg some (by kernel_rfl))
  t3 := Tryz.underlying3
  a3 := Tryz.isAgg3
  z3 := Tryz.sizeOf3
  v3 := Tryz.zeroValue3
  t4 := Tryz.underlying4
  a4 := Tryz.isAgg4
  z4 := Tryz.sizeOf4
  v4 := Tryz.zeroValue4
  t5 := Tryz.underlying5
  a5 := Tryz.isAgg5
  z5 := Tryz.sizeOf5
  v5 := Tryz.zeroValue5
  t9 := Tryz.underlying9
  a9 := Tryz.isAgg9
  z9 := Tryz.sizeOf9
  v9 := Tryz.zeroValue9
  t46 := Tryz.underlying191
  a46 := Tryz.isAgg191
  z46 := Tryz.sizeOf191
  v46 := Tryz.zeroValue191
  t51 := Tryz.underlying201
  a51 := Tryz.isAgg201
  z51 := Tryz.sizeOf201
  v51 := Tryz.zeroValue201
  t146 := Tryz.underlying202
  a146 := Tryz.isAgg202
  z146 := Tryz.sizeOf202
  v146 := Tryz.zeroValue202
  g1 := by kernel_rfl }
open Go.RowKit Go.Lib in
theorem Tryz.stringslite_Index_one (s : ByteArray) (c : UInt8) (w : World) :
    Calls Tryz.prog 152 #[.string s, .string ⟨#[c]⟩] w fun e w' => e = .returned (.int .i64 (Lib.indexByte s.data.toList c)) ∧ w' = w := Any.stringslite_Index_one Tryz.lays219 s c w
def Tryz.lays144_ren : Go.Shelf.Ren := ⟨fun | 144 => 91 | 143 => 128 | 219 => 152 | 217 => 130 | 225 => 166 | 224 => 167 | 267 => 168 | 266 => 153 | 314 => 177 | n => n, fun | 9 => 9 | 4 => 4 | 3 => 3 | 5 => 5 | 46 => 191 | 146 => 202 | 51 => 201 | n => n, fun | 1 => 0 | n => n⟩
theorem Tryz.lays144 : Go.Proofs.Lays.n144 Tryz.prog Tryz.lays144_ren := {
  mixed := by kernel_rfl
  f143 := Tryz.func128.trans (congrArg some (by kernel_rfl))
  f144 := Tryz.func91.trans (congrArg some (by kernel_rfl))
  f217 := Tryz.func130.trans (congrArg some (by kernel_rfl))
  f219 := Tryz.func152.trans (congrArg some (by kernel_rfl))
  f224 := Tryz.func167.trans (congrArg some (by kernel_rfl))
  f225 := Tryz.func166.trans (congrArg some (by kernel_rfl))
  f266 := Tryz.func153.trans (congrArg some (by kernel_rfl))
  f267 := Tryz.func168.trans (congrArg some (by kernel_rfl))
  f314 := Tryz.func177.trans (congrArg some (by kernel_rfl))
  t3 := Tryz.underlying3
  a3 := Tryz.isAgg3
  z3 := Tryz.sizeOf3
  v3 := Tryz.zeroValue3
  t4 := Tryz.underlying4
  a4 := Tryz.isAgg4
  z4 := Tryz.sizeOf4
  v4 := Tryz.zeroValue4
  t5 := Tryz.underlying5
  a5 := Tryz.isAgg5
  z5 := Tryz.sizeOf5
  v5 := Tryz.zeroValue5
  t9 := Tryz.underlying9
  a9 := Tryz.isAgg9
  z9 := Tryz.sizeOf9
  v9 := Tryz.zeroValue9
  t46 := Tryz.underlying191
  a46 := Tryz.isAgg191
  z46 := Tryz.sizeOf191
  v46 := Tryz.zeroValue191
  t51 := Tryz.underlying201
  a51 := Tryz.isAgg201
  z51 := Tryz.sizeOf201
  v51 := Tryz.zeroValue201
  t146 := Tryz.underlying202
  a146 := Tryz.isAgg202
  z146 := Tryz.sizeOf202
  v146 := Tryz.zeroValue202
  g1 := by kernel_rfl }
open Go.RowKit Go.Lib in
theorem Tryz.strings_Contains_one (s : ByteArray) (c : UInt8) (w : World) :
    Calls Tryz.prog 91 #[.string s, .string ⟨#[c]⟩] w fun e w' => e = .returned (.bool (decide (0 ≤ Lib.indexByte s.data.toList c))) ∧ w' = w := Any.strings_Contains_one Tryz.lays144 s c w
def Tryz.lays99_ren : Go.Shelf.Ren := ⟨fun | 99 => 176 | 206 => 185 | n => n, fun | 9 => 9 | 4 => 4 | 3 => 3 | n => n, fun | n => n⟩
theorem Tryz.lays99 : Go.Proofs.Lays.n99 Tryz.prog Tryz.lays99_ren := {
  mixed := by kernel_rfl
  f99 := Tryz.func176.trans (congrArg some (by kernel_rfl))
  f206 := Tryz.func185.trans (congrArg some (by kernel_rfl))
  t3 := Tryz.underlying3
  a3 := Tryz.isAgg3
  z3 := Tryz.sizeOf3
  v3 := Tryz.zeroValue3
  t4 := Tryz.underlying4
  a4 := Tryz.isAgg4
  z4 := Tryz.sizeOf4
  v4 := Tryz.zeroValue4
  t9 := Tryz.underlying9
  a9 := Tryz.isAgg9
  z9 := Tryz.sizeOf9
  v9 := Tryz.zeroValue9 }
open Go.RowKit Go.Lib in
theorem Tryz.strings_HasPrefix (s p : ByteArray) (w : World) :
    Calls Tryz.prog 176 #[.string s, .string p] w fun e w' => e = .returned (.bool (Lib.hasPrefix s.data.toList p.data.toList)) ∧ w' = w := Any.strings_HasPrefix Tryz.lays99 s p w
end Go.Proofs
