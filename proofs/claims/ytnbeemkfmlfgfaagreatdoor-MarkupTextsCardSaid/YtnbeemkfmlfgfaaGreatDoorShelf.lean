/- The contracts of strings.IndexByte, Contains and Index at this seat, out of the laid Shelf. No condition. -/
import Derived.Shelf.Strings.Builder1
import Derived.Shelf.Strings.Trim
import Derived.Shelf.Small.Utf8
import Derived.Shelf.Small.Strs
import Derived.Shelf.Strings.BuilderF
import Derived.Shelf.Strings.BuilderK
import Derived.Shelf.Strings.Search1
import Derived.Shelf.Strings.Search2
import Derived.Shelf.Strings.Search3
import Derived.Shelf.Strings.Cut
import Derived.Shelf.LaysM
import Derived.Shelf.Strings.Shaped
import Derived.Shelf.Strings.Prefix
import Derived.Shelf.Strings.Runes
import Derived.Shelf.Strings.AsciiSet
import Derived.Shelf.Unicode.DecodeSlow
import Derived.Test.YtnbeemkfmlfgfaaGreatDoorProg
namespace Go.Proofs
open Go.Shelf
def Tryz.lays160_ren : Go.Shelf.Ren := ⟨fun | 160 => 200 | 232 => 212 | 231 => 211 | 227 => 213 | 234 => 215 | 233 => 214 | 236 => 217 | 235 => 216 | 228 => 226 | 271 => 229 | 151 => 228 | 197 => 227 | 120 => 238 | 152 => 237 | 260 => 236 | 137 => 156 | 119 => 241 | 224 => 221 | 225 => 220 | 217 => 195 | 266 => 210 | n => n, fun | 9 => 9 | 4 => 4 | 3 => 3 | 5 => 5 | 117 => 232 | 116 => 231 | 0 => 0 | 124 => 235 | 21 => 21 | 105 => 242 | 46 => 237 | 119 => 148 | 139 => 260 | 138 => 259 | n => n, fun | 3 => 1 | 4 => 2 | n => n⟩
theorem Tryz.lays160 : Go.Proofs.Lays.n160 Tryz.prog Tryz.lays160_ren := {
  mixed := by kernel_rfl
  f119 := Tryz.func241.trans (congrArg some (by kernel_rfl))
  f120 := Tryz.func238.trans (congrArg some (by kernel_rfl))
  f137 := Tryz.func156.trans (congrArg some (by kernel_rfl))
  f151 := Tryz.func228.trans (congrArg some (by kernel_rfl))
  f152 := Tryz.func237.trans (congrArg some (by kernel_rfl))
  f160 := Tryz.func200.trans (congrArg some (by kernel_rfl))
  f197 := Tryz.func227.trans (congrArg some (by kernel_rfl))
  f217 := Tryz.func195.trans (congrArg some (by kernel_rfl))
  f224 := Tryz.func221.trans (congrArg some (by kernel_rfl))
  f225 := Tryz.func220.trans (congrArg some (by kernel_rfl))
  f227 := Tryz.func213.trans (congrArg some (by kernel_rfl))
  f228 := Tryz.func226.trans (congrArg some (by kernel_rfl))
  f231 := Tryz.func211.trans (congrArg some (by kernel_rfl))
  f232 := Tryz.func212.trans (congrArg some (by kernel_rfl))
  f233 := Tryz.func214.trans (congrArg some (by kernel_rfl))
  f234 := Tryz.func215.trans (congrArg some (by kernel_rfl))
  f235 := Tryz.func216.trans (congrArg some (by kernel_rfl))
  f236 := Tryz.func217.trans (congrArg some (by kernel_rfl))
  f260 := Tryz.func236.trans (congrArg some (by kernel_rfl))
  f266 := Tryz.func210.trans (congrArg some (by kernel_rfl))
  f271 := Tryz.func229.trans (congrArg some (by kernel_rfl))
  t0 := Tryz.underlying0
  a0 := Tryz.isAgg0
  z0 := Tryz.sizeOf0
  v0 := Tryz.zeroValue0
  t3 := Tryz.underlying3
  a3 := Tryz.isAgg3
  z3 := Tryz.sizeOf3
  v3 := Tryz.zeroValue3
  t4 := Tryz.underlying4
  a4 := Tryz.isAgg4
  z4 := Tryz.sizeOf4
  v4 := Tryz.zeroValue4
  t5 := Tryz.underlying5
  a5 := Tryz.isAgg5
  z5 := Tryz.sizeOf5
  v5 := Tryz.zeroValue5
  t9 := Tryz.underlying9
  a9 := Tryz.isAgg9
  z9 := Tryz.sizeOf9
  v9 := Tryz.zeroValue9
  t21 := Tryz.underlying21
  a21 := Tryz.isAgg21
  z21 := Tryz.sizeOf21
  v21 := Tryz.zeroValue21
  t46 := Tryz.underlying237
  a46 := Tryz.isAgg237
  z46 := Tryz.sizeOf237
  v46 := Tryz.zeroValue237
  t105 := Tryz.underlying242
  a105 := Tryz.isAgg242
  z105 := Tryz.sizeOf242
  v105 := Tryz.zeroValue242
  t116 := Tryz.underlying231
  a116 := Tryz.isAgg231
  z116 := Tryz.sizeOf231
  t117 := Tryz.underlying232
  a117 := Tryz.isAgg232
  z117 := Tryz.sizeOf232
  v117 := Tryz.zeroValue232
  t119 := Tryz.underlying148
  a119 := Tryz.isAgg148
  z119 := Tryz.sizeOf148
  t124 := Tryz.underlying235
  a124 := Tryz.isAgg235
  z124 := Tryz.sizeOf235
  v124 := Tryz.zeroValue235
  t138 := Tryz.underlying259
  a138 := Tryz.isAgg259
  z138 := Tryz.sizeOf259
  v138 := Tryz.zeroValue259
  t139 := Tryz.underlying260
  a139 := Tryz.isAgg260
  z139 := Tryz.sizeOf260
  v139 := Tryz.zeroValue260
  g3 := by kernel_rfl
  g4 := by kernel_rfl }
open Go.RowKit in
theorem Tryz.strings_Trim_one (s : ByteArray) (c : UInt8) (hc : c.toNat < 128) (w : World) (hs : s.size ≤ 9223372036854775807) :
    Calls Tryz.prog 200 #[.string s, .string ⟨#[c]⟩] w fun e w' => e = .returned (.string ⟨(Lib.trimB s.data.toList c).toArray⟩) ∧ (w' = w ∨ w' = w.drew) := Any.strings_Trim_one Tryz.lays160 s c hc w hs
def Tryz.lays137_ren : Go.Shelf.Ren := ⟨fun | 137 => 156 | 217 => 195 | 266 => 210 | n => n, fun | 9 => 9 | 5 => 5 | 3 => 3 | n => n, fun | n => n⟩
theorem Tryz.lays137 : Go.Proofs.Lays.n137 Tryz.prog Tryz.lays137_ren := {
  mixed := by kernel_rfl
  f137 := Tryz.func156.trans (congrArg some (by kernel_rfl))
  f217 := Tryz.func195.trans (congrArg some (by kernel_rfl))
  f266 := Tryz.func210.trans (congrArg some (by kernel_rfl))
  t3 := Tryz.underlying3
  a3 := Tryz.isAgg3
  z3 := Tryz.sizeOf3
  v3 := Tryz.zeroValue3
  t5 := Tryz.underlying5
  a5 := Tryz.isAgg5
  z5 := Tryz.sizeOf5
  v5 := Tryz.zeroValue5
  t9 := Tryz.underlying9
  a9 := Tryz.isAgg9
  z9 := Tryz.sizeOf9
  v9 := Tryz.zeroValue9 }
open Go.RowKit in
theorem Tryz.strings_IndexByte (s : ByteArray) (c : Int) (w : World) :
    Calls Tryz.prog 156 #[.string s, .int .u8 c] w fun e w' => e = .returned (.int .i64 (Lib.indexByte s.data.toList c.toNat.toUInt8)) ∧ w' = w := Any.strings_IndexByte Tryz.lays137 s c w
def Tryz.lays219_ren : Go.Shelf.Ren := ⟨fun | 219 => 206 | 217 => 195 | 225 => 220 | 224 => 221 | 267 => 222 | 266 => 210 | 314 => 232 | n => n, fun | 9 => 9 | 3 => 3 | 4 => 4 | 5 => 5 | 46 => 237 | 146 => 248 | 51 => 247 | n => n, fun | 1 => 0 | n => n⟩
theorem Tryz.lays219 : Go.Proofs.Lays.n219 Tryz.prog Tryz.lays219_ren := {
  mixed := by kernel_rfl
  f217 := Tryz.func195.trans (congrArg some (by kernel_rfl))
  f219 := Tryz.func206.trans (congrArg some (by kernel_rfl))
  f224 := Tryz.func221.trans (congrArg some (by kernel_rfl))
  f225 := Tryz.func220.trans (congrArg some (by kernel_rfl))
  f266 := Tryz.func210.trans (congrArg some (by kernel_rfl))
  f267 := Tryz.func222.trans (congrArg some (by kernel_rfl))
  f314 := Tryz.func232.trans (congrArg some (by kernel_rfl))
  t3 := Tryz.underlying3
  a3 := Tryz.isAgg3
  z3 := Tryz.sizeOf3
  v3 := Tryz.zeroValue3
  t4 := Tryz.underlying4
  a4 := Tryz.isAgg4
  z4 := Tryz.sizeOf4
  v4 := Tryz.zeroValue4
  t5 := Tryz.underlying5
  a5 := Tryz.isAgg5
  z5 := Tryz.sizeOf5
  v5 := Tryz.zeroValue5
  t9 := Tryz.underlying9
  a9 := Tryz.isAgg9
  z9 := Tryz.sizeOf9
  v9 := Tryz.zeroValue9
  t46 := Tryz.underlying237
  a46 := Tryz.isAgg237
  z46 := Tryz.sizeOf237
  v46 := Tryz.zeroValue237
  t51 := Tryz.underlying247
  a51 := Tryz.isAgg247
  z51 := Tryz.sizeOf247
  v51 := Tryz.zeroValue247
  t146 := Tryz.underlying248
  a146 := Tryz.isAgg248
  z146 := Tryz.sizeOf248
  v146 := Tryz.zeroValue248
  g1 := by kernel_rfl }
open Go.RowKit Go.Lib in
theorem Tryz.stringslite_Index_one (s : ByteArray) (c : UInt8) (w : World) :
    Calls Tryz.prog 206 #[.string s, .string ⟨#[c]⟩] w fun e w' => e = .returned (.int .i64 (Lib.indexByte s.data.toList c)) ∧ w' = w := Any.stringslite_Index_one Tryz.lays219 s c w
def Tryz.lays144_ren : Go.Shelf.Ren := ⟨fun | 144 => 142 | 143 => 184 | 219 => 206 | 217 => 195 | 225 => 220 | 224 => 221 | 267 => 222 | 266 => 210 | 314 => 232 | n => n, fun | 9 => 9 | 4 => 4 | 3 => 3 | 5 => 5 | 46 => 237 | 146 => 248 | 51 => 247 | n => n, fun | 1 => 0 | n => n⟩
theorem Tryz.lays144 : Go.Proofs.Lays.n144 Tryz.prog Tryz.lays144_ren := {
  mixed := by kernel_rfl
  f143 := Tryz.func184.trans (congrArg some (by kernel_rfl))
  f144 := Tryz.func142.trans (congrArg some (by kernel_rfl))
  f217 := Tryz.func195.trans (congrArg some (by kernel_rfl))
  f219 := Tryz.func206.trans (congrArg some (by kernel_rfl))
  f224 := Tryz.func221.trans (congrArg some (by kernel_rfl))
  f225 := Tryz.func220.trans (congrArg some (by kernel_rfl))
  f266 := Tryz.func210.trans (congrArg some (by kernel_rfl))
  f267 := Tryz.func222.trans (congrArg some (by kernel_rfl))
  f314 := Tryz.func232.trans (congrArg some (by kernel_rfl))
  t3 := Tryz.underlying3
  a3 := Tryz.isAgg3
  z3 := Tryz.sizeOf3
  v3 := Tryz.zeroValue3
  t4 := Tryz.underlying4
  a4 := Tryz.isAgg4
  z4 := Tryz.sizeOf4
  v4 := Tryz.zeroValue4
  t5 := Tryz.underlying5
  a5 := Tryz.isAgg5
  z5 := Tryz.sizeOf5
  v5 := Tryz.zeroValue5
  t9 := Tryz.underlying9
  a9 := Tryz.isAgg9
  z9 := Tryz.sizeOf9
  v9 := Tryz.zeroValue9
  t46 := Tryz.underlying237
  a46 := Tryz.isAgg237
  z46 := Tryz.sizeOf237
  v46 := Tryz.zeroValue237
  t51 := Tryz.underlying247
  a51 := Tryz.isAgg247
  z51 := Tryz.sizeOf247
  v51 := Tryz.zeroValue247
  t146 := Tryz.underlying248
  a146 := Tryz.isAgg248
  z146 := Tryz.sizeOf248
  v146 := Tryz.zeroValue248
  g1 := by kernel_rfl }
open Go.RowKit Go.Lib in
theorem Tryz.strings_Contains_one (s : ByteArray) (c : UInt8) (w : World) :
    Calls Tryz.prog 142 #[.string s, .string ⟨#[c]⟩] w fun e w' => e = .returned (.bool (decide (0 ≤ Lib.indexByte s.data.toList c))) ∧ w' = w := Any.strings_Contains_one Tryz.lays144 s c w
def Tryz.lays99_ren : Go.Shelf.Ren := ⟨fun | 99 => 230 | 206 => 239 | n => n, fun | 9 => 9 | 4 => 4 | 3 => 3 | n => n, fun | n => n⟩
theorem Tryz.lays99 : Go.Proofs.Lays.n99 Tryz.prog Tryz.lays99_ren := {
  mixed := by kernel_rfl
  f99 := Tryz.func230.trans (congrArg some (by kernel_rfl))
  f206 := Tryz.func239.trans (congrArg some (by kernel_rfl))
  t3 := Tryz.underlying3
  a3 := Tryz.isAgg3
  z3 := Tryz.sizeOf3
  v3 := Tryz.zeroValue3
  t4 := Tryz.underlying4
  a4 := Tryz.isAgg4
  z4 := Tryz.sizeOf4
  v4 := Tryz.zeroValue4
  t9 := Tryz.underlying9
  a9 := Tryz.isAgg9
  z9 := Tryz.sizeOf9
  v9 := Tryz.zeroValue9 }
open Go.RowKit Go.Lib in
theorem Tryz.strings_HasPrefix (s p : ByteArray) (w : World) :
    Calls Tryz.prog 230 #[.string s, .string p] w fun e w' => e = .returned (.bool (Lib.hasPrefix s.data.toList p.data.toList)) ∧ w' = w := Any.strings_HasPrefix Tryz.lays99 s p w
end Go.Proofs
