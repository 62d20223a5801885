/- The contracts of strings.IndexByte, Contains and Index at this seat, out of the laid Shelf. No condition. -/
import Derived.Shelf.Strings.Builder1
import Derived.Shelf.Strings.Trim
import Derived.Shelf.Small.Utf8
import Derived.Shelf.Small.Strs
import Derived.Shelf.Strings.BuilderF
import Derived.Shelf.Strings.BuilderK
import Derived.Shelf.Strings.Search1
import Derived.Shelf.Strings.Search2
import Derived.Shelf.Strings.Search3
import Derived.Shelf.Strings.Cut
import Derived.Shelf.LaysM
import Derived.Shelf.Strings.Shaped
import Derived.Shelf.Strings.Prefix
import Derived.Shelf.Strings.Runes
import Derived.Shelf.Strings.AsciiSet
import Derived.Shelf.Unicode.DecodeSlow
import Derived.Test.YtabjglnjjdcfmaaGreatDoorProg
namespace Go.Proofs
open Go.Shelf
def Tryz.lays160_ren : Go.Shelf.Ren := ⟨fun | 160 => 139 | 232 => 150 | 231 => 149 | 227 => 151 | 234 => 153 | 233 => 152 | 236 => 155 | 235 => 154 | 228 => 163 | 271 => 166 | 151 => 165 | 197 => 164 | 120 => 174 | 152 => 173 | 260 => 172 | 137 => 96 | 119 => 177 | 224 => 158 | 225 => 157 | 217 => 130 | 266 => 147 | n => n, fun | 9 => 9 | 4 => 4 | 3 => 3 | 5 => 5 | 117 => 205 | 116 => 204 | 0 => 0 | 124 => 208 | 21 => 21 | 105 => 216 | 46 => 210 | 119 => 123 | 139 => 234 | 138 => 233 | n => n, fun | 3 => 1 | 4 => 2 | n => n⟩
theorem Tryz.lays160 : Go.Proofs.Lays.n160 Tryz.prog Tryz.lays160_ren := {
  mixed := by kernel_rfl
  f119 := Tryz.func177.trans (congrArg some (by kernel_rfl))
  f120 := Tryz.func174.trans (congrArg some (by kernel_rfl))
  f137 := Tryz.func96.trans (congrArg some (by kernel_rfl))
  f151 := Tryz.func165.trans (congrArg some (by kernel_rfl))
  f152 := Tryz.func173.trans (congrArg some (by kernel_rfl))
  f160 := Tryz.func139.trans (congrArg some (by kernel_rfl))
  f197 := Tryz.func164.trans (congrArg some (by kernel_rfl))
  f217 := Tryz.func130.trans (congrArg some (by kernel_rfl))
  f224 := Tryz.func158.trans (congrArg some (by kernel_rfl))
  f225 := Tryz.func157.trans (congrArg some (by kernel_rfl))
  f227 := Tryz.func151.trans (congrArg some (by kernel_rfl))
  f228 := Tryz.func163.trans (congrArg some (by kernel_rfl))
  f231 := Tryz.func149.trans (congrArg some (by kernel_rfl))
  f232 := Tryz.func150.trans (congrArg some (by kernel_rfl))
  f233 := Tryz.func152.trans (congrArg some (by kernel_rfl))
  f234 := Tryz.func153.trans (congrArg some (by kernel_rfl))
  f235 := Tryz.func154.trans (congrArg some (by kernel_rfl))
  f236 := Tryz.func155.trans (congrArg some (by kernel_rfl))
  f260 := Tryz.func172.trans (congrArg some (by kernel_rfl))
  f266 := Tryz.func147.trans (congrArg some (by kernel_rfl))
  f271 := Tryz.func166.trans (congrArg some (by kernel_rfl))
  t0 := Tryz.underlying0
  a0 := Tryz.isAgg0
  z0 := Tryz.sizeOf0
  v0 := Tryz.zeroValue0
  t3 := Tryz.underlying3
  a3 := Tryz.isAgg3
  z3 := Tryz.sizeOf3
  v3 := Tryz.zeroValue3
  t4 := Tryz.underlying4
  a4 := Tryz.isAgg4
  z4 := Tryz.sizeOf4
  v4 := Tryz.zeroValue4
  t5 := Tryz.underlying5
  a5 := Tryz.isAgg5
  z5 := Tryz.sizeOf5
  v5 := Tryz.zeroValue5
  t9 := Tryz.underlying9
  a9 := Tryz.isAgg9
  z9 := Tryz.sizeOf9
  v9 := Tryz.zeroValue9
  t21 := Tryz.underlying21
  a21 := Tryz.isAgg21
  z21 := Tryz.sizeOf21
  v21 := Tryz.zeroValue21
  t46 := Tryz.underlying210
  a46 := Tryz.isAgg210
  z46 := Tryz.sizeOf210
  v46 := Tryz.zeroValue210
  t105 := Tryz.underlying216
  a105 := Tryz.isAgg216
  z105 := Tryz.sizeOf216
  v105 := Tryz.zeroValue216
  t116 := Tryz.underlying204
  a116 := Tryz.isAgg204
  z116 := Tryz.sizeOf204
  t117 := Tryz.underlying205
  a117 := Tryz.isAgg205
  z117 := Tryz.sizeOf205
  v117 := Tryz.zeroValue205
  t119 := Tryz.underlying123
  a119 := Tryz.isAgg123
  z119 := Tryz.sizeOf123
  t124 := Tryz.underlying208
  a124 := Tryz.isAgg208
  z124 := Tryz.sizeOf208
  v124 := Tryz.zeroValue208
  t138 := Tryz.underlying233
  a138 := Tryz.isAgg233
  z138 := Tryz.sizeOf233
  v138 := Tryz.zeroValue233
  t139 := Tryz.underlying234
  a139 := Tryz.isAgg234
  z139 := Tryz.sizeOf234
  v139 := Tryz.zeroValue234
  g3 := by kernel_rfl
  g4 := by kernel_rfl }
open Go.RowKit in
theorem Tryz.strings_Trim_one (s : ByteArray) (c : UInt8) (hc : c.toNat < 128) (w : World) (hs : s.size ≤ 9223372036854775807) :
    Calls Tryz.prog 139 #[.string s, .string ⟨#[c]⟩] w fun e w' => e = .returned (.string ⟨(Lib.trimB s.data.toList c).toArray⟩) ∧ (w' = w ∨ w' = w.drew) := Any.strings_Trim_one Tryz.lays160 s c hc w hs
def Tryz.lays137_ren : Go.Shelf.Ren := ⟨fun | 137 => 96 | 217 => 130 | 266 => 147 | n => n, fun | 9 => 9 | 5 => 5 | 3 => 3 | n => n, fun | n => n⟩
theorem Tryz.lays137 : Go.Proofs.Lays.n137 Tryz.prog Tryz.lays137_ren := {
  mixed := by kernel_rfl
  f137 := Tryz.func96.trans (congrArg some (by kernel_rfl))
  f217 := Tryz.func130.trans (congrArg some (by kernel_rfl))
  f266 := Tryz.func147.trans (congrArg some (by kernel_rfl))
  t3 := Tryz.underlying3
  a3 := Tryz.isAgg3
  z3 := Tryz.sizeOf3
  v3 := Tryz.zeroValue3
  t5 := Tryz.underlying5
  a5 := Tryz.isAgg5
  z5 := Tryz.sizeOf5
  v5 := Tryz.zeroValue5
  t9 := Tryz.underlying9
  a9 := Tryz.isAgg9
  z9 := Tryz.sizeOf9
  v9 := Tryz.zeroValue9 }
open Go.RowKit in
theorem Tryz.strings_IndexByte (s : ByteArray) (c : Int) (w : World) :
    Calls Tryz.prog 96 #[.string s, .int .u8 c] w fun e w' => e = .returned (.int .i64 (Lib.indexByte s.data.toList c.toNat.toUInt8)) ∧ w' = w := Any.strings_IndexByte Tryz.lays137 s c w
def Tryz.lays219_ren : Go.Shelf.Ren := ⟨fun | 219 => 143 | 217 => 130 | 225 => 157 | 224 => 158 | 267 => 159 | 266 => 147 | 314 => 168 | n => n, fun | 9 => 9 | 3 => 3 | 4 => 4 | 5 => 5 | 46 => 210 | 146 => 222 | 51 => 221 | n => n, fun | 1 => 0 | n => n⟩
theorem Tryz.lays219 : Go.Proofs.Lays.n219 Tryz.prog Tryz.lays219_ren := {
  mixed := by kernel_rfl
  f217 := Tryz.func130.trans (congrArg some (by kernel_rfl))
  f219 := Tryz.func143.trans (congrArg some (by kernel_rfl))
  f224 := Tryz.func158.trans (congrArg some (by kernel_rfl))
  f225 := Tryz.func157.trans (congrArg some (by kernel_rfl))
  f266 := Tryz.func147.trans (congrArg some (by kernel_rfl))
  f267 := Tryz.func159.trans (congrArg some (by kernel_rfl))
  f314 := Tryz.func168.trans (congrArg some (by kernel_rfl))
  t3 := Tryz.underlying3
  a3 := Tryz.isAgg3
  z3 := Tryz.sizeOf3
  v3 := Tryz.zeroValue3
  t4 := Tryz.underlying4
  a4 := Tryz.isAgg4
  z4 := Tryz.sizeOf4
  v4 := Tryz.zeroValue4
  t5 := Tryz.underlying5
  a5 := Tryz.isAgg5
  z5 := Tryz.sizeOf5
  v5 := Tryz.zeroValue5
  t9 := Tryz.underlying9
  a9 := Tryz.isAgg9
  z9 := Tryz.sizeOf9
  v9 := Tryz.zeroValue9
  t46 := Tryz.underlying210
  a46 := Tryz.isAgg210
  z46 := Tryz.sizeOf210
  v46 := Tryz.zeroValue210
  t51 := Tryz.underlying221
  a51 := Tryz.isAgg221
  z51 := Tryz.sizeOf221
  v51 := Tryz.zeroValue221
  t146 := Tryz.underlying222
  a146 := Tryz.isAgg222
  z146 := Tryz.sizeOf222
  v146 := Tryz.zeroValue222
  g1 := by kernel_rfl }
open Go.RowKit Go.Lib in
theorem Tryz.stringslite_Index_one (s : ByteArray) (c : UInt8) (w : World) :
    Calls Tryz.prog 143 #[.string s, .string ⟨#[c]⟩] w fun e w' => e = .returned (.int .i64 (Lib.indexByte s.data.toList c)) ∧ w' = w := Any.stringslite_Index_one Tryz.lays219 s c w
def Tryz.lays144_ren : Go.Shelf.Ren := ⟨fun | 144 => 82 | 143 => 119 | 219 => 143 | 217 => 130 | 225 => 157 | 224 => 158 | 267 => 159 | 266 => 147 | 314 => 168 | n => n, fun | 9 => 9 | 4 => 4 | 3 => 3 | 5 => 5 | 46 => 210 | 146 => 222 | 51 => 221 | n => n, fun | 1 => 0 | n => n⟩
theorem Tryz.lays144 : Go.Proofs.Lays.n144 Tryz.prog Tryz.lays144_ren := {
  mixed := by kernel_rfl
  f143 := Tryz.func119.trans (congrArg some (by kernel_rfl))
  f144 := Tryz.func82.trans (congrArg some (by kernel_rfl))
  f217 := Tryz.func130.trans (congrArg some (by kernel_rfl))
  f219 := Tryz.func143.trans (congrArg some (by kernel_rfl))
  f224 := Tryz.func158.trans (congrArg some (by kernel_rfl))
  f225 := Tryz.func157.trans (congrArg some (by kernel_rfl))
  f266 := Tryz.func147.trans (congrArg some (by kernel_rfl))
  f267 := Tryz.func159.trans (congrArg some (by kernel_rfl))
  f314 := Tryz.func168.trans (congrArg some (by kernel_rfl))
  t3 := Tryz.underlying3
  a3 := Tryz.isAgg3
  z3 := Tryz.sizeOf3
  v3 := Tryz.zeroValue3
  t4 := Tryz.underlying4
  a4 := Tryz.isAgg4
  z4 := Tryz.sizeOf4
  v4 := Tryz.zeroValue4
  t5 := Tryz.underlying5
  a5 := Tryz.isAgg5
  z5 := Tryz.sizeOf5
  v5 := Tryz.zeroValue5
  t9 := Tryz.underlying9
  a9 := Tryz.isAgg9
  z9 := Tryz.sizeOf9
  v9 := Tryz.zeroValue9
  t46 := Tryz.underlying210
  a46 := Tryz.isAgg210
  z46 := Tryz.sizeOf210
  v46 := Tryz.zeroValue210
  t51 := Tryz.underlying221
  a51 := Tryz.isAgg221
  z51 := Tryz.sizeOf221
  v51 := Tryz.zeroValue221
  t146 := Tryz.underlying222
  a146 := Tryz.isAgg222
  z146 := Tryz.sizeOf222
  v146 := Tryz.zeroValue222
  g1 := by kernel_rfl }
open Go.RowKit Go.Lib in
theorem Tryz.strings_Contains_one (s : ByteArray) (c : UInt8) (w : World) :
    Calls Tryz.prog 82 #[.string s, .string ⟨#[c]⟩] w fun e w' => e = .returned (.bool (decide (0 ≤ Lib.indexByte s.data.toList c))) ∧ w' = w := Any.strings_Contains_one Tryz.lays144 s c w
def Tryz.lays99_ren : Go.Shelf.Ren := ⟨fun | 99 => 167 | 206 => 175 | n => n, fun | 9 => 9 | 4 => 4 | 3 => 3 | n => n, fun | n => n⟩
theorem Tryz.lays99 : Go.Proofs.Lays.n99 Tryz.prog Tryz.lays99_ren := {
  mixed := by kernel_rfl
  f99 := Tryz.func167.trans (congrArg some (by kernel_rfl))
  f206 := Tryz.func175.trans (congrArg some (by kernel_rfl))
  t3 := Tryz.underlying3
  a3 := Tryz.isAgg3
  z3 := Tryz.sizeOf3
  v3 := Tryz.zeroValue3
  t4 := Tryz.underlying4
  a4 := Tryz.isAgg4
  z4 := Tryz.sizeOf4
  v4 := Tryz.zeroValue4
  t9 := Tryz.underlying9
  a9 := Tryz.isAgg9
  z9 := Tryz.sizeOf9
  v9 := Tryz.zeroValue9 }
open Go.RowKit Go.Lib in
theorem Tryz.strings_HasPrefix (s p : ByteArray) (w : World) :
    Calls Tryz.prog 167 #[.string s, .string p] w fun e w' => e = .returned (.bool (Lib.hasPrefix s.data.toList p.data.toList)) ∧ w' = w := Any.strings_HasPrefix Tryz.lays99 s p w
end Go.Proofs
