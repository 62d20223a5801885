/- The contracts of strings.IndexByte, Contains and Index at this seat, out of the laid Shelf. No condition. -/
import Derived.Shelf.Strings.Builder1
import Derived.Shelf.Small.Strs
import Derived.Shelf.Strings.BuilderF
import Derived.Shelf.Strings.BuilderK
import Derived.Shelf.Strings.Search1
import Derived.Shelf.Strings.Search2
import Derived.Shelf.Strings.Search3
import Derived.Shelf.Strings.Cut
import Derived.Shelf.LaysM
import Derived.Shelf.Strings.Shaped
import Derived.Test.YtnamnmpnoiodnaaProg
namespace Go.Proofs
open Go.Shelf
def Try.lays137_ren : Go.Shelf.Ren := ⟨fun | 137 => 67 | 217 => 79 | 266 => 86 | n => n, fun | 9 => 9 | 5 => 5 | 3 => 3 | n => n, fun | n => n⟩
theorem Try.lays137 : Go.Proofs.Lays.n137 Try.prog Try.lays137_ren := {
  mixed := by kernel_rfl
  f137 := Try.func67.trans (congrArg some (by kernel_rfl))
  f217 := Try.func79.trans (congrArg some (by kernel_rfl))
  f266 := Try.func86.trans (congrArg some (by kernel_rfl))
  t3 := Try.underlying3
  a3 := Try.isAgg3
  z3 := Try.sizeOf3
  v3 := Try.zeroValue3
  t5 := Try.underlying5
  a5 := Try.isAgg5
  z5 := Try.sizeOf5
  v5 := Try.zeroValue5
  t9 := Try.underlying9
  a9 := Try.isAgg9
  z9 := Try.sizeOf9
  v9 := Try.zeroValue9 }
open Go.RowKit in
theorem Try.strings_IndexByte (s : ByteArray) (c : Int) (w : World) :
    Calls Try.prog 67 #[.string s, .int .u8 c] w fun e w' => e = .returned (.int .i64 (Lib.indexByte s.data.toList c.toNat.toUInt8)) ∧ w' = w := Any.strings_IndexByte Try.lays137 s c w
def Try.lays219_ren : Go.Shelf.Ren := ⟨fun | 219 => 80 | 217 => 79 | 225 => 87 | 224 => 88 | 267 => 89 | 266 => 86 | 314 => 93 | n => n, fun | 9 => 9 | 3 => 3 | 4 => 4 | 5 => 5 | 46 => 145 | 146 => 151 | 51 => 150 | n => n, fun | 1 => 0 | n => n⟩
theorem Try.lays219 : Go.Proofs.Lays.n219 Try.prog Try.lays219_ren := {
  mixed := by kernel_rfl
  f217 := Try.func79.trans (congrArg some (by kernel_rfl))
  f219 := Try.func80.trans (congrArg some (by kernel_rfl))
  f224 := Try.func88.trans (congrArg some (by kernel_rfl))
  f225 := Try.func87.trans (congrArg some (by kernel_rfl))
  f266 := Try.func86.trans (congrArg some (by kernel_rfl))
  f267 := Try.func89.trans (congrArg some (by kernel_rfl))
  f314 := Try.func93.trans (congrArg some (by kernel_rfl))
  t3 := Try.underlying3
  a3 := Try.isAgg3
  z3 := Try.sizeOf3
  v3 := Try.zeroValue3
  t4 := Try.underlying4
  a4 := Try.isAgg4
  z4 := Try.sizeOf4
  v4 := Try.zeroValue4
  t5 := Try.underlying5
  a5 := Try.isAgg5
  z5 := Try.sizeOf5
  v5 := Try.zeroValue5
  t9 := Try.underlying9
  a9 := Try.isAgg9
  z9 := Try.sizeOf9
  v9 := Try.zeroValue9
  t46 := Try.underlying145
  a46 := Try.isAgg145
  z46 := Try.sizeOf145
  v46 := Try.zeroValue145
  t51 := Try.underlying150
  a51 := Try.isAgg150
  z51 := Try.sizeOf150
  v51 := Try.zeroValue150
  t146 := Try.underlying151
  a146 := Try.isAgg151
  z146 := Try.sizeOf151
  v146 := Try.zeroValue151
  g1 := by kernel_rfl }
open Go.RowKit Go.Lib in
theorem Try.stringslite_Index_one (s : ByteArray) (c : UInt8) (w : World) :
    Calls Try.prog 80 #[.string s, .string ⟨#[c]⟩] w fun e w' => e = .returned (.int .i64 (Lib.indexByte s.data.toList c)) ∧ w' = w := Any.stringslite_Index_one Try.lays219 s c w
def Try.lays144_ren : Go.Shelf.Ren := ⟨fun | 144 => 53 | 143 => 68 | 219 => 80 | 217 => 79 | 225 => 87 | 224 => 88 | 267 => 89 | 266 => 86 | 314 => 93 | n => n, fun | 9 => 9 | 4 => 4 | 3 => 3 | 5 => 5 | 46 => 145 | 146 => 151 | 51 => 150 | n => n, fun | 1 => 0 | n => n⟩
theorem Try.lays144 : Go.Proofs.Lays.n144 Try.prog Try.lays144_ren := {
  mixed := by kernel_rfl
  f143 := Try.func68.trans (congrArg some (by kernel_rfl))
  f144 := Try.func53.trans (congrArg some (by kernel_rfl))
  f217 := Try.func79.trans (congrArg some (by kernel_rfl))
  f219 := Try.func80.trans (congrArg some (by kernel_rfl))
  f224 := Try.func88.trans (congrArg some (by kernel_rfl))
  f225 := Try.func87.trans (congrArg some (by kernel_rfl))
  f266 := Try.func86.trans (congrArg some (by kernel_rfl))
  f267 := Try.func89.trans (congrArg some (by kernel_rfl))
  f314 := Try.func93.trans (congrArg some (by kernel_rfl))
  t3 := Try.underlying3
  a3 := Try.isAgg3
  z3 := Try.sizeOf3
  v3 := Try.zeroValue3
  t4 := Try.underlying4
  a4 := Try.isAgg4
  z4 := Try.sizeOf4
  v4 := Try.zeroValue4
  t5 := Try.underlying5
  a5 := Try.isAgg5
  z5 := Try.sizeOf5
  v5 := Try.zeroValue5
  t9 := Try.underlying9
  a9 := Try.isAgg9
  z9 := Try.sizeOf9
  v9 := Try.zeroValue9
  t46 := Try.underlying145
  a46 := Try.isAgg145
  z46 := Try.sizeOf145
  v46 := Try.zeroValue145
  t51 := Try.underlying150
  a51 := Try.isAgg150
  z51 := Try.sizeOf150
  v51 := Try.zeroValue150
  t146 := Try.underlying151
  a146 := Try.isAgg151
  z146 := Try.sizeOf151
  v146 := Try.zeroValue151
  g1 := by kernel_rfl }
open Go.RowKit Go.Lib in
theorem Try.strings_Contains_one (s : ByteArray) (c : UInt8) (w : World) :
    Calls Try.prog 53 #[.string s, .string ⟨#[c]⟩] w fun e w' => e = .returned (.bool (decide (0 ≤ Lib.indexByte s.data.toList c))) ∧ w' = w := Any.strings_Contains_one Try.lays144 s c w
end Go.Proofs
