/-
  internal/stringslite.Index where what is looked for is one byte: laid at this dump by the shelf, in plain words. Conditions: none.
-/
import Derived.Shelf.Strings.Search2
import Derived.Test.YtgbncimfkjfjcaaProg
namespace Go.Proofs.Ytgbncimfkjfjcaa.Laid
open Go.Shelf Go.Proofs
def lays219_ren : Go.Shelf.Ren := ⟨fun | 219 => 23 | 217 => 24 | 225 => 25 | 224 => 26 | 267 => 27 | 266 => 28 | 314 => 29 | n => n, fun | 9 => 9 | 3 => 3 | 4 => 4 | 5 => 5 | 46 => 25 | 146 => 46 | 51 => 45 | n => n, fun | 1 => 0 | n => n⟩
theorem lays219 : Go.Proofs.Lays.n219 Try.prog lays219_ren := {
  mixed := by kernel_rfl
  f217 := Try.func24.trans (congrArg some (by kernel_rfl))
  f219 := Try.func23.trans (congrArg some (by kernel_rfl))
  f224 := Try.func26.trans (congrArg some (by kernel_rfl))
  f225 := Try.func25.trans (congrArg some (by kernel_rfl))
  f266 := Try.func28.trans (congrArg some (by kernel_rfl))
  f267 := Try.func27.trans (congrArg some (by kernel_rfl))
  f314 := Try.func29.trans (congrArg some (by kernel_rfl))
  t3 := Try.underlying3
  a3 := Try.isAgg3
  z3 := Try.sizeOf3
  v3 := Try.zeroValue3
  t4 := Try.underlying4
  a4 := Try.isAgg4
  z4 := Try.sizeOf4
  v4 := Try.zeroValue4
  t5 := Try.underlying5
  a5 := Try.isAgg5
  z5 := Try.sizeOf5
  v5 := Try.zeroValue5
  t9 := Try.underlying9
  a9 := Try.isAgg9
  z9 := Try.sizeOf9
  v9 := Try.zeroValue9
  t46 := Try.underlying25
  a46 := Try.isAgg25
  z46 := Try.sizeOf25
  v46 := Try.zeroValue25
  t51 := Try.underlying45
  a51 := Try.isAgg45
  z51 := Try.sizeOf45
  v51 := Try.zeroValue45
  t146 := Try.underlying46
  a146 := Try.isAgg46
  z146 := Try.sizeOf46
  v146 := Try.zeroValue46
  g1 := by kernel_rfl }
open Go.RowKit Go.Lib in
/-- internal/stringslite.Index (what strings.Index calls) AT A substr OF ONE BYTE c: IT RETURNS 'Lib.indexByte s c'; the world is as it was. (LAID: no walk: one application.) -/
theorem stringslite_Index_one (s : ByteArray) (c : UInt8) (w : World) :
    Calls Try.prog 23 #[.string s, .string ⟨#[c]⟩] w fun e w' => e = .returned (.int .i64 (Lib.indexByte s.data.toList c)) ∧ w' = w := Any.stringslite_Index_one lays219 s c w
end Go.Proofs.Ytgbncimfkjfjcaa.Laid
