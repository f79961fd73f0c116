/-
  strings.IndexByte, strings.Cut at one byte: the library contracts at this program.
-/
import Derived.Shelf.Strings.Search2
import Derived.Shelf.Small.Strs
import Derived.Test.YthmpdgbhbbbknaaPlan
import Derived.Test.YthmpdgbhbbbknaaMem
import Derived.Test.YthmpdgbhbbbknaaChecked
namespace Go.Proofs.Ythmpdgbhbbbknaa
open Go.Shelf Go.RowKit Go.Lib

def lays137_ren : Go.Shelf.Ren := ⟨fun | 137 => 24 | 217 => 32 | 266 => 37 | n => n, fun | 9 => 9 | 5 => 5 | 3 => 3 | n => n, fun | n => n⟩
theorem lays137 : Go.Proofs.Lays.n137 Try.prog lays137_ren := {
  mixed := by kernel_rfl
  f137 := Try.func24.trans (congrArg some (by kernel_rfl))
  f217 := Try.func32.trans (congrArg some (by kernel_rfl))
  f266 := Try.func37.trans (congrArg some (by kernel_rfl))
  t3 := Try.underlying3
  a3 := Try.isAgg3
  z3 := Try.sizeOf3
  v3 := Try.zeroValue3
  t5 := Try.underlying5
  a5 := Try.isAgg5
  z5 := Try.sizeOf5
  v5 := Try.zeroValue5
  t9 := Try.underlying9
  a9 := Try.isAgg9
  z9 := Try.sizeOf9
  v9 := Try.zeroValue9 }
def lays219_ren : Go.Shelf.Ren := ⟨fun | 219 => 38 | 217 => 32 | 225 => 39 | 224 => 40 | 267 => 41 | 266 => 37 | 314 => 42 | n => n, fun | 9 => 9 | 3 => 3 | 4 => 4 | 5 => 5 | 46 => 66 | 146 => 68 | 51 => 67 | n => n, fun | 1 => 0 | n => n⟩
theorem lays219 : Go.Proofs.Lays.n219 Try.prog lays219_ren := {
  mixed := by kernel_rfl
  f217 := Try.func32.trans (congrArg some (by kernel_rfl))
  f219 := Try.func38.trans (congrArg some (by kernel_rfl))
  f224 := Try.func40.trans (congrArg some (by kernel_rfl))
  f225 := Try.func39.trans (congrArg some (by kernel_rfl))
  f266 := Try.func37.trans (congrArg some (by kernel_rfl))
  f267 := Try.func41.trans (congrArg some (by kernel_rfl))
  f314 := Try.func42.trans (congrArg some (by kernel_rfl))
  t3 := Try.underlying3
  a3 := Try.isAgg3
  z3 := Try.sizeOf3
  v3 := Try.zeroValue3
  t4 := Try.underlying4
  a4 := Try.isAgg4
  z4 := Try.sizeOf4
  v4 := Try.zeroValue4
  t5 := Try.underlying5
  a5 := Try.isAgg5
  z5 := Try.sizeOf5
  v5 := Try.zeroValue5
  t9 := Try.underlying9
  a9 := Try.isAgg9
  z9 := Try.sizeOf9
  v9 := Try.zeroValue9
  t46 := Try.underlying66
  a46 := Try.isAgg66
  z46 := Try.sizeOf66
  v46 := Try.zeroValue66
  t51 := Try.underlying67
  a51 := Try.isAgg67
  z51 := Try.sizeOf67
  v51 := Try.zeroValue67
  t146 := Try.underlying68
  a146 := Try.isAgg68
  z146 := Try.sizeOf68
  v146 := Try.zeroValue68
  g1 := by kernel_rfl }

theorem indexByte_any (s : ByteArray) (c : UInt8) (x : Int) (hx : x = c.toNat) (w : World) :
    Calls Try.prog 24 #[.string s, .int .u8 x] w fun e w1 => e = .returned (.int .i64 (Lib.indexByte s.data.toList c)) ∧ w = w1 :=
  (Any.strings_IndexByte lays137 s x w).mono fun e w1 ⟨h1, h2⟩ => ⟨by
    have e1 : x.toNat.toUInt8 = c := by subst hx; simp
    rw [e1] at h1
    exact h1, h2.symm⟩
theorem index_one (s : ByteArray) (c : UInt8) (w : World) :
    Calls Try.prog 38 #[.string s, .string ⟨#[c]⟩] w fun e w1 => e = .returned (.int .i64 (Lib.indexByte s.data.toList c)) ∧ w = w1 :=
  (Any.stringslite_Index_one lays219 s c w).mono fun e w1 ⟨h1, h2⟩ => ⟨h1, h2.symm⟩
end Go.Proofs.Ythmpdgbhbbbknaa
