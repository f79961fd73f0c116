/-
  strings.IndexByte, strings.Cut at one byte: the library contracts at this program.
-/
import Derived.Shelf.Strings.Search2
import Derived.Shelf.Small.Strs
import Derived.Test.YthmpdgbhbbbknaaDoorPlan
import Derived.Test.YthmpdgbhbbbknaaDoorMem
import Derived.Test.YthmpdgbhbbbknaaDoorChecked
namespace Go.Proofs.YthmpdgbhbbbknaaDoor
open Go.Shelf Go.RowKit Go.Lib

def lays137_ren : Go.Shelf.Ren := ⟨fun | 137 => 32 | 217 => 40 | 266 => 52 | n => n, fun | 9 => 9 | 5 => 5 | 3 => 3 | n => n, fun | n => n⟩
theorem lays137 : Go.Proofs.Lays.n137 Tryd.prog lays137_ren := {
  mixed := by kernel_rfl
  f137 := Tryd.func32.trans (congrArg some (by kernel_rfl))
  f217 := Tryd.func40.trans (congrArg some (by kernel_rfl))
  f266 := Tryd.func52.trans (congrArg some (by kernel_rfl))
  t3 := Tryd.underlying3
  a3 := Tryd.isAgg3
  z3 := Tryd.sizeOf3
  v3 := Tryd.zeroValue3
  t5 := Tryd.underlying5
  a5 := Tryd.isAgg5
  z5 := Tryd.sizeOf5
  v5 := Tryd.zeroValue5
  t9 := Tryd.underlying9
  a9 := Tryd.isAgg9
  z9 := Tryd.sizeOf9
  v9 := Tryd.zeroValue9 }
def lays219_ren : Go.Shelf.Ren := ⟨fun | 219 => 53 | 217 => 40 | 225 => 64 | 224 => 65 | 267 => 66 | 266 => 52 | 314 => 70 | n => n, fun | 9 => 9 | 3 => 3 | 4 => 4 | 5 => 5 | 46 => 76 | 146 => 104 | 51 => 96 | n => n, fun | 1 => 4 | n => n⟩
theorem lays219 : Go.Proofs.Lays.n219 Tryd.prog lays219_ren := {
  mixed := by kernel_rfl
  f217 := Tryd.func40.trans (congrArg some (by kernel_rfl))
  f219 := Tryd.func53.trans (congrArg some (by kernel_rfl))
  f224 := Tryd.func65.trans (congrArg some (by kernel_rfl))
  f225 := Tryd.func64.trans (congrArg some (by kernel_rfl))
  f266 := Tryd.func52.trans (congrArg some (by kernel_rfl))
  f267 := Tryd.func66.trans (congrArg some (by kernel_rfl))
  f314 := Tryd.func70.trans (congrArg some (by kernel_rfl))
  t3 := Tryd.underlying3
  a3 := Tryd.isAgg3
  z3 := Tryd.sizeOf3
  v3 := Tryd.zeroValue3
  t4 := Tryd.underlying4
  a4 := Tryd.isAgg4
  z4 := Tryd.sizeOf4
  v4 := Tryd.zeroValue4
  t5 := Tryd.underlying5
  a5 := Tryd.isAgg5
  z5 := Tryd.sizeOf5
  v5 := Tryd.zeroValue5
  t9 := Tryd.underlying9
  a9 := Tryd.isAgg9
  z9 := Tryd.sizeOf9
  v9 := Tryd.zeroValue9
  t46 := Tryd.underlying76
  a46 := Tryd.isAgg76
  z46 := Tryd.sizeOf76
  v46 := Tryd.zeroValue76
  t51 := Tryd.underlying96
  a51 := Tryd.isAgg96
  z51 := Tryd.sizeOf96
  v51 := Tryd.zeroValue96
  t146 := Tryd.underlying104
  a146 := Tryd.isAgg104
  z146 := Tryd.sizeOf104
  v146 := Tryd.zeroValue104
  g1 := by kernel_rfl }

theorem indexByte_any (s : ByteArray) (c : UInt8) (x : Int) (hx : x = c.toNat) (w : World) :
    Calls Tryd.prog 32 #[.string s, .int .u8 x] w fun e w1 => e = .returned (.int .i64 (Lib.indexByte s.data.toList c)) ∧ w = w1 :=
  (Any.strings_IndexByte lays137 s x w).mono fun e w1 ⟨h1, h2⟩ => ⟨by
    have e1 : x.toNat.toUInt8 = c := by subst hx; simp
    rw [e1] at h1
    exact h1, h2.symm⟩
theorem index_one (s : ByteArray) (c : UInt8) (w : World) :
    Calls Tryd.prog 53 #[.string s, .string ⟨#[c]⟩] w fun e w1 => e = .returned (.int .i64 (Lib.indexByte s.data.toList c)) ∧ w = w1 :=
  (Any.stringslite_Index_one lays219 s c w).mono fun e w1 ⟨h1, h2⟩ => ⟨h1, h2.symm⟩
end Go.Proofs.YthmpdgbhbbbknaaDoor
