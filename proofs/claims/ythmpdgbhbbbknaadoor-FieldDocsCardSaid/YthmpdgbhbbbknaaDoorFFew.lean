/-
  The look at a paper's size, with the bounds that it gives.
-/
import Derived.Test.YthmpdgbhbbbknaaDoorFAwake
import Derived.Test.YthmpdgbhbbbknaaDoorFEq
namespace Go.Proofs.YthmpdgbhbbbknaaDoor
open Go.RowKit

def LongB (n : Nat) (w : World) (e : Ending) (w' : World) : Prop := ∃ b : Bool, e = .returned (.bool b) ∧ (b = false → n ≤ 70) ∧ Below w.heap.size w w'
set_option maxRecDepth 100000 in
set_option maxHeartbeats 2000000 in
theorem longB_any (l : List Fd) (A : Option Addr) (n c : Nat) (w : World) (h : Lst Fd.cells 2 w A n l) (hnm : n ≤ maxLen) :
    Calls Tryd.prog 17 #[.slice A n c] w (LongB n w) := by
  have HL := Lib.hid h.len
  unfold maxLen at hnm
  go_enter Tryd.func17, Tryd.ntmps17
  go_wp2
  go_loopw [7] (fun i wr => ∃ k : Nat, k ≤ n ∧ i = .int .i64 k ∧ Below w.heap.size w wr) (fun i _ => n - (intOf i).toNat)
  case atStart => exact ⟨0, by omega, rfl, Below.refl _ _⟩
  case round =>
    obtain ⟨k, hk, rfl, hw⟩ := hrel
    by_cases hlt : k < n
    · have hlk : k < l.length := by rw [HL.out]; exact hlt
      obtain ⟨ba, oa, rfl, hba, f0, f1⟩ := (h.below hw).fd k hlk
      generalize l[k] = x at *
      have hw0 : Below w.heap.size w (wr.alloc (.cells #[.string x.name, .string x.value] 43)) := hw.alloc hw.size _
      by_cases h1 : 100 < x.name.size
      · go_wp2
        go_ret
        exact ⟨true, rfl, by simp, hw0⟩
      by_cases h2 : 4200 < x.value.size
      · go_wp2
        go_ret
        exact ⟨true, rfl, by simp, hw0⟩
      · go_wp2
        go_roundw
        case rel => exact ⟨k + 1, by omega, by go_num, hw0⟩
        case measure => simp [intOf]; omega
    · obtain rfl : k = n := by omega
      by_cases h70 : k ≤ 70
      · go_wp2
        go_ret
        refine ⟨false, ?_, fun _ => h70, hw⟩
        first | rfl | exact ret_bool (by simp; omega)
      · go_wp2
        go_ret
        refine ⟨true, ?_, by simp, hw⟩
        first | rfl | exact ret_bool (by simp; omega)

def FewPost (a : Dc) (w : World) (e : Ending) (w' : World) : Prop := ∃ b : Bool, e = .returned (.bool b) ∧ (b = true → a.fields.length ≤ 70 ∧ a.number.size ≤ 4200 ∧ a.issuer.size ≤ 4200) ∧ Below w.heap.size w w'
set_option maxRecDepth 100000 in
set_option maxHeartbeats 4000000 in
theorem fewB_any (a : Dc) (A : Option Addr) (c : Nat) (w : World) (h : DocIn w A a) :
    Calls Tryd.prog 5 #[.agg #[.int .i64 a.kind, .string a.number, .string a.issuer, .slice A a.fields.length c]] w (FewPost a w) := by
  have hw0 : Below w.heap.size w (w.alloc (.cells #[.int .i64 a.kind, .string a.number, .string a.issuer, .slice A a.fields.length c] 24)) := (Below.refl _ _).alloc (Nat.le_refl _) _
  have B0 := Blk.new' w 24 #[.int .i64 a.kind, .string a.number, .string a.issuer, .slice A a.fields.length c] _ rfl
  go_enter Tryd.func5, Tryd.ntmps5
  go_wp2_with fail
  refine (longB_any a.fields A _ c _ (h.lst.below hw0) h.max).mono ?_
  rintro e w1 ⟨lb, rfl, hlb, hb1⟩
  have C1 := (B0.below hb1 B0.lt).all
  have hw1 := Below.go hw0 hb1
  cases lb
  · dsimp only
    have h70 := hlb rfl
    by_cases h1 : a.number.size ≤ 4200
    · by_cases h2 : a.issuer.size ≤ 4200
      · go_wp2
        go_ret
        exact ⟨true, ret_bool (by simp; try omega), fun _ => ⟨h70, h1, h2⟩, hw1⟩
      · go_wp2
        go_ret
        exact ⟨false, ret_bool (by simp; try omega), by simp, hw1⟩
    · go_wp2
      go_ret
      exact ⟨false, ret_bool (by simp; try omega), by simp, hw1⟩
  · dsimp only
    go_wp2
    go_ret
    exact ⟨false, rfl, by simp, hw1⟩
end Go.Proofs.YthmpdgbhbbbknaaDoor
