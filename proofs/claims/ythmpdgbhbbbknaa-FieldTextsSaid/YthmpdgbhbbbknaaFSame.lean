/-
  The reference's Same: of two lists that read as one.
-/
import Derived.Test.YthmpdgbhbbbknaaFText
import Derived.Test.YthmpdgbhbbbknaaPlan
namespace Go.Proofs.Ythmpdgbhbbbknaa
open Go.RowKit

set_option maxRecDepth 100000 in
set_option maxHeartbeats 2000000 in
theorem refSame_any (l : List Fd) (A A' : Option Addr) (n c n' c' : Nat) (w : World) (h : Lst Fd.cells 2 w A n l) (h' : Lst Fd.cells 2 w A' n' l) (hnm : n ≤ maxLen) :
    Calls Try.prog 11 #[.slice A n c, .slice A' n' c'] w fun e w' => e = .returned (.bool true) ∧ Below w.heap.size w w' := by
  have HL := Lib.hid h.len
  unfold maxLen at hnm
  obtain rfl : n = n' := h.len.symm.trans h'.len
  go_enter Try.func11, Try.ntmps11
  go_wp2
  go_loopw [5] (fun i wr => ∃ k : Nat, k ≤ n ∧ i = .int .i64 k ∧ Below w.heap.size w wr) (fun i _ => n - (intOf i).toNat)
  case atStart => exact ⟨0, by omega, rfl, Below.refl _ _⟩
  case round =>
    obtain ⟨k, hk, rfl, hw⟩ := hrel
    by_cases hlt : k < n
    · have hlk : k < l.length := by rw [HL.out]; exact hlt
      obtain ⟨ba, oa, rfl, hba, f0, f1⟩ := (h.below hw).fd k hlk
      obtain ⟨bb, ob, rfl, hbb, g0, g1⟩ := (h'.below hw).fd k hlk
      generalize l[k] = x at *
      go_wp2
      refine wp_region_plan_still [(true, 0, none), (true, 1, none), (true, 2, none), (true, 3, none), (true, 4, none), (true, 5, none), (true, 6, none), (true, 7, none), (true, 8, none)] (by kernel_rfl) (by kernel_rfl) (fun _ _ d _ _ h => by cases d <;> exact h) rfl ?_
      repeat (first | (refine wpPlan_skip (by rfl) ?_; (try simp only [Act.put, List.setIfInBounds_toArray, List.set_cons_zero, List.set_cons_succ])) | (refine wpPlan_take (v := ?_) (by rfl) (by rfl) ?_ ?_; rotate_left; (focus (intro w hSw; (try dsimp only at hSw); go_simp; (try with_reducible rfl))); (try simp only [Act.put, List.setIfInBounds_toArray, List.set_cons_zero, List.set_cons_succ])))
      refine wpPlan_nil ?_
      go_wp2
      go_roundw
      case rel => exact ⟨k + 1, by omega, by go_num, hw.drew⟩
      case measure => simp [intOf]; omega
    · obtain rfl : k = n := by omega
      go_wp2
      go_ret
      exact ⟨rfl, hw⟩
end Go.Proofs.Ythmpdgbhbbbknaa
