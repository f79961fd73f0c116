/-
  FieldTexts: the walk.
-/
import Derived.Test.YthmpdgbhbbbknaaFAwake
import Derived.Test.YthmpdgbhbbbknaaFSame
import Derived.Test.YthmpdgbhbbbknaaFTextRef
namespace Go.Proofs.Ythmpdgbhbbbknaa
open Go.RowKit

theorem textC_zero {l : List Fd} (h : textC l = 0) : l.length ≤ 64 ∧ ∀ f ∈ l, mayF f = true := by
  unfold textC at h
  split at h
  · cases h
  · split at h
    · rename_i h1 h2
      exact ⟨by omega, List.all_eq_true.1 h2⟩
    · cases h
theorem textC_ways (l : List Fd) : textC l = 0 ∨ ((textC l != 0) = true) := by
  by_cases h : textC l = 0
  · exact .inl h
  · exact .inr (by simpa using h)

set_option maxRecDepth 100000 in
set_option maxHeartbeats 4000000 in
theorem texts_any (l : List Fd) (A : Option Addr) (n c : Nat) (w : World) (h : Lst Fd.cells 2 w A n l) (hnm : n ≤ maxLen) (hs : ∀ f ∈ l, f.name.size ≤ maxLen) :
    Calls Try.prog 3 #[.slice A n c] w fun e w' => e = .returned (.bool true) ∧ Below w.heap.size w w' := by
  rcases textC_ways l with hc | hc
  · obtain ⟨z1, z2⟩ := textC_zero hc
    have hT : textS l = textL l := by unfold textS; rw [if_pos hc]
    have HC := Lib.hid hc
    have HT := Lib.hid hT
    have HZ := Lib.hid z2
    clear hc hT z2
    go_enter Try.func3, Try.ntmps3
    go_wp2_with fail
    refine (long_any l A n c _ h hnm).mono ?_
    rintro e w1 ⟨lb, rfl, hb1⟩
    cases lb
    · dsimp only
      go_wp2_with (first | (go_at_call 8; refine (text_any l A n c _ (h.below hb1) hs).mono ?_; unfold TextPost; rw [HT.out, HC.out]; rintro e w2 ⟨rfl, hb2⟩; have hw2 := Below.go hb1 hb2) | (go_at_call 9; refine (refText_any l A n c _ (h.below hw2) hs).mono ?_; unfold TextPost; rw [HT.out, HC.out]; rintro e w3 ⟨rfl, hb3⟩; have hw3 := Below.go hw2 hb3) | (go_at_call 10; refine (parse_any l _ z1 HZ.out).mono ?_; rintro e w4 ⟨A4, c4, rfl, ho4, hn4, hb4⟩; have hw4 := Below.go hw3 hb4) | (go_at_call 11; refine (refSame_any l A4 A _ c4 n c _ (Rd.lst Fd.cells_len rfl ho4.rd) (h.below hw4) (by unfold maxLen; omega)).mono ?_; rintro e w5 ⟨rfl, hb5⟩; have hw5 := Below.go hw4 hb5) | (go_at_call 7; refine (awake_any _).mono ?_; rintro e w6 ⟨rfl, hb6⟩; have hw6 := Below.go hw5 hb6))
      go_ret
      exact ⟨rfl, hw6⟩
    · dsimp only
      go_wp2_with (go_at_call 7; refine (awake_any _).mono ?_; rintro e w6 ⟨rfl, hb6⟩; have hw6 := Below.go hb1 hb6)
      go_ret
      exact ⟨rfl, hw6⟩
  · have hT : textS l = [] := by unfold textS; rw [if_neg (by simpa using hc)]
    have HT := Lib.hid hT
    clear hT
    go_enter Try.func3, Try.ntmps3
    go_wp2_with fail
    refine (long_any l A n c _ h hnm).mono ?_
    rintro e w1 ⟨lb, rfl, hb1⟩
    cases lb
    · dsimp only
      go_wp2_with (first | (go_at_call 8; refine (text_any l A n c _ (h.below hb1) hs).mono ?_; unfold TextPost; rw [HT.out]; rintro e w2 ⟨rfl, hb2⟩; have hw2 := Below.go hb1 hb2) | (go_at_call 9; refine (refText_any l A n c _ (h.below hw2) hs).mono ?_; unfold TextPost; rw [HT.out]; rintro e w3 ⟨rfl, hb3⟩; have hw3 := Below.go hw2 hb3) | (go_at_call 7; refine (awake_any _).mono ?_; rintro e w6 ⟨rfl, hb6⟩; have hw6 := Below.go hw3 hb6))
      go_ret
      exact ⟨rfl, hw6⟩
    · dsimp only
      go_wp2_with (go_at_call 7; refine (awake_any _).mono ?_; rintro e w6 ⟨rfl, hb6⟩; have hw6 := Below.go hb1 hb6)
      go_ret
      exact ⟨rfl, hw6⟩
end Go.Proofs.Ythmpdgbhbbbknaa
