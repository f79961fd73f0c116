/-
  Layer 5's test of a name, in the program and in the reference.
-/
import Derived.Test.YthmpdgbhbbbknaaDoorFModel
import Derived.Test.YthmpdgbhbbbknaaDoorChecked
import Derived.WalkSpells
import Derived.WalkLawsBesides
import Derived.Deep.DeepMust
import Derived.Test.YthmpdgbhbbbknaaDoorMem
namespace Go.Proofs.YthmpdgbhbbbknaaDoor
open Go.RowKit

/-- Where a byte lies, and whether a name may have it. -/
theorem ch_ranges (c : UInt8) : ((c.toNat : Int) < 45 ∧ chB c = false) ∨ ((c.toNat : Int) = 45 ∧ chB c = true) ∨ (45 < (c.toNat : Int) ∧ (c.toNat : Int) < 48 ∧ chB c = false) ∨ (48 ≤ (c.toNat : Int) ∧ (c.toNat : Int) ≤ 57 ∧ chB c = true) ∨
    (57 < (c.toNat : Int) ∧ (c.toNat : Int) < 97 ∧ chB c = false) ∨ (97 ≤ (c.toNat : Int) ∧ (c.toNat : Int) ≤ 122 ∧ chB c = true) ∨ (122 < (c.toNat : Int) ∧ chB c = false) := by
  unfold chB letB digB
  by_cases h1 : (c.toNat : Int) < 45
  · exact .inl ⟨h1, by simp; omega⟩
  by_cases h2 : (c.toNat : Int) = 45
  · exact .inr (.inl ⟨h2, by simp [h2]⟩)
  by_cases h3 : (c.toNat : Int) < 48
  · exact .inr (.inr (.inl ⟨by omega, h3, by simp; omega⟩))
  by_cases h4 : (c.toNat : Int) ≤ 57
  · exact .inr (.inr (.inr (.inl ⟨by omega, h4, by simp; omega⟩)))
  by_cases h5 : (c.toNat : Int) < 97
  · exact .inr (.inr (.inr (.inr (.inl ⟨by omega, h5, by simp; omega⟩))))
  by_cases h6 : (c.toNat : Int) ≤ 122
  · exact .inr (.inr (.inr (.inr (.inr (.inl ⟨by omega, h6, by simp; omega⟩)))))
  · exact .inr (.inr (.inr (.inr (.inr (.inr ⟨by omega, by simp; omega⟩)))))

set_option maxHeartbeats 2000000 in
theorem isName_any (s : ByteArray) (w : World) (hs : s.size ≤ maxLen) : Calls Tryd.prog 34 #[.string s] w fun e w' => e = .returned (.bool (nameB s)) ∧ w = w' := by
  unfold maxLen at hs
  by_cases h1 : s.size < 1
  · have hn : nameB s = false := by simp [nameB]; omega
    rw [hn]
    clear hn
    go_enter Tryd.func34, Tryd.ntmps34
    go_wp2
    go_ret
    exact ⟨rfl, rfl⟩
  by_cases h2 : 16 < s.size
  · have hn : nameB s = false := by simp [nameB]; omega
    rw [hn]
    clear hn
    go_enter Tryd.func34, Tryd.ntmps34
    go_wp2
    go_ret
    exact ⟨rfl, rfl⟩
  go_enter Tryd.func34, Tryd.ntmps34
  go_wp2
  go_loop [15] (fun i => ∃ k : Nat, k ≤ s.size ∧ i = .int .i64 k ∧ firstAll s k) (fun i => s.size - (intOf i).toNat)
  case atStart => exact ⟨0, Nat.zero_le _, rfl, firstAll_zero s⟩
  case round =>
    obtain ⟨k, hk, rfl, hall⟩ := hrel
    have HA := Lib.hid hall
    clear hall
    by_cases hlt : k < s.size
    · rcases ch_ranges s[k] with ⟨g1, g4⟩ | ⟨g1, g4⟩ | ⟨g1, g2, g4⟩ | ⟨g1, g2, g4⟩ | ⟨g1, g2, g4⟩ | ⟨g1, g2, g4⟩ | ⟨g1, g4⟩
      all_goals
        have G4 := Lib.hid g4
        clear g4
        try have gb : ((s[k].toNat : Int) != 45) = true := by rw [bne_iff_ne]; omega
        go_wp2
      all_goals first
        | (go_round
           case rel => exact ⟨k + 1, by omega, by go_num, firstAll_succ hlt HA.out G4.out⟩
           case measure => simp [intOf]; omega)
        | (go_ret
           exact ⟨ret_bool (nameB_not hlt G4.out).symm, rfl⟩)
    · obtain rfl : k = s.size := by omega
      have hn := Lib.hid (nameB_all HA.out)
      go_wp2
      go_ret
      exact ⟨ret_bool (by rw [hn.out]; simp; omega), rfl⟩

set_option maxHeartbeats 2000000 in
theorem refName_any (s : ByteArray) (w : World) (hs : s.size ≤ maxLen) : Calls Tryd.prog 35 #[.string s] w fun e w' => e = .returned (.bool (nameB s)) ∧ w = w' := by
  unfold maxLen at hs
  go_enter Tryd.func35, Tryd.ntmps35
  go_wp2
  go_loop [3] (fun i => ∃ k : Nat, k ≤ s.size ∧ i = .int .i64 k ∧ firstAll s k) (fun i => s.size - (intOf i).toNat)
  case atStart => exact ⟨0, Nat.zero_le _, rfl, firstAll_zero s⟩
  case round =>
    obtain ⟨k, hk, rfl, hall⟩ := hrel
    have HA := Lib.hid hall
    clear hall
    by_cases hlt : k < s.size
    · rcases ch_ranges s[k] with ⟨g1, g4⟩ | ⟨g1, g4⟩ | ⟨g1, g2, g4⟩ | ⟨g1, g2, g4⟩ | ⟨g1, g2, g4⟩ | ⟨g1, g2, g4⟩ | ⟨g1, g4⟩
      all_goals
        have G4 := Lib.hid g4
        clear g4
        try have gb : ((s[k].toNat : Int) != 45) = true := by rw [bne_iff_ne]; omega
        go_wp2
      all_goals first
        | (go_round
           case rel => exact ⟨k + 1, by omega, by go_num, firstAll_succ hlt HA.out G4.out⟩
           case measure => simp [intOf]; omega)
        | (go_ret
           exact ⟨ret_bool (nameB_not hlt G4.out).symm, rfl⟩)
    · obtain rfl : k = s.size := by omega
      have hn := Lib.hid (nameB_all HA.out)
      by_cases h1 : 1 ≤ s.size
      all_goals
        go_wp2
        go_ret
        exact ⟨ret_bool (by rw [hn.out]; simp [h1] <;> omega), rfl⟩

theorem may_any (f : Fd) (w : World) (h1 : f.name.size ≤ maxLen) : Calls Tryd.prog 28 #[.agg #[.string f.name, .string f.value]] w fun e w' => e = .returned (.bool (mayF f)) ∧ Below w.heap.size w w' := by
  unfold mayF
  have hw0 : Below w.heap.size w (w.alloc (.cells #[.string f.name, .string f.value] 43)) := (Below.refl _ _).alloc (Nat.le_refl _) _
  cases hn : nameB f.name
  all_goals
    have HN := Lib.hid hn
    clear hn
    go_enter Tryd.func28, Tryd.ntmps28
    go_wp2_with (go_at_call 34; refine (isName_any f.name _ h1).mono ?_; rw [HN.out]; rintro e w' ⟨rfl, rfl⟩)
    go_ret
    exact ⟨ret_bool (by simp <;> omega), hw0⟩
theorem refMay_any (f : Fd) (w : World) (h1 : f.name.size ≤ maxLen) : Calls Tryd.prog 20 #[.agg #[.string f.name, .string f.value]] w fun e w' => e = .returned (.bool (mayF f)) ∧ Below w.heap.size w w' := by
  unfold mayF
  have hw0 : Below w.heap.size w (w.alloc (.cells #[.string f.name, .string f.value] 43)) := (Below.refl _ _).alloc (Nat.le_refl _) _
  cases hn : nameB f.name
  all_goals
    have HN := Lib.hid hn
    clear hn
    go_enter Tryd.func20, Tryd.ntmps20
    go_wp2_with (go_at_call 35; refine (refName_any f.name _ h1).mono ?_; rw [HN.out]; rintro e w' ⟨rfl, rfl⟩)
    go_ret
    exact ⟨ret_bool (by simp <;> omega), hw0⟩
end Go.Proofs.YthmpdgbhbbbknaaDoor
