/-
  The reference's Name (layer 3): the same test as mark.Name.
-/
import Derived.Test.YtcjheabcnipnlaaMark
namespace Go.Proofs.Ytcjheabcnipnlaa
open Go.RowKit
theorem letter_any (n : Int) (w : World) : Calls Try.prog 43 #[.int .u8 n] w fun e w' => e = .returned (.bool (letB n)) ∧ w = w' := by
  unfold letB
  go_enter Try.func43, Try.ntmps43
  go_wp2
  all_goals (go_ret; simp [*])
  omega
theorem digit_any (n : Int) (w : World) : Calls Try.prog 44 #[.int .u8 n] w fun e w' => e = .returned (.bool (digB n)) ∧ w = w' := by
  unfold digB
  go_enter Try.func44, Try.ntmps44
  go_wp2
  all_goals (go_ret; simp [*])
  omega

set_option maxHeartbeats 1000000 in
theorem name3_any (s : ByteArray) (w : World) (hs : s.size ≤ maxLen) : Calls Try.prog 25 #[.string s] w fun e w' => e = .returned (.bool (nameB s)) ∧ w = w' := by
  unfold maxLen at hs
  go_enter Try.func25, Try.ntmps25
  go_wp2
  go_loop [3] (fun i => ∃ k : Nat, k ≤ s.size ∧ i = .int .i64 k ∧ firstAll s k) (fun i => s.size - (intOf i).toNat)
  case atStart => exact ⟨0, Nat.zero_le _, rfl, firstAll_zero s⟩
  case round =>
    obtain ⟨k, hk, rfl, hall⟩ := hrel
    by_cases hlt : k < s.size
    · rcases ch_ways s[k] with ⟨g1, g4⟩ | ⟨g1, g2, g4⟩ | ⟨g1, g2, g3, g4⟩ | ⟨g1, g2, g3, g4⟩
      all_goals
        have G4 := Lib.hid g4
        clear g4
        go_wp2_with (first | (go_at_call 43; refine (letter_any _ _).mono ?_; rintro e w' ⟨rfl, rfl⟩) | (go_at_call 44; refine (digit_any _ _).mono ?_; rintro e w' ⟨rfl, rfl⟩))
      all_goals first
        | (go_round
           case rel => exact ⟨k + 1, by omega, by go_num, firstAll_succ hlt hall G4.out⟩
           case measure => simp [intOf]; omega)
        | (go_ret
           exact ⟨ret_bool (nameB_not hlt G4.out).symm, rfl⟩)
    · obtain rfl : k = s.size := by omega
      have hn := Lib.hid (nameB_all hall)
      by_cases h1 : 1 ≤ s.size
      all_goals
        go_wp2
        go_ret
        exact ⟨ret_bool (by rw [hn.out]; simp [h1] <;> omega), rfl⟩
end Go.Proofs.Ytcjheabcnipnlaa
