/-
  mark.Name, and the references' Name: one test.
-/
import Derived.Test.YtcjheabcnipnlaaRows
import Derived.Test.YtcjheabcnipnlaaBase
import Derived.WalkSpells
import Derived.WalkLawsBesides
namespace Go.Proofs.Ytcjheabcnipnlaa
open Go.RowKit

def letB (n : Int) : Bool := decide (97 ≤ n) && decide (n ≤ 122)
def digB (n : Int) : Bool := decide (48 ≤ n) && decide (n ≤ 57)
def chB (c : UInt8) : Bool := letB c.toNat || digB c.toNat || decide ((c.toNat : Int) = 45)
def nameB (s : ByteArray) : Bool := decide (1 ≤ s.size) && decide (s.size ≤ 16) && s.data.toList.all chB
def firstAll (s : ByteArray) (k : Nat) : Prop := ∀ j (h : j < s.size), j < k → chB s[j] = true
theorem firstAll_zero (s : ByteArray) : firstAll s 0 := fun _ _ h => absurd h (by omega)
theorem firstAll_succ {s : ByteArray} {k : Nat} (hk : k < s.size) (h : firstAll s k) (hc : chB s[k] = true) : firstAll s (k + 1) := fun j hj hjk => by
  by_cases e : j = k
  · subst e; exact hc
  · exact h j hj (by omega)
theorem nameB_all {s : ByteArray} (h : firstAll s s.size) : nameB s = (decide (1 ≤ s.size) && decide (s.size ≤ 16)) := by
  have : s.data.toList.all chB = true := by
    rw [List.all_eq_true]
    intro c hc
    obtain ⟨j, hj, rfl⟩ := List.getElem_of_mem hc
    exact h j (by simpa using hj) (by simpa using hj)
  simp [nameB, this]
theorem nameB_not {s : ByteArray} {k : Nat} (hk : k < s.size) (h : chB s[k] = false) : nameB s = false := by
  have : s.data.toList.all chB = false := by
    rw [← Bool.not_eq_true, List.all_eq_true]
    intro hh
    have := hh (s[k]) (by exact List.getElem_mem (l := s.data.toList) (by simpa using hk))
    rw [h] at this
    cases this
  simp [nameB, this]

theorem isLetter_any (n : Int) (w : World) : Calls Try.prog 45 #[.int .u8 n] w fun e w' => e = .returned (.bool (letB n)) ∧ w = w' := by
  unfold letB
  go_enter Try.func45, Try.ntmps45
  go_wp2
  all_goals (go_ret; simp [*])
  omega
theorem isDigit_any (n : Int) (w : World) : Calls Try.prog 46 #[.int .u8 n] w fun e w' => e = .returned (.bool (digB n)) ∧ w = w' := by
  unfold digB
  go_enter Try.func46, Try.ntmps46
  go_wp2
  all_goals (go_ret; simp [*])
  omega
/-- A byte is of one of three kinds, or of none. -/
theorem ch_ways (c : UInt8) : (letB c.toNat = true ∧ chB c = true) ∨ (letB c.toNat = false ∧ digB c.toNat = true ∧ chB c = true) ∨ (letB c.toNat = false ∧ digB c.toNat = false ∧ (c.toNat : Int) = 45 ∧ chB c = true) ∨ (letB c.toNat = false ∧ digB c.toNat = false ∧ (c.toNat : Int) ≠ 45 ∧ chB c = false) := by
  unfold chB
  cases letB c.toNat <;> cases digB c.toNat <;> by_cases h : (c.toNat : Int) = 45 <;> simp [h]

set_option maxHeartbeats 1000000 in
theorem name_any (s : ByteArray) (w : World) (hs : s.size ≤ maxLen) : Calls Try.prog 26 #[.string s] w fun e w' => e = .returned (.bool (nameB s)) ∧ w = w' := by
  unfold maxLen at hs
  by_cases h1 : s.size < 1
  · have hn : nameB s = false := by simp [nameB]; omega
    rw [hn]
    clear hn
    go_enter Try.func26, Try.ntmps26
    go_wp2
    go_ret
    exact ⟨rfl, rfl⟩
  by_cases h2 : 16 < s.size
  · have hn : nameB s = false := by simp [nameB]; omega
    rw [hn]
    clear hn
    go_enter Try.func26, Try.ntmps26
    go_wp2
    go_ret
    exact ⟨rfl, rfl⟩
  go_enter Try.func26, Try.ntmps26
  go_wp2
  go_loop [3, 14] (fun _ i => ∃ k : Nat, k ≤ s.size ∧ i = .int .i64 k ∧ firstAll s k) (fun _ i => s.size - (intOf i).toNat)
  case atStart => exact ⟨0, Nat.zero_le _, rfl, firstAll_zero s⟩
  case round =>
    obtain ⟨k, hk, rfl, hall⟩ := hrel
    by_cases hlt : k < s.size
    · rcases ch_ways s[k] with ⟨g1, g4⟩ | ⟨g1, g2, g4⟩ | ⟨g1, g2, g3, g4⟩ | ⟨g1, g2, g3, g4⟩
      all_goals
        have G4 := Lib.hid g4
        clear g4
        go_wp2_with (first | (go_at_call 45; refine (isLetter_any _ _).mono ?_; rintro e w' ⟨rfl, rfl⟩) | (go_at_call 46; refine (isDigit_any _ _).mono ?_; rintro e w' ⟨rfl, rfl⟩))
      all_goals first
        | (go_round
           case rel => exact ⟨k + 1, by omega, by go_num, firstAll_succ hlt hall G4.out⟩
           case measure => simp [intOf]; omega)
        | (go_ret
           exact ⟨ret_bool (nameB_not hlt G4.out).symm, rfl⟩)
    · go_wp2
      go_ret
      obtain rfl : k = s.size := by omega
      exact ⟨ret_bool (by rw [nameB_all hall]; simp; omega), rfl⟩
end Go.Proofs.Ytcjheabcnipnlaa
