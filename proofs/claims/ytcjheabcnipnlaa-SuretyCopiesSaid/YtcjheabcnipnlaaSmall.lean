/-
  The functions that only compute: isDay, isSum, isCurrency, right; May and the reference's May.
-/
import Derived.Test.YtcjheabcnipnlaaModel
import Derived.Test.YtcjheabcnipnlaaRefThree
import Derived.BigQuiet
import Derived.Deep.QuietTactic
namespace Go.Proofs.Ytcjheabcnipnlaa
open Go.RowKit

theorem isDay_any (d : Int) (w : World) : Calls Try.prog 29 #[.int .i64 d] w fun e w' => e = .returned (.bool (dayB d)) ∧ w = w' := by
  unfold dayB
  go_enter Try.func29, Try.ntmps29
  go_wp2
  all_goals (go_ret; simp [*] <;> omega)

theorem isSum_any (d : Int) (w : World) : Calls Try.prog 28 #[.int .i64 d] w fun e w' => e = .returned (.bool (sumB d)) ∧ w = w' := by
  unfold sumB
  go_enter Try.func28, Try.ntmps28
  go_wp2
  all_goals (go_ret; simp [*] <;> omega)

theorem right_any (n d : Int) (w : World) : Calls Try.prog 47 #[.int .i64 n, .int .i64 d] w fun e w' => e = .returned (.bool (rightB n d)) ∧ w = w' := by
  unfold rightB sumB dayB
  by_cases h1 : 1 ≤ n
  all_goals by_cases h2 : n ≤ 1099511627776
  all_goals by_cases h3 : 0 ≤ d
  all_goals
    go_enter Try.func47, Try.ntmps47
    go_wp2
  all_goals (go_ret; simp [*] <;> omega)

def capB (c : UInt8) : Bool := decide (65 ≤ (c.toNat : Int)) && decide ((c.toNat : Int) ≤ 90)
def firstCap (s : ByteArray) (k : Nat) : Prop := ∀ j (h : j < s.size), j < k → capB s[j] = true
theorem curB_all {s : ByteArray} (h3 : s.size = 3) (h : firstCap s 3) : curB s = true := by
  simp only [curB, h3, decide_true, Bool.true_and, List.all_eq_true]
  intro c hc
  obtain ⟨j, hj, rfl⟩ := List.getElem_of_mem hc
  have hj' : j < s.size := by simpa using hj
  exact h j hj' (by omega)
theorem curB_not {s : ByteArray} {k : Nat} (hk : k < s.size) (h : capB s[k] = false) : curB s = false := by
  have : (s.data.toList.all fun c => decide (65 ≤ (c.toNat : Int)) && decide ((c.toNat : Int) ≤ 90)) = false := by
    rw [← Bool.not_eq_true, List.all_eq_true]
    intro hh
    have := hh (s[k]) (List.getElem_mem (l := s.data.toList) (by simpa using hk))
    unfold capB at h
    rw [h] at this
    cases this
  simp [curB, this]
theorem curB_len {s : ByteArray} (h : s.size ≠ 3) : curB s = false := by simp [curB, h]
theorem firstCap_succ {s : ByteArray} {k : Nat} (hk : k < s.size) (h : firstCap s k) (hc : capB s[k] = true) : firstCap s (k + 1) := fun j hj hjk => by
  by_cases e : j = k
  · subst e; exact hc
  · exact h j hj (by omega)

set_option maxHeartbeats 1000000 in
theorem isCurrency_any (s : ByteArray) (w : World) (hs : s.size ≤ maxLen) : Calls Try.prog 27 #[.string s] w fun e w' => e = .returned (.bool (curB s)) ∧ w = w' := by
  unfold maxLen at hs
  by_cases h3 : s.size = 3
  · have H3 := Lib.hid h3
    have h3a : ((s.size : Int) != 3) = false := by rw [h3]; rfl
    have h3b : s.size ≤ 3 := by omega
    have h3c : 3 ≤ s.size := by omega
    clear h3
    go_enter Try.func27, Try.ntmps27
    go_wp2
    go_loop [3, 9] (fun _ i => ∃ k : Nat, k ≤ s.size ∧ i = .int .i64 k ∧ firstCap s k) (fun _ i => s.size - (intOf i).toNat)
    case atStart => exact ⟨0, Nat.zero_le _, rfl, fun _ _ h => absurd h (by omega)⟩
    case round =>
      obtain ⟨k, hk, rfl, hall⟩ := hrel
      by_cases hlt : k < s.size
      · have hc : capB s[k] = true ∨ capB s[k] = false := by cases capB s[k] <;> simp
        by_cases g1 : (65 : Int) ≤ (s[k].toNat : Int)
        all_goals by_cases g2 : (s[k].toNat : Int) ≤ 90
        all_goals go_wp2
        all_goals first
          | (go_round
             case rel => exact ⟨k + 1, by omega, by go_num, firstCap_succ hlt hall (by simp [capB]; omega)⟩
             case measure => simp [intOf]; omega)
          | (go_ret
             exact ⟨ret_bool (curB_not hlt (by simp [capB]; omega)).symm, rfl⟩)
      · go_wp2
        go_ret
        exact ⟨ret_bool (curB_all H3.out (fun j hj hj3 => hall j hj (by omega))).symm, rfl⟩
  · have h3a : ((s.size : Int) != 3) = true := by simp; omega
    rw [curB_len h3]
    clear h3
    go_enter Try.func27, Try.ntmps27
    go_wp2
    go_ret
    exact ⟨rfl, rfl⟩
end Go.Proofs.Ytcjheabcnipnlaa
