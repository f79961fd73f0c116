/-
  Names: the test (no program in sight).
-/
import Derived.Test.YthmpdgbhbbbknaaDoorBase
namespace Go.Proofs.YthmpdgbhbbbknaaDoor
open Go.RowKit

def letB (n : Int) : Bool := decide (97 ≤ n) && decide (n ≤ 122)
def digB (n : Int) : Bool := decide (48 ≤ n) && decide (n ≤ 57)
def chB (c : UInt8) : Bool := letB c.toNat || digB c.toNat || decide ((c.toNat : Int) = 45)
def nameB (s : ByteArray) : Bool := decide (1 ≤ s.size) && decide (s.size ≤ 16) && s.data.toList.all chB
def firstAll (s : ByteArray) (k : Nat) : Prop := ∀ j (h : j < s.size), j < k → chB s[j] = true
theorem firstAll_zero (s : ByteArray) : firstAll s 0 := fun _ _ h => absurd h (by omega)
theorem firstAll_succ {s : ByteArray} {k : Nat} (hk : k < s.size) (h : firstAll s k) (hc : chB s[k] = true) : firstAll s (k + 1) := fun j hj hjk => by
  by_cases e : j = k
  · subst e; exact hc
  · exact h j hj (by omega)
theorem nameB_all {s : ByteArray} (h : firstAll s s.size) : nameB s = (decide (1 ≤ s.size) && decide (s.size ≤ 16)) := by
  have : s.data.toList.all chB = true := by
    rw [List.all_eq_true]
    intro c hc
    obtain ⟨j, hj, rfl⟩ := List.getElem_of_mem hc
    exact h j (by simpa using hj) (by simpa using hj)
  simp [nameB, this]
theorem nameB_not {s : ByteArray} {k : Nat} (hk : k < s.size) (h : chB s[k] = false) : nameB s = false := by
  have : s.data.toList.all chB = false := by
    rw [← Bool.not_eq_true, List.all_eq_true]
    intro hh
    have := hh (s[k]) (by exact List.getElem_mem (l := s.data.toList) (by simpa using hk))
    rw [h] at this
    cases this
  simp [nameB, this]

/-- A byte is of one of three kinds, or of none. -/
theorem ch_ways (c : UInt8) : (letB c.toNat = true ∧ chB c = true) ∨ (letB c.toNat = false ∧ digB c.toNat = true ∧ chB c = true) ∨ (letB c.toNat = false ∧ digB c.toNat = false ∧ (c.toNat : Int) = 45 ∧ chB c = true) ∨ (letB c.toNat = false ∧ digB c.toNat = false ∧ (c.toNat : Int) ≠ 45 ∧ chB c = false) := by
  unfold chB
  cases letB c.toNat <;> cases digB c.toNat <;> by_cases h : (c.toNat : Int) = 45 <;> simp [h]

end Go.Proofs.YthmpdgbhbbbknaaDoor
