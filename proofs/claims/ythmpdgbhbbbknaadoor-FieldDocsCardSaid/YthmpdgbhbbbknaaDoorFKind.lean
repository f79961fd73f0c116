/-
  The kinds' names; the reference's Kind.
-/
import Derived.Test.YthmpdgbhbbbknaaDoorFName
namespace Go.Proofs.YthmpdgbhbbbknaaDoor
open Go.RowKit

def kindS (k : Int) : ByteArray := if k = 0 then ⟨#[105, 110, 118, 111, 105, 99, 101]⟩ else if k = 1 then ⟨#[112, 97, 99, 107, 105, 110, 103]⟩ else if k = 2 then ⟨#[108, 97, 100, 105, 110, 103]⟩ else if k = 3 then ⟨#[105, 110, 115, 117, 114, 97, 110, 99, 101]⟩ else if k = 4 then ⟨#[111, 114, 105, 103, 105, 110]⟩ else if k = 5 then ⟨#[100, 114, 97, 102, 116]⟩ else ⟨#[]⟩
theorem kind_ways (k : Int) : (k < 0 ∧ kindS k = ⟨#[]⟩) ∨ (5 < k ∧ kindS k = ⟨#[]⟩) ∨ k = 0 ∨ k = 1 ∨ k = 2 ∨ k = 3 ∨ k = 4 ∨ k = 5 := by
  by_cases h : k < 0
  · exact .inl ⟨h, by unfold kindS; repeat rw [if_neg (by omega)]⟩
  · by_cases h5 : 5 < k
    · exact .inr (.inl ⟨h5, by unfold kindS; repeat rw [if_neg (by omega)]⟩)
    · omega

set_option maxHeartbeats 2000000 in
theorem refKind_any (k : Int) (w : World) : Calls Tryd.prog 21 #[.int .i64 k] w fun e w' => e = .returned (.string (kindS k)) ∧ Below w.heap.size w w' := by
  rcases kind_ways k with ⟨h, e⟩ | ⟨h, e⟩ | rfl | rfl | rfl | rfl | rfl | rfl
  · rw [e]
    clear e
    go_enter Tryd.func21, Tryd.ntmps21
    go_wp2
    go_ret
    exact ⟨rfl, by repeat (first | with_reducible exact Below.refl _ _ | (with_reducible refine Below.setCell ?_ (by first | omega | (simp <;> omega)) _) | (with_reducible refine Below.alloc ?_ (by first | omega | (simp <;> omega)) _) | (with_reducible refine Below.drew ?_) | (with_reducible refine belowN ?_ _))⟩
  · rw [e]
    clear e
    go_enter Tryd.func21, Tryd.ntmps21
    go_wp2
    go_ret
    exact ⟨rfl, by repeat (first | with_reducible exact Below.refl _ _ | (with_reducible refine Below.setCell ?_ (by first | omega | (simp <;> omega)) _) | (with_reducible refine Below.alloc ?_ (by first | omega | (simp <;> omega)) _) | (with_reducible refine Below.drew ?_) | (with_reducible refine belowN ?_ _))⟩
  all_goals
    go_enter Tryd.func21, Tryd.ntmps21
    go_wp2
    go_ret
    exact ⟨rfl, by repeat (first | with_reducible exact Below.refl _ _ | (with_reducible refine Below.setCell ?_ (by first | omega | (simp <;> omega)) _) | (with_reducible refine Below.alloc ?_ (by first | omega | (simp <;> omega)) _) | (with_reducible refine Below.drew ?_) | (with_reducible refine belowN ?_ _))⟩
end Go.Proofs.YthmpdgbhbbbknaaDoor
