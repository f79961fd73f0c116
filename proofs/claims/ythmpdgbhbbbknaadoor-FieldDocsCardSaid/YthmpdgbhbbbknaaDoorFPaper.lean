/-
  The reference's Paper.
-/
import Derived.Test.YthmpdgbhbbbknaaDoorFDocNo
namespace Go.Proofs.YthmpdgbhbbbknaaDoor
open Go.RowKit

def papB (a : Dc) : Bool := decide (kindS a.kind ≠ ⟨#[]⟩) && decide (a.number.size ≤ 4096) && decide (a.issuer.size ≤ 4096) && decide (a.fields.length ≤ 61)
def PaperPost (a : Dc) (w : World) (e : Ending) (w' : World) : Prop := ∃ b : Bool, e = .returned (.bool b) ∧ (b = true ↔ ((∀ f ∈ a.fields, mayF f = true) ∧ 0 ≤ a.kind ∧ a.kind < 6 ∧ a.number.size ≤ 4096 ∧ a.issuer.size ≤ 4096 ∧ a.fields.length ≤ 61)) ∧ Below w.heap.size w w'
theorem kindS_none {k : Int} : (kindS k).toList = [] ↔ (k < 0 ∨ 6 ≤ k) := by
  rcases kind_ways k with ⟨h, e⟩ | ⟨h, e⟩ | rfl | rfl | rfl | rfl | rfl | rfl
  · rw [e]; exact ⟨fun _ => .inl h, fun _ => by decide +kernel⟩
  · rw [e]; exact ⟨fun _ => .inr (by omega), fun _ => by decide +kernel⟩
  all_goals decide +kernel
end Go.Proofs.YthmpdgbhbbbknaaDoor
