/-
  A new slice of the call's own, as a result.
-/
import Derived.Test.YthmpdgbhbbbknaaDoorSrc
namespace Go.Proofs.YthmpdgbhbbbknaaDoor
open Go.RowKit

def NewSl (e : TypeId) (k : Nat) (xs : List Value) (n : Nat) (w : World) (en : Ending) (w' : World) : Prop :=
  ∃ A c, en = .returned (.slice A n c) ∧ Own w' e k A n c xs ∧ (∀ b ∈ fpo A, w.heap.size ≤ b) ∧ Below w.heap.size w w'
end Go.Proofs.YthmpdgbhbbbknaaDoor
