/-
  field.Doc where the kind is none, or the fields are too many.
-/
import Derived.Test.YthmpdgbhbbbknaaDoorFDoc
namespace Go.Proofs.YthmpdgbhbbbknaaDoor
open Go.RowKit

set_option maxRecDepth 100000 in
set_option maxHeartbeats 4000000 in
theorem doc_no (a : Dc) (hno : a.kind < 0 ∨ 6 ≤ a.kind ∨ 61 < a.fields.length) (A : Option Addr) (c : Nat) (w : World) :
    Calls Tryd.prog 7 #[.agg #[.int .i64 a.kind, .string a.number, .string a.issuer, .slice A a.fields.length c]] w fun e w' => e = .returned (.tuple #[.string ⟨#[]⟩, .int .i64 1]) ∧ Below w.heap.size w w' := by
  have hw0 : Below w.heap.size w (w.alloc (.cells #[.int .i64 a.kind, .string a.number, .string a.issuer, .slice A a.fields.length c] 24)) := (Below.refl _ _).alloc (Nat.le_refl _) _
  have BC := (Blk.new' w 24 #[.int .i64 a.kind, .string a.number, .string a.issuer, .slice A a.fields.length c] _ rfl).all
  have hways : a.kind < 0 ∨ (¬ a.kind < 0 ∧ 6 ≤ a.kind) ∨ (¬ a.kind < 0 ∧ ¬ 6 ≤ a.kind ∧ 61 < a.fields.length) := by omega
  rcases hways with h | ⟨h, h'⟩ | ⟨h, h', h''⟩
  all_goals
    go_enter Tryd.func7, Tryd.ntmps7
    go_wp2
    go_ret2
    exact ⟨rfl, hw0⟩
end Go.Proofs.YthmpdgbhbbbknaaDoor
