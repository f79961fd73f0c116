/-
  field.kind at a kind's name: the table's cells are what the row lists.
-/
import Derived.Test.YthmpdgbhbbbknaaDoorFKind
namespace Go.Proofs.YthmpdgbhbbbknaaDoor
open Go.RowKit

def KindsAt (w : World) : Prop := ∀ i : Nat, i < 6 → w.cell? ⟨0, i, none⟩ = some (.string (kindS i))
theorem KindsAt.below {w w' : World} (h : KindsAt w) (hb : Below w.heap.size w w') : KindsAt w' := fun i hi => by
  have h1 := h i hi
  exact (hb.cell (p := ⟨0, i, none⟩) (World.block_lt_of_cell? w _ h1)).trans h1
theorem kindS_eq : ∀ j k : Fin 6, ((kindS (j.val : Int)).toList == (kindS (k.val : Int)).toList) = decide (j = k) := by decide +kernel
theorem kindS_ne (j k : Nat) (hj : j < 6) (hk : k < 6) (h : j ≠ k) : ((kindS (j : Int)).toList == (kindS (k : Int)).toList) = false := by
  rw [kindS_eq ⟨j, hj⟩ ⟨k, hk⟩]; simpa using h
theorem kindS_me (j : Nat) (hj : j < 6) : ((kindS (j : Int)).toList == (kindS (j : Int)).toList) = true := by simp

set_option maxHeartbeats 2000000 in
theorem kind_any (k : Nat) (hk : k < 6) (w : World) (h : KindsAt w) : Calls Tryd.prog 22 #[.string (kindS k)] w fun e w' => e = .returned (.int .i64 k) ∧ w' = w := by
  have HN := Lib.hid (fun j hj h => kindS_ne j k hj hk h)
  have HM := Lib.hid (kindS_me k hk)
  have HK := Lib.hid h
  clear h
  go_enter Tryd.func22, Tryd.ntmps22
  go_wp2
  go_loopw [4] (fun i wr => ∃ j : Nat, j ≤ k ∧ i = .int .i64 j ∧ wr = w) (fun i _ => 6 - (intOf i).toNat)
  case atStart => exact ⟨0, by omega, rfl, rfl⟩
  case round =>
    obtain ⟨j, hj, rfl, rfl⟩ := hrel
    have hc := HK.out j (by omega)
    by_cases e : j = k
    · subst e
      have hm := HM.out
      generalize kindS j = S at *
      go_wp2
      go_ret
      exact ⟨rfl, rfl⟩
    · have hm := HN.out j (by omega) e
      generalize kindS j = S at *
      go_wp2
      go_roundw
      case rel => exact ⟨j + 1, by omega, by go_num, by first | trivial | rfl⟩
      case measure => simp [intOf]; omega
end Go.Proofs.YthmpdgbhbbbknaaDoor
