/-
  awake: the walk.
-/
import Derived.Test.YtcjheabcnipnlaaAwake
namespace Go.Proofs.Ytcjheabcnipnlaa
open Go.RowKit

set_option maxRecDepth 100000 in
set_option maxHeartbeats 2000000 in
theorem awake_any (w : World) : Calls Try.prog 9 #[] w fun e w' => e = .returned (.bool true) ∧ Below w.heap.size w w' := by
  go_enter Try.func9, Try.ntmps9
  go_wp2_with (first | (go_at_call 23; refine (bond_any _).mono ?_; rintro e w1 ⟨rfl, hb1⟩) | (go_at_call 11; refine (new_yes exB _ ex_fits ex_may).mono ?_; rintro e w2 ⟨g, rfl, hS, hg, hb2⟩; have hM : Mine w w2 g ex0 := ⟨[g], hS, fun b hb => by simp at hb; have := hb1.size; omega, Below.go hb1 hb2⟩; clear hS) | (go_at_call 24; refine (reduce_mine hM 30 5 (by decide)).mono ?_; rw [ex_red]; rintro e w3 ⟨rfl, hM⟩) | (go_at_call 17; refine (demand_mine hM ⟨#[98]⟩ 80 4 (by decide)).mono ?_; rw [ex_ask]; rintro e w3 ⟨rfl, hM⟩) | (go_at_call 20; refine (extend_mine hM 0 20).mono ?_; rw [ex_ext]; rintro e w3 ⟨rfl, hM⟩) | (go_at_call 18; refine (expired_mine hM 10).mono ?_; rw [ex_exp]; rintro e w3 ⟨rfl, hM⟩) | (go_at_call 14; refine (left_mine hM _).mono ?_; (first | rw [ex_l4] | rw [ex_l5] | rw [ex_l0] | rw [ex_l7]); rintro e w3 ⟨rfl, hM⟩))
  go_ret
  obtain ⟨fp, _, _, hb⟩ := hM
  exact ⟨rfl, hb⟩
end Go.Proofs.Ytcjheabcnipnlaa
