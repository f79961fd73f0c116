/-
  SuretyMays: the walk.
-/
import Derived.Test.YtcjheabcnipnlaaAwakeB
import Derived.Test.YtcjheabcnipnlaaMayRef
import Derived.Test.YtcjheabcnipnlaaPlan
namespace Go.Proofs.Ytcjheabcnipnlaa
open Go.RowKit

theorem start_left (b : Bd) (h : mayB b = true) : left (start b) 0 = b.amt := by
  have := (start_ok h).a1
  simp [start] at this
  simp [left, start, cutSum, askSum]
  omega

set_option maxRecDepth 100000 in
set_option maxHeartbeats 4000000 in
theorem mays_no (b : Bd) (w : World) (hs : b.fits) (hm : mayB b = false) : Calls Try.prog 3 #[.agg #[.string b.num, .string b.gua, .string b.fro, .string b.to, .string b.cur, .int .i64 b.amt, .int .i64 b.exp]] w fun e w' => e = .returned (.bool true) ∧ Below w.heap.size w w' := by
  go_enter Try.func3, Try.ntmps3
  go_wp2_with (first | (go_at_call 9; refine (awake_any _).mono ?_; rintro e w1 ⟨rfl, hb1⟩; have B0 := (Blk.new' _ _ _ w.heap.size rfl).below hb1 (by simp); have C0 := B0.all; have hw1 := Below.go (show Below w.heap.size w _ by repeat (first | with_reducible exact Below.refl _ _ | (with_reducible refine Below.setCell ?_ (by first | omega | (simp <;> omega)) _) | (with_reducible refine Below.alloc ?_ (by first | omega | (simp <;> omega)) _) | (with_reducible refine Below.drew ?_) | (with_reducible refine belowN ?_ _))) hb1; have hz1 : w.heap.size < w1.heap.size := B0.lt; clear hb1) | (go_at_call 10; refine (mayRef_any b _ hs).mono ?_; rw [hm]; rintro e w2 ⟨rfl, hb2⟩; have B1 := B0.below hb2 hz1; have C1 := B1.all; have hw2 := Below.go hw1 hb2; have hz2 : w.heap.size < w2.heap.size := B1.lt; clear C0 hb2) | (go_at_call 11; refine (new_no b _ hs hm).mono ?_; rintro e w3 ⟨rfl, hb3⟩; have B2 := B1.below hb3 hz2; have C2 := B2.all; have hw3 := Below.go hw2 hb3; have hz3 : w.heap.size < w3.heap.size := B2.lt; clear C1 hb3))
  refine wp_region_plan [(true, 0, none), (true, 2, none), (false, 1, none), (true, 3, none), (true, 4, none), (true, 5, some (19, true)), (true, 6, some (19, true)), (true, 7, some (19, true)), (true, 8, some (19, true)), (true, 9, none), (true, 10, none), (true, 11, some (25, true)), (true, 12, some (25, true)), (true, 13, some (25, true)), (true, 14, some (25, true)), (true, 15, none), (true, 16, none), (true, 17, some (31, true)), (true, 18, some (31, true)), (true, 19, some (33, false)), (true, 20, some (33, false)), (true, 21, some (31, true)), (true, 22, none), (true, 23, none), (true, 24, some (38, true)), (true, 25, some (38, true)), (true, 26, some (38, true)), (true, 27, some (41, false)), (false, 28, some (41, false)), (true, 29, some (41, false)), (true, 30, some (41, false)), (true, 31, some (41, false)), (true, 32, some (46, true)), (true, 34, some (46, true)), (true, 35, some (46, true)), (true, 36, some (46, true)), (false, 33, some (46, true)), (true, 37, some (46, true)), (true, 38, some (41, false)), (true, 39, some (38, true)), (true, 40, none), (true, 41, none)] (fun w' => ∀ i, w'.cell? ⟨w.heap.size, i, none⟩ = (#[.string b.num, .string b.gua, .string b.fro, .string b.to, .string b.cur, .int .i64 b.amt, .int .i64 b.exp] : Array Value)[i]?) (by kernel_rfl) (by kernel_rfl) (fun _ _ d _ _ h => by cases d <;> exact h) rfl (fun i => C2 i) (fun hHeld => ?_)
  first | (refine wpPlan_skip (by rfl) ?_; (try simp only [Act.put, List.setIfInBounds_toArray, List.set_cons_zero, List.set_cons_succ])) | (refine wpPlan_take (v := ?_) (by rfl) (by rfl) ?_ ?_; rotate_left; (focus (intro w hSw; (try dsimp only at hSw); go_simp; (try with_reducible rfl))); (try simp only [Act.put, List.setIfInBounds_toArray, List.set_cons_zero, List.set_cons_succ]))
  first | (refine wpPlan_skip (by rfl) ?_; (try simp only [Act.put, List.setIfInBounds_toArray, List.set_cons_zero, List.set_cons_succ])) | (refine wpPlan_take (v := ?_) (by rfl) (by rfl) ?_ ?_; rotate_left; (focus (intro w hSw; (try dsimp only at hSw); go_simp; (try with_reducible rfl))); (try simp only [Act.put, List.setIfInBounds_toArray, List.set_cons_zero, List.set_cons_succ]))
  refine wpPlan_do (by rfl) (by rfl) (fun K hK => ?_); (try dsimp only)
  go_simp
  refine (may_any b _ hs).mono ?_
  rw [hm]
  rintro e w4 ⟨rfl, hb4⟩
  have B4 := B2.drew.below hb4 (by simp; omega)
  have C4 := B4.all
  have hw4 := Below.go hw3.drew hb4
  dsimp only
  refine hK.out _ _ ?_ (fun hHeld => ?_)
  · exact fun i => C4 i
  clear hK K
  try simp only [Act.put, List.setIfInBounds_toArray, List.set_cons_zero, List.set_cons_succ]
  repeat (first | (refine wpPlan_skip (by rfl) ?_; (try simp only [Act.put, List.setIfInBounds_toArray, List.set_cons_zero, List.set_cons_succ])) | (refine wpPlan_take (v := ?_) (by rfl) (by rfl) ?_ ?_; rotate_left; (focus (intro w hSw; (try dsimp only at hSw); go_simp; (try with_reducible rfl))); (try simp only [Act.put, List.setIfInBounds_toArray, List.set_cons_zero, List.set_cons_succ])))
  refine wpPlan_nil ?_
  go_wp2
  go_ret
  exact ⟨rfl, hw4⟩

set_option maxRecDepth 100000 in
set_option maxHeartbeats 4000000 in
theorem mays_yes (b : Bd) (w : World) (hs : b.fits) (hm : mayB b = true) : Calls Try.prog 3 #[.agg #[.string b.num, .string b.gua, .string b.fro, .string b.to, .string b.cur, .int .i64 b.amt, .int .i64 b.exp]] w fun e w' => e = .returned (.bool true) ∧ Below w.heap.size w w' := by
  have HL := start_left b hm
  go_enter Try.func3, Try.ntmps3
  go_wp2_with (first | (go_at_call 9; refine (awake_any _).mono ?_; rintro e w1 ⟨rfl, hb1⟩; have B0 := (Blk.new' _ _ _ w.heap.size rfl).below hb1 (by simp); have C0 := B0.all; have hw1 := Below.go (show Below w.heap.size w _ by repeat (first | with_reducible exact Below.refl _ _ | (with_reducible refine Below.setCell ?_ (by first | omega | (simp <;> omega)) _) | (with_reducible refine Below.alloc ?_ (by first | omega | (simp <;> omega)) _) | (with_reducible refine Below.drew ?_) | (with_reducible refine belowN ?_ _))) hb1; have hz1 : w.heap.size < w1.heap.size := B0.lt; clear hb1) | (go_at_call 10; refine (mayRef_any b _ hs).mono ?_; rw [hm]; rintro e w2 ⟨rfl, hb2⟩; have B1 := B0.below hb2 hz1; have C1 := B1.all; have hw2 := Below.go hw1 hb2; have hz2 : w.heap.size < w2.heap.size := B1.lt; clear C0 hb2) | (go_at_call 11; refine (new_yes b _ hs hm).mono ?_; rintro e w3 ⟨g, rfl, hS, hg, hb3⟩; have B2 := B1.below hb3 hz2; have C2 := B2.all; have hw3 := Below.go hw2 hb3; have hz3 : w.heap.size < w3.heap.size := B2.lt; clear C1 hb3))
  refine wp_region_plan [(true, 0, none), (true, 2, none), (false, 1, none), (true, 3, none), (true, 4, none), (true, 5, some (19, true)), (true, 6, some (19, true)), (true, 7, some (19, true)), (true, 8, some (19, true)), (true, 9, none), (true, 10, none), (true, 11, some (25, true)), (true, 12, some (25, true)), (true, 13, some (25, true)), (true, 14, some (25, true)), (true, 15, none), (true, 16, none), (true, 17, some (31, true)), (true, 18, some (31, true)), (true, 19, some (33, false)), (true, 20, some (33, false)), (true, 21, some (31, true)), (true, 22, none), (true, 23, none), (true, 24, some (38, true)), (true, 25, some (38, true)), (true, 26, some (38, true)), (true, 27, some (41, false)), (false, 28, some (41, false)), (true, 29, some (41, false)), (true, 30, some (41, false)), (true, 31, some (41, false)), (true, 32, some (46, true)), (true, 34, some (46, true)), (true, 35, some (46, true)), (true, 36, some (46, true)), (false, 33, some (46, true)), (true, 37, some (46, true)), (true, 38, some (41, false)), (true, 39, some (38, true)), (true, 40, none), (true, 41, none)] (fun w' => ∀ i, w'.cell? ⟨w.heap.size, i, none⟩ = (#[.string b.num, .string b.gua, .string b.fro, .string b.to, .string b.cur, .int .i64 b.amt, .int .i64 b.exp] : Array Value)[i]?) (by kernel_rfl) (by kernel_rfl) (fun _ _ d _ _ h => by cases d <;> exact h) rfl (fun i => C2 i) (fun hHeld => ?_)
  first | (refine wpPlan_skip (by rfl) ?_; (try simp only [Act.put, List.setIfInBounds_toArray, List.set_cons_zero, List.set_cons_succ])) | (refine wpPlan_take (v := ?_) (by rfl) (by rfl) ?_ ?_; rotate_left; (focus (intro w hSw; (try dsimp only at hSw); go_simp; (try with_reducible rfl))); (try simp only [Act.put, List.setIfInBounds_toArray, List.set_cons_zero, List.set_cons_succ]))
  first | (refine wpPlan_skip (by rfl) ?_; (try simp only [Act.put, List.setIfInBounds_toArray, List.set_cons_zero, List.set_cons_succ])) | (refine wpPlan_take (v := ?_) (by rfl) (by rfl) ?_ ?_; rotate_left; (focus (intro w hSw; (try dsimp only at hSw); go_simp; (try with_reducible rfl))); (try simp only [Act.put, List.setIfInBounds_toArray, List.set_cons_zero, List.set_cons_succ]))
  refine wpPlan_do (by rfl) (by rfl) (fun K hK => ?_); (try dsimp only)
  go_simp
  refine (may_any b _ hs).mono ?_
  rw [hm]
  rintro e w4 ⟨rfl, hb4⟩
  have B4 := B2.drew.below hb4 (by simp; omega)
  have C4 := B4.all
  have hw4 := Below.go hw3.drew hb4
  have hS4 := (hS.below (Below.refl _ _).drew).below hb4
  clear hS
  dsimp only
  refine hK.out _ _ ?_ (fun hHeld => ?_)
  · exact fun i => C4 i
  clear hK K
  try simp only [Act.put, List.setIfInBounds_toArray, List.set_cons_zero, List.set_cons_succ]
  repeat (first | (refine wpPlan_skip (by rfl) ?_; (try simp only [Act.put, List.setIfInBounds_toArray, List.set_cons_zero, List.set_cons_succ])) | (refine wpPlan_take (v := ?_) (by rfl) (by rfl) ?_ ?_; rotate_left; (focus (intro w hSw; (try dsimp only at hSw); go_simp; (try with_reducible rfl))); (try simp only [Act.put, List.setIfInBounds_toArray, List.set_cons_zero, List.set_cons_succ])))
  refine wpPlan_do (by rfl) (by rfl) (fun K hK => ?_); (try dsimp only)
  go_simp
  obtain ⟨A1, c1, A2, c2, hS4, _⟩ := hS4
  refine (demands_any g (start b) A1 A2 c1 c2 _ hS4).mono ?_
  rintro e w5 ⟨A3, c3, rfl, ho, _, hb5⟩
  have B5 := B4.below hb5 B4.lt
  have C5 := B5.all
  have hw5 := Below.go hw4 hb5
  have hS5 := hS4.below hb5
  clear hS4
  dsimp only
  refine hK.out _ _ ?_ (fun hHeld => ?_)
  · exact fun i => C5 i
  clear hK K
  try simp only [Act.put, List.setIfInBounds_toArray, List.set_cons_zero, List.set_cons_succ]
  repeat (first | (refine wpPlan_skip (by rfl) ?_; (try simp only [Act.put, List.setIfInBounds_toArray, List.set_cons_zero, List.set_cons_succ])) | (refine wpPlan_take (v := ?_) (by rfl) (by rfl) ?_ ?_; rotate_left; (focus (intro w hSw; (try dsimp only at hSw); go_simp; (try with_reducible rfl))); (try simp only [Act.put, List.setIfInBounds_toArray, List.set_cons_zero, List.set_cons_succ])))
  refine wpPlan_do (by rfl) (by rfl) (fun K hK => ?_); (try dsimp only)
  go_simp
  refine (left_any g (start b) A1 A2 c1 c2 0 _ hS5).mono ?_
  rw [HL]
  rintro e w6 ⟨rfl, hb6⟩
  have B6 := B5.below hb6 B5.lt
  have C6 := B6.all
  have hw6 := Below.go hw5 hb6
  dsimp only
  refine hK.out _ _ ?_ (fun hHeld => ?_)
  · exact fun i => C6 i
  clear hK K
  try simp only [Act.put, List.setIfInBounds_toArray, List.set_cons_zero, List.set_cons_succ]
  repeat (first | (refine wpPlan_skip (by rfl) ?_; (try simp only [Act.put, List.setIfInBounds_toArray, List.set_cons_zero, List.set_cons_succ])) | (refine wpPlan_take (v := ?_) (by rfl) (by rfl) ?_ ?_; rotate_left; (focus (intro w hSw; (try dsimp only at hSw); go_simp; (try with_reducible rfl))); (try simp only [Act.put, List.setIfInBounds_toArray, List.set_cons_zero, List.set_cons_succ])))
  refine wpPlan_nil ?_
  go_wp2
  go_ret
  exact ⟨rfl, hw6⟩

theorem mays_any (b : Bd) (w : World) (hs : b.fits) : Calls Try.prog 3 #[.agg #[.string b.num, .string b.gua, .string b.fro, .string b.to, .string b.cur, .int .i64 b.amt, .int .i64 b.exp]] w fun e w' => e = .returned (.bool true) ∧ Below w.heap.size w w' := by
  cases hm : mayB b
  · exact mays_no b w hs hm
  · exact mays_yes b w hs hm
end Go.Proofs.Ytcjheabcnipnlaa
