/-
  FieldSames: the walk.
-/
import Derived.Test.YthmpdgbhbbbknaaFAwake
import Derived.Test.YthmpdgbhbbbknaaFEq
namespace Go.Proofs.Ythmpdgbhbbbknaa
open Go.RowKit

set_option maxRecDepth 100000 in
set_option maxHeartbeats 4000000 in
theorem few_any (a : Dc) (A : Option Addr) (c : Nat) (w : World) (h : DocIn w A a) :
    Calls Try.prog 12 #[.agg #[.int .i64 a.kind, .string a.number, .string a.issuer, .slice A a.fields.length c]] w (LongPost w) := by
  have hw0 : Below w.heap.size w (w.alloc (.cells #[.int .i64 a.kind, .string a.number, .string a.issuer, .slice A a.fields.length c] 34)) := (Below.refl _ _).alloc (Nat.le_refl _) _
  have B0 := Blk.new' w 34 #[.int .i64 a.kind, .string a.number, .string a.issuer, .slice A a.fields.length c] _ rfl
  go_enter Try.func12, Try.ntmps12
  go_wp2_with fail
  refine (long_any a.fields A _ c _ (h.lst.below hw0) h.max).mono ?_
  rintro e w1 ⟨lb, rfl, hb1⟩
  have C1 := (B0.below hb1 B0.lt).all
  have hw1 := Below.go hw0 hb1
  cases lb
  · dsimp only
    by_cases h1 : a.number.size ≤ 4200
    all_goals
      go_wp2
      go_ret
      exact ⟨_, rfl, hw1⟩
  · dsimp only
    go_wp2
    go_ret
    exact ⟨_, rfl, hw1⟩

set_option maxRecDepth 100000 in
set_option maxHeartbeats 8000000 in
theorem sames_any (a b : Dc) (A A' : Option Addr) (c c' : Nat) (w : World) (h : DocIn w A a) (h' : DocIn w A' b) :
    Calls Try.prog 4 #[.agg #[.int .i64 a.kind, .string a.number, .string a.issuer, .slice A a.fields.length c], .agg #[.int .i64 b.kind, .string b.number, .string b.issuer, .slice A' b.fields.length c']] w fun e w' => e = .returned (.bool true) ∧ Below w.heap.size w w' := by
  have hw0 : Below w.heap.size w ((w.alloc (.cells #[.int .i64 a.kind, .string a.number, .string a.issuer, .slice A a.fields.length c] 34)).alloc (.cells #[.int .i64 b.kind, .string b.number, .string b.issuer, .slice A' b.fields.length c'] 34)) := ((Below.refl _ _).alloc (Nat.le_refl _) _).alloc (by simp) _
  have B0 := (Blk.new' w 34 #[.int .i64 a.kind, .string a.number, .string a.issuer, .slice A a.fields.length c] _ rfl).alloc (.cells #[.int .i64 b.kind, .string b.number, .string b.issuer, .slice A' b.fields.length c'] 34)
  have D0 := Blk.new' (w.alloc (.cells #[.int .i64 a.kind, .string a.number, .string a.issuer, .slice A a.fields.length c] 34)) 34 #[.int .i64 b.kind, .string b.number, .string b.issuer, .slice A' b.fields.length c'] (w.heap.size + 1) (by simp)
  go_enter Try.func4, Try.ntmps4
  go_wp2_with fail
  refine (few_any a A c _ (h.below hw0)).mono ?_
  rintro e w1 ⟨f1, rfl, hb1⟩
  have B1 := B0.below hb1 B0.lt
  have D1 := D0.below hb1 D0.lt
  have BC1 := B1.all
  have DC1 := D1.all
  have hw1 := Below.go hw0 hb1
  cases f1
  · dsimp only
    go_wp2_with (go_at_call 7; refine (awake_any _).mono ?_; rintro e w6 ⟨rfl, hb6⟩; have hw6 := Below.go hw1 hb6)
    go_ret
    exact ⟨rfl, hw6⟩
  dsimp only
  go_wp2_with fail
  refine (few_any b A' c' _ (h'.below hw1)).mono ?_
  rintro e w2 ⟨f2, rfl, hb2⟩
  have B2 := B1.below hb2 B1.lt
  have D2 := D1.below hb2 D1.lt
  have BC2 := B2.all
  have DC2 := D2.all
  have hw2 := Below.go hw1 hb2
  clear BC1 DC1
  cases f2
  · dsimp only
    go_wp2_with (go_at_call 7; refine (awake_any _).mono ?_; rintro e w6 ⟨rfl, hb6⟩; have hw6 := Below.go hw2 hb6)
    go_ret
    exact ⟨rfl, hw6⟩
  dsimp only
  go_wp2
  refine wp_region_plan [(true, 0, none), (true, 1, none), (true, 3, none), (true, 4, none), (false, 2, none), (false, 5, none), (true, 6, none), (true, 7, none), (true, 8, some (21, true)), (true, 9, some (21, true)), (false, 10, some (21, true)), (true, 11, none), (true, 12, none), (false, 13, some (26, true)), (true, 14, none), (true, 15, none)] (fun w' => (∀ i, w'.cell? ⟨w.heap.size, i, none⟩ = (#[.int .i64 a.kind, .string a.number, .string a.issuer, .slice A a.fields.length c] : Array Value)[i]?) ∧ (∀ i, w'.cell? ⟨w.heap.size + 1, i, none⟩ = (#[.int .i64 b.kind, .string b.number, .string b.issuer, .slice A' b.fields.length c'] : Array Value)[i]?)) (by kernel_rfl) (by kernel_rfl) (fun _ _ d _ _ h => by cases d <;> exact h) rfl ⟨fun i => BC2 i, fun i => DC2 i⟩ (fun hHeld => ?_)
  repeat (first | (refine wpPlan_skip (by rfl) ?_; (try simp only [Act.put, List.setIfInBounds_toArray, List.set_cons_zero, List.set_cons_succ])) | (refine wpPlan_take (v := ?_) (by rfl) (by rfl) ?_ ?_; rotate_left; (focus (intro w hSw; (try dsimp only at hSw); go_simp; (try with_reducible rfl))); (try simp only [Act.put, List.setIfInBounds_toArray, List.set_cons_zero, List.set_cons_succ])))
  have b0 := B2.drew
  have d0 := D2.drew
  have hz0 := hw2.drew
  refine wpPlan_do (by rfl) (by rfl) (fun K hK => ?_); (try dsimp only)
  go_simp
  refine (docSame_any a b A A' c c' _ (h.below hz0) (h'.below hz0)).mono ?_
  rintro e v1 ⟨rfl, hv⟩
  have b1 := b0.below hv b0.lt
  have d1 := d0.below hv d0.lt
  have hz1 := Below.go hz0 hv
  dsimp only
  refine hK.out _ _ ?_ (fun hHeld => ?_)
  · exact ⟨fun i => b1.all i, fun i => d1.all i⟩
  clear hK K
  try simp only [Act.put, List.setIfInBounds_toArray, List.set_cons_zero, List.set_cons_succ]
  repeat (first | (refine wpPlan_skip (by rfl) ?_; (try simp only [Act.put, List.setIfInBounds_toArray, List.set_cons_zero, List.set_cons_succ])) | (refine wpPlan_take (v := ?_) (by rfl) (by rfl) ?_ ?_; rotate_left; (focus (intro w hSw; (try dsimp only at hSw); go_simp; (try with_reducible rfl))); (try simp only [Act.put, List.setIfInBounds_toArray, List.set_cons_zero, List.set_cons_succ])))
  refine wpPlan_do (by rfl) (by rfl) (fun K hK => ?_); (try dsimp only)
  go_simp
  refine (alike_any a b A A' c c' _ (h.below hz1) (h'.below hz1)).mono ?_
  rintro e v2 ⟨rfl, hv⟩
  have b2 := b1.below hv b1.lt
  have d2 := d1.below hv d1.lt
  have hz2 := Below.go hz1 hv
  dsimp only
  refine hK.out _ _ ?_ (fun hHeld => ?_)
  · exact ⟨fun i => b2.all i, fun i => d2.all i⟩
  clear hK K
  try simp only [Act.put, List.setIfInBounds_toArray, List.set_cons_zero, List.set_cons_succ]
  repeat (first | (refine wpPlan_skip (by rfl) ?_; (try simp only [Act.put, List.setIfInBounds_toArray, List.set_cons_zero, List.set_cons_succ])) | (refine wpPlan_take (v := ?_) (by rfl) (by rfl) ?_ ?_; rotate_left; (focus (intro w hSw; (try dsimp only at hSw); go_simp; (try with_reducible rfl))); (try simp only [Act.put, List.setIfInBounds_toArray, List.set_cons_zero, List.set_cons_succ])))
  refine wpPlan_do (by rfl) (by rfl) (fun K hK => ?_); (try dsimp only)
  go_simp
  refine (docSame_any a a A A c c _ (h.below hz2) (h.below hz2)).mono ?_
  rw [sameD_self]
  rintro e v3 ⟨rfl, hv⟩
  have b3 := b2.below hv b2.lt
  have d3 := d2.below hv d2.lt
  have hz3 := Below.go hz2 hv
  dsimp only
  refine hK.out _ _ ?_ (fun hHeld => ?_)
  · exact ⟨fun i => b3.all i, fun i => d3.all i⟩
  clear hK K
  try simp only [Act.put, List.setIfInBounds_toArray, List.set_cons_zero, List.set_cons_succ]
  repeat (first | (refine wpPlan_skip (by rfl) ?_; (try simp only [Act.put, List.setIfInBounds_toArray, List.set_cons_zero, List.set_cons_succ])) | (refine wpPlan_take (v := ?_) (by rfl) (by rfl) ?_ ?_; rotate_left; (focus (intro w hSw; (try dsimp only at hSw); go_simp; (try with_reducible rfl))); (try simp only [Act.put, List.setIfInBounds_toArray, List.set_cons_zero, List.set_cons_succ])))
  refine wpPlan_do (by rfl) (by rfl) (fun K hK => ?_); (try dsimp only)
  go_simp
  refine (awake_any _).mono ?_
  rintro e v4 ⟨rfl, hv⟩
  have b4 := b3.below hv b3.lt
  have d4 := d3.below hv d3.lt
  have hz4 := Below.go hz3 hv
  dsimp only
  refine hK.out _ _ ?_ (fun hHeld => ?_)
  · exact ⟨fun i => b4.all i, fun i => d4.all i⟩
  clear hK K
  try simp only [Act.put, List.setIfInBounds_toArray, List.set_cons_zero, List.set_cons_succ]
  repeat (first | (refine wpPlan_skip (by rfl) ?_; (try simp only [Act.put, List.setIfInBounds_toArray, List.set_cons_zero, List.set_cons_succ])) | (refine wpPlan_take (v := ?_) (by rfl) (by rfl) ?_ ?_; rotate_left; (focus (intro w hSw; (try dsimp only at hSw); go_simp; (try with_reducible rfl))); (try simp only [Act.put, List.setIfInBounds_toArray, List.set_cons_zero, List.set_cons_succ])))
  refine wpPlan_nil ?_
  go_wp2
  go_ret
  exact ⟨rfl, hz4⟩
end Go.Proofs.Ythmpdgbhbbbknaa
