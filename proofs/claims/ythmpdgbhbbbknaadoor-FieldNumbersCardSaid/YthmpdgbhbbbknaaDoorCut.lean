/-
  strings.Cut at one byte that is there.
-/
import Derived.Test.YthmpdgbhbbbknaaDoorSearch
import Derived.IntWalk
namespace Go.Proofs.YthmpdgbhbbbknaaDoor
open Go.RowKit

set_option maxHeartbeats 2000000 in
theorem cutIn_any (a b : List UInt8) (c : UInt8) (hi : Lib.indexByte (a ++ c :: b) c = (a.length : Int)) (hl : (a ++ c :: b).length ≤ 100000) (w : World) :
    Calls Tryd.prog 41 #[.string ⟨(a ++ c :: b).toArray⟩, .string ⟨#[c]⟩] w fun e w' => e = .returned (.tuple #[.string ⟨a.toArray⟩, .string ⟨b.toArray⟩, .bool true]) ∧ Below w.heap.size w w' := by
  have hl' : a.length + b.length < 100000 := by simp at hl; omega
  generalize hs : a ++ c :: b = L at *
  have HS := Lib.hid hs
  clear hs
  go_enter Tryd.func41, Tryd.ntmps41
  go_wp2_with (go_at_call 53; refine (index_one _ c _).mono ?_; rintro e w1 ⟨rfl, rfl⟩)
  have hz : a.length + 1 ≤ L.length := by rw [← HS.out]; simp
  have hz0 : a.length ≤ L.length := by omega
  have hz2 : L.length < 100001 := by rw [← HS.out]; simp; omega
  have x1 : (0 : Int) ≤ (a.length : Int) + 1 := by omega
  have x2 : (a.length : Int) + 1 ≤ (L.length : Int) := by omega
  have x3 : IntKind.i64.wrap ((a.length : Int) + 1) = (a.length : Int) + 1 := IntWalk.i64_in _ (by omega)
  have x4 : ((a.length : Int) + 1).toNat = a.length + 1 := by omega
  have e1 : (ByteArray.mk L.toArray).extract 0 a.length = ⟨a.toArray⟩ := by
    rw [← HS.out]
    apply ByteArray.ext
    simp
  have e2 : (ByteArray.mk L.toArray).extract (a.length + 1) L.length = ⟨b.toArray⟩ := by
    rw [← HS.out]
    apply ByteArray.ext
    rw [ByteArray.data_extract]
    apply Array.toList_inj.1
    rw [Array.toList_extract]
    have e : (a ++ c :: b).drop (a.length + 1) = b := by
      rw [List.drop_append]
      simp
    rw [List.extract_eq_take_drop, e, List.take_of_length_le (by simp; omega)]
  have E1 := Lib.hid e1
  have E2 := Lib.hid e2
  clear e1 e2
  refine wp_region_plan_still [(true, 0, none), (true, 1, none), (true, 2, none), (true, 3, none), (true, 4, none), (true, 5, none), (true, 6, none), (true, 7, none), (true, 8, none), (true, 9, none), (true, 10, none), (true, 11, none)] (by kernel_rfl) (by kernel_rfl) (fun _ _ d _ _ h => by cases d <;> exact h) rfl ?_
  repeat (first | (refine wpPlan_skip (by rfl) ?_; (try simp only [Act.put, List.setIfInBounds_toArray, List.set_cons_zero, List.set_cons_succ])) | (refine wpPlan_take (v := ?_) (by rfl) (by rfl) ?_ ?_; rotate_left; (focus (intro w hSw; (try dsimp only at hSw); go_simp; (try with_reducible rfl))); (try simp only [Act.put, List.setIfInBounds_toArray, List.set_cons_zero, List.set_cons_succ])))
  refine wpPlan_nil ?_
  go_wp2
  refine bodyPost_ret (v := .tuple #[.string ⟨a.toArray⟩, .string ⟨b.toArray⟩, .bool true]) (by simp [results, Tryd.results41, go_sem, E1.out, E2.out]) rfl ⟨rfl, (Below.refl _ _).drew⟩

theorem cut_any (a b : List UInt8) (c : UInt8) (hi : Lib.indexByte (a ++ c :: b) c = (a.length : Int)) (hl : (a ++ c :: b).length ≤ 100000) (w : World) :
    Calls Tryd.prog 33 #[.string ⟨(a ++ c :: b).toArray⟩, .string ⟨#[c]⟩] w fun e w' => e = .returned (.tuple #[.string ⟨a.toArray⟩, .string ⟨b.toArray⟩, .bool true]) ∧ Below w.heap.size w w' := by
  generalize hs : a ++ c :: b = L at *
  have HS := Lib.hid hs
  clear hs
  go_enter Tryd.func33, Tryd.ntmps33
  go_wp2_with (go_at_call 41; rw [← HS.out] at hi hl ⊢; refine (cutIn_any a b c hi hl _).mono ?_; rintro e w1 ⟨rfl, hb⟩)
  go_ret3
  exact ⟨rfl, hb⟩
end Go.Proofs.YthmpdgbhbbbknaaDoor
