/-
  The reference's May.
-/
import Derived.Test.YtcjheabcnipnlaaMay
namespace Go.Proofs.Ytcjheabcnipnlaa
open Go.RowKit

set_option maxHeartbeats 8000000 in
theorem mayRef_any (b : Bd) (w : World) (hs : b.fits) : Calls Try.prog 10 #[.agg #[.string b.num, .string b.gua, .string b.fro, .string b.to, .string b.cur, .int .i64 b.amt, .int .i64 b.exp]] w fun e w' => e = .returned (.bool (mayB b)) ∧ Below w.heap.size w w' := by
  obtain ⟨s1, s2, s3, s4, s5⟩ := hs
  rcases names_ways b with ⟨h1, hm⟩ | ⟨h1, h2, hm⟩ | ⟨h1, h2, h3, hm⟩ | ⟨h1, h2, h3, h4, hm⟩ | ⟨h1, h2, h3, h4, hm⟩
  case inr.inr.inr.inr =>
    have HM := Lib.hid hm
    clear hm
    rcases same_ways b with ⟨g1, hq⟩ | ⟨g1, g2, hq⟩ | ⟨g1, g2, g3, hq⟩ | ⟨g1, g2, g3, hq⟩
    case inr.inr.inr =>
      have HQ := Lib.hid hq
      clear hq
      by_cases c3 : b.cur.size = 3
      · have C3 := Lib.hid c3
        have c3a : ((b.cur.size : Int) != 3) = false := by rw [c3]; rfl
        have c3b : b.cur.size ≤ 3 := by omega
        have c3c : 3 ≤ b.cur.size := by omega
        clear c3
        go_enter Try.func10, Try.ntmps10
        go_wp2_with (go_at_call 25; refine (name3_any _ _ (by assumption)).mono ?_; rintro e w' ⟨rfl, rfl⟩)
        go_loop [3] (fun i => ∃ k : Nat, k ≤ b.cur.size ∧ i = .int .i64 k ∧ firstCap b.cur k) (fun i => b.cur.size - (intOf i).toNat)
        case atStart => exact ⟨0, Nat.zero_le _, rfl, fun _ _ h => absurd h (by omega)⟩
        case round =>
          obtain ⟨k, hk, rfl, hall⟩ := hrel
          by_cases hlt : k < b.cur.size
          · by_cases q1 : (65 : Int) ≤ (b.cur[k].toNat : Int)
            all_goals by_cases q2 : (b.cur[k].toNat : Int) ≤ 90
            all_goals go_wp2
            all_goals first
              | (go_round
                 case rel => exact ⟨k + 1, by omega, by go_num, firstCap_succ hlt hall (by simp [capB]; omega)⟩
                 case measure => simp [intOf]; omega)
              | (go_ret
                 exact ⟨ret_bool (by rw [HM.out, curB_not hlt (by simp [capB]; omega)]; simp), (Below.refl _ _).alloc (Nat.le_refl _) _⟩)
          · have HC := Lib.hid (curB_all C3.out (fun j hj hj3 => hall j hj (by omega)))
            by_cases p1 : 1 ≤ b.amt
            all_goals by_cases p2 : b.amt ≤ 1099511627776
            all_goals by_cases p3 : 0 ≤ b.exp
            all_goals go_wp2
            all_goals
              go_ret
              exact ⟨ret_bool (by rw [HM.out, HQ.out, HC.out]; simp [sumB, dayB, p1, p2, p3] <;> omega), (Below.refl _ _).alloc (Nat.le_refl _) _⟩
      · have c3a : ((b.cur.size : Int) != 3) = true := by simp; omega
        have HC := Lib.hid (curB_len c3)
        clear c3
        go_enter Try.func10, Try.ntmps10
        go_wp2_with (go_at_call 25; refine (name3_any _ _ (by assumption)).mono ?_; rintro e w' ⟨rfl, rfl⟩)
        go_ret
        exact ⟨ret_bool (by rw [HM.out, HC.out]; simp), (Below.refl _ _).alloc (Nat.le_refl _) _⟩
    all_goals
      have HQ := Lib.hid hq
      clear hq
      go_enter Try.func10, Try.ntmps10
      go_wp2_with (go_at_call 25; refine (name3_any _ _ (by assumption)).mono ?_; rintro e w' ⟨rfl, rfl⟩)
      go_ret
      exact ⟨ret_bool (by rw [HM.out, HQ.out]; simp), (Below.refl _ _).alloc (Nat.le_refl _) _⟩
  all_goals
    have HM := Lib.hid hm
    clear hm
    go_enter Try.func10, Try.ntmps10
    go_wp2_with (go_at_call 25; refine (name3_any _ _ (by assumption)).mono ?_; rintro e w' ⟨rfl, rfl⟩)
    go_ret
    exact ⟨ret_bool HM.out.symm, (Below.refl _ _).alloc (Nat.le_refl _) _⟩
end Go.Proofs.Ytcjheabcnipnlaa
