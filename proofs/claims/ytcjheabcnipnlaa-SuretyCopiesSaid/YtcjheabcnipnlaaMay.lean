/-
  May and the reference's May.
-/
import Derived.Test.YtcjheabcnipnlaaSmall
namespace Go.Proofs.Ytcjheabcnipnlaa
open Go.RowKit

def Bd.fits (b : Bd) : Prop := b.num.size ≤ maxLen ∧ b.gua.size ≤ maxLen ∧ b.fro.size ≤ maxLen ∧ b.to.size ≤ maxLen ∧ b.cur.size ≤ maxLen

/-- Whether names are, one behind the other. -/
theorem names_ways (b : Bd) : (nameB b.num = false ∧ mayB b = false) ∨ (nameB b.num = true ∧ nameB b.gua = false ∧ mayB b = false) ∨ (nameB b.num = true ∧ nameB b.gua = true ∧ nameB b.fro = false ∧ mayB b = false) ∨
    (nameB b.num = true ∧ nameB b.gua = true ∧ nameB b.fro = true ∧ nameB b.to = false ∧ mayB b = false) ∨ (nameB b.num = true ∧ nameB b.gua = true ∧ nameB b.fro = true ∧ nameB b.to = true ∧ mayB b = (!sameB b && curB b.cur && sumB b.amt && dayB b.exp)) := by
  unfold mayB namesB
  cases nameB b.num <;> cases nameB b.gua <;> cases nameB b.fro <;> cases nameB b.to <;> simp
theorem same_ways (b : Bd) : ((b.gua.toList == b.fro.toList) = true ∧ sameB b = true) ∨ ((b.gua.toList == b.fro.toList) = false ∧ (b.gua.toList == b.to.toList) = true ∧ sameB b = true) ∨ ((b.gua.toList == b.fro.toList) = false ∧ (b.gua.toList == b.to.toList) = false ∧ (b.fro.toList == b.to.toList) = true ∧ sameB b = true) ∨
    ((b.gua.toList == b.fro.toList) = false ∧ (b.gua.toList == b.to.toList) = false ∧ (b.fro.toList == b.to.toList) = false ∧ sameB b = false) := by
  unfold sameB eqB
  cases b.gua.toList == b.fro.toList <;> cases b.gua.toList == b.to.toList <;> cases b.fro.toList == b.to.toList <;> simp

set_option maxHeartbeats 4000000 in
theorem may_any (b : Bd) (w : World) (hs : b.fits) : Calls Try.prog 12 #[.agg #[.string b.num, .string b.gua, .string b.fro, .string b.to, .string b.cur, .int .i64 b.amt, .int .i64 b.exp]] w fun e w' => e = .returned (.bool (mayB b)) ∧ Below w.heap.size w w' := by
  obtain ⟨s1, s2, s3, s4, s5⟩ := hs
  rcases names_ways b with ⟨h1, hm⟩ | ⟨h1, h2, hm⟩ | ⟨h1, h2, h3, hm⟩ | ⟨h1, h2, h3, h4, hm⟩ | ⟨h1, h2, h3, h4, hm⟩
  case inr.inr.inr.inr =>
    have HM := Lib.hid hm
    clear hm
    rcases same_ways b with ⟨g1, hq⟩ | ⟨g1, g2, hq⟩ | ⟨g1, g2, g3, hq⟩ | ⟨g1, g2, g3, hq⟩
    case inr.inr.inr =>
      have HQ := Lib.hid hq
      clear hq
      have hc : curB b.cur = true ∨ curB b.cur = false := by cases curB b.cur <;> simp
      have hn : sumB b.amt = true ∨ sumB b.amt = false := by cases sumB b.amt <;> simp
      rcases hc with hc | hc
      all_goals rcases hn with hn | hn
      all_goals
        go_enter Try.func12, Try.ntmps12
        go_wp2
        refine wp_loop_rounds 5 ?_
        iterate 5 (try rw [rounds_succ]; go_wp2_with (first | (go_at_call 26; refine (name_any _ _ (by assumption)).mono ?_; rintro e w' ⟨rfl, rfl⟩) | (go_at_call 27; refine (isCurrency_any _ _ (by assumption)).mono ?_; rintro e w' ⟨rfl, rfl⟩) | (go_at_call 28; refine (isSum_any _ _).mono ?_; rintro e w' ⟨rfl, rfl⟩) | (go_at_call 29; refine (isDay_any _ _).mono ?_; rintro e w' ⟨rfl, rfl⟩)))
        go_ret
        exact ⟨ret_bool (by rw [HM.out, HQ.out]; simp [hc, hn]), ((Below.refl _ _).alloc (Nat.le_refl _) _).alloc (by simp) _⟩
    all_goals
      have HQ := Lib.hid hq
      clear hq
      go_enter Try.func12, Try.ntmps12
      go_wp2
      refine wp_loop_rounds 5 ?_
      iterate 5 (try rw [rounds_succ]; go_wp2_with (go_at_call 26; refine (name_any _ _ (by assumption)).mono ?_; rintro e w' ⟨rfl, rfl⟩))
      go_ret
      exact ⟨ret_bool (by rw [HM.out, HQ.out]; simp), ((Below.refl _ _).alloc (Nat.le_refl _) _).alloc (by simp) _⟩
  all_goals
    have HM := Lib.hid hm
    clear hm
    go_enter Try.func12, Try.ntmps12
    go_wp2
    refine wp_loop_rounds 5 ?_
    iterate 4 (try rw [rounds_succ]; go_wp2_with (go_at_call 26; refine (name_any _ _ (by assumption)).mono ?_; rintro e w' ⟨rfl, rfl⟩))
    go_ret
    exact ⟨ret_bool HM.out.symm, ((Below.refl _ _).alloc (Nat.le_refl _) _).alloc (by simp) _⟩
end Go.Proofs.Ytcjheabcnipnlaa
