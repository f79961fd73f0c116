/-
  The program's surety: Expired (ContainsFunc, IndexFunc, the closure), Demands.
-/
import Derived.Test.YtcjheabcnipnlaaSurA
import Derived.OwnWalk
namespace Go.Proofs.Ytcjheabcnipnlaa
open Go.RowKit

theorem isOpen_any (x : Dm) (w : World) : Calls Try.prog 35 #[.agg #[.int .i64 x.day, .int .i64 x.amount, .int .i64 x.st]] w fun e w' => e = .returned (.bool (x.st == 0)) ∧ Below w.heap.size w w' := by
  go_enter Try.func35, Try.ntmps35
  go_wp2
  go_ret
  exact ⟨rfl, (Below.refl _ _).alloc (Nat.le_refl _) _⟩

def IdxPost (l : List Dm) (w : World) (e : Ending) (w' : World) : Prop :=
  ∃ i : Int, e = .returned (.int .i64 i) ∧ -1 ≤ i ∧ i ≤ 5000 ∧ decide (0 ≤ i) = anyOpen l ∧ Below w.heap.size w w'

set_option maxHeartbeats 2000000 in
theorem index_any (l : List Dm) (A : Option Addr) (c : Nat) (w : World) (h : Rd w 3 A l.length c (l.flatMap Dm.cells)) (hl : l.length ≤ 4000) :
    Calls Try.prog 50 #[.slice A l.length c, .func (.func 35) #[] #[]] w (IdxPost l w) := by
  go_enter Try.func50, Try.ntmps50
  go_wp2
  go_loopw [5, 8] (fun _ i wr => ∃ k : Nat, k ≤ l.length ∧ i = .int .i64 k ∧ (∀ j (hj : j < l.length), j < k → l[j].st ≠ 0) ∧ Below w.heap.size w wr) (fun _ i _ => l.length - (intOf i).toNat)
  case atStart => exact ⟨0, by omega, rfl, fun _ _ h => absurd h (by omega), Below.refl _ _⟩
  case round =>
    obtain ⟨k, hk, rfl, hall, hb⟩ := hrel
    have HA := Lib.hid hall
    clear hall
    by_cases hlt : k < l.length
    · obtain ⟨b, o, rfl, hbl, f0, f1, f2⟩ := (h.below hb).dem k hlt
      by_cases hst : l[k].st = 0
      all_goals
        have HS := Lib.hid hst
        first | (have hst' : (l[k].st == 0) = true := by rw [hst]; rfl) | (have hst' : (l[k].st == 0) = false := by simpa using hst)
        clear hst
        go_wp2_with (go_at_call 35; refine (isOpen_any l[k] _).mono ?_; rintro e w1 ⟨rfl, hb1⟩)
      · go_ret
        exact ⟨k, rfl, by omega, by omega, by simp [anyOpen_yes hlt HS.out], Below.go hb hb1⟩
      · go_roundw
        case rel =>

          refine ⟨k + 1, by omega, by go_num, fun j hj hjk => ?_, Below.go hb hb1⟩
          by_cases e : j = k
          · subst e; exact HS.out
          · exact HA.out j hj (by omega)
        case measure => simp [intOf]; omega
    · obtain rfl : k = l.length := by omega
      go_wp2
      go_ret
      exact ⟨-1, rfl, by omega, by omega, by simp [anyOpen_no (fun j hj => HA.out j hj hj)], hb⟩

theorem contains_any (l : List Dm) (A : Option Addr) (c : Nat) (w : World) (h : Rd w 3 A l.length c (l.flatMap Dm.cells)) (hl : l.length ≤ 4000) :
    Calls Try.prog 34 #[.slice A l.length c, .func (.func 35) #[] #[]] w fun e w' => e = .returned (.bool (anyOpen l)) ∧ Below w.heap.size w w' := by
  go_enter Try.func34, Try.ntmps34
  go_wp2_with (go_at_call 50; refine (index_any l A c _ h hl).mono ?_; rintro e w1 ⟨i, rfl, i1, i2, i3, hb1⟩; have I3 := Lib.hid i3; clear i3)
  go_ret
  exact ⟨ret_bool I3.out, hb1⟩

set_option maxHeartbeats 1000000 in
theorem expired_any (g : Nat) (s : Sty) (A1 A2 : Option Addr) (c1 c2 : Nat) (day : Int) (w : World) (h : SurAt w g s A1 c1 A2 c2) :
    Calls Try.prog 18 #[.pointer (some ⟨g, 0, none⟩), .int .i64 day] w fun e w' => e = .returned (.bool (expired s day)) ∧ Below w.heap.size w w' := by
  have hd2 := h.ok.d2
  have C0 := h.blk.all
  have hg := h.blk.lt
  by_cases hx : s.expiry < day
  all_goals
    go_enter Try.func18, Try.ntmps18
    go_wp2_with (go_at_call 34; refine (contains_any s.dems A2 c2 _ h.dems.rd hd2).mono ?_; rintro e w1 ⟨rfl, hb⟩)
    go_ret
    exact ⟨ret_bool (by simp [expired]; omega), by first | assumption | exact Below.refl _ _⟩
end Go.Proofs.Ytcjheabcnipnlaa
