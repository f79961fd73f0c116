/-
  The program's surety: Pay.
-/
import Derived.Test.YtcjheabcnipnlaaSurE
namespace Go.Proofs.Ytcjheabcnipnlaa
open Go.RowKit

theorem SurPost.later {w w1 w2 : World} {g : Nat} {fp : List Nat} {s : Sty} (h : SurPost w g fp s w1) (hb : Below w1.heap.size w1 w2) : SurPost w g fp s w2 := by
  obtain ⟨fp', h1, h2, h3⟩ := h
  exact ⟨fp', h1.below hb, h2.then_below hb, h3⟩

set_option maxRecDepth 100000 in
set_option maxHeartbeats 4000000 in
theorem pay_any (g : Nat) (s : Sty) (A1 A2 : Option Addr) (c1 c2 : Nat) (n : Int) (w : World) (h : SurAt w g s A1 c1 A2 c2) :
    Calls Try.prog 19 #[.pointer (some ⟨g, 0, none⟩), .int .i64 n] w fun e w' =>
      e = .returned (.tuple #[.int .i64 (pay s n).2.1, .int .i64 (pay s n).2.2]) ∧ SurPost w g (g :: (fpo A1 ++ fpo A2)) (pay s n).1 w' := by
  have C0 := h.blk.all
  have F0 := h.blk.frees
  have hg := h.blk.lt
  rcases openE_ways s n h.ok with ⟨h1, h2⟩ | ⟨h1, h3, h2⟩ | ⟨k, hk, rfl, hst⟩
  · have hx : pay s n = (s, 0, 4) := by simp [pay, h2]
    rw [hx]
    clear hx h2
    dsimp only
    go_enter Try.func19, Try.ntmps19
    go_wp2_with (go_in)
    go_ret2
    exact ⟨rfl, SurPost.same h.sur (by repeat (first | with_reducible exact Below.refl _ _ | (with_reducible refine Below.setCell ?_ (by first | omega | (simp <;> omega)) _) | (with_reducible refine Below.alloc ?_ (by first | omega | (simp <;> omega)) _) | (with_reducible refine Below.drew ?_) | (with_reducible refine belowN ?_ _)))⟩
  · have hx : pay s n = (s, 0, 4) := by simp [pay, h2]
    rw [hx]
    clear hx h2
    dsimp only
    go_enter Try.func19, Try.ntmps19
    go_wp2_with (go_in)
    go_ret2
    exact ⟨rfl, SurPost.same h.sur (by repeat (first | with_reducible exact Below.refl _ _ | (with_reducible refine Below.setCell ?_ (by first | omega | (simp <;> omega)) _) | (with_reducible refine Below.alloc ?_ (by first | omega | (simp <;> omega)) _) | (with_reducible refine Below.drew ?_) | (with_reducible refine belowN ?_ _)))⟩
  · obtain ⟨gd, rfl, hgd, hcell, hfree⟩ := h.dems.elem Dm.cells_len (by omega) k hk
    have f0 := hcell 0 _ rfl
    have f1 := hcell 1 _ rfl
    have f2 := hcell 2 _ rfl
    have hne : g ≠ gd := by have := h.dems.ne_ h.blk (by decide); simpa using this
    have hne' : gd ≠ g := hne.symm
    have q1 : decide ((k : Int) < 0) = false := by simp
    have q2 : decide (s.dems.length ≤ k) = false := by simpa using hk
    have hg1 : g < w.heap.size + 1 := by omega
    have hg2 : g < w.heap.size + 1 + 1 := by omega
    have hd1 : gd < w.heap.size + 1 := by omega
    have hd2 : gd < w.heap.size + 1 + 1 := by omega
    have hd3 : ¬ gd = w.heap.size := by omega
    clear hcell
    rcases hst with ⟨hst, he⟩ | ⟨hst, he⟩ | ⟨hst, he⟩
    rotate_left
    · have hx : pay s k = (s, 0, 9) := by simp [pay, he]
      rw [hx]
      rw [hst] at f2
      clear hx he hst
      dsimp only
      go_enter Try.func19, Try.ntmps19
      go_wp2_with (go_in)
      go_ret2
      exact ⟨rfl, SurPost.same h.sur (by repeat (first | with_reducible exact Below.refl _ _ | (with_reducible refine Below.setCell ?_ (by first | omega | (simp <;> omega)) _) | (with_reducible refine Below.alloc ?_ (by first | omega | (simp <;> omega)) _) | (with_reducible refine Below.drew ?_) | (with_reducible refine belowN ?_ _)))⟩
    · have hx : pay s k = (s, 0, 9) := by simp [pay, he]
      rw [hx]
      rw [hst] at f2
      clear hx he hst
      dsimp only
      go_enter Try.func19, Try.ntmps19
      go_wp2_with (go_in)
      go_ret2
      exact ⟨rfl, SurPost.same h.sur (by repeat (first | with_reducible exact Below.refl _ _ | (with_reducible refine Below.setCell ?_ (by first | omega | (simp <;> omega)) _) | (with_reducible refine Below.alloc ?_ (by first | omega | (simp <;> omega)) _) | (with_reducible refine Below.drew ?_) | (with_reducible refine belowN ?_ _)))⟩
    · rw [hst] at f2
      have hx : pay s k = (stand s k 1, s.dems[k].amount, 0) := by simp [pay, he, hk]
      rw [hx]
      clear hx he
      dsimp only
      go_enter Try.func19, Try.ntmps19
      go_wp2_with (go_in)
      go_ret2
      refine ⟨rfl, ?_⟩
      exact (sur_stand (Frm.refl _ w) h k 1 hk (by decide) (by decide)).later (by repeat (first | with_reducible exact Below.refl _ _ | (with_reducible refine Below.setCell ?_ (by first | omega | (simp <;> omega)) _) | (with_reducible refine Below.alloc ?_ (by first | omega | (simp <;> omega)) _) | (with_reducible refine Below.drew ?_) | (with_reducible refine belowN ?_ _)))
end Go.Proofs.Ytcjheabcnipnlaa
