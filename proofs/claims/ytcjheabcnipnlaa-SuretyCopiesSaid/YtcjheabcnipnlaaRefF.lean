/-
  The reference's Ask.
-/
import Derived.Test.YtcjheabcnipnlaaRefE
namespace Go.Proofs.Ytcjheabcnipnlaa
open Go.RowKit
set_option maxHeartbeats 2000000 in
theorem ask_any (s : Sty) (A1 A2 : Option Addr) (c1 c2 : Nat) (by_ : ByteArray) (sum day : Int) (w : World) (h1 : Rd w 3 A1 s.dems.length c1 (s.dems.flatMap Dm.cells)) (h2 : Rd w 2 A2 s.cuts.length c2 (s.cuts.flatMap Dw.cells)) (hok : s.ok) :
    Calls Try.prog 30 #[.agg #[.string s.b.num, .string s.b.gua, .string s.b.fro, .string s.b.to, .string s.b.cur, .int .i64 s.b.amt, .int .i64 s.b.exp, .int .i64 s.expiry, .slice A1 s.dems.length c1, .slice A2 s.cuts.length c2], .string by_, .int .i64 sum, .int .i64 day] w
      (RefPost w (fpo A1) (fpo A2) (ask s by_ sum day).1 [.int .i64 (ask s by_ sum day).2.1, .int .i64 (ask s by_ sum day).2.2]) := by
  have hd2 := hok.d2
  have hc2 := hok.c2
  by_cases g1 : eqB by_ s.b.to = false
  · have hask : ask s by_ sum day = (s, 0, 8) := by simp [ask, g1]
    rw [hask]
    clear hask
    unfold eqB at g1
    dsimp only
    go_enter Try.func30, Try.ntmps30
    go_wp2
    refine bodyPost_ret (v := .tuple #[.agg #[.string s.b.num, .string s.b.gua, .string s.b.fro, .string s.b.to, .string s.b.cur, .int .i64 s.b.amt, .int .i64 s.b.exp, .int .i64 s.expiry, .slice A1 s.dems.length c1, .slice A2 s.cuts.length c2], .int .i64 0, .int .i64 8]) (by simp [results, Try.results30, go_sem]) rfl (RefPost.same h1 h2 ?_)
    repeat (first | with_reducible exact Below.refl _ _ | (with_reducible refine Below.setCell ?_ (by first | omega | (simp <;> omega)) _) | (with_reducible refine Below.alloc ?_ (by first | omega | (simp <;> omega)) _) | (with_reducible refine Below.drew ?_) | (with_reducible refine belowN ?_ _))
  have g1' : (by_.toList == s.b.to.toList) = true := by simpa [eqB] using g1
  by_cases g2 : rightB sum day = false
  · have hask : ask s by_ sum day = (s, 0, 3) := by simp [ask, g1, g2]
    rw [hask]
    clear hask g1
    dsimp only
    go_enter Try.func30, Try.ntmps30
    go_wp2_with (go_at_call 47; refine (right_any _ _ _).mono ?_; rintro e w' ⟨rfl, rfl⟩)
    refine bodyPost_ret (v := .tuple #[.agg #[.string s.b.num, .string s.b.gua, .string s.b.fro, .string s.b.to, .string s.b.cur, .int .i64 s.b.amt, .int .i64 s.b.exp, .int .i64 s.expiry, .slice A1 s.dems.length c1, .slice A2 s.cuts.length c2], .int .i64 0, .int .i64 3]) (by simp [results, Try.results30, go_sem]) rfl (RefPost.same h1 h2 ?_)
    repeat (first | with_reducible exact Below.refl _ _ | (with_reducible refine Below.setCell ?_ (by first | omega | (simp <;> omega)) _) | (with_reducible refine Below.alloc ?_ (by first | omega | (simp <;> omega)) _) | (with_reducible refine Below.drew ?_) | (with_reducible refine belowN ?_ _))
  have g2' : rightB sum day = true := by simpa using g2
  have hr : 1 ≤ sum ∧ sum ≤ 1099511627776 ∧ 0 ≤ day ∧ day ≤ 1048576 := by simpa [rightB, sumB, dayB, and_assoc] using g2'
  by_cases g3 : s.expiry < day
  · have hask : ask s by_ sum day = (s, 0, 11) := by simp [ask, g1, g2, g3]
    rw [hask]
    clear hask g1 g2
    dsimp only
    go_enter Try.func30, Try.ntmps30
    go_wp2_with (go_at_call 47; refine (right_any _ _ _).mono ?_; rintro e w' ⟨rfl, rfl⟩)
    refine bodyPost_ret (v := .tuple #[.agg #[.string s.b.num, .string s.b.gua, .string s.b.fro, .string s.b.to, .string s.b.cur, .int .i64 s.b.amt, .int .i64 s.b.exp, .int .i64 s.expiry, .slice A1 s.dems.length c1, .slice A2 s.cuts.length c2], .int .i64 0, .int .i64 11]) (by simp [results, Try.results30, go_sem]) rfl (RefPost.same h1 h2 ?_)
    repeat (first | with_reducible exact Below.refl _ _ | (with_reducible refine Below.setCell ?_ (by first | omega | (simp <;> omega)) _) | (with_reducible refine Below.alloc ?_ (by first | omega | (simp <;> omega)) _) | (with_reducible refine Below.drew ?_) | (with_reducible refine belowN ?_ _))
  by_cases g4 : left s day < sum
  · have hask : ask s by_ sum day = (s, 0, 10) := by simp [ask, g1, g2, g3, g4]
    rw [hask]
    clear hask g1 g2
    dsimp only
    go_enter Try.func30, Try.ntmps30
    go_wp2_with (first | (go_at_call 47; refine (right_any _ _ _).mono ?_; rintro e w' ⟨rfl, rfl⟩) | (go_at_call 39; refine (leftRef_any s A1 A2 c1 c2 day _ ((h1.alloc _).alloc _) ((h2.alloc _).alloc _) hok).mono ?_; rintro e w1 ⟨rfl, hb⟩; have B0 := ((Blk.new' _ _ _ w.heap.size rfl).alloc _).below hb (by simp; omega); have B1 := (Blk.new' _ _ _ (w.heap.size + 1) (by simp)).below hb (by simp); have C0 := B0.all; have F0 := B0.frees; have C1 := B1.all; have F1 := B1.frees))
    refine bodyPost_ret (v := .tuple #[.agg #[.string s.b.num, .string s.b.gua, .string s.b.fro, .string s.b.to, .string s.b.cur, .int .i64 s.b.amt, .int .i64 s.b.exp, .int .i64 s.expiry, .slice A1 s.dems.length c1, .slice A2 s.cuts.length c2], .int .i64 0, .int .i64 10]) (by simp [results, Try.results30, go_sem, C1]) rfl (RefPost.same h1 h2 ?_)
    have hb' : Below w.heap.size w w1 := Below.go (by repeat (first | with_reducible exact Below.refl _ _ | (with_reducible refine Below.setCell ?_ (by first | omega | (simp <;> omega)) _) | (with_reducible refine Below.alloc ?_ (by first | omega | (simp <;> omega)) _) | (with_reducible refine Below.drew ?_) | (with_reducible refine belowN ?_ _))) hb
    repeat (first | with_reducible exact hb' | (with_reducible refine Below.setCell ?_ (by first | omega | (simp <;> omega)) _) | (with_reducible refine Below.alloc ?_ (by first | omega | (simp <;> omega)) _) | (with_reducible refine Below.drew ?_) | (with_reducible refine belowN ?_ _))
  have hask : ask s by_ sum day = (({ s with dems := s.dems ++ [Dm.mk day sum 0] }, (s.dems.length : Int), 0) : Sty × Int × Int) := by simp [ask, g1, g2, g3, g4]
  rw [hask]
  exact ask_yes s A1 A2 c1 c2 by_ sum day w h1 h2 hok g1' g2' g3 g4 hd2
end Go.Proofs.Ytcjheabcnipnlaa
