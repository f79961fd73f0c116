/-
  The reference's Extend and Pay.
-/
import Derived.Test.YtcjheabcnipnlaaRefD
namespace Go.Proofs.Ytcjheabcnipnlaa
open Go.RowKit

theorem openE_yes {s : Sty} {n : Int} (h : openE s n = 0) : 0 ≤ n ∧ n.toNat < s.dems.length ∧ (s.dems.getD n.toNat ⟨0, 0, 0⟩).st = 0 := by
  unfold openE at h
  split at h
  · omega
  · split at h
    · rename_i h1 h2
      exact ⟨by omega, by omega, h2⟩
    · omega

set_option maxHeartbeats 2000000 in
theorem extendRef_any (s : Sty) (A1 A2 : Option Addr) (c1 c2 : Nat) (n day : Int) (w : World) (h1 : Rd w 3 A1 s.dems.length c1 (s.dems.flatMap Dm.cells)) (h2 : Rd w 2 A2 s.cuts.length c2 (s.cuts.flatMap Dw.cells)) (hok : s.ok) :
    Calls Try.prog 31 #[.agg #[.string s.b.num, .string s.b.gua, .string s.b.fro, .string s.b.to, .string s.b.cur, .int .i64 s.b.amt, .int .i64 s.b.exp, .int .i64 s.expiry, .slice A1 s.dems.length c1, .slice A2 s.cuts.length c2], .int .i64 n, .int .i64 day] w
      (RefPost w (fpo A1) (fpo A2) (extend s n day).1 [.int .i64 (extend s n day).2]) := by
  have hd2 := hok.d2
  by_cases g1 : openE s n = 0
  case neg =>
    have hx : extend s n day = (s, openE s n) := by simp [extend, g1]
    rw [hx]
    clear hx
    dsimp only
    have g1' : (openE s n != 0) = true := by simpa using g1
    clear g1
    go_enter Try.func31, Try.ntmps31
    go_wp2_with (go_at_call 48; refine (open_any s A1 A2 c1 c2 n _ ((h1.alloc _).alloc _) hok).mono ?_; rintro e w1 ⟨rfl, hb⟩; have B0 := ((Blk.new' _ _ _ w.heap.size rfl).alloc _).below hb (by simp; omega); have B1 := (Blk.new' _ _ _ (w.heap.size + 1) (by simp)).below hb (by simp); have C0 := B0.all; have F0 := B0.frees; have C1 := B1.all; have F1 := B1.frees)
    refine bodyPost_ret (v := .tuple #[.agg #[.string s.b.num, .string s.b.gua, .string s.b.fro, .string s.b.to, .string s.b.cur, .int .i64 s.b.amt, .int .i64 s.b.exp, .int .i64 s.expiry, .slice A1 s.dems.length c1, .slice A2 s.cuts.length c2], .int .i64 (openE s n)]) (by simp [results, Try.results31, go_sem, C1]) rfl (RefPost.same h1 h2 ?_)
    have hb' : Below w.heap.size w w1 := Below.go (by repeat (first | with_reducible exact Below.refl _ _ | (with_reducible refine Below.setCell ?_ (by first | omega | (simp <;> omega)) _) | (with_reducible refine Below.alloc ?_ (by first | omega | (simp <;> omega)) _) | (with_reducible refine Below.drew ?_) | (with_reducible refine belowN ?_ _))) hb
    repeat (first | with_reducible exact hb' | (with_reducible refine Below.setCell ?_ (by first | omega | (simp <;> omega)) _) | (with_reducible refine Below.alloc ?_ (by first | omega | (simp <;> omega)) _) | (with_reducible refine Below.drew ?_) | (with_reducible refine belowN ?_ _))
  have g1' : (openE s n != 0) = false := by simpa using g1
  obtain ⟨n0, nl, nst⟩ := openE_yes g1
  by_cases g2 : day ≤ s.expiry ∨ 1048576 < day
  · have hx : extend s n day = (s, 3) := by simp [extend, g1, g2]
    rw [hx]
    dsimp only
    have HG := Lib.hid g1
    clear hx g1 nst
    have g3 : day ≤ s.expiry ∨ (¬ day ≤ s.expiry ∧ 1048576 < day) := by omega
    clear g2
    rcases g3 with g3 | ⟨g3, g4⟩
    all_goals
      go_enter Try.func31, Try.ntmps31
      go_wp2_with (go_at_call 48; refine (open_any s A1 A2 c1 c2 n _ ((h1.alloc _).alloc _) hok).mono ?_; rintro e w1 ⟨rfl, hb⟩; have B0 := ((Blk.new' _ _ _ w.heap.size rfl).alloc _).below hb (by simp; omega); have B1 := (Blk.new' _ _ _ (w.heap.size + 1) (by simp)).below hb (by simp); have C0 := B0.all; have F0 := B0.frees; have C1 := B1.all; have F1 := B1.frees)
      refine bodyPost_ret (v := .tuple #[.agg #[.string s.b.num, .string s.b.gua, .string s.b.fro, .string s.b.to, .string s.b.cur, .int .i64 s.b.amt, .int .i64 s.b.exp, .int .i64 s.expiry, .slice A1 s.dems.length c1, .slice A2 s.cuts.length c2], .int .i64 3]) (by simp [results, Try.results31, go_sem, C1]) rfl (RefPost.same h1 h2 ?_)
      have hb' : Below w.heap.size w w1 := Below.go (by repeat (first | with_reducible exact Below.refl _ _ | (with_reducible refine Below.setCell ?_ (by first | omega | (simp <;> omega)) _) | (with_reducible refine Below.alloc ?_ (by first | omega | (simp <;> omega)) _) | (with_reducible refine Below.drew ?_) | (with_reducible refine belowN ?_ _))) hb
      repeat (first | with_reducible exact hb' | (with_reducible refine Below.setCell ?_ (by first | omega | (simp <;> omega)) _) | (with_reducible refine Below.alloc ?_ (by first | omega | (simp <;> omega)) _) | (with_reducible refine Below.drew ?_) | (with_reducible refine belowN ?_ _))
  have hx : extend s n day = (stand { s with expiry := day } n.toNat 2, 0) := by simp [extend, g1, g2]
  rw [hx]
  dsimp only
  have hg2 : ¬ day ≤ s.expiry ∧ ¬ 1048576 < day := by omega
  obtain ⟨q1, q2⟩ := hg2
  have he1 := hok.e1
  have hok' : ({ s with expiry := day } : Sty).ok := ⟨hok.a1, hok.a2, by show 0 ≤ day; omega, by show day ≤ 1048576; omega, hok.c1, hok.d1, hok.c2, hok.d2⟩
  have HG := Lib.hid g1
  clear hx g1 nst g2
  obtain ⟨k, rfl⟩ := Int.eq_ofNat_of_zero_le n0
  rw [Int.toNat_natCast] at nl ⊢
  go_enter Try.func31, Try.ntmps31
  go_wp2_with (first | (go_at_call 48; refine (open_any s A1 A2 c1 c2 k _ ((h1.alloc _).alloc _) hok).mono ?_; rintro e w1 ⟨rfl, hb⟩; have B0 := ((Blk.new' _ _ _ w.heap.size rfl).alloc _).below hb (by simp; omega); have B1 := (Blk.new' _ _ _ (w.heap.size + 1) (by simp)).below hb (by simp); have C0 := B0.all; have F0 := B0.frees; have hz := hb.size; simp at hz; have hb' : Below w.heap.size w w1 := Below.go (by repeat (first | with_reducible exact Below.refl _ _ | (with_reducible refine Below.setCell ?_ (by first | omega | (simp <;> omega)) _) | (with_reducible refine Below.alloc ?_ (by first | omega | (simp <;> omega)) _) | (with_reducible refine Below.drew ?_) | (with_reducible refine belowN ?_ _))) hb; clear hb) | (go_at_call 49; refine (stand_any { s with expiry := day } A1 A2 c1 c2 k 2 _ (h1.below (hb'.setCell (p := ⟨w.heap.size, 7, none⟩) (Nat.le_refl _) _)) (h2.below (hb'.setCell (p := ⟨w.heap.size, 7, none⟩) (Nat.le_refl _) _)) hok' nl).mono ?_; rintro e w2 ⟨A3, c3, rfl, hr⟩; have b1 := (B1.far (p := ⟨w.heap.size, 7, none⟩) (by simp) (.int .i64 day)).below hr.below (by simp; omega); clear C0 F0; have C1 := b1.all; have F1 := b1.frees))
  have hw2 : Below w.heap.size w w2 := Below.go (hb'.setCell (p := ⟨w.heap.size, 7, none⟩) (Nat.le_refl _) (.int .i64 day)) hr.below
  have hr2 : w1.heap.size ≤ w2.heap.size := by have := hr.below.size; simpa [World.setCell] using this
  refine bodyPost_ret (v := .tuple #[.agg #[.string (stand { s with expiry := day } k 2).b.num, .string (stand { s with expiry := day } k 2).b.gua, .string (stand { s with expiry := day } k 2).b.fro, .string (stand { s with expiry := day } k 2).b.to, .string (stand { s with expiry := day } k 2).b.cur, .int .i64 (stand { s with expiry := day } k 2).b.amt, .int .i64 (stand { s with expiry := day } k 2).b.exp, .int .i64 (stand { s with expiry := day } k 2).expiry, .slice A3 (stand { s with expiry := day } k 2).dems.length c3, .slice A2 (stand { s with expiry := day } k 2).cuts.length c2], .int .i64 0]) (by simp [results, Try.results31, go_sem, C1]) rfl ⟨A3, c3, A2, c2, rfl, ?_⟩
  have hn3 : ∀ b ∈ fpo A3, w1.heap.size ≤ b := fun b hb => by
    rcases hr.fp1 b hb with h | h
    · cases h
    · simpa [World.setCell] using h
  refine ⟨?_, ?_, ?_, fun b hb => .inl hb, ?_⟩
  · iterate 10 with_reducible refine Rd.setCell ?_ (fun hb => by have := hn3 _ hb; simp at this; omega) _
    exact hr.r1
  · refine h2.below ?_
    repeat (first | with_reducible exact hw2 | (with_reducible refine Below.setCell ?_ (by first | omega | (simp <;> omega)) _) | (with_reducible refine Below.alloc ?_ (by first | omega | (simp <;> omega)) _) | (with_reducible refine Below.drew ?_) | (with_reducible refine belowN ?_ _))
  · intro b hb
    have := hn3 b hb
    exact .inr (by omega)
  · repeat (first | with_reducible exact hw2 | (with_reducible refine Below.setCell ?_ (by first | omega | (simp <;> omega)) _) | (with_reducible refine Below.alloc ?_ (by first | omega | (simp <;> omega)) _) | (with_reducible refine Below.drew ?_) | (with_reducible refine belowN ?_ _))
end Go.Proofs.Ytcjheabcnipnlaa
