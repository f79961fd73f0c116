/-
  The program's surety: Extend (told, the closures).
-/
import Derived.Test.YtcjheabcnipnlaaSurC
import Derived.Test.YtcjheabcnipnlaaRefH
import Derived.Laws.EntriesVeiled
namespace Go.Proofs.Ytcjheabcnipnlaa
open Go.RowKit

theorem openE_ways (s : Sty) (n : Int) (hok : s.ok) : (n < 0 ∧ openE s n = 4) ∨ (0 ≤ n ∧ (s.dems.length : Int) ≤ n ∧ openE s n = 4) ∨
    ∃ (k : Nat) (hk : k < s.dems.length), n = k ∧ ((s.dems[k].st = 0 ∧ openE s n = 0) ∨ (s.dems[k].st = 1 ∧ openE s n = 9) ∨ (s.dems[k].st = 2 ∧ openE s n = 9)) := by
  by_cases h1 : n < 0
  · exact .inl ⟨h1, by unfold openE; rw [if_pos (.inl h1)]⟩
  by_cases h2 : (s.dems.length : Int) ≤ n
  · exact .inr (.inl ⟨by omega, h2, by unfold openE; rw [if_pos (.inr h2)]⟩)
  obtain ⟨k, rfl⟩ := Int.eq_ofNat_of_zero_le (show 0 ≤ n by omega)
  have hk : k < s.dems.length := by omega
  refine .inr (.inr ⟨k, hk, rfl, ?_⟩)
  have he : openE s k = if s.dems[k].st = 0 then 0 else 9 := by unfold openE; rw [if_neg (by omega)]; simp [hk]
  have ho := hok.d1 _ (List.getElem_mem hk)
  unfold Dm.ok at ho
  have : s.dems[k].st = 0 ∨ s.dems[k].st = 1 ∨ s.dems[k].st = 2 := by omega
  rcases this with h | h | h
  · exact .inl ⟨h, by rw [he, if_pos h]⟩
  · exact .inr (.inl ⟨h, by rw [he, if_neg (by omega)]⟩)
  · exact .inr (.inr ⟨h, by rw [he, if_neg (by omega)]⟩)

theorem stand_ok {s : Sty} (h : s.ok) (k : Nat) (how : Int) (hk : k < s.dems.length) (h0 : 0 ≤ how) (h2 : how ≤ 2) : (stand s k how).ok := by
  refine ⟨h.a1, h.a2, h.e1, h.e2, h.c1, fun x hx => ?_, h.c2, by simpa [stand] using h.d2⟩
  simp only [stand] at hx
  rcases List.mem_or_eq_of_mem_set hx with hx | rfl
  · exact h.d1 x hx
  · have ho := h.d1 _ (List.getElem_mem hk)
    unfold Dm.ok at ho
    simp [Dm.ok, hk, ho.1, ho.2.1, ho.2.2.1, ho.2.2.2.1, h0, h2]
/-- A demand stands otherwise: behind the store to its row. -/
theorem sur_stand {w wa : World} {g gd : Nat} {s : Sty} {A1 : Option Addr} {c1 c2 : Nat} (hf : Frm (g :: (fpo A1 ++ fpo (some ⟨gd, 0, none⟩))) w wa)
    (h' : SurAt wa g s A1 c1 (some ⟨gd, 0, none⟩) c2) (k : Nat) (how : Int) (hk : k < s.dems.length) (h0 : 0 ≤ how) (h2 : how ≤ 2) :
    SurPost w g (g :: (fpo A1 ++ fpo (some ⟨gd, 0, none⟩))) (stand s k how) (wa.setCell ⟨gd, k * 3 + 2, none⟩ (.int .i64 how)) := by
  have n2 : g ≠ gd := by have := h'.dems.ne_ h'.blk (by decide); simpa using this
  have n12 := h'.cuts.apart h'.dems (by decide)
  have hl : (stand s k how).dems.length = s.dems.length := by simp [stand]
  refine ⟨g :: (fpo A1 ++ fpo (some ⟨gd, 0, none⟩)), ⟨A1, c1, some ⟨gd, 0, none⟩, c2, ⟨?_, ?_, ?_, stand_ok h'.ok k how hk h0 h2⟩, rfl⟩, hf.setCell (.inl (by simp)) _, fun b hb => .inl hb⟩
  · rw [hl]
    exact h'.blk.far n2 _
  · exact h'.cuts.far (fun b hb e => n12 b hb (by simp at e; simp [e])) _
  · have hx := h'.dems.set_ (k * 3 + 2) (.int .i64 how)
    rw [stand_flat s k how hk] at hx
    rw [hl]
    exact hx
theorem SurAt.below {w w' : World} {g : Nat} {s : Sty} {A1 A2 : Option Addr} {c1 c2 : Nat} (h : SurAt w g s A1 c1 A2 c2) (hb : Below w.heap.size w w') : SurAt w' g s A1 c1 A2 c2 :=
  h.frm (Frm.of_below hb []) (by simp) (by simp) (by simp)
theorem SurAt.expiry {w : World} {g : Nat} {s : Sty} {A1 A2 : Option Addr} {c1 c2 : Nat} (h : SurAt w g s A1 c1 A2 c2) (day : Int) (hok : ({ s with expiry := day } : Sty).ok) :
    SurAt (w.setCell ⟨g, 7, none⟩ (.int .i64 day)) g { s with expiry := day } A1 c1 A2 c2 := by
  refine ⟨by simpa using h.blk.set_ 7 (.int .i64 day), h.cuts.setCell ?_ _, h.dems.setCell ?_ _, hok⟩
  · exact h.cuts.ne_ h.blk (by decide)
  · exact h.dems.ne_ h.blk (by decide)

set_option maxRecDepth 100000 in
set_option maxHeartbeats 4000000 in
theorem extend_any (g : Nat) (s : Sty) (A1 A2 : Option Addr) (c1 c2 : Nat) (n day : Int) (w : World) (h : SurAt w g s A1 c1 A2 c2) :
    Calls Try.prog 20 #[.pointer (some ⟨g, 0, none⟩), .int .i64 n, .int .i64 day] w fun e w' =>
      e = .returned (.int .i64 (extend s n day).2) ∧ SurPost w g (g :: (fpo A1 ++ fpo A2)) (extend s n day).1 w' := by
  have C0 := h.blk.all
  have F0 := h.blk.frees
  have hg := h.blk.lt
  rcases openE_ways s n h.ok with ⟨h1, h2⟩ | ⟨h1, h3, h2⟩ | ⟨k, hk, rfl, hst⟩
  · have hx : extend s n day = (s, 4) := by simp [extend, h2]
    rw [hx]
    clear hx h2
    dsimp only
    go_enter Try.func20, Try.ntmps20
    go_wp2_with (go_in)
    go_ret
    exact ⟨rfl, SurPost.same h.sur (by repeat (first | with_reducible exact Below.refl _ _ | (with_reducible refine Below.setCell ?_ (by first | omega | (simp <;> omega)) _) | (with_reducible refine Below.alloc ?_ (by first | omega | (simp <;> omega)) _) | (with_reducible refine Below.drew ?_) | (with_reducible refine belowN ?_ _)))⟩
  · have hx : extend s n day = (s, 4) := by simp [extend, h2]
    rw [hx]
    clear hx h2
    dsimp only
    go_enter Try.func20, Try.ntmps20
    go_wp2_with (go_in)
    go_ret
    exact ⟨rfl, SurPost.same h.sur (by repeat (first | with_reducible exact Below.refl _ _ | (with_reducible refine Below.setCell ?_ (by first | omega | (simp <;> omega)) _) | (with_reducible refine Below.alloc ?_ (by first | omega | (simp <;> omega)) _) | (with_reducible refine Below.drew ?_) | (with_reducible refine belowN ?_ _)))⟩
  · obtain ⟨gd, rfl, hgd, hcell, hfree⟩ := h.dems.elem Dm.cells_len (by omega) k hk
    have f0 := hcell 0 _ rfl
    have f1 := hcell 1 _ rfl
    have f2 := hcell 2 _ rfl
    have hne : g ≠ gd := by have := h.dems.ne_ h.blk (by decide); simpa using this
    have hne' : gd ≠ g := hne.symm
    have q1 : decide ((k : Int) < 0) = false := by simp
    have q2 : decide (s.dems.length ≤ k) = false := by simpa using hk
    have hg1 : g < w.heap.size + 1 := by omega
    have hg2 : g < w.heap.size + 1 + 1 := by omega
    have hd1 : gd < w.heap.size + 1 := by omega
    have hd2 : gd < w.heap.size + 1 + 1 := by omega
    clear hcell
    rcases hst with ⟨hst, he⟩ | ⟨hst, he⟩ | ⟨hst, he⟩
    rotate_left
    · have hx : extend s k day = (s, 9) := by simp [extend, he]
      rw [hx]
      rw [hst] at f2
      clear hx he hst
      dsimp only
      go_enter Try.func20, Try.ntmps20
      go_wp2_with (go_in)
      go_ret
      exact ⟨rfl, SurPost.same h.sur (by repeat (first | with_reducible exact Below.refl _ _ | (with_reducible refine Below.setCell ?_ (by first | omega | (simp <;> omega)) _) | (with_reducible refine Below.alloc ?_ (by first | omega | (simp <;> omega)) _) | (with_reducible refine Below.drew ?_) | (with_reducible refine belowN ?_ _)))⟩
    · have hx : extend s k day = (s, 9) := by simp [extend, he]
      rw [hx]
      rw [hst] at f2
      clear hx he hst
      dsimp only
      go_enter Try.func20, Try.ntmps20
      go_wp2_with (go_in)
      go_ret
      exact ⟨rfl, SurPost.same h.sur (by repeat (first | with_reducible exact Below.refl _ _ | (with_reducible refine Below.setCell ?_ (by first | omega | (simp <;> omega)) _) | (with_reducible refine Below.alloc ?_ (by first | omega | (simp <;> omega)) _) | (with_reducible refine Below.drew ?_) | (with_reducible refine belowN ?_ _)))⟩
    · rw [hst] at f2
      by_cases g3 : day ≤ s.expiry
      · have hx : extend s k day = (s, 3) := by simp [extend, he, g3]
        rw [hx]
        clear hx he hst
        dsimp only
        have q3 : decide (day ≤ s.expiry) = true := by simpa using g3
        go_enter Try.func20, Try.ntmps20
        go_wp2_with (go_in)
        go_quiet (fail)
        go_wp2_with (go_in)
        go_ret
        exact ⟨rfl, SurPost.same h.sur (by repeat (first | with_reducible exact Below.refl _ _ | (with_reducible refine Below.setCell ?_ (by first | omega | (simp <;> omega)) _) | (with_reducible refine Below.alloc ?_ (by first | omega | (simp <;> omega)) _) | (with_reducible refine Below.drew ?_) | (with_reducible refine belowN ?_ _)))⟩
      have q3 : decide (day ≤ s.expiry) = false := by simpa using g3
      by_cases g4 : 1048576 < day
      · have hx : extend s k day = (s, 3) := by simp [extend, he, g4]
        rw [hx]
        clear hx he hst
        dsimp only
        go_enter Try.func20, Try.ntmps20
        go_wp2_with (go_in)
        go_quiet (fail)
        go_wp2_with (go_in)
        go_ret
        exact ⟨rfl, SurPost.same h.sur (by repeat (first | with_reducible exact Below.refl _ _ | (with_reducible refine Below.setCell ?_ (by first | omega | (simp <;> omega)) _) | (with_reducible refine Below.alloc ?_ (by first | omega | (simp <;> omega)) _) | (with_reducible refine Below.drew ?_) | (with_reducible refine belowN ?_ _)))⟩
      · have hx : extend s k day = (stand { s with expiry := day } k 2, 0) := by simp [extend, he, g3, g4]
        rw [hx]
        clear hx he
        dsimp only
        go_enter Try.func20, Try.ntmps20
        go_wp2_with (go_in)
        go_quiet (fail)
        go_wp2_with (go_in)
        go_ret
        refine ⟨rfl, ?_⟩
        have he1 := h.ok.e1
        have hok' : ({ s with expiry := day } : Sty).ok := ⟨h.ok.a1, h.ok.a2, by show 0 ≤ day; omega, by show day ≤ 1048576; omega, h.ok.c1, h.ok.d1, h.ok.c2, h.ok.d2⟩
        have hb : Below w.heap.size w (((w.alloc (.cells #[.pointer (some ⟨g, 0, none⟩)] 28)).alloc (.cells #[.int .i64 day] 3)).alloc (.cells #[.func (.func 38) #[] #[.pointer (some ⟨w.heap.size + 1, 0, none⟩), .pointer (some ⟨w.heap.size, 0, none⟩)], .func (.func 51) #[] #[], .func (.func 51) #[] #[]] 92)) := by repeat (first | with_reducible exact Below.refl _ _ | (with_reducible refine Below.setCell ?_ (by first | omega | (simp <;> omega)) _) | (with_reducible refine Below.alloc ?_ (by first | omega | (simp <;> omega)) _) | (with_reducible refine Below.drew ?_) | (with_reducible refine belowN ?_ _))
        have hS := (h.below (belowN hb nq)).expiry day hok'
        have hF : Frm (g :: (fpo A1 ++ fpo (some ⟨gd, 0, none⟩))) w _ := (Frm.of_below (belowN hb nq) _).setCell (p := ⟨g, 7, none⟩) (.inl (by simp)) (.int .i64 day)
        exact sur_stand hF hS k 2 hk (by decide) (by decide)
end Go.Proofs.Ytcjheabcnipnlaa
