/-
  The program's surety: Copy (two Clones).
-/
import Derived.Test.YtcjheabcnipnlaaDo
import Derived.OwnWalk
namespace Go.Proofs.Ytcjheabcnipnlaa
open Go.RowKit

def ClonePost (e : TypeId) (k : Nat) (n : Nat) (xs : List Value) (w : World) (e' : Ending) (w' : World) : Prop :=
  ∃ A c, e' = .returned (.slice A n c) ∧ Own w' e k A n c xs ∧ (∀ b ∈ fpo A, w.heap.size ≤ b) ∧ Below w.heap.size w w'

set_option maxHeartbeats 1000000 in
theorem cloneDraw_any (l : List Dw) (A : Option Addr) (c : Nat) (w : World) (h : Rd w 2 A l.length c (l.flatMap Dw.cells)) (hl : l.length ≤ 4000) :
    Calls Try.prog 41 #[.slice A l.length c] w (ClonePost 55 2 l.length (l.flatMap Dw.cells) w) := by
  obtain ⟨i1, hj, hy0, hy1, hy2⟩ := info_parts Try.infoDraw
  rcases A with _ | a
  · obtain ⟨h1, h2⟩ := h.nil_ rfl
    have hl0 : l = [] := List.eq_nil_of_length_eq_zero h1
    subst hl0
    subst h2
    have e1 : ∀ w : World, (binOp .eql 32 (.slice none 0 0) (.slice none 0 0)).run Try.prog w = .ok (.bool true) w := fun _ => by kernel_rfl
    go_enter Try.func41, Try.ntmps41
    go_wp2
    go_ret
    exact ⟨none, 0, rfl, Own.nil _ _ _, by simp, Below.refl _ _⟩
  · have e1 := fun w : World => Lib.run_eql_slice_nil (P := Try.prog) w 32 55 (some a) l.length c 0 0 Try.underlying32
    go_enter Try.func41, Try.ntmps41
    go_wp2_with (at_builtin; go_loud (refine wpList_app _ rfl _ _ 32 rfl 55 i1 _ 2 16 Try.underlying32 hj hy0 hy1 hy2 rfl (by decide) rfl rfl (Own.lit _ 55 2 #[] 0 (by simp [maxLen]) rfl _ (by simp)) (h.alloc _) (draw_one _) l.length (by simp) (l.flatMap Dw.cells) (by simp) (by unfold maxLen; omega) (by omega) ?_; intro A3 c3 w1 hown hfr hfp))
    go_ret
    refine ⟨A3, c3, rfl, hown, fun b hb => ?_, Below.frm (by repeat (first | with_reducible exact Below.refl _ _ | (with_reducible refine Below.setCell ?_ (by first | omega | (simp <;> omega)) _) | (with_reducible refine Below.alloc ?_ (by first | omega | (simp <;> omega)) _) | (with_reducible refine Below.drew ?_) | (with_reducible refine belowN ?_ _))) hfr (by simp)⟩
    rcases hfp b hb with h1 | h1
    · simp at h1; omega
    · simp at h1; omega

set_option maxHeartbeats 1000000 in
theorem cloneDem_any (l : List Dm) (A : Option Addr) (c : Nat) (w : World) (h : Rd w 3 A l.length c (l.flatMap Dm.cells)) (hl : l.length ≤ 4000) :
    Calls Try.prog 42 #[.slice A l.length c] w (ClonePost 68 3 l.length (l.flatMap Dm.cells) w) := by
  obtain ⟨i0, hi, hz0, hz1, hz2⟩ := info_parts Try.infoPDem
  rcases A with _ | a
  · obtain ⟨h1, h2⟩ := h.nil_ rfl
    have hl0 : l = [] := List.eq_nil_of_length_eq_zero h1
    subst hl0
    subst h2
    have e1 : ∀ w : World, (binOp .eql 62 (.slice none 0 0) (.slice none 0 0)).run Try.prog w = .ok (.bool true) w := fun _ => by kernel_rfl
    go_enter Try.func42, Try.ntmps42
    go_wp2
    go_ret
    exact ⟨none, 0, rfl, Own.nil _ _ _, by simp, Below.refl _ _⟩
  · have e1 := fun w : World => Lib.run_eql_slice_nil (P := Try.prog) w 62 68 (some a) l.length c 0 0 Try.underlying62
    go_enter Try.func42, Try.ntmps42
    go_wp2_with (at_builtin; go_loud (refine wpList_app _ rfl _ _ 62 rfl 68 i0 _ 3 24 Try.underlying62 hi hz0 hz1 hz2 rfl (by decide) rfl rfl (Own.lit _ 68 3 #[] 0 (by simp [maxLen]) rfl _ (by simp)) (h.alloc _) (dem_one _) l.length (by simp) (l.flatMap Dm.cells) (by simp) (by unfold maxLen; omega) (by omega) ?_; intro A3 c3 w1 hown hfr hfp))
    go_ret
    refine ⟨A3, c3, rfl, hown, fun b hb => ?_, Below.frm (by repeat (first | with_reducible exact Below.refl _ _ | (with_reducible refine Below.setCell ?_ (by first | omega | (simp <;> omega)) _) | (with_reducible refine Below.alloc ?_ (by first | omega | (simp <;> omega)) _) | (with_reducible refine Below.drew ?_) | (with_reducible refine belowN ?_ _))) hfr (by simp)⟩
    rcases hfp b hb with h1 | h1
    · simp at h1; omega
    · simp at h1; omega

def CopyPost (s : Sty) (w : World) (e : Ending) (w' : World) : Prop :=
  ∃ g fp, e = .returned (.pointer (some ⟨g, 0, none⟩)) ∧ Sur w' g s fp ∧ (∀ b ∈ fp, w.heap.size ≤ b) ∧ Below w.heap.size w w'

set_option maxRecDepth 100000 in
set_option maxHeartbeats 2000000 in
theorem copy_any (g : Nat) (s : Sty) (A1 A2 : Option Addr) (c1 c2 : Nat) (w : World) (h : SurAt w g s A1 c1 A2 c2) :
    Calls Try.prog 22 #[.pointer (some ⟨g, 0, none⟩)] w (CopyPost s w) := by
  have C0 := h.blk.all
  have hg := h.blk.lt
  have hd2 := h.ok.d2
  have hc2 := h.ok.c2
  have HOK := Lib.hid h.ok
  have tok1 : True := trivial
  have hgx : ¬ g = w.heap.size := by omega
  go_enter Try.func22, Try.ntmps22
  go_wp2_with (first | (go_at_call 41; refine (cloneDraw_any s.cuts A1 c1 _ (h.cuts.rd.alloc _) hc2).mono ?_; rintro e w1 ⟨A3, c3, rfl, o1, n1, hb1⟩; have B1 := (Blk.new' _ _ _ w.heap.size rfl).below hb1 (by simp); have D1 := B1.all; have E1 := B1.frees; have hw1 : Below w.heap.size w w1 := Below.go (by repeat (first | with_reducible exact Below.refl _ _ | (with_reducible refine Below.setCell ?_ (by first | omega | (simp <;> omega)) _) | (with_reducible refine Below.alloc ?_ (by first | omega | (simp <;> omega)) _) | (with_reducible refine Below.drew ?_) | (with_reducible refine belowN ?_ _))) hb1; have D0 := (h.blk.below hw1 hg).all; have hz1 := hb1.size; simp at hz1; have N1 := Lib.hid n1; clear C0 n1 hb1) | (go_at_call 42; refine (cloneDem_any s.dems A2 c2 _ (h.dems.rd.below (hw1.setCell (p := ⟨w.heap.size, 8, none⟩) (Nat.le_refl _) _)) hd2).mono ?_; rintro e w2 ⟨A4, c4, rfl, o2, n2, hb2⟩; have B2 := (B1.set_ 8 (.slice A3 s.cuts.length c3)).below hb2 (by simp; omega); have D2 := B2.all; have E2 := B2.frees; have N2 := Lib.hid n2; clear D0 D1 E1 n2))
  go_ret
  have m3 : ∀ b ∈ fpo A3, w.heap.size + 1 ≤ b := fun b hb => by simpa using N1.out b hb
  have m4 : ∀ b ∈ fpo A4, w1.heap.size ≤ b := fun b hb => by simpa [World.setCell] using N2.out b hb
  have hw2 : Below w.heap.size w w2 := Below.go (hw1.setCell (p := ⟨w.heap.size, 8, none⟩) (Nat.le_refl _) _) hb2
  refine ⟨w.heap.size, w.heap.size :: (fpo A3 ++ fpo A4), rfl, ⟨A3, c3, A4, c4, ⟨?_, ?_, ?_, HOK.out⟩, rfl⟩, ?_, ?_⟩
  · have hx := B2.set_ 9 (.slice A4 s.dems.length c4)
    simpa using hx
  · exact ((o1.setCell (p := ⟨w.heap.size, 8, none⟩) (fun hb => by have := m3 _ hb; simp at this; omega) _).below hb2).setCell (fun hb => by have := m3 _ hb; simp at this; omega) _
  · exact o2.setCell (fun hb => by have := m4 _ hb; simp at this; omega) _
  · intro b hb
    simp at hb
    rcases hb with rfl | hb | hb
    · omega
    · have := m3 b hb; omega
    · have := m4 b hb; omega
  · exact hw2.setCell (p := ⟨w.heap.size, 9, none⟩) (Nat.le_refl _) _
end Go.Proofs.Ytcjheabcnipnlaa
