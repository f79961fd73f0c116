/-
  slices.Clone of fields.
-/
import Derived.Test.YthmpdgbhbbbknaaDoorNewSl
import Derived.Test.YthmpdgbhbbbknaaDoorFParse
namespace Go.Proofs.YthmpdgbhbbbknaaDoor
open Go.RowKit

set_option maxHeartbeats 1000000 in
theorem cloneFd_any (l : List Fd) (A : Option Addr) (n c : Nat) (w : World) (h : Lst Fd.cells 2 w A n l) (h1 : n ≤ c) (h2 : c ≤ maxLen) (h3 : A = none → n = 0 ∧ c = 0) (hl : n * 32 ≤ 140737488355328) :
    Calls Tryd.prog 23 #[.slice A n c] w (NewSl 43 2 (l.flatMap Fd.cells) l.length w) := by
  obtain ⟨i1, hj, hy0, hy1, hy2⟩ := info_parts Tryd.infoFd
  have hs := h.src (by omega) Fd.cells_len h1 h2 h3
  obtain rfl := h.len
  have hmx : l.length ≤ maxLen := by omega
  rcases A with _ | a
  · obtain ⟨h4, h5⟩ := h3 rfl
    have hl0 : l = [] := List.eq_nil_of_length_eq_zero h4
    subst hl0
    subst h5
    have e1 : ∀ w : World, (binOp .eql 22 (.slice none 0 0) (.slice none 0 0)).run Tryd.prog w = .ok (.bool true) w := fun _ => by kernel_rfl
    go_enter Tryd.func23, Tryd.ntmps23
    go_wp2
    go_ret
    exact ⟨none, 0, rfl, Own.nil _ _ _, by simp, Below.refl _ _⟩
  · have e1 := fun w : World => Lib.run_eql_slice_nil (P := Tryd.prog) w 22 43 (some a) l.length c 0 0 Tryd.underlying22
    clear h h3
    go_enter Tryd.func23, Tryd.ntmps23
    go_wp2_with (at_builtin; go_loud (refine wpList_appS _ rfl _ _ 22 rfl 43 i1 _ 2 32 Tryd.underlying22 hj hy0 hy1 hy2 rfl (by decide) rfl rfl (Own.lit _ 43 2 #[] 0 (by simp [maxLen]) rfl _ (by simp)) (hs.alloc _) (fd_one _) l.length (by simp) (l.flatMap Fd.cells) (by simp) hmx hl ?_; intro A3 c3 w1 hown hfr hfp))
    go_ret
    refine ⟨A3, c3, rfl, hown, fun b hb => ?_, Below.frm (by repeat (first | with_reducible exact Below.refl _ _ | (with_reducible refine Below.setCell ?_ (by first | omega | (simp <;> omega)) _) | (with_reducible refine Below.alloc ?_ (by first | omega | (simp <;> omega)) _) | (with_reducible refine Below.drew ?_) | (with_reducible refine belowN ?_ _))) hfr (by simp)⟩
    rcases hfp b hb with h1 | h1
    · simp at h1; omega
    · simp at h1; omega
end Go.Proofs.YthmpdgbhbbbknaaDoor
