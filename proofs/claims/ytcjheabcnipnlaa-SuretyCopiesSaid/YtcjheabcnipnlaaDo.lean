/-
  do: an act, by the program.
-/
import Derived.Test.YtcjheabcnipnlaaSurD
import Derived.Test.YtcjheabcnipnlaaSurF
namespace Go.Proofs.Ytcjheabcnipnlaa
open Go.RowKit

theorem SurPost.first {w w0 w1 : World} {g : Nat} {fp : List Nat} {s : Sty} (h : SurPost w0 g fp s w1) (hb : Below w.heap.size w w0) : SurPost w g fp s w1 := by
  obtain ⟨fp', h1, h2, h3⟩ := h
  refine ⟨fp', h1, (Frm.of_below hb fp).trans h2 (fun x hx => .inl hx), fun b hb' => ?_⟩
  have := hb.size
  rcases h3 b hb' with h | h
  · exact .inl h
  · exact .inr (by omega)

set_option maxRecDepth 100000 in
set_option maxHeartbeats 2000000 in
theorem do0_any (g : Nat) (s : Sty) (A1 A2 : Option Addr) (c1 c2 : Nat) (a : Ac) (w : World) (h : SurAt w g s A1 c1 A2 c2) (hd : s.dems.length < 3900) (hl : s.cuts.length < 3900) (hk : 0 ≤ a.kind ∧ a.kind ≤ 255) (h0 : a.kind % 4 = 0) :
    Calls Try.prog 16 #[.pointer (some ⟨g, 0, none⟩), .agg #[.int .u8 a.kind, .string a.by_, .int .i64 a.sum, .int .i64 a.day, .int .i64 a.n]] w fun e w' =>
      e = .returned (.tuple #[.int .i64 (act s a).2.1, .int .i64 (act s a).2.2]) ∧ SurPost w g (g :: (fpo A1 ++ fpo A2)) (act s a).1 w' := by
  rw [act0 h0]
  have h0' : (a.kind % 4 == 0) = true := by rw [h0]; rfl
  clear h0
  try dsimp only
  have hw : Below w.heap.size w (w.alloc (.cells #[.int .u8 a.kind, .string a.by_, .int .i64 a.sum, .int .i64 a.day, .int .i64 a.n] 40)) := by repeat (first | with_reducible exact Below.refl _ _ | (with_reducible refine Below.setCell ?_ (by first | omega | (simp <;> omega)) _) | (with_reducible refine Below.alloc ?_ (by first | omega | (simp <;> omega)) _) | (with_reducible refine Below.drew ?_) | (with_reducible refine belowN ?_ _))
  go_enter Try.func16, Try.ntmps16
  go_wp2_with (go_at_call 17; refine (demand_any g s A1 A2 c1 c2 a.by_ a.sum a.day _ (h.below hw) hd).mono ?_; rintro e w1 ⟨rfl, hp⟩)
  go_ret2
  exact ⟨rfl, hp.first hw⟩
set_option maxRecDepth 100000 in
set_option maxHeartbeats 2000000 in
theorem do1_any (g : Nat) (s : Sty) (A1 A2 : Option Addr) (c1 c2 : Nat) (a : Ac) (w : World) (h : SurAt w g s A1 c1 A2 c2) (hd : s.dems.length < 3900) (hl : s.cuts.length < 3900) (hk : 0 ≤ a.kind ∧ a.kind ≤ 255) (h0 : a.kind % 4 = 1) :
    Calls Try.prog 16 #[.pointer (some ⟨g, 0, none⟩), .agg #[.int .u8 a.kind, .string a.by_, .int .i64 a.sum, .int .i64 a.day, .int .i64 a.n]] w fun e w' =>
      e = .returned (.tuple #[.int .i64 (act s a).2.1, .int .i64 (act s a).2.2]) ∧ SurPost w g (g :: (fpo A1 ++ fpo A2)) (act s a).1 w' := by
  rw [act1 h0]
  have h0' : (a.kind % 4 == 0) = false := by rw [h0]; rfl
  have h1' : (a.kind % 4 == 1) = true := by rw [h0]; rfl
  clear h0
  try dsimp only
  have hw : Below w.heap.size w (w.alloc (.cells #[.int .u8 a.kind, .string a.by_, .int .i64 a.sum, .int .i64 a.day, .int .i64 a.n] 40)) := by repeat (first | with_reducible exact Below.refl _ _ | (with_reducible refine Below.setCell ?_ (by first | omega | (simp <;> omega)) _) | (with_reducible refine Below.alloc ?_ (by first | omega | (simp <;> omega)) _) | (with_reducible refine Below.drew ?_) | (with_reducible refine belowN ?_ _))
  go_enter Try.func16, Try.ntmps16
  go_wp2_with (go_at_call 20; refine (extend_any g s A1 A2 c1 c2 a.n a.day _ (h.below hw)).mono ?_; rintro e w1 ⟨rfl, hp⟩)
  go_ret2
  exact ⟨rfl, hp.first hw⟩
set_option maxRecDepth 100000 in
set_option maxHeartbeats 2000000 in
theorem do2_any (g : Nat) (s : Sty) (A1 A2 : Option Addr) (c1 c2 : Nat) (a : Ac) (w : World) (h : SurAt w g s A1 c1 A2 c2) (hd : s.dems.length < 3900) (hl : s.cuts.length < 3900) (hk : 0 ≤ a.kind ∧ a.kind ≤ 255) (h0 : a.kind % 4 = 2) :
    Calls Try.prog 16 #[.pointer (some ⟨g, 0, none⟩), .agg #[.int .u8 a.kind, .string a.by_, .int .i64 a.sum, .int .i64 a.day, .int .i64 a.n]] w fun e w' =>
      e = .returned (.tuple #[.int .i64 (act s a).2.1, .int .i64 (act s a).2.2]) ∧ SurPost w g (g :: (fpo A1 ++ fpo A2)) (act s a).1 w' := by
  rw [act2 h0]
  have h0' : (a.kind % 4 == 0) = false := by rw [h0]; rfl
  have h1' : (a.kind % 4 == 1) = false := by rw [h0]; rfl
  have h2' : (a.kind % 4 == 2) = true := by rw [h0]; rfl
  clear h0
  try dsimp only
  have hw : Below w.heap.size w (w.alloc (.cells #[.int .u8 a.kind, .string a.by_, .int .i64 a.sum, .int .i64 a.day, .int .i64 a.n] 40)) := by repeat (first | with_reducible exact Below.refl _ _ | (with_reducible refine Below.setCell ?_ (by first | omega | (simp <;> omega)) _) | (with_reducible refine Below.alloc ?_ (by first | omega | (simp <;> omega)) _) | (with_reducible refine Below.drew ?_) | (with_reducible refine belowN ?_ _))
  go_enter Try.func16, Try.ntmps16
  go_wp2_with (go_at_call 19; refine (pay_any g s A1 A2 c1 c2 a.n _ (h.below hw)).mono ?_; rintro e w1 ⟨rfl, hp⟩)
  go_ret2
  exact ⟨rfl, hp.first hw⟩
set_option maxRecDepth 100000 in
set_option maxHeartbeats 2000000 in
theorem do3_any (g : Nat) (s : Sty) (A1 A2 : Option Addr) (c1 c2 : Nat) (a : Ac) (w : World) (h : SurAt w g s A1 c1 A2 c2) (hd : s.dems.length < 3900) (hl : s.cuts.length < 3900) (hk : 0 ≤ a.kind ∧ a.kind ≤ 255) (h0 : a.kind % 4 = 3) :
    Calls Try.prog 16 #[.pointer (some ⟨g, 0, none⟩), .agg #[.int .u8 a.kind, .string a.by_, .int .i64 a.sum, .int .i64 a.day, .int .i64 a.n]] w fun e w' =>
      e = .returned (.tuple #[.int .i64 (act s a).2.1, .int .i64 (act s a).2.2]) ∧ SurPost w g (g :: (fpo A1 ++ fpo A2)) (act s a).1 w' := by
  rw [act3 h0]
  have h0' : (a.kind % 4 == 0) = false := by rw [h0]; rfl
  have h1' : (a.kind % 4 == 1) = false := by rw [h0]; rfl
  have h2' : (a.kind % 4 == 2) = false := by rw [h0]; rfl
  clear h0
  try dsimp only
  have hw : Below w.heap.size w (w.alloc (.cells #[.int .u8 a.kind, .string a.by_, .int .i64 a.sum, .int .i64 a.day, .int .i64 a.n] 40)) := by repeat (first | with_reducible exact Below.refl _ _ | (with_reducible refine Below.setCell ?_ (by first | omega | (simp <;> omega)) _) | (with_reducible refine Below.alloc ?_ (by first | omega | (simp <;> omega)) _) | (with_reducible refine Below.drew ?_) | (with_reducible refine belowN ?_ _))
  go_enter Try.func16, Try.ntmps16
  go_wp2_with (go_at_call 24; refine (reduce_any g s A1 A2 c1 c2 a.sum a.day _ (h.below hw) hl).mono ?_; rintro e w1 ⟨rfl, hp⟩)
  go_ret2
  exact ⟨rfl, hp.first hw⟩

theorem do_any (g : Nat) (s : Sty) (fp : List Nat) (a : Ac) (w : World) (h : Sur w g s fp) (hd : s.dems.length < 3900) (hl : s.cuts.length < 3900) (hk : 0 ≤ a.kind ∧ a.kind ≤ 255) :
    Calls Try.prog 16 #[.pointer (some ⟨g, 0, none⟩), .agg #[.int .u8 a.kind, .string a.by_, .int .i64 a.sum, .int .i64 a.day, .int .i64 a.n]] w fun e w' =>
      e = .returned (.tuple #[.int .i64 (act s a).2.1, .int .i64 (act s a).2.2]) ∧ SurPost w g fp (act s a).1 w' := by
  obtain ⟨A1, c1, A2, c2, h, rfl⟩ := h
  have hm : a.kind % 4 = 0 ∨ a.kind % 4 = 1 ∨ a.kind % 4 = 2 ∨ a.kind % 4 = 3 := by omega
  rcases hm with h0 | h0 | h0 | h0
  · exact do0_any g s A1 A2 c1 c2 a w h hd hl hk h0
  · exact do1_any g s A1 A2 c1 c2 a w h hd hl hk h0
  · exact do2_any g s A1 A2 c1 c2 a w h hd hl hk h0
  · exact do3_any g s A1 A2 c1 c2 a w h hd hl hk h0
end Go.Proofs.Ytcjheabcnipnlaa
