/-
  The program's surety: New, Demands.
-/
import Derived.Test.YtcjheabcnipnlaaDo
import Derived.Test.YtcjheabcnipnlaaMay
import Derived.OwnWalk
namespace Go.Proofs.Ytcjheabcnipnlaa
open Go.RowKit

def start (b : Bd) : Sty := ⟨b, b.exp, [], []⟩
theorem start_ok {b : Bd} (h : mayB b = true) : (start b).ok := by
  unfold mayB at h
  simp only [Bool.and_eq_true] at h
  obtain ⟨⟨⟨_, _⟩, h1⟩, h2⟩ := h
  simp [sumB] at h1
  simp [dayB] at h2
  exact ⟨h1.1, h1.2, h2.1, h2.2, by simp [start], by simp [start], by simp [start], by simp [start]⟩
def NewPost (b : Bd) (w : World) (e : Ending) (w' : World) : Prop :=
  ∃ g, e = .returned (.tuple #[.pointer (some ⟨g, 0, none⟩), .int .i64 0]) ∧ Sur w' g (start b) [g] ∧ w.heap.size ≤ g ∧ Below w.heap.size w w'

theorem new_no (b : Bd) (w : World) (hs : b.fits) (hm : mayB b = false) :
    Calls Try.prog 11 #[.agg #[.string b.num, .string b.gua, .string b.fro, .string b.to, .string b.cur, .int .i64 b.amt, .int .i64 b.exp]] w fun e w' => e = .returned (.tuple #[.pointer none, .int .i64 1]) ∧ Below w.heap.size w w' := by
  go_enter Try.func11, Try.ntmps11
  go_wp2_with (go_at_call 12; refine (may_any b _ hs).mono ?_; rintro e w1 ⟨rfl, hb⟩)
  go_ret2
  exact ⟨rfl, Below.go (by repeat (first | with_reducible exact Below.refl _ _ | (with_reducible refine Below.setCell ?_ (by first | omega | (simp <;> omega)) _) | (with_reducible refine Below.alloc ?_ (by first | omega | (simp <;> omega)) _) | (with_reducible refine Below.drew ?_) | (with_reducible refine belowN ?_ _))) hb⟩

set_option maxHeartbeats 1000000 in
theorem new_yes (b : Bd) (w : World) (hs : b.fits) (hm : mayB b = true) : Calls Try.prog 11 #[.agg #[.string b.num, .string b.gua, .string b.fro, .string b.to, .string b.cur, .int .i64 b.amt, .int .i64 b.exp]] w (NewPost b w) := by
  have HOK := Lib.hid (start_ok hm)
  go_enter Try.func11, Try.ntmps11
  go_wp2_with (go_at_call 12; refine (may_any b _ hs).mono ?_; rintro e w1 ⟨rfl, hb⟩; have B0 := (Blk.new' _ _ _ w.heap.size rfl).below hb (by simp); have C0 := B0.all; have hz := hb.size; simp at hz)
  go_ret2
  refine ⟨w1.heap.size, rfl, ⟨none, 0, none, 0, ⟨?_, Own.nil _ _ _, Own.nil _ _ _, HOK.out⟩, rfl⟩, by omega, ?_⟩
  · exact Blk.new' _ _ _ _ rfl
  · have hb' : Below w.heap.size w w1 := Below.go (by repeat (first | with_reducible exact Below.refl _ _ | (with_reducible refine Below.setCell ?_ (by first | omega | (simp <;> omega)) _) | (with_reducible refine Below.alloc ?_ (by first | omega | (simp <;> omega)) _) | (with_reducible refine Below.drew ?_) | (with_reducible refine belowN ?_ _))) hb
    repeat (first | with_reducible exact hb' | (with_reducible refine Below.setCell ?_ (by first | omega | (simp <;> omega)) _) | (with_reducible refine Below.alloc ?_ (by first | omega | (simp <;> omega)) _) | (with_reducible refine Below.drew ?_) | (with_reducible refine belowN ?_ _))

def drawOf (x : Dm) : Dw := ⟨x.day, x.amount⟩
def DemPost (l : List Dm) (w : World) (e : Ending) (w' : World) : Prop :=
  ∃ A c, e = .returned (.slice A l.length c) ∧ Own w' 55 2 A l.length c ((l.map drawOf).flatMap Dw.cells) ∧ (∀ b ∈ fpo A, w.heap.size ≤ b) ∧ Below w.heap.size w w'
/-- The first k draws are told, the rest are zero. -/
def part (l : List Dm) (k : Nat) : List Dw := (l.take k).map drawOf ++ List.replicate (l.length - k) ⟨0, 0⟩
theorem part_len (l : List Dm) (k : Nat) (hk : k ≤ l.length) : (part l k).length = l.length := by simp [part]; omega
theorem part_zero (l : List Dm) : part l 0 = List.replicate l.length ⟨0, 0⟩ := by simp [part]
theorem part_all (l : List Dm) : part l l.length = l.map drawOf := by simp [part]
theorem part_succ (l : List Dm) (k : Nat) (hk : k < l.length) : (part l k).set k (drawOf l[k]) = part l (k + 1) := by
  unfold part
  rw [List.set_append_right _ _ (by simp; omega)]
  have e1 : k - ((l.take k).map drawOf).length = 0 := by simp; omega
  have e2 : l.length - k = (l.length - (k + 1)) + 1 := by omega
  rw [e1, e2, List.replicate_succ, List.set_cons_zero, List.take_succ_eq_append_getElem hk, List.map_append]
  simp
theorem zero_cells (n : Nat) : (madeCells #[.int .i64 0, .int .i64 0] (n * 2)).toList = (List.replicate n (Dw.mk 0 0)).flatMap Dw.cells := by
  apply List.ext_getElem?
  intro j
  by_cases hj : j < n * 2
  · have e := flat_get Dw.cells 2 Dw.cells_len (List.replicate n (Dw.mk 0 0)) (j / 2) (j % 2) (by simp; omega) (by omega)
    have ej : j / 2 * 2 + j % 2 = j := by omega
    rw [ej] at e
    rw [e]
    have : j % 2 = 0 ∨ j % 2 = 1 := by omega
    rcases this with h | h <;> simp [madeCells, hj, h, Dw.cells]
  · have hl : ((List.replicate n (Dw.mk 0 0)).flatMap Dw.cells).length = n * 2 := by rw [flat_len Dw.cells 2 Dw.cells_len]; simp
    rw [List.getElem?_eq_none (by simp [madeCells]; omega), List.getElem?_eq_none (by rw [hl]; omega)]
end Go.Proofs.Ytcjheabcnipnlaa
