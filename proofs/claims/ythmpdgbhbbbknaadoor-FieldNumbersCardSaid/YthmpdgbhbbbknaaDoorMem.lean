/-
  More words on memory: new blocks by their number; an element of an owned row written.
-/
import Derived.Test.YthmpdgbhbbbknaaDoorBase
namespace Go.Proofs.YthmpdgbhbbbknaaDoor
open Go.RowKit

theorem Blk.new' (w : World) (t : TypeId) (cs : Array Value) (g : Nat) (hg : g = w.heap.size) : Blk (w.alloc (.cells cs t)) g t cs := by
  subst hg
  exact Blk.new w t cs
/-- The cells of element i of an owned row. -/
theorem Own.elem {α : Type} {w : World} {e : TypeId} {k : Nat} {A : Option Addr} {n c : Nat} {f : α → List Value} {l : List α} (h : Own w e k A n c (l.flatMap f)) (hf : ∀ x, (f x).length = k) (hk : 0 < k) (i : Nat) (hi : i < l.length) :
    ∃ g, A = some ⟨g, 0, none⟩ ∧ g < w.heap.size ∧ (∀ j u, (f l[i])[j]? = some u → w.cell? ⟨g, i * k + j, none⟩ = some u) ∧ ∀ j, w.frozen? ⟨g, j, none⟩ = false := by
  obtain ⟨b, o, hA, hb, hc⟩ := h.rd.elem hf hk i hi
  rcases h.cases_ with ⟨h0, _⟩ | ⟨g, cur, hA', hg, _⟩
  · rw [h0] at hA; cases hA
  · rw [hA'] at hA
    simp only [Option.some.injEq, Addr.mk.injEq, and_true] at hA
    obtain ⟨rfl, rfl⟩ := hA
    exact ⟨_, hA', hb, fun j u hu => by have := hc j u hu; rwa [Nat.zero_add] at this, fun j => hg.free j⟩
/-- One cell of one element is set. -/
theorem flat_set {α : Type} (f : α → List Value) (k : Nat) (hf : ∀ x, (f x).length = k) : ∀ (l : List α) (i j : Nat) (x : α) (u : Value) (hi : i < l.length), j < k → f x = (f l[i]).set j u → (l.flatMap f).set (i * k + j) u = (l.set i x).flatMap f
  | y :: r, 0, j, x, u, _, hj, hx => by
    have hy := hf y
    simp only [List.flatMap_cons, Nat.zero_mul, Nat.zero_add, List.set_cons_zero]
    rw [List.set_append_left _ _ (by omega), hx]
    rfl
  | y :: r, i + 1, j, x, u, hi, hj, hx => by
    have hy := hf y
    simp only [List.flatMap_cons, List.set_cons_succ]
    rw [List.set_append_right _ _ (by rw [hy, Nat.succ_mul]; omega), hy]
    have e : (i + 1) * k + j - k = i * k + j := by rw [Nat.succ_mul]; omega
    rw [e, flat_set f k hf r i j x u (by simpa using hi) hj (by simpa using hx)]
theorem Own.far {w : World} {e : TypeId} {k : Nat} {A : Option Addr} {n c : Nat} {xs : List Value} (h : Own w e k A n c xs) {p : Addr} (hp : ∀ b ∈ fpo A, b ≠ p.block) (u : Value) : Own (w.setCell p u) e k A n c xs :=
  h.setCell (fun hh => hp _ hh rfl) u
theorem Below.go {a b c : World} (h : Below a.heap.size a b) (k : Below b.heap.size b c) : Below a.heap.size a c := h.trans (k.mono h.size)
theorem belowN {B : Nat} {a w : World} (h : Below B a w) (n : Nat) : Below B a (w.drewN n) := ⟨h.os, h.tape, h.output, h.size, h.block⟩
/-- An append to a row of the call's own leaves all elder memory as it was. -/
theorem Below.frm {S : List Nat} {a b c : World} (h : Below a.heap.size a b) (k : Frm S b c) (hS : ∀ x ∈ S, a.heap.size ≤ x) : Below a.heap.size a c :=
  h.trans ⟨k.os, k.tape, k.output, k.size, fun j hj => k.block j (by have := h.size; omega) (fun hx => by have := hS j hx; omega)⟩
end Go.Proofs.YthmpdgbhbbbknaaDoor
