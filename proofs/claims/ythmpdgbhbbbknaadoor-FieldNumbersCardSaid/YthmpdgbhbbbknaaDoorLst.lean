/-
  A list argument, read element by element (its address may be anything where it is empty).
-/
import Derived.Test.YthmpdgbhbbbknaaDoorMem
namespace Go.Proofs.YthmpdgbhbbbknaaDoor
open Go.RowKit

structure Lst {α : Type} (f : α → List Value) (k : Nat) (w : World) (A : Option Addr) (n : Nat) (l : List α) : Prop where
  len : l.length = n
  cells : ∀ (i : Nat) (hi : i < l.length) (j : Nat) (u : Value), (f l[i])[j]? = some u → ∃ b o, A = some ⟨b, o, none⟩ ∧ w.cell? ⟨b, o + i * k + j, none⟩ = some u
section
variable {α : Type} {f : α → List Value} {k : Nat} {w w' : World} {A : Option Addr} {n : Nat} {l : List α}
theorem Lst.below (h : Lst f k w A n l) (hb : Below w.heap.size w w') : Lst f k w' A n l :=
  ⟨h.len, fun i hi j u hu => by
    obtain ⟨b, o, hA, hc⟩ := h.cells i hi j u hu
    exact ⟨b, o, hA, hb.cell (p := ⟨b, o + i * k + j, none⟩) (World.block_lt_of_cell? w _ hc) ▸ hc⟩⟩
theorem Lst.elem (h : Lst f k w A n l) (i : Nat) (hi : i < l.length) (u0 : Value) (h0 : (f l[i])[0]? = some u0) :
    ∃ b o, A = some ⟨b, o, none⟩ ∧ b < w.heap.size ∧ ∀ j u, (f l[i])[j]? = some u → w.cell? ⟨b, o + i * k + j, none⟩ = some u := by
  obtain ⟨b, o, rfl, c0⟩ := h.cells i hi 0 _ h0
  refine ⟨b, o, rfl, World.block_lt_of_cell? w _ c0, fun j u hu => ?_⟩
  obtain ⟨b', o', he, hc⟩ := h.cells i hi j u hu
  simp only [Option.some.injEq, Addr.mk.injEq, and_true] at he
  obtain ⟨rfl, rfl⟩ := he
  exact hc
theorem Rd.lst (hf : ∀ x, (f x).length = k) {c : Nat} (hl : l.length = n) (h : Rd w k A n c (l.flatMap f)) : Lst f k w A n l :=
  ⟨hl, fun i hi j u hu => by
    have hj : j < k := by rw [← hf l[i]]; exact (List.getElem?_eq_some_iff.1 hu).1
    obtain ⟨b, o, hA, hc⟩ := h.get (i * k + j) u (by rw [flat_get f k hf l i j hi hj]; exact hu)
    exact ⟨b, o, hA, by rw [Nat.add_assoc]; exact hc⟩⟩
end
theorem Own.apart {w : World} {e e' : TypeId} {k k' : Nat} {A A' : Option Addr} {n c n' c' : Nat} {xs xs' : List Value} (h : Own w e k A n c xs) (h' : Own w e' k' A' n' c' xs') (ht : e ≠ e') : ∀ b ∈ fpo A, b ∉ fpo A' := by
  intro b hb
  rcases h.cases_ with ⟨rfl, _⟩ | ⟨g, cur, rfl, hg, _⟩
  · simp at hb
  · simp at hb
    subst hb
    exact h'.ne_ hg ht
end Go.Proofs.YthmpdgbhbbbknaaDoor
