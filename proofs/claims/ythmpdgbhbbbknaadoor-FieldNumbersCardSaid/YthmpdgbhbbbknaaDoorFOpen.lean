/-
  Arguments as they come in: what holds of every type; a list of fields.
-/
import Derived.Test.YthmpdgbhbbbknaaDoorFEq
import Derived.Deep.Slices
import Derived.Deep.Fields
import Derived.ChangeSame
import Derived.ProofKit
import Derived.OpenShut
import Derived.ChangeOld
namespace Go.Proofs.YthmpdgbhbbbknaaDoor
open Go.ChangeShapes Go.WideShapes Go.Deep Go.RowKit

set_option maxRecDepth 100000
theorem own : ownKnob Tryd.prog.godebug = none := by kernel_rfl
theorem laidOut : laidOutB Tryd.prog = true := by kernel_rfl
theorem of_each {α : Type} {p : Nat → α → Prop} : ∀ (n : Nat), (∀ i, i < n → ∃ a, p i a) → ∃ l : List α, l.length = n ∧ ∀ i (h : i < l.length), p i l[i]
  | 0, _ => ⟨[], rfl, fun i h => by simp at h⟩
  | n + 1, h => by
    obtain ⟨l, hl, hp⟩ := of_each n (fun i hi => h i (by omega))
    obtain ⟨a, ha⟩ := h n (by omega)
    refine ⟨l ++ [a], by simp [hl], fun i hi => ?_⟩
    by_cases h1 : i < l.length
    · rw [List.getElem_append_left h1]; exact hp i h1
    · simp at hi
      obtain rfl : i = n := by omega
      subst hl
      simpa using ha

section
variable {H : Type} {enc : TypeId × Value → H} {P : Program} {w : World} {base : Nat} {spare : Nat → Bool} {held : Bool}
theorem open_slice_fields {t e : TypeId} {fs : Array Field} {fuel : Nat} {cs : List Value} {x : DataW H × List MemPlace} (ht : P.underlying t = some (.slice e)) (he : P.underlying e = some (.struct fs))
    (hone : oneCellFields P fs = true) (hC : P.cellsOf e = fs.size) (h : DataW.trod enc P w base spare held fuel t cs = some x) :
    (cs = [.slice none 0 0] ∧ x = (.nil, [])) ∨
    ∃ (a : Addr) (len cap m : Nat) (D : Nat → DataW H) (Pl : Nat → List MemPlace), cs = [.slice (some a) len cap] ∧ base ≤ a.block ∧ len ≤ cap ∧ cap ≤ maxLen ∧ m = (if spare a.block then cap else len) ∧
      x = (.slice ((List.range len).map D) ((List.range (m - len)).map fun j => D (len + j)), MemPlace.row a (m * fs.size) ++ (List.range m).flatMap Pl) ∧
      ∀ i, i < m → ∃ (ys : List (DataW H × List MemPlace)) (n : Nat), D i = .agg (ys.map (·.1)) ∧ Pl i = ys.flatMap (·.2) ∧ ys.length = fs.size ∧
        ∀ (j : Nat) (f : Field), fs[j]? = some f → ∃ (v : Value) (y : DataW H × List MemPlace), w.cell? (a.add (i * fs.size + j)) = some v ∧ ys[j]? = some y ∧ DataW.trod enc P w base spare held n f.type [v] = some y := by
  rcases open_slice ht h with h0 | ⟨a, len, cap, m, n, D, Pl, hcs, hb, hl, hm, hmm, hx, hi⟩
  · exact .inl h0
  · refine .inr ⟨a, len, cap, m, D, Pl, hcs, hb, hl, hm, hmm, by rw [hC] at hx; exact hx, fun i him => ?_⟩
    obtain ⟨cs', hc, ht'⟩ := hi i him
    rw [hC] at hc
    obtain ⟨ys, n', hn', hy, hlen, hyl, hf⟩ := DataW.trod_struct he ht'
    obtain ⟨_, hcl, hat⟩ := World.cells?_some hc
    simp only [Prod.mk.injEq] at hy
    refine ⟨ys, n', hy.1, hy.2, hyl, fun j f hj => ?_⟩
    obtain ⟨ho, hk⟩ := hone_of hone j f hj
    have hjl : j < fs.size := (Array.getElem?_eq_some_iff.1 hj).1
    have hcell := hat j hjl
    have hv : cs'[j]? = some (cs'[j]'(by omega)) := List.getElem?_eq_getElem (by omega)
    have h1 := hf j f hj
    rw [ho, hk] at h1
    have hone' : (cs'.drop j).take 1 = [cs'[j]'(by omega)] := by
      rw [List.drop_eq_getElem_cons (by omega)]
      rfl
    rw [hone'] at h1
    have hys : ys[j]? = some (ys[j]'(by omega)) := List.getElem?_eq_getElem (by omega)
    refine ⟨_, _, ?_, hys, h1.trans hys⟩
    rw [← Go.Deep.add_add, hcell, hv]
end
section
variable {H : Type} {enc : TypeId × Value → H} {w : World} {base : Nat} {spare : Nat → Bool} {held : Bool}
theorem leaf_str {P : Program} {fuel : Nat} {t : TypeId} {v : Value} {x : Option (DataW H × List MemPlace)} (ht : P.underlying t = some .string) (h : DataW.trod enc P w base spare held fuel t [v] = x) (hx : x.isSome = true) : ∃ s, v = .string s ∧ s.size ≤ maxLen := by
  cases x with
  | none => cases hx
  | some y =>
    obtain ⟨s, h1, _, h2⟩ := DataW.trod_string ht h
    simp only [List.cons.injEq, and_true] at h1
    exact ⟨s, h1, h2⟩
theorem leaf_int {P : Program} {fuel : Nat} {t : TypeId} {k : IntKind} {v : Value} {x : Option (DataW H × List MemPlace)} (ht : P.underlying t = some (.int k)) (h : DataW.trod enc P w base spare held fuel t [v] = x) (hx : x.isSome = true) : ∃ n, v = .int k n ∧ (Lit.int k n).wf = true := by
  cases x with
  | none => cases hx
  | some y =>
    obtain ⟨n, h1, _, h2⟩ := DataW.trod_int ht h
    simp only [List.cons.injEq, and_true] at h1
    exact ⟨n, h1, h2⟩
theorem some_of_lt {α : Type} {l : List α} {n : Nat} (h : l.length = n) (i : Nat) (hi : i < n) : (l[i]?).isSome = true := by
  rw [List.getElem?_eq_getElem (by omega)]; rfl
/-- A list of fields that came in. -/
structure FdsIn (w : World) (A : Option Addr) (n : Nat) (l : List Fd) : Prop where
  lst : Lst Fd.cells 2 w A n l
  max : n ≤ maxLen
  names : ∀ f ∈ l, f.name.size ≤ maxLen
  vals : ∀ f ∈ l, f.value.size ≤ maxLen
theorem open_fields_at {fuel : Nat} {A : Option Addr} {n c : Nat} {x : DataW H × List MemPlace} (hf : DataW.trod enc Tryd.prog w base spare held fuel 22 [.slice A n c] = some x) : ∃ l : List Fd, FdsIn w A n l := by
  rcases open_slice_fields Tryd.underlying22 Tryd.underlying43 (by kernel_rfl) (by kernel_rfl) hf with ⟨hcs, _⟩ | ⟨a, len, cap, m, D, Pl, hcs, _, hl, hm, hmm, _, hi⟩
  · simp at hcs
    obtain ⟨rfl, rfl, rfl⟩ := hcs
    exact ⟨[], ⟨⟨rfl, fun i hi => by simp at hi⟩, by simp [maxLen], by simp, by simp⟩⟩
  · simp at hcs
    obtain ⟨rfl, rfl, rfl⟩ := hcs
    have hmn : n ≤ m := by rw [hmm]; split <;> omega
    obtain ⟨l, hlen, hp⟩ := of_each (p := fun i (x : Fd) => x.name.size ≤ maxLen ∧ x.value.size ≤ maxLen ∧ ∀ j u, x.cells[j]? = some u → w.cell? (a.add (i * 2 + j)) = some u) n (fun i hin => by
      obtain ⟨ys, n', _, _, hys, hf⟩ := hi i (by omega)
      obtain ⟨v0, y0, c0, e0, t0⟩ := hf 0 _ rfl
      obtain ⟨v1, y1, c1, e1, t1⟩ := hf 1 _ rfl
      obtain ⟨x0, rfl, w0⟩ := leaf_str Tryd.underlying9 t0 rfl
      obtain ⟨x1, rfl, w1⟩ := leaf_str Tryd.underlying9 t1 rfl
      refine ⟨⟨x0, x1⟩, w0, w1, ?_⟩
      intro j u hj
      rcases j with _ | _ | j
      · simp [Fd.cells] at hj; subst hj; exact c0
      · simp [Fd.cells] at hj; subst hj; exact c1
      · simp [Fd.cells] at hj)
    refine ⟨l, ⟨⟨hlen, fun i hi j u hu => ?_⟩, by omega, fun x hx => ?_, fun x hx => ?_⟩⟩
    · have hc := (hp i hi).2.2 j u hu
      obtain ⟨b, o, spot⟩ := a
      have h0 := (hp 0 (by omega)).2.2 0 _ rfl
      have hsp : spot = none := by simpa [Addr.add] using World.cell?_spot h0
      subst hsp
      refine ⟨b, o, rfl, ?_⟩
      by_cases hz : i * 2 + j = 0
      · rw [hz] at hc
        have e : o + i * 2 + j = o := by omega
        rw [e]
        simpa [Addr.add] using hc
      · rw [Nat.add_assoc]
        unfold Addr.add at hc
        rw [if_neg (by simpa using hz)] at hc
        exact hc
    · obtain ⟨i, hi, rfl⟩ := List.getElem_of_mem hx
      exact (hp i hi).1
    · obtain ⟨i, hi, rfl⟩ := List.getElem_of_mem hx
      exact (hp i hi).2.1
theorem open_fields {r : Reach} {b0 : Nat} {v : Value} {d : DataW H} {p : List MemPlace} (hv : Value.okWide Tryd.prog w r b0 22 v) (h : DataW.Trod enc Tryd.prog w base spare held 22 v d p) :
    ∃ (A : Option Addr) (n c : Nat) (l : List Fd), v = .slice A n c ∧ FdsIn w A n l := by
  obtain ⟨A, n, c, rfl⟩ := okWide_slice Tryd.underlying22 hv
  obtain ⟨fuel, hf⟩ := h
  obtain ⟨l, hl⟩ := open_fields_at hf
  exact ⟨A, n, c, l, rfl, hl⟩
theorem four {α : Type} {l : List α} (h : l.length = 4) : ∃ a b c d, l = [a, b, c, d] := by
  rcases l with _ | ⟨a, _ | ⟨b, _ | ⟨c, _ | ⟨d, _ | ⟨x, l⟩⟩⟩⟩⟩
  all_goals first | exact ⟨_, _, _, _, rfl⟩ | (simp at h; done)
/-- A paper that came in. -/
theorem open_doc {r : Reach} {b0 : Nat} {v : Value} {d : DataW H} {p : List MemPlace} (hv : Value.okWide Tryd.prog w r b0 24 v) (h : DataW.Trod enc Tryd.prog w base spare held 24 v d p) :
    ∃ (a : Dc) (A : Option Addr) (c : Nat), v = .agg #[.int .i64 a.kind, .string a.number, .string a.issuer, .slice A a.fields.length c] ∧ DocIn w A a ∧ a.number.size ≤ maxLen ∧ a.issuer.size ≤ maxLen ∧ FdsIn w A a.fields.length a.fields ∧ (a.fields.length ≤ c ∧ c ≤ maxLen ∧ (A = none → a.fields.length = 0 ∧ c = 0)) := by
  obtain ⟨cs, rfl, hsz⟩ := okWide_struct Tryd.underlying24 hv
  obtain ⟨fuel, hf⟩ := h
  obtain ⟨l⟩ := cs
  have hC : Tryd.prog.cellsOf 24 = 4 := by kernel_rfl
  have hC1 : Tryd.prog.cellsOf 9 = 1 := by kernel_rfl
  have hC2 : Tryd.prog.cellsOf 22 = 1 := by kernel_rfl
  have hC3 : Tryd.prog.cellsOf 3 = 1 := by kernel_rfl
  rw [hC] at hsz
  obtain ⟨a0, a1, a2, a3, rfl⟩ := four (by simpa using hsz)
  obtain ⟨xs, n, _, _, _, hl, hg⟩ := DataW.trod_struct Tryd.underlying24 hf
  have hl4 : xs.length = 4 := hl
  have g0 := hg 0 _ rfl
  have g1 := hg 1 _ rfl
  have g2 := hg 2 _ rfl
  have g3 := hg 3 _ rfl
  simp only [List.getElem_toArray, List.getElem_cons_zero, List.getElem_cons_succ, List.drop_zero, List.drop_succ_cons, List.take_succ_cons, List.take_zero, Value.cells, hC1, hC2, hC3] at g0 g1 g2 g3
  obtain ⟨k, rfl, _⟩ := leaf_int Tryd.underlying3 g0 (some_of_lt hl4 0 (by omega))
  obtain ⟨s1, rfl, h1⟩ := leaf_str Tryd.underlying9 g1 (some_of_lt hl4 1 (by omega))
  obtain ⟨s2, rfl, h2⟩ := leaf_str Tryd.underlying9 g2 (some_of_lt hl4 2 (by omega))
  obtain ⟨y, hy⟩ := Option.isSome_iff_exists.1 (some_of_lt hl4 3 (by omega))
  rw [hy] at g3
  obtain ⟨A, m, c, rfl⟩ : ∃ A m c, a3 = .slice A m c := by
    rcases open_slice_fields Tryd.underlying22 Tryd.underlying43 (by kernel_rfl) (by kernel_rfl) g3 with ⟨hcs, _⟩ | ⟨a, len, cap, m, D, Pl, hcs, _⟩
    · simp only [List.cons.injEq, and_true] at hcs
      exact ⟨_, _, _, hcs⟩
    · simp only [List.cons.injEq, and_true] at hcs
      exact ⟨_, _, _, hcs⟩
  obtain ⟨fl, hfl⟩ := open_fields_at g3
  obtain rfl := hfl.lst.len
  refine ⟨⟨k, s1, s2, fl⟩, A, c, rfl, ⟨hfl.lst, hfl.max⟩, h1, h2, hfl, ?_⟩
  rcases open_slice_fields Tryd.underlying22 Tryd.underlying43 (by kernel_rfl) (by kernel_rfl) g3 with ⟨hcs, _⟩ | ⟨a, len, cap, m, D, Pl, hcs, _, hl, hm, _⟩
  · simp at hcs
    obtain ⟨rfl, h0, rfl⟩ := hcs
    rw [h0]
    exact ⟨Nat.le_refl _, by simp [maxLen], fun _ => ⟨rfl, rfl⟩⟩
  · simp at hcs
    obtain ⟨rfl, h0, rfl⟩ := hcs
    rw [h0]
    exact ⟨hl, hm, fun h => by cases h⟩
end
end Go.Proofs.YthmpdgbhbbbknaaDoor
