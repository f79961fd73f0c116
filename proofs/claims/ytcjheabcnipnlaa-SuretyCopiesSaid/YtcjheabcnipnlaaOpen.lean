/-
  The arguments as they come in: a bond by value, a list of acts.
-/
import Derived.Test.YtcjheabcnipnlaaLawPlays
import Derived.Deep.Slices
import Derived.Deep.Fields
import Derived.ChangeSame
import Derived.ProofKit
import Derived.OpenShut
import Derived.ChangeOld
namespace Go.Proofs.Ytcjheabcnipnlaa
open Go.ChangeShapes Go.WideShapes Go.Deep Go.RowKit

theorem own : ownKnob Try.prog.godebug = none := by kernel_rfl
theorem laidOut : laidOutB Try.prog = true := by kernel_rfl
theorem of_each {α : Type} {p : Nat → α → Prop} : ∀ (n : Nat), (∀ i, i < n → ∃ a, p i a) → ∃ l : List α, l.length = n ∧ ∀ i (h : i < l.length), p i l[i]
  | 0, _ => ⟨[], rfl, fun i h => by simp at h⟩
  | n + 1, h => by
    obtain ⟨l, hl, hp⟩ := of_each n (fun i hi => h i (by omega))
    obtain ⟨a, ha⟩ := h n (by omega)
    refine ⟨l ++ [a], by simp [hl], fun i hi => ?_⟩
    by_cases h1 : i < l.length
    · rw [List.getElem_append_left h1]; exact hp i h1
    · simp at hi
      obtain rfl : i = n := by omega
      subst hl
      simpa using ha

section
variable {H : Type} {enc : TypeId × Value → H} {P : Program} {w : World} {base : Nat} {spare : Nat → Bool} {held : Bool}
theorem open_slice_fields {t e : TypeId} {fs : Array Field} {fuel : Nat} {cs : List Value} {x : DataW H × List MemPlace} (ht : P.underlying t = some (.slice e)) (he : P.underlying e = some (.struct fs))
    (hone : oneCellFields P fs = true) (hC : P.cellsOf e = fs.size) (h : DataW.trod enc P w base spare held fuel t cs = some x) :
    (cs = [.slice none 0 0] ∧ x = (.nil, [])) ∨
    ∃ (a : Addr) (len cap m : Nat) (D : Nat → DataW H) (Pl : Nat → List MemPlace), cs = [.slice (some a) len cap] ∧ base ≤ a.block ∧ len ≤ cap ∧ cap ≤ maxLen ∧ m = (if spare a.block then cap else len) ∧
      x = (.slice ((List.range len).map D) ((List.range (m - len)).map fun j => D (len + j)), MemPlace.row a (m * fs.size) ++ (List.range m).flatMap Pl) ∧
      ∀ i, i < m → ∃ (ys : List (DataW H × List MemPlace)) (n : Nat), D i = .agg (ys.map (·.1)) ∧ Pl i = ys.flatMap (·.2) ∧ ys.length = fs.size ∧
        ∀ (j : Nat) (f : Field), fs[j]? = some f → ∃ (v : Value) (y : DataW H × List MemPlace), w.cell? (a.add (i * fs.size + j)) = some v ∧ ys[j]? = some y ∧ DataW.trod enc P w base spare held n f.type [v] = some y := by
  rcases open_slice ht h with h0 | ⟨a, len, cap, m, n, D, Pl, hcs, hb, hl, hm, hmm, hx, hi⟩
  · exact .inl h0
  · refine .inr ⟨a, len, cap, m, D, Pl, hcs, hb, hl, hm, hmm, by rw [hC] at hx; exact hx, fun i him => ?_⟩
    obtain ⟨cs', hc, ht'⟩ := hi i him
    rw [hC] at hc
    obtain ⟨ys, n', hn', hy, hlen, hyl, hf⟩ := DataW.trod_struct he ht'
    obtain ⟨_, hcl, hat⟩ := World.cells?_some hc
    simp only [Prod.mk.injEq] at hy
    refine ⟨ys, n', hy.1, hy.2, hyl, fun j f hj => ?_⟩
    obtain ⟨ho, hk⟩ := hone_of hone j f hj
    have hjl : j < fs.size := (Array.getElem?_eq_some_iff.1 hj).1
    have hcell := hat j hjl
    have hv : cs'[j]? = some (cs'[j]'(by omega)) := List.getElem?_eq_getElem (by omega)
    have h1 := hf j f hj
    rw [ho, hk] at h1
    have hone' : (cs'.drop j).take 1 = [cs'[j]'(by omega)] := by
      rw [List.drop_eq_getElem_cons (by omega)]
      rfl
    rw [hone'] at h1
    have hys : ys[j]? = some (ys[j]'(by omega)) := List.getElem?_eq_getElem (by omega)
    refine ⟨_, _, ?_, hys, h1.trans hys⟩
    rw [← Go.Deep.add_add, hcell, hv]
end
section
variable {H : Type} {enc : TypeId × Value → H} {w : World} {base : Nat} {spare : Nat → Bool} {held : Bool}
theorem seven {α : Type} {l : List α} (h : l.length = 7) : ∃ a b c d e f g, l = [a, b, c, d, e, f, g] := by
  rcases l with _ | ⟨a, _ | ⟨b, _ | ⟨c, _ | ⟨d, _ | ⟨e, _ | ⟨f, _ | ⟨g, _ | ⟨x, l⟩⟩⟩⟩⟩⟩⟩⟩
  all_goals first | exact ⟨_, _, _, _, _, _, _, rfl⟩ | (simp at h; done)
theorem leaf_str {P : Program} {fuel : Nat} {t : TypeId} {v : Value} {x : Option (DataW H × List MemPlace)} (ht : P.underlying t = some .string) (h : DataW.trod enc P w base spare held fuel t [v] = x) (hx : x.isSome = true) : ∃ s, v = .string s ∧ s.size ≤ maxLen := by
  cases x with
  | none => cases hx
  | some y =>
    obtain ⟨s, h1, _, h2⟩ := DataW.trod_string ht h
    simp only [List.cons.injEq, and_true] at h1
    exact ⟨s, h1, h2⟩
theorem leaf_int {P : Program} {fuel : Nat} {t : TypeId} {k : IntKind} {v : Value} {x : Option (DataW H × List MemPlace)} (ht : P.underlying t = some (.int k)) (h : DataW.trod enc P w base spare held fuel t [v] = x) (hx : x.isSome = true) : ∃ n, v = .int k n ∧ (Lit.int k n).wf = true := by
  cases x with
  | none => cases hx
  | some y =>
    obtain ⟨n, h1, _, h2⟩ := DataW.trod_int ht h
    simp only [List.cons.injEq, and_true] at h1
    exact ⟨n, h1, h2⟩
theorem some_of_lt {α : Type} {l : List α} {n : Nat} (h : l.length = n) (i : Nat) (hi : i < n) : (l[i]?).isSome = true := by
  rw [List.getElem?_eq_getElem (by omega)]; rfl
/-- A bond that came in. -/
theorem open_bond {r : Reach} {b0 : Nat} {v : Value} {d : DataW H} {p : List MemPlace} (hv : Value.okWide Try.prog w r b0 25 v) (h : DataW.Trod enc Try.prog w base spare held 25 v d p) :
    ∃ b : Bd, v = .agg #[.string b.num, .string b.gua, .string b.fro, .string b.to, .string b.cur, .int .i64 b.amt, .int .i64 b.exp] ∧ b.fits := by
  obtain ⟨cs, rfl, hsz⟩ := okWide_struct Try.underlying25 hv
  obtain ⟨fuel, hf⟩ := h
  obtain ⟨l⟩ := cs
  have hC : Try.prog.cellsOf 25 = 7 := by kernel_rfl
  have hC1 : Try.prog.cellsOf 9 = 1 := by kernel_rfl
  have hC2 : Try.prog.cellsOf 23 = 2 := by kernel_rfl
  have hC3 : Try.prog.cellsOf 3 = 1 := by kernel_rfl
  have hC4 : Try.prog.cellsOf 2 = 1 := by kernel_rfl
  rw [hC] at hsz
  obtain ⟨a0, a1, a2, a3, a4, a5, a6, rfl⟩ := seven (by simpa using hsz)
  obtain ⟨xs, n, _, _, _, hl, hg⟩ := DataW.trod_struct Try.underlying25 hf
  have hl6 : xs.length = 6 := hl
  have g0 := hg 0 _ rfl
  have g1 := hg 1 _ rfl
  have g2 := hg 2 _ rfl
  have g3 := hg 3 _ rfl
  have g4 := hg 4 _ rfl
  have g5 := hg 5 _ rfl
  simp only [List.getElem_toArray, List.getElem_cons_zero, List.getElem_cons_succ, List.drop_zero, List.drop_succ_cons, List.take_succ_cons, List.take_zero, Value.cells, hC1, hC2, hC3] at g0 g1 g2 g3 g4 g5
  obtain ⟨s0, rfl, h0⟩ := leaf_str Try.underlying9 g0 (some_of_lt hl6 0 (by omega))
  obtain ⟨s1, rfl, h1⟩ := leaf_str Try.underlying9 g1 (some_of_lt hl6 1 (by omega))
  obtain ⟨s2, rfl, h2⟩ := leaf_str Try.underlying9 g2 (some_of_lt hl6 2 (by omega))
  obtain ⟨s3, rfl, h3⟩ := leaf_str Try.underlying9 g3 (some_of_lt hl6 3 (by omega))
  obtain ⟨e, rfl, _⟩ := leaf_int Try.underlying3 g5 (some_of_lt hl6 5 (by omega))
  obtain ⟨y, hy⟩ := Option.isSome_iff_exists.1 (some_of_lt hl6 4 (by omega))
  rw [hy] at g4
  obtain ⟨ys, m, _, _, _, hm, hk⟩ := DataW.trod_struct Try.underlying23 g4
  have hm2 : ys.length = 2 := hm
  have k0 := hk 0 _ rfl
  have k1 := hk 1 _ rfl
  simp only [List.getElem_toArray, List.getElem_cons_zero, List.getElem_cons_succ, List.drop_zero, List.drop_succ_cons, List.take_succ_cons, List.take_zero, hC1, hC4] at k0 k1
  obtain ⟨s4, rfl, h4⟩ := leaf_str Try.underlying9 k0 (some_of_lt hm2 0 (by omega))
  obtain ⟨q, rfl, _⟩ := leaf_int Try.underlying2 k1 (some_of_lt hm2 1 (by omega))
  exact ⟨⟨s0, s1, s2, s3, s4, q, e⟩, rfl, h0, h1, h2, h3, h4⟩
/-- A list of acts that came in. -/
theorem open_acts {r : Reach} {b0 : Nat} {v : Value} {d : DataW H} {p : List MemPlace} (hv : Value.okWide Try.prog w r b0 35 v) (h : DataW.Trod enc Try.prog w base spare held 35 v d p) :
    ∃ (A : Option Addr) (n c : Nat) (l : List Ac), v = .slice A n c ∧ Acts w A n c l := by
  obtain ⟨A, n, c, rfl⟩ := okWide_slice Try.underlying35 hv
  obtain ⟨fuel, hf⟩ := h
  rcases open_slice_fields Try.underlying35 Try.underlying40 (by kernel_rfl) (by kernel_rfl) hf with ⟨hcs, _⟩ | ⟨a, len, cap, m, D, Pl, hcs, _, hl, hm, hmm, _, hi⟩
  · simp [Value.cells] at hcs
    obtain ⟨rfl, rfl, rfl⟩ := hcs
    exact ⟨none, 0, 0, [], rfl, ⟨rfl, by simp, fun i hi => by simp at hi⟩⟩
  · simp [Value.cells] at hcs
    obtain ⟨rfl, rfl, rfl⟩ := hcs
    have hmn : n ≤ m := by rw [hmm]; split <;> omega
    obtain ⟨l, hlen, hp⟩ := of_each (p := fun i (x : Ac) => x.ok ∧ ∀ j u, x.cells[j]? = some u → w.cell? (a.add (i * 5 + j)) = some u) n (fun i hin => by
      obtain ⟨ys, n', _, _, hys, hf⟩ := hi i (by omega)
      obtain ⟨v0, y0, c0, e0, t0⟩ := hf 0 _ rfl
      obtain ⟨v1, y1, c1, e1, t1⟩ := hf 1 _ rfl
      obtain ⟨v2, y2, c2, e2, t2⟩ := hf 2 _ rfl
      obtain ⟨v3, y3, c3, e3, t3⟩ := hf 3 _ rfl
      obtain ⟨v4, y4, c4, e4, t4⟩ := hf 4 _ rfl
      obtain ⟨x0, rfl, w0⟩ := leaf_int Try.underlying5 t0 rfl
      obtain ⟨x1, rfl, _⟩ := leaf_str Try.underlying9 t1 rfl
      obtain ⟨x2, rfl, _⟩ := leaf_int Try.underlying2 t2 rfl
      obtain ⟨x3, rfl, _⟩ := leaf_int Try.underlying3 t3 rfl
      obtain ⟨x4, rfl, _⟩ := leaf_int Try.underlying3 t4 rfl
      refine ⟨⟨x0, x1, x2, x3, x4⟩, ?_, ?_⟩
      · simp [Lit.wf] at w0
        exact w0
      · intro j u hj
        rcases j with _ | _ | _ | _ | _ | j
        · simp [Ac.cells] at hj; subst hj; exact c0
        · simp [Ac.cells] at hj; subst hj; exact c1
        · simp [Ac.cells] at hj; subst hj; exact c2
        · simp [Ac.cells] at hj; subst hj; exact c3
        · simp [Ac.cells] at hj; subst hj; exact c4
        · simp [Ac.cells] at hj)
    refine ⟨some a, n, c, l, rfl, ⟨hlen, fun x hx => ?_, fun i hi j u hu => ?_⟩⟩
    · obtain ⟨i, hi, rfl⟩ := List.getElem_of_mem hx
      exact (hp i hi).1
    · have hc := (hp i hi).2 j u hu
      obtain ⟨b, o, spot⟩ := a
      have h0 := (hp 0 (by omega)).2 0 _ rfl
      have hsp : spot = none := by simpa [Addr.add] using World.cell?_spot h0
      subst hsp
      refine ⟨b, o, rfl, ?_⟩
      by_cases hz : i * 5 + j = 0
      · rw [hz] at hc
        have e : o + i * 5 + j = o := by omega
        rw [e]
        simpa [Addr.add] using hc
      · rw [Nat.add_assoc]
        unfold Addr.add at hc
        rw [if_neg (by simpa using hz)] at hc
        exact hc
end
end Go.Proofs.Ytcjheabcnipnlaa
