/-
  A map from int to bool that the call makes, as a set.
-/
import Derived.Test.YtcjheabcnipnlaaMem
import Derived.Test.YtcjheabcnipnlaaChecked
import Derived.Maps.Own
import Derived.Maps.OwnOps
import Derived.Maps.Views
namespace Go.Proofs.Ytcjheabcnipnlaa
open Go.RowKit Go.Maps

theorem law_int : Keyed Try.prog 3 := int_keyed Try.underlying3
theorem zero_bool (w : World) : (zeroValue 4).run Try.prog w = .ok (.bool false) w := by kernel_rfl
theorem plain_bool_inv {H : Type} {v : Value} {y : DataW H × List MemPlace} (h : plainElem (H := H) Try.prog 4 v = some y) : ∃ x, v = .bool x ∧ y = (.lit (.bool x), []) := by
  unfold plainElem at h
  rw [Try.underlying4] at h
  cases v <;> simp at h
  exact ⟨_, rfl, h.symm⟩
def SetAt (w : World) (b n : Nat) (f : Int → Bool) : Prop :=
  ∃ D : DataW Unit, w.ownsMap Try.prog 3 (plainElem Try.prog 4) b n D ∧ ∀ x : Int, (Lit.int .i64 x).wf = true → D.atKey (.int .i64 x) (.lit (.bool false)) = .lit (.bool (f x))
theorem SetAt.made (w : World) : SetAt (w.alloc (.map #[] 0)) w.heap.size 0 (fun _ => false) :=
  ⟨.map [], World.ownsMap_made _ _ _ _, fun _ _ => rfl⟩
theorem SetAt.lt {w : World} {b n : Nat} {f : Int → Bool} (h : SetAt w b n f) : b < w.heap.size := by
  obtain ⟨D, ⟨es, clock, hb, _⟩, _⟩ := h
  exact lt_of_block hb
theorem SetAt.frm {w w' : World} {S : List Nat} {b n : Nat} {f : Int → Bool} (h : SetAt w b n f) (hf : Frm S w w') (hs : b ∉ S) : SetAt w' b n f := by
  obtain ⟨D, ⟨es, clock, hb, F, h1, h2⟩, hx⟩ := h
  exact ⟨D, ⟨es, clock, (hf.block b (lt_of_block hb) hs).trans hb, F, h1, h2⟩, hx⟩
theorem SetAt.below {w w' : World} {b n : Nat} {f : Int → Bool} (h : SetAt w b n f) (hb : Below w.heap.size w w') : SetAt w' b n f := h.frm (Frm.of_below hb []) (by simp)
theorem SetAt.mono {w : World} {b n n' : Nat} {f : Int → Bool} (h : SetAt w b n f) (hn : n ≤ n') : SetAt w b n' f := by
  obtain ⟨D, h1, h2⟩ := h
  exact ⟨D, h1.mono hn, h2⟩
theorem SetAt.congr {w : World} {b n : Nat} {f g : Int → Bool} (h : SetAt w b n f) (hg : ∀ x, f x = g x) : SetAt w b n g := by
  obtain ⟨D, h1, h2⟩ := h
  exact ⟨D, h1, fun x hx => by rw [h2 x hx, hg x]⟩
theorem wpList_lookup_set (w : World) {ops : Array Oper} {rest : List Oper} {o : Oper} {a : Act} {Q : Exit → Act → World → Prop}
    (hg : o.guard = none) (m x : Operand) (hop : o.op = Op.lookup 53 m x false) {b n : Nat} {f : Int → Bool} (hs : SetAt w b n f) (k : Int) (hm : a.eval m = .map (some b)) (hx : a.eval x = .int .i64 k)
    (hw : (Lit.int .i64 k).wf = true) (hK : wpList Try.prog ops Q rest (a.put o.dst (.bool (f k))) w) : wpList Try.prog ops Q (o :: rest) a w := by
  refine wpList_plain hg fun K' hK' => ?_
  obtain ⟨D, hown, hD⟩ := hs
  obtain ⟨v, ps, hrun, hv⟩ := hown.lookup law_int Try.underlying53 (zero_bool w) (plainElem_bool Try.underlying4 false) (keyOf_int_mk Try.underlying3 hw)
  obtain ⟨y, rfl, hy⟩ := plain_bool_inv hv
  simp only [Prod.mk.injEq] at hy
  have hfk := hD k hw
  rw [hy.1] at hfk
  simp only [DataW.lit.injEq, Lit.bool.injEq] at hfk
  subst hfk
  unfold Oper.wp
  simp [execOp, hop, hm, hx, hrun, Result.andThen]
  exact hK' _ _ hK
theorem wpList_update_set (w : World) {ops : Array Oper} {rest : List Oper} {o : Oper} {a : Act} {Q : Exit → Act → World → Prop}
    (hg : o.guard = none) (m x v : Operand) (hop : o.op = Op.mapUpdate 53 m x v) {b n : Nat} {f : Int → Bool} (hs : SetAt w b n f) (hn : n < maxLen) (k : Int) (y : Bool) (hm : a.eval m = .map (some b)) (hx : a.eval x = .int .i64 k) (hv : a.eval v = .bool y)
    (hw : (Lit.int .i64 k).wf = true) (hK : ∀ w', SetAt w' b (n + 1) (fun z => if z = k then y else f z) → Frm [b] w w' → wpList Try.prog ops Q rest (a.put o.dst undef) w') : wpList Try.prog ops Q (o :: rest) a w := by
  obtain ⟨D, hown, hD⟩ := hs
  have hown0 := hown
  obtain ⟨es, clock, hb, F, hs', hDe⟩ := hown0
  refine wpList_mapUpdate_own _ hg _ _ _ 53 hop 3 4 law_int Try.underlying53 _ b n D hm hown hn _ _ (.int .i64 k) hx hv (keyOf_int_mk Try.underlying3 hw) (.lit (.bool y)) [] (plainElem_bool Try.underlying4 y) ?_
  intro w' h1 h2
  refine hK w' ⟨_, h1, fun z hz => ?_⟩ ⟨h2.os, h2.tape, h2.output, h2.size, fun i hi hn => h2.block i hi (by simpa using hn)⟩
  dsimp only
  by_cases hzk : z = k
  · subst hzk
    rw [if_pos rfl, atKey_put_same (k := .int .i64 z) ⟨_, hDe⟩ trivial]
  · rw [if_neg hzk, atKey_put_other (by simpa using hzk), hD z hz]
end Go.Proofs.Ytcjheabcnipnlaa
