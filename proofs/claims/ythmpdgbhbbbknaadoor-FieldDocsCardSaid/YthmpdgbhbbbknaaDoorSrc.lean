/-
  A slice that is read as an append's source (its address may be anything where it is empty); append of such a one.
-/
import Derived.Test.YthmpdgbhbbbknaaDoorLst
namespace Go.Proofs.YthmpdgbhbbbknaaDoor
open Go.RowKit

structure Src (w : World) (size : Nat) (A : Option Addr) (n c : Nat) (xs : List Value) : Prop where
  len : xs.length = n * size
  cap : n ≤ c
  max : c ≤ maxLen
  nil_ : A = none → n = 0 ∧ c = 0
  get : ∀ j u, xs[j]? = some u → ∃ b o, A = some ⟨b, o, none⟩ ∧ w.cell? ⟨b, o + j, none⟩ = some u
theorem Rd.src {w : World} {size : Nat} {A : Option Addr} {n c : Nat} {xs : List Value} (h : Rd w size A n c xs) : Src w size A n c xs := ⟨h.len, h.cap, h.max, h.nil_, h.get⟩
theorem Src.below {w w' : World} {size : Nat} {A : Option Addr} {n c : Nat} {xs : List Value} (h : Src w size A n c xs) (hb : Below w.heap.size w w') : Src w' size A n c xs :=
  ⟨h.len, h.cap, h.max, h.nil_, fun j u hu => by
    obtain ⟨b, o, hA, hc⟩ := h.get j u hu
    exact ⟨b, o, hA, hb.cell (p := ⟨b, o + j, none⟩) (World.block_lt_of_cell? w _ hc) ▸ hc⟩⟩
theorem Src.alloc {w : World} {size : Nat} {A : Option Addr} {n c : Nat} {xs : List Value} (h : Src w size A n c xs) (o : Obj) : Src (w.alloc o) size A n c xs := h.below ((Below.refl _ _).alloc (Nat.le_refl _) _)
theorem Lst.src {α : Type} {f : α → List Value} {k : Nat} (hk : 0 < k) (hf : ∀ x, (f x).length = k) {w : World} {A : Option Addr} {n c : Nat} {l : List α} (h : Lst f k w A n l) (h1 : n ≤ c) (h2 : c ≤ maxLen) (h3 : A = none → n = 0 ∧ c = 0) : Src w k A n c (l.flatMap f) :=
  ⟨by rw [flat_len f k hf, h.len], h1, h2, h3, fun j u hu => by
    have hj : j < l.length * k := by rw [← flat_len f k hf l]; exact (List.getElem?_eq_some_iff.1 hu).1
    have hi : j / k < l.length := Nat.div_lt_of_lt_mul (by rw [Nat.mul_comm]; exact hj)
    have e : j / k * k + j % k = j := by rw [Nat.mul_comm]; exact Nat.div_add_mod j k
    have h4 := flat_get f k hf l (j / k) (j % k) hi (Nat.mod_lt _ hk)
    rw [e, hu] at h4
    obtain ⟨b, o, hA, hc⟩ := h.cells (j / k) hi (j % k) u h4.symm
    exact ⟨b, o, hA, by rw [Nat.add_assoc, e] at hc; exact hc⟩⟩

/-! ### append -/
section
variable {P : Program} (w : World)
theorem run_appS (t ty e : TypeId) (i : TypeInfo) (z : Value) (size bytes : Nat) (ht : P.underlying t = some (.slice e)) (hi : P.info? e = some i) (hz : i.zero = some z)
    (hsize : i.size = size) (hby : i.bytes = bytes) (hzs : z.cells.size = size) (hsz : 0 < size)
    {A A' : Option Addr} {n c m c' : Nat} {xs news : List Value} (hown : Own w e size A n c xs) (hr : Src w size A' m c' news) (h1 : ∀ u ∈ news, u.oneCell' = true)
    (h63 : n + m ≤ maxLen) (hbytes : (n + m) * bytes ≤ 140737488355328) :
    ∃ A2 c2 w', (Builtin.append_ #[t, t] ty #[.slice A n c, .slice A' m c']).run P w = .ok (.slice A2 (n + m) c2) w' ∧ Own w' e size A2 (n + m) c2 (xs ++ news) ∧
      Frm (fpo A) w w' ∧ (∀ b ∈ fpo A2, b ∈ fpo A ∨ b = w.heap.size) := by
  rcases A' with _ | ad
  · obtain ⟨rfl, rfl⟩ := hr.nil_ rfl
    have hn : news = [] := List.eq_nil_of_length_eq_zero (by simpa using hr.len)
    subst hn
    exact ⟨A, c, w, run_append_owned_none (P := P) w 0 t ty e i size ht hi _ n xs hown, by simpa using hown, Frm.refl _ _, fun b hb => .inl hb⟩
  · have hcells : ∀ j u, news[j]? = some u → w.cell? (ad.add j) = some u := by
      intro j u hu
      obtain ⟨b, o, he, hc⟩ := hr.get j u hu
      simp only [Option.some.injEq] at he
      subst he
      rw [Addr.add_lit]
      exact hc
    obtain ⟨v', w', hrun, h2, h3, _, h5⟩ := run_append_own_at (P := P) w 0 t ty e i z size bytes ht hi hz hsize hby hzs hsz (.slice A n c) n xs hown ad m c' news hr.len hcells h1 h63 hbytes (Nat.zero_le _)
    have hfr : Frm (fpo A) w w' := by
      refine ⟨h3.os, h3.tape, h3.output, h3.size, fun k hk hn => h3.block k hk ?_⟩
      rcases A with _ | a
      · simp [Value.ownBlock]
      · simpa [Value.ownBlock] using hn
    have hv : ∃ A2 c2, v' = .slice A2 (n + m) c2 := by
      rcases h2.2 with ⟨rfl, h0⟩ | ⟨g, cap, cur, rfl, _⟩
      · exact ⟨none, 0, by rw [h0]⟩
      · exact ⟨_, _, rfl⟩
    obtain ⟨A2, c2, rfl⟩ := hv
    refine ⟨A2, c2, w', hrun, h2, hfr, fun b hb => ?_⟩
    rcases A2 with _ | a2
    · simp at hb
    · simp at hb
      subst hb
      rcases h5 with h5 | h5
      · left
        rcases A with _ | a
        · simp [Value.ownBlock] at h5
        · simp [Value.ownBlock] at h5
          simp [h5]
      · right
        simpa [Value.ownBlock] using h5

theorem wp_appS {o : Oper} {a : Act} {K : Act → World → Prop} {Q : Exit → Act → World → Prop} (s x : Operand) (t : TypeId)
    (ho : o.op = .call { callee := .builtin .append, args := #[s, x], argTypes := #[t, t] })
    (e : TypeId) (i : TypeInfo) (z : Value) (size bytes : Nat) (ht : P.underlying t = some (.slice e)) (hi : P.info? e = some i) (hz : i.zero = some z)
    (hsize : i.size = size) (hby : i.bytes = bytes) (hzs : z.cells.size = size) (hsz : 0 < size)
    {A A' : Option Addr} {n c m c' : Nat} {xs news : List Value} (hs : a.eval s = .slice A n c) (hx : a.eval x = .slice A' m c') (hown : Own w e size A n c xs) (hr : Src w size A' m c' news) (h1 : ∀ u ∈ news, u.oneCell' = true)
    (N : Nat) (hN : n + m = N) (ys : List Value) (hys : xs ++ news = ys) (h63 : N ≤ maxLen) (hbytes : N * bytes ≤ 140737488355328)
    (h : ∀ A2 c2 w', Own w' e size A2 N c2 ys → Frm (fpo A) w w' → (∀ b ∈ fpo A2, b ∈ fpo A ∨ b = w.heap.size) → K (a.put o.dst (.slice A2 N c2)) w') : o.wp P a w K Q := by
  subst hN hys
  obtain ⟨A2, c2, w', hrun, h2, h3, h4⟩ := run_appS (P := P) w t o.type e i z size bytes ht hi hz hsize hby hzs hsz hown hr h1 h63 hbytes
  unfold Oper.wp execOp
  simp only [ho, resolve, invoke, builtin, Sem.run_bind, Sem.run_pure, Result.andThen_ok, List.map_toArray, List.map_cons, List.map_nil, hs, hx, hrun]
  exact h A2 c2 w' h2 h3 h4

theorem wpList_appS {ops : Array Oper} {rest : List Oper} {o : Oper} {a : Act} {Q : Exit → Act → World → Prop} (hgd : o.guard = none) (s x : Operand) (t : TypeId)
    (ho : o.op = .call { callee := .builtin .append, args := #[s, x], argTypes := #[t, t] })
    (e : TypeId) (i : TypeInfo) (z : Value) (size bytes : Nat) (ht : P.underlying t = some (.slice e)) (hi : P.info? e = some i) (hz : i.zero = some z)
    (hsize : i.size = size) (hby : i.bytes = bytes) (hzs : z.cells.size = size) (hsz : 0 < size)
    {A A' : Option Addr} {n c m c' : Nat} {xs news : List Value} (hs : a.eval s = .slice A n c) (hx : a.eval x = .slice A' m c') (hown : Own w e size A n c xs) (hr : Src w size A' m c' news) (h1 : ∀ u ∈ news, u.oneCell' = true)
    (N : Nat) (hN : n + m = N) (ys : List Value) (hys : xs ++ news = ys) (h63 : N ≤ maxLen) (hbytes : N * bytes ≤ 140737488355328)
    (h : ∀ A2 c2 w', Own w' e size A2 N c2 ys → Frm (fpo A) w w' → (∀ b ∈ fpo A2, b ∈ fpo A ∨ b = w.heap.size) → wpList P ops Q rest (a.put o.dst (.slice A2 N c2)) w') : wpList P ops Q (o :: rest) a w :=
  wpList_plain hgd fun _ hK => wp_appS w s x t ho e i z size bytes ht hi hz hsize hby hzs hsz hs hx hown hr h1 N hN ys hys h63 hbytes fun A2 c2 w' h2 h3 h4 => hK _ _ (h A2 c2 w' h2 h3 h4)
end

end Go.Proofs.YthmpdgbhbbbknaaDoor
