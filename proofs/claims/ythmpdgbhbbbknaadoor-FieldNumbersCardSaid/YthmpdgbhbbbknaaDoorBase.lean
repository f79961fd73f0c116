/-
  Plain words on memory, over no program: 'Frm' (what stays), 'Blk' (a block known whole), 'Own' (a slice that owns its row), 'Rd' (a slice that can be read).
-/
import Derived.Below
import Derived.Laws.OwnMore
import Derived.Maps.AppendAt
import Derived.Deep.AppendLies
import Derived.Lib.Hide
import Derived.OneCell
import Derived.WalkKit
import Derived.Deep.Draws
namespace Go.Proofs.YthmpdgbhbbbknaaDoor
open Go.RowKit

/-! ### What stays -/
/-- But for the blocks S (and new ones) all is as it was. -/
structure Frm (S : List Nat) (w w' : World) : Prop where
  os : w'.os = w.os
  tape : w'.tape = w.tape
  output : w'.output = w.output
  size : w.heap.size ≤ w'.heap.size
  block : ∀ k, k < w.heap.size → k ∉ S → w'.heap[k]? = w.heap[k]?

theorem Frm.refl (S : List Nat) (w : World) : Frm S w w := ⟨rfl, rfl, rfl, Nat.le_refl _, fun _ _ _ => rfl⟩
theorem Frm.of_below {w w' : World} (h : Below w.heap.size w w') (S : List Nat) : Frm S w w' :=
  ⟨h.os, h.tape, h.output, h.size, fun k hk _ => h.block k hk⟩
theorem Frm.below {w w' : World} (h : Frm [] w w') : Below w.heap.size w w' :=
  ⟨h.os, h.tape, h.output, h.size, fun k hk => h.block k hk (by simp)⟩
theorem Frm.trans {S S' : List Nat} {a b c : World} (h : Frm S a b) (k : Frm S' b c) (hs : ∀ x ∈ S', x ∈ S ∨ a.heap.size ≤ x) : Frm S a c :=
  ⟨k.os.trans h.os, k.tape.trans h.tape, k.output.trans h.output, Nat.le_trans h.size k.size, fun i hi hn =>
    (k.block i (Nat.lt_of_lt_of_le hi h.size) (fun hx => by rcases hs i hx with h1 | h1; exact hn h1; omega)).trans (h.block i hi hn)⟩
theorem Frm.mono {S S' : List Nat} {a b : World} (h : Frm S a b) (hs : ∀ x ∈ S, x ∈ S' ∨ a.heap.size ≤ x) : Frm S' a b :=
  ⟨h.os, h.tape, h.output, h.size, fun i hi hn => h.block i hi (fun hx => by rcases hs i hx with h1 | h1; exact hn h1; omega)⟩
theorem Frm.then_below {S : List Nat} {a b c : World} (h : Frm S a b) (k : Below b.heap.size b c) : Frm S a c :=
  h.trans (Frm.of_below k []) (by simp)
theorem Frm.drew {S : List Nat} {a b : World} (h : Frm S a b) : Frm S a b.drew := ⟨h.os, h.tape, h.output, h.size, h.block⟩
theorem Frm.drewN {S : List Nat} {a b : World} (h : Frm S a b) (n : Nat) : Frm S a (b.drewN n) := ⟨h.os, h.tape, h.output, h.size, h.block⟩
theorem Frm.alloc {S : List Nat} {a b : World} (h : Frm S a b) (o : Obj) : Frm S a (b.alloc o) :=
  h.then_below ((Below.refl _ _).alloc (Nat.le_refl _) o)
theorem Frm.setCell {S : List Nat} {a b : World} (h : Frm S a b) {p : Addr} (hp : p.block ∈ S ∨ a.heap.size ≤ p.block) (u : Value) : Frm S a (b.setCell p u) :=
  h.trans (S' := [p.block]) ⟨rfl, rfl, rfl, by simp [World.setCell], fun k hk hn => Below.heap_setCell _ _ _ _ (by simpa using hn)⟩ (by simpa using hp)
theorem Frm.cell {S : List Nat} {w w' : World} (h : Frm S w w') {p : Addr} {v : Value} (hc : w.cell? p = some v) (hn : p.block ∉ S) : w'.cell? p = some v :=
  (World.cell?_of_block (h.block p.block (World.block_lt_of_cell? w p hc) hn)).trans hc

/-! ### A block known whole -/
def Blk (w : World) (g : Nat) (t : TypeId) (cs : Array Value) : Prop := w.heap[g]? = some (.cells cs t (0, 0))
section
variable {w w' : World} {g : Nat} {t : TypeId} {cs : Array Value}
theorem Blk.lt (h : Blk w g t cs) : g < w.heap.size := lt_of_block h
theorem Blk.cell (h : Blk w g t cs) (i : Nat) (v : Value) (hv : cs[i]? = some v) : w.cell? ⟨g, i, none⟩ = some v := by
  unfold Blk at h; simp [World.cell?, h, hv]
theorem Blk.free (h : Blk w g t cs) (i : Nat) : w.frozen? ⟨g, i, none⟩ = false := by
  unfold Blk at h; simp [World.frozen?, h]
theorem Blk.all (h : Blk w g t cs) : ∀ i, w.cell? ⟨g, i, none⟩ = cs[i]? := fun i => by
  unfold Blk at h; simp [World.cell?, h]
theorem Blk.frees (h : Blk w g t cs) : ∀ i, w.frozen? ⟨g, i, none⟩ = false := fun i => h.free i
theorem Blk.new (w : World) (t : TypeId) (cs : Array Value) : Blk (w.alloc (.cells cs t)) w.heap.size t cs := heap_alloc_new w _
theorem Blk.drew (h : Blk w g t cs) : Blk w.drew g t cs := h
theorem Blk.drewN (h : Blk w g t cs) (n : Nat) : Blk (w.drewN n) g t cs := h
theorem Blk.alloc (h : Blk w g t cs) (o : Obj) : Blk (w.alloc o) g t cs := (Below.heap_alloc w o g h.lt).trans h
theorem Blk.set_ (h : Blk w g t cs) (i : Nat) (u : Value) : Blk (w.setCell ⟨g, i, none⟩ u) g t (cs.setIfInBounds i u) := by
  unfold Blk at h ⊢
  simp [World.setCell, Array.getElem?_modify, h]
theorem Blk.far (h : Blk w g t cs) {p : Addr} (hp : g ≠ p.block) (u : Value) : Blk (w.setCell p u) g t cs := (Below.heap_setCell w p u g hp).trans h
theorem Blk.frm {S : List Nat} (h : Blk w g t cs) (hf : Frm S w w') (hg : g ∉ S) : Blk w' g t cs := (hf.block g h.lt hg).trans h
theorem Blk.below {B : Nat} (h : Blk w g t cs) (hb : Below B w w') (hg : g < B) : Blk w' g t cs := (hb.block g hg).trans h
theorem Blk.ne_ {g' : Nat} {t' : TypeId} {cs' : Array Value} (h : Blk w g t cs) (h' : Blk w g' t' cs') (hne : t ≠ t') : g ≠ g' := by
  rintro rfl
  unfold Blk at h h'
  rw [h] at h'
  injection h' with h'
  injection h' with _ ht
  exact hne ht
end

/-! ### A slice that can be read -/
def fpo (A : Option Addr) : List Nat := A.toList.map (·.block)
@[simp] theorem fpo_none : fpo none = [] := rfl
@[simp] theorem fpo_some (a : Addr) : fpo (some a) = [a.block] := rfl

/-- The slice value '.slice A n c' holds the cells xs ('size' cells an element). -/
structure Rd (w : World) (size : Nat) (A : Option Addr) (n c : Nat) (xs : List Value) : Prop where
  len : xs.length = n * size
  cap : n ≤ c
  max : c ≤ maxLen
  nil_ : A = none → n = 0 ∧ c = 0
  lt : ∀ b ∈ fpo A, b < w.heap.size
  get : ∀ j u, xs[j]? = some u → ∃ b o, A = some ⟨b, o, none⟩ ∧ w.cell? ⟨b, o + j, none⟩ = some u

section
variable {w w' : World} {size : Nat} {A : Option Addr} {n c : Nat} {xs : List Value}
theorem Rd.frm {S : List Nat} (h : Rd w size A n c xs) (hf : Frm S w w') (hs : ∀ b ∈ fpo A, b ∉ S) : Rd w' size A n c xs :=
  ⟨h.len, h.cap, h.max, h.nil_, fun b hb => Nat.lt_of_lt_of_le (h.lt b hb) hf.size, fun j u hu => by
    obtain ⟨b, o, rfl, hc⟩ := h.get j u hu
    exact ⟨b, o, rfl, hf.cell hc (hs b (by simp))⟩⟩
theorem Rd.below (h : Rd w size A n c xs) (hb : Below w.heap.size w w') : Rd w' size A n c xs := h.frm (Frm.of_below hb []) (by simp)
theorem Rd.drew (h : Rd w size A n c xs) : Rd w.drew size A n c xs := h.frm (Frm.refl [] w).drew (by simp)
theorem Rd.drewN (h : Rd w size A n c xs) (k : Nat) : Rd (w.drewN k) size A n c xs := h.frm ((Frm.refl [] w).drewN k) (by simp)
theorem Rd.alloc (h : Rd w size A n c xs) (o : Obj) : Rd (w.alloc o) size A n c xs := h.frm ((Frm.refl [] w).alloc o) (by simp)
theorem Rd.setCell (h : Rd w size A n c xs) {p : Addr} (hp : p.block ∉ fpo A) (u : Value) : Rd (w.setCell p u) size A n c xs :=
  h.frm ((Frm.refl [p.block] w).setCell (.inl (by simp)) u) (fun b hb => by simp; rintro rfl; exact hp hb)
end

/-- The cells of elements of k cells each. -/
theorem flat_get {α : Type} (f : α → List Value) (k : Nat) (hf : ∀ x, (f x).length = k) : ∀ (l : List α) (i j : Nat) (hi : i < l.length), j < k → (l.flatMap f)[i * k + j]? = (f l[i])[j]?
  | x :: r, 0, j, _, hj => by
    have hx := hf x
    simp only [List.flatMap_cons, Nat.zero_mul, Nat.zero_add]
    rw [List.getElem?_append_left (by omega)]
    rfl
  | x :: r, i + 1, j, hi, hj => by
    have hx := hf x
    simp only [List.flatMap_cons]
    rw [List.getElem?_append_right (by rw [hx, Nat.succ_mul]; omega), hx]
    have e : (i + 1) * k + j - k = i * k + j := by rw [Nat.succ_mul]; omega
    rw [e]
    exact flat_get f k hf r i j (by simpa using hi) hj
theorem flat_len {α : Type} (f : α → List Value) (k : Nat) (hf : ∀ x, (f x).length = k) (l : List α) : (l.flatMap f).length = l.length * k := by
  induction l with
  | nil => simp
  | cons x r ih => simp [ih, hf x, Nat.succ_mul, Nat.add_comm]
/-- Element i of a slice whose elements are k cells each: the address and its cells. -/
theorem Rd.elem {α : Type} {w : World} {k : Nat} {A : Option Addr} {n c : Nat} {f : α → List Value} {l : List α} (h : Rd w k A n c (l.flatMap f)) (hf : ∀ x, (f x).length = k) (hk : 0 < k) (i : Nat) (hi : i < l.length) :
    ∃ b o, A = some ⟨b, o, none⟩ ∧ b < w.heap.size ∧ ∀ j u, (f l[i])[j]? = some u → w.cell? ⟨b, o + i * k + j, none⟩ = some u := by
  have key : ∀ j u, (f l[i])[j]? = some u → ∃ b o, A = some ⟨b, o, none⟩ ∧ w.cell? ⟨b, o + i * k + j, none⟩ = some u := by
    intro j u hu
    have hj : j < k := by rw [← hf l[i]]; exact (List.getElem?_eq_some_iff.1 hu).1
    obtain ⟨b, o, hA, hc⟩ := h.get (i * k + j) u (by rw [flat_get f k hf l i j hi hj]; exact hu)
    exact ⟨b, o, hA, by rw [Nat.add_assoc]; exact hc⟩
  have h0 : (f l[i])[0]? = some ((f l[i])[0]'(by rw [hf]; exact hk)) := List.getElem?_eq_getElem _
  obtain ⟨b, o, rfl, hc⟩ := key 0 _ h0
  refine ⟨b, o, rfl, World.block_lt_of_cell? w _ hc, fun j u hu => ?_⟩
  obtain ⟨b', o', he, hc'⟩ := key j u hu
  simp only [Option.some.injEq, Addr.mk.injEq, and_true] at he
  obtain ⟨rfl, rfl⟩ := he
  exact hc'

/-! ### A slice that owns its row -/
def Own (w : World) (e : TypeId) (size : Nat) (A : Option Addr) (n c : Nat) (xs : List Value) : Prop := w.ownsRow 0 e size (.slice A n c) n xs
section
variable {w w' : World} {e : TypeId} {size : Nat} {A : Option Addr} {n c : Nat} {xs : List Value}
theorem Own.nil (w : World) (e : TypeId) (size : Nat) : Own w e size none 0 0 [] := World.ownsRow_nil w 0 e size
theorem Own.cases_ (h : Own w e size A n c xs) : (A = none ∧ n = 0 ∧ c = 0 ∧ xs = []) ∨
    ∃ g cur, A = some ⟨g, 0, none⟩ ∧ Blk w g e cur ∧ n ≤ c ∧ c ≤ maxLen ∧ cur.size = c * size ∧ cur.toList.take (n * size) = xs := by
  obtain ⟨h1, h2 | ⟨g, cap, cur, hv, _, hg, r1, r2, r3, r4⟩⟩ := h
  · obtain ⟨h2, rfl⟩ := h2
    simp only [Value.slice.injEq] at h2
    exact .inl ⟨h2.1, rfl, h2.2.2, List.eq_nil_of_length_eq_zero (by simpa using h1)⟩
  · simp only [Value.slice.injEq] at hv
    obtain ⟨rfl, _, rfl⟩ := hv
    exact .inr ⟨g, cur, rfl, hg, r1, r2, r3, r4⟩
theorem Own.len (h : Own w e size A n c xs) : xs.length = n * size := h.1
theorem Own.of_blk {g : Nat} {cur : Array Value} (hb : Blk w g e cur) (hn : n ≤ c) (hc : c ≤ maxLen) (hs : cur.size = c * size) (hx : cur.toList.take (n * size) = xs) : Own w e size (some ⟨g, 0, none⟩) n c xs :=
  ⟨by rw [← hx, List.length_take, Array.length_toList, hs]; exact Nat.min_eq_left (Nat.mul_le_mul_right _ hn), .inr ⟨g, c, cur, rfl, Nat.zero_le _, hb, hn, hc, hs, hx⟩⟩
theorem Own.lt (h : Own w e size A n c xs) : ∀ b ∈ fpo A, b < w.heap.size := by
  rcases h.cases_ with ⟨rfl, _⟩ | ⟨g, cur, rfl, hb, _⟩
  · simp
  · simp [hb.lt]
theorem Own.frm {S : List Nat} (h : Own w e size A n c xs) (hf : Frm S w w') (hs : ∀ b ∈ fpo A, b ∉ S) : Own w' e size A n c xs := by
  rcases h.cases_ with ⟨rfl, rfl, rfl, rfl⟩ | ⟨g, cur, rfl, hb, r1, r2, r3, r4⟩
  · exact Own.nil _ _ _
  · exact Own.of_blk (hb.frm hf (hs g (by simp))) r1 r2 r3 r4
theorem Own.below (h : Own w e size A n c xs) (hb : Below w.heap.size w w') : Own w' e size A n c xs := h.frm (Frm.of_below hb []) (by simp)
theorem Own.drew (h : Own w e size A n c xs) : Own w.drew e size A n c xs := h
theorem Own.drewN (h : Own w e size A n c xs) (k : Nat) : Own (w.drewN k) e size A n c xs := h
theorem Own.alloc (h : Own w e size A n c xs) (o : Obj) : Own (w.alloc o) e size A n c xs := h.frm ((Frm.refl [] w).alloc o) (by simp)
theorem Own.setCell (h : Own w e size A n c xs) {p : Addr} (hp : p.block ∉ fpo A) (u : Value) : Own (w.setCell p u) e size A n c xs :=
  h.frm ((Frm.refl [p.block] w).setCell (.inl (by simp)) u) (fun b hb => by simp; rintro rfl; exact hp hb)
/-- A block of another element type is not the row's. -/
theorem Own.ne_ (h : Own w e size A n c xs) {g : Nat} {t : TypeId} {cs : Array Value} (hg : Blk w g t cs) (ht : t ≠ e) : g ∉ fpo A := by
  rcases h.cases_ with ⟨rfl, _⟩ | ⟨g', cur, rfl, hb, _⟩
  · simp
  · simp; exact hg.ne_ hb ht
theorem Own.rd (h : Own w e size A n c xs) : Rd w size A n c xs := by
  rcases h.cases_ with ⟨rfl, rfl, rfl, rfl⟩ | ⟨g, cur, rfl, hb, r1, r2, r3, rfl⟩
  · exact ⟨by simp, Nat.le_refl _, by simp [maxLen], fun _ => ⟨rfl, rfl⟩, by simp, by simp⟩
  · refine ⟨h.len, r1, r2, by simp, by simp [hb.lt], fun j u hu => ⟨g, 0, rfl, hb.cell _ _ ?_⟩⟩
    rw [List.getElem?_take] at hu
    split at hu
    · simpa using hu
    · cases hu
/-- A cell of the row is written. -/
theorem Own.set_ {g : Nat} (h : Own w e size (some ⟨g, 0, none⟩) n c xs) (j : Nat) (u : Value) : Own (w.setCell ⟨g, j, none⟩ u) e size (some ⟨g, 0, none⟩) n c (xs.set j u) := by
  rcases h.cases_ with ⟨h0, _⟩ | ⟨g', cur, hA, hb, r1, r2, r3, rfl⟩
  · simp at h0
  · simp only [Option.some.injEq, Addr.mk.injEq, and_true] at hA
    obtain rfl := hA
    refine Own.of_blk (hb.set_ j u) r1 r2 (by simpa using r3) ?_
    rw [Array.toList_setIfInBounds, List.take_set]
theorem Own.free {g : Nat} (h : Own w e size (some ⟨g, 0, none⟩) n c xs) (j : Nat) : w.frozen? ⟨g, j, none⟩ = false := by
  rcases h.cases_ with ⟨h0, _⟩ | ⟨g', cur, hA, hb, _⟩
  · simp at h0
  · simp only [Option.some.injEq, Addr.mk.injEq, and_true] at hA
    obtain rfl := hA
    exact hb.free j
/-- A slice literal that is read. -/
theorem Rd.lit (w : World) (e : TypeId) (size : Nat) (cs : Array Value) (n : Nat) (hn : n ≤ maxLen) (hs : cs.size = n * size) (g : Nat) (hg : g = w.heap.size) :
    Rd (w.alloc (.cells cs e)) size (some ⟨g, 0, none⟩) n n cs.toList := by
  subst hg
  exact ⟨by simpa using hs, Nat.le_refl _, hn, by simp, by simp, fun j u hu => ⟨_, _, rfl, (Blk.new w e cs).cell _ _ (by simpa using hu)⟩⟩
/-- A slice literal. -/
theorem Own.lit (w : World) (e : TypeId) (size : Nat) (cs : Array Value) (n : Nat) (hn : n ≤ maxLen) (hs : cs.size = n * size) (g : Nat) (hg : g = w.heap.size) :
    Own (w.alloc (.cells cs e)) e size (some ⟨g, 0, none⟩) n n cs.toList := by
  subst hg
  exact Own.of_blk (Blk.new w e cs) (Nat.le_refl _) hn hs (by rw [← hs, ← Array.length_toList, List.take_length])
end

/-! ### append -/
section
variable {P : Program} (w : World)
theorem run_app (t ty e : TypeId) (i : TypeInfo) (z : Value) (size bytes : Nat) (ht : P.underlying t = some (.slice e)) (hi : P.info? e = some i) (hz : i.zero = some z)
    (hsize : i.size = size) (hby : i.bytes = bytes) (hzs : z.cells.size = size) (hsz : 0 < size)
    {A A' : Option Addr} {n c m c' : Nat} {xs news : List Value} (hown : Own w e size A n c xs) (hr : Rd w size A' m c' news) (h1 : ∀ u ∈ news, u.oneCell' = true)
    (h63 : n + m ≤ maxLen) (hbytes : (n + m) * bytes ≤ 140737488355328) :
    ∃ A2 c2 w', (Builtin.append_ #[t, t] ty #[.slice A n c, .slice A' m c']).run P w = .ok (.slice A2 (n + m) c2) w' ∧ Own w' e size A2 (n + m) c2 (xs ++ news) ∧
      Frm (fpo A) w w' ∧ (∀ b ∈ fpo A2, b ∈ fpo A ∨ b = w.heap.size) := by
  rcases A' with _ | ad
  · obtain ⟨rfl, rfl⟩ := hr.nil_ rfl
    have hn : news = [] := List.eq_nil_of_length_eq_zero (by simpa using hr.len)
    subst hn
    exact ⟨A, c, w, run_append_owned_none (P := P) w 0 t ty e i size ht hi _ n xs hown, by simpa using hown, Frm.refl _ _, fun b hb => .inl hb⟩
  · have hcells : ∀ j u, news[j]? = some u → w.cell? (ad.add j) = some u := by
      intro j u hu
      obtain ⟨b, o, he, hc⟩ := hr.get j u hu
      simp only [Option.some.injEq] at he
      subst he
      rw [Addr.add_lit]
      exact hc
    obtain ⟨v', w', hrun, h2, h3, _, h5⟩ := run_append_own_at (P := P) w 0 t ty e i z size bytes ht hi hz hsize hby hzs hsz (.slice A n c) n xs hown ad m c' news hr.len hcells h1 h63 hbytes (Nat.zero_le _)
    have hfr : Frm (fpo A) w w' := by
      refine ⟨h3.os, h3.tape, h3.output, h3.size, fun k hk hn => h3.block k hk ?_⟩
      rcases A with _ | a
      · simp [Value.ownBlock]
      · simpa [Value.ownBlock] using hn
    have hv : ∃ A2 c2, v' = .slice A2 (n + m) c2 := by
      rcases h2.2 with ⟨rfl, h0⟩ | ⟨g, cap, cur, rfl, _⟩
      · exact ⟨none, 0, by rw [h0]⟩
      · exact ⟨_, _, rfl⟩
    obtain ⟨A2, c2, rfl⟩ := hv
    refine ⟨A2, c2, w', hrun, h2, hfr, fun b hb => ?_⟩
    rcases A2 with _ | a2
    · simp at hb
    · simp at hb
      subst hb
      rcases h5 with h5 | h5
      · left
        rcases A with _ | a
        · simp [Value.ownBlock] at h5
        · simp [Value.ownBlock] at h5
          simp [h5]
      · right
        simpa [Value.ownBlock] using h5

theorem wp_app {o : Oper} {a : Act} {K : Act → World → Prop} {Q : Exit → Act → World → Prop} (s x : Operand) (t : TypeId)
    (ho : o.op = .call { callee := .builtin .append, args := #[s, x], argTypes := #[t, t] })
    (e : TypeId) (i : TypeInfo) (z : Value) (size bytes : Nat) (ht : P.underlying t = some (.slice e)) (hi : P.info? e = some i) (hz : i.zero = some z)
    (hsize : i.size = size) (hby : i.bytes = bytes) (hzs : z.cells.size = size) (hsz : 0 < size)
    {A A' : Option Addr} {n c m c' : Nat} {xs news : List Value} (hs : a.eval s = .slice A n c) (hx : a.eval x = .slice A' m c') (hown : Own w e size A n c xs) (hr : Rd w size A' m c' news) (h1 : ∀ u ∈ news, u.oneCell' = true)
    (N : Nat) (hN : n + m = N) (ys : List Value) (hys : xs ++ news = ys) (h63 : N ≤ maxLen) (hbytes : N * bytes ≤ 140737488355328)
    (h : ∀ A2 c2 w', Own w' e size A2 N c2 ys → Frm (fpo A) w w' → (∀ b ∈ fpo A2, b ∈ fpo A ∨ b = w.heap.size) → K (a.put o.dst (.slice A2 N c2)) w') : o.wp P a w K Q := by
  subst hN hys
  obtain ⟨A2, c2, w', hrun, h2, h3, h4⟩ := run_app (P := P) w t o.type e i z size bytes ht hi hz hsize hby hzs hsz hown hr h1 h63 hbytes
  unfold Oper.wp execOp
  simp only [ho, resolve, invoke, builtin, Sem.run_bind, Sem.run_pure, Result.andThen_ok, List.map_toArray, List.map_cons, List.map_nil, hs, hx, hrun]
  exact h A2 c2 w' h2 h3 h4

theorem wpList_app {ops : Array Oper} {rest : List Oper} {o : Oper} {a : Act} {Q : Exit → Act → World → Prop} (hgd : o.guard = none) (s x : Operand) (t : TypeId)
    (ho : o.op = .call { callee := .builtin .append, args := #[s, x], argTypes := #[t, t] })
    (e : TypeId) (i : TypeInfo) (z : Value) (size bytes : Nat) (ht : P.underlying t = some (.slice e)) (hi : P.info? e = some i) (hz : i.zero = some z)
    (hsize : i.size = size) (hby : i.bytes = bytes) (hzs : z.cells.size = size) (hsz : 0 < size)
    {A A' : Option Addr} {n c m c' : Nat} {xs news : List Value} (hs : a.eval s = .slice A n c) (hx : a.eval x = .slice A' m c') (hown : Own w e size A n c xs) (hr : Rd w size A' m c' news) (h1 : ∀ u ∈ news, u.oneCell' = true)
    (N : Nat) (hN : n + m = N) (ys : List Value) (hys : xs ++ news = ys) (h63 : N ≤ maxLen) (hbytes : N * bytes ≤ 140737488355328)
    (h : ∀ A2 c2 w', Own w' e size A2 N c2 ys → Frm (fpo A) w w' → (∀ b ∈ fpo A2, b ∈ fpo A ∨ b = w.heap.size) → wpList P ops Q rest (a.put o.dst (.slice A2 N c2)) w') : wpList P ops Q (o :: rest) a w :=
  wpList_plain hgd fun _ hK => wp_app w s x t ho e i z size bytes ht hi hz hsize hby hzs hsz hs hx hown hr h1 N hN ys hys h63 hbytes fun A2 c2 w' h2 h3 h4 => hK _ _ (h A2 c2 w' h2 h3 h4)
end

/-- At a step of a region that draws its order (for 'go_region_law', 'go_region_held3'). -/
theorem step_app {P : Program} (w : World) {ops : Array Oper} {o : Oper} {a : Act} {K : Act → World → Prop} {Q : Exit → Act → World → Prop} {E : Prop} (hgd : o.guard = none) (s x : Operand) (t : TypeId)
    (ho : o.op = .call { callee := .builtin .append, args := #[s, x], argTypes := #[t, t] })
    (e : TypeId) (i : TypeInfo) (z : Value) (size bytes : Nat) (ht : P.underlying t = some (.slice e)) (hi : P.info? e = some i) (hz : i.zero = some z)
    (hsize : i.size = size) (hby : i.bytes = bytes) (hzs : z.cells.size = size) (hsz : 0 < size)
    {A A' : Option Addr} {n c m c' : Nat} {xs news : List Value} (hs : a.eval s = .slice A n c) (hx : a.eval x = .slice A' m c') (hown : Own w e size A n c xs) (hr : Rd w size A' m c' news) (h1 : ∀ u ∈ news, u.oneCell' = true)
    (N : Nat) (hN : n + m = N) (ys : List Value) (hys : xs ++ news = ys) (h63 : N ≤ maxLen) (hbytes : N * bytes ≤ 140737488355328)
    (h : ∀ A2 c2 w', Own w' e size A2 N c2 ys → Frm (fpo A) w w' → (∀ b ∈ fpo A2, b ∈ fpo A ∨ b = w.heap.size) → K (a.put o.dst (.slice A2 N c2)) w') :
    if Region.wanted o (yielded ops a.tmps) = true then Oper.wp P o a w K Q else E := by
  have hw : Region.wanted o (yielded ops a.tmps) = true := by simp [Region.wanted, hgd]
  rw [if_pos hw]
  exact wp_app w s x t ho e i z size bytes ht hi hz hsize hby hzs hsz hs hx hown hr h1 N hN ys hys h63 hbytes h

theorem ret_int {k : IntKind} {a b : Int} (h : a = b) : Ending.returned (.int k a) = .returned (.int k b) := by rw [h]
theorem ret_bool {a b : Bool} (h : a = b) : Ending.returned (.bool a) = .returned (.bool b) := by rw [h]

end Go.Proofs.YthmpdgbhbbbknaaDoor
