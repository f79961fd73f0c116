/-
  Fields and their text: the plain law (no program in sight).
-/
import Derived.Test.YthmpdgbhbbbknaaDoorName
import Derived.Lib.Bytealg
namespace Go.Proofs.YthmpdgbhbbbknaaDoor

structure Fd where
  name : ByteArray
  value : ByteArray
def Fd.cells (f : Fd) : List Value := [.string f.name, .string f.value]
theorem Fd.cells_len (f : Fd) : f.cells.length = 2 := rfl
def mayF (f : Fd) : Bool := nameB f.name && decide (f.value.size ≤ 4096)
def esc1 (c : UInt8) : List UInt8 := if c = 92 then [92, 92] else if c = 10 then [92, 110] else [c]
def esc (v : List UInt8) : List UInt8 := v.flatMap esc1
def lineL (f : Fd) : List UInt8 := f.name.data.toList ++ [61] ++ esc f.value.data.toList ++ [10]
def textL (l : List Fd) : List UInt8 := l.flatMap lineL
def textC (l : List Fd) : Int := if 64 < l.length then 7 else if l.all mayF then 0 else 1
def textS (l : List Fd) : List UInt8 := if textC l = 0 then textL l else []

theorem esc_len (v : List UInt8) : (esc v).length ≤ 2 * v.length := by
  induction v with
  | nil => simp [esc]
  | cons c r ih =>
    have h : (esc1 c).length ≤ 2 := by unfold esc1; split <;> (try split) <;> simp
    simp only [esc, List.flatMap_cons, List.length_append, List.length_cons] at *
    omega
theorem esc_snoc (v : List UInt8) (k : Nat) (h : k < v.length) : esc (v.take (k + 1)) = esc (v.take k) ++ esc1 v[k] := by
  unfold esc
  rw [List.take_succ_eq_append_getElem h, List.flatMap_append]
  simp only [List.flatMap_cons, List.flatMap_nil, List.append_nil]
theorem esc_split (v : List UInt8) (k : Nat) (h : k < v.length) : esc v = esc (v.take k) ++ (esc1 v[k] ++ esc (v.drop (k + 1))) := by
  unfold esc
  conv => lhs; rw [← List.take_append_drop k v, List.drop_eq_getElem_cons h]
  simp only [List.flatMap_append, List.flatMap_cons]
theorem esc_no10 (v : List UInt8) : ∀ c ∈ esc v, c ≠ 10 := by
  intro c hc
  obtain ⟨x, _, hx⟩ := List.mem_flatMap.1 hc
  unfold esc1 at hx
  split at hx
  · simp at hx; subst hx; decide
  · split at hx
    · simp at hx; rcases hx with rfl | rfl <;> decide
    · simp at hx; subst hx; assumption
theorem lineL_len (f : Fd) (h : mayF f = true) : (lineL f).length ≤ 8210 ∧ 3 ≤ (lineL f).length := by
  unfold mayF nameB at h
  simp only [Bool.and_eq_true, decide_eq_true_eq] at h
  have h1 := esc_len f.value.data.toList
  have h2 : f.value.data.toList.length = f.value.size := by simp
  have h3 : f.name.data.toList.length = f.name.size := by simp
  unfold lineL
  simp only [List.length_append, List.length_cons, List.length_nil]
  omega
theorem textL_len (l : List Fd) (h : ∀ f ∈ l, mayF f = true) : (textL l).length ≤ l.length * 8210 := by
  induction l with
  | nil => simp [textL]
  | cons f r ih =>
    have h1 := ih (fun x hx => h x (by simp [hx]))
    have h2 := (lineL_len f (h f (by simp))).1
    simp only [textL, List.flatMap_cons, List.length_append, List.length_cons, Nat.succ_mul] at *
    omega
theorem textL_snoc (l : List Fd) (k : Nat) (h : k < l.length) : textL (l.take (k + 1)) = textL (l.take k) ++ lineL l[k] := by
  unfold textL
  rw [List.take_succ_eq_append_getElem h, List.flatMap_append]
  simp only [List.flatMap_cons, List.flatMap_nil, List.append_nil]
theorem textL_drop (l : List Fd) (k : Nat) (h : k < l.length) : textL (l.drop k) = lineL l[k] ++ textL (l.drop (k + 1)) := by
  unfold textL
  rw [List.drop_eq_getElem_cons h, List.flatMap_cons]

theorem index_here (a b : List UInt8) (c : UInt8) (h : ∀ x ∈ a, x ≠ c) : Lib.indexByte (a ++ c :: b) c = a.length := by
  induction a with
  | nil => simp [Lib.indexByte]
  | cons x r ih =>
    have h1 := ih (fun y hy => h y (by simp [hy]))
    have h2 := h x (by simp)
    have h3 : (x == c) = false := by simpa using h2
    simp only [List.cons_append, Lib.indexByte, h3, h1, List.length_cons]
    rw [if_neg (by simp), if_neg (by simp)]
    push_cast
    rfl
theorem name_no (s : ByteArray) (h : nameB s = true) (d : UInt8) (hd : chB d = false) : ∀ x ∈ s.data.toList, x ≠ d := by
  intro x hx e
  subst e
  unfold nameB at h
  simp only [Bool.and_eq_true, List.all_eq_true] at h
  have := h.2 x hx
  rw [hd] at this
  cases this
/-- Where the line ends. -/
theorem line_end (f : Fd) (h : mayF f = true) (rest : List UInt8) : Lib.indexByte (lineL f ++ rest) 10 = ((f.name.data.toList ++ 61 :: esc f.value.data.toList).length : Int) := by
  have hn : nameB f.name = true := by unfold mayF at h; simp only [Bool.and_eq_true] at h; exact h.1
  have e : lineL f ++ rest = (f.name.data.toList ++ 61 :: esc f.value.data.toList) ++ 10 :: rest := by simp [lineL]
  rw [e, index_here]
  intro x hx
  rcases List.mem_append.1 hx with hx | hx
  · exact name_no _ hn 10 (by decide) x hx
  · rcases List.mem_cons.1 hx with rfl | hx
    · decide
    · exact esc_no10 _ x hx
theorem line_cut (f : Fd) (h : mayF f = true) : Lib.indexByte (f.name.data.toList ++ 61 :: esc f.value.data.toList) 61 = (f.name.data.toList.length : Int) := by
  have hn : nameB f.name = true := by unfold mayF at h; simp only [Bool.and_eq_true] at h; exact h.1
  exact index_here _ _ _ (name_no _ hn 61 (by decide))
end Go.Proofs.YthmpdgbhbbbknaaDoor
