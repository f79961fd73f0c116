/-
  The room of a list of fields that came in; the look at the inputs' size, with the bound that it gives; get behind set.
-/
import Derived.Test.YthmpdgbhbbbknaaFOpen
import Derived.Test.YthmpdgbhbbbknaaFRefSet
namespace Go.Proofs.Ythmpdgbhbbbknaa
open Go.ChangeShapes Go.WideShapes Go.Deep Go.RowKit

section
variable {H : Type} {enc : TypeId × Value → H} {w : World} {base : Nat} {spare : Nat → Bool} {held : Bool}
theorem caps_fields {A : Option Addr} {n c : Nat} {d : DataW H} {p : List MemPlace} (h : DataW.Trod enc Try.prog w base spare held 22 (.slice A n c) d p) :
    n ≤ c ∧ c ≤ maxLen ∧ (A = none → n = 0 ∧ c = 0) := by
  obtain ⟨fuel, hf⟩ := h
  have hf : DataW.trod enc Try.prog w base spare held fuel 22 [.slice A n c] = _ := hf
  rcases open_slice_fields Try.underlying22 Try.underlying42 (by kernel_rfl) (by kernel_rfl) hf with ⟨hcs, _⟩ | ⟨a, len, cap, m, D, Pl, hcs, _, hl, hm, _⟩
  · simp at hcs
    obtain ⟨rfl, rfl, rfl⟩ := hcs
    simp [maxLen]
  · simp at hcs
    obtain ⟨rfl, rfl, rfl⟩ := hcs
    exact ⟨hl, hm, by simp⟩
end

theorem getM_cons (f : Fd) (r : List Fd) (nm : ByteArray) : getM (f :: r) nm = if isF nm f then (f.value, true) else getM r nm := by
  unfold getM
  by_cases h : isF nm f = true
  · simp [ixF, h]
  · simp [ixF, h]
theorem setM_cons (f : Fd) (r : List Fd) (nm v : ByteArray) : setM (f :: r) nm v = if isF nm f then ⟨f.name, v⟩ :: r else f :: setM r nm v := by
  unfold setM
  by_cases h : isF nm f = true
  · simp [ixF, h]
  · simp [ixF, h]
    split <;> rfl
theorem setM_len : ∀ (l : List Fd) (nm v : ByteArray), (setM l nm v).length ≤ l.length + 1
  | [], _, _ => by simp [setM]
  | f :: r, nm, v => by
    rw [setM_cons]
    have := setM_len r nm v
    split <;> simp <;> omega
theorem getM_set : ∀ (l : List Fd) (nm v : ByteArray), getM (setM l nm v) nm = (v, true)
  | [], nm, v => by
    have : setM [] nm v = [⟨nm, v⟩] := rfl
    rw [this, getM_cons, if_pos (by simp [isF])]
  | f :: r, nm, v => by
    rw [setM_cons]
    by_cases h : isF nm f = true
    · rw [if_pos h, getM_cons, if_pos (by simpa [isF] using h)]
    · rw [if_neg h, getM_cons, if_neg h]
      exact getM_set r nm v
theorem getM_far : ∀ (l : List Fd) (nm v o : ByteArray), (o.toList == nm.toList) = false → getM (setM l nm v) o = getM l o
  | [], nm, v, o, h => by
    have : setM [] nm v = [⟨nm, v⟩] := rfl
    rw [this, getM_cons, if_neg]
    unfold isF
    intro e
    simp at h e
    exact h e.symm
  | f :: r, nm, v, o, h => by
    rw [setM_cons]
    by_cases hf : isF nm f = true
    · have ho : ¬ isF o f = true := by
        unfold isF at hf ⊢
        intro e
        simp at h hf e
        exact h (e.symm.trans hf)
      rw [if_pos hf, getM_cons, getM_cons, if_neg ho, if_neg (by unfold isF at ho ⊢; exact ho)]
    · rw [if_neg hf, getM_cons, getM_cons, getM_far r nm v o h]

def Long70 (n : Nat) (w : World) (e : Ending) (w' : World) : Prop := ∃ b : Bool, e = .returned (.bool b) ∧ (b = false → n ≤ 70) ∧ Below w.heap.size w w'
set_option maxRecDepth 100000 in
set_option maxHeartbeats 2000000 in
theorem long70_any (l : List Fd) (A : Option Addr) (n c : Nat) (w : World) (h : Lst Fd.cells 2 w A n l) (hnm : n ≤ maxLen) :
    Calls Try.prog 6 #[.slice A n c] w (Long70 n w) := by
  have HL := Lib.hid h.len
  unfold maxLen at hnm
  go_enter Try.func6, Try.ntmps6
  go_wp2
  go_loopw [7] (fun i wr => ∃ k : Nat, k ≤ n ∧ i = .int .i64 k ∧ Below w.heap.size w wr) (fun i _ => n - (intOf i).toNat)
  case atStart => exact ⟨0, by omega, rfl, Below.refl _ _⟩
  case round =>
    obtain ⟨k, hk, rfl, hw⟩ := hrel
    by_cases hlt : k < n
    · have hlk : k < l.length := by rw [HL.out]; exact hlt
      obtain ⟨ba, oa, rfl, hba, f0, f1⟩ := (h.below hw).fd k hlk
      generalize l[k] = x at *
      have hw0 : Below w.heap.size w (wr.alloc (.cells #[.string x.name, .string x.value] 42)) := hw.alloc hw.size _
      by_cases h1 : 100 < x.name.size
      · go_wp2
        go_ret
        exact ⟨true, rfl, by simp, hw0⟩
      by_cases h2 : 4200 < x.value.size
      · go_wp2
        go_ret
        exact ⟨true, rfl, by simp, hw0⟩
      · go_wp2
        go_roundw
        case rel => exact ⟨k + 1, by omega, by go_num, hw0⟩
        case measure => simp [intOf]; omega
    · obtain rfl : k = n := by omega
      by_cases h70 : k ≤ 70
      · go_wp2
        go_ret
        refine ⟨false, ?_, fun _ => h70, hw⟩
        first | rfl | exact ret_bool (by simp; omega)
      · go_wp2
        go_ret
        refine ⟨true, ?_, by simp, hw⟩
        first | rfl | exact ret_bool (by simp; omega)
end Go.Proofs.Ythmpdgbhbbbknaa
