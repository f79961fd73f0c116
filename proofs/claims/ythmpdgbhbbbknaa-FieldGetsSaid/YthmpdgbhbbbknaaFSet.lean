/-
  Layer 5: a field set. The walks: Clone, Set, the reference's Set.
-/
import Derived.Test.YthmpdgbhbbbknaaFGet
import Derived.Test.YthmpdgbhbbbknaaSrc
import Derived.Test.YthmpdgbhbbbknaaFParse
namespace Go.Proofs.Ythmpdgbhbbbknaa
open Go.RowKit

def setM (l : List Fd) (nm v : ByteArray) : List Fd := match l[ixF l nm]? with | some f => l.set (ixF l nm) ⟨f.name, v⟩ | none => l ++ [⟨nm, v⟩]
theorem ixF_before : ∀ (l : List Fd) (nm : ByteArray) (j : Nat) (hj : j < l.length), j < ixF l nm → isF nm l[j] = false
  | f :: r, nm, 0, _, h => by
    unfold ixF at h
    split at h
    · omega
    · rename_i h0; simpa using h0
  | f :: r, nm, j + 1, hj, h => by
    unfold ixF at h
    split at h
    · omega
    · have := ixF_before r nm j (by simpa using hj) (by omega)
      simpa using this
theorem ixF_at : ∀ (l : List Fd) (nm : ByteArray) (h : ixF l nm < l.length), isF nm l[ixF l nm] = true
  | [], _, h => by simp [ixF] at h
  | f :: r, nm, h => by
    by_cases h0 : isF nm f = true
    · have e : ixF (f :: r) nm = 0 := by simp [ixF, h0]
      simp only [e]
      exact h0
    · have e : ixF (f :: r) nm = ixF r nm + 1 := by simp [ixF, h0]
      have h1 : ixF r nm < r.length := by rw [e] at h; simpa using h
      have := ixF_at r nm h1
      simp only [e, List.getElem_cons_succ]
      exact this
/-- What the reference has put together behind k fields. -/
def outK (l : List Fd) (nm v : ByteArray) (k : Nat) : List Fd := match (l.take k)[ixF l nm]? with | some f => (l.take k).set (ixF l nm) ⟨f.name, v⟩ | none => l.take k
theorem outK_len (l : List Fd) (nm v : ByteArray) (k : Nat) (hk : k ≤ l.length) : (outK l nm v k).length = k := by
  unfold outK
  split <;> simp <;> omega
theorem outK_done {l : List Fd} {nm v : ByteArray} {k : Nat} (hk : k < l.length) (h : ixF l nm < k) : outK l nm v (k + 1) = outK l nm v k ++ [l[k]] := by
  unfold outK
  have h1 : (l.take (k + 1))[ixF l nm]? = some l[ixF l nm] := by rw [List.getElem?_take, if_pos (by omega), List.getElem?_eq_getElem (by omega)]
  have h2 : (l.take k)[ixF l nm]? = some l[ixF l nm] := by rw [List.getElem?_take, if_pos h, List.getElem?_eq_getElem (by omega)]
  rw [h1, h2]
  dsimp only
  rw [List.take_succ_eq_append_getElem hk, List.set_append_left _ _ (by rw [List.length_take]; omega)]
theorem outK_here {l : List Fd} {nm v : ByteArray} {k : Nat} (hk : k < l.length) (h : ixF l nm = k) : outK l nm v (k + 1) = outK l nm v k ++ [⟨l[k].name, v⟩] := by
  unfold outK
  have h1 : (l.take (k + 1))[ixF l nm]? = some l[k] := by rw [h, List.getElem?_take, if_pos (by omega), List.getElem?_eq_getElem hk]
  have h2 : (l.take k)[ixF l nm]? = none := by rw [h]; exact List.getElem?_eq_none (by rw [List.length_take]; omega)
  rw [h1, h2]
  dsimp only
  rw [h, List.take_succ_eq_append_getElem hk, List.set_append_right _ _ (by rw [List.length_take]; omega)]
  simp [Nat.min_eq_left (Nat.le_of_lt hk)]
theorem outK_later {l : List Fd} {nm v : ByteArray} {k : Nat} (hk : k < l.length) (h : k < ixF l nm) : outK l nm v (k + 1) = outK l nm v k ++ [l[k]] := by
  unfold outK
  have h1 : (l.take (k + 1))[ixF l nm]? = none := List.getElem?_eq_none (by simp; omega)
  have h2 : (l.take k)[ixF l nm]? = none := List.getElem?_eq_none (by simp; omega)
  rw [h1, h2]
  dsimp only
  rw [List.take_succ_eq_append_getElem hk]
theorem outK_end (l : List Fd) (nm v : ByteArray) : (ixF l nm < l.length ∧ setM l nm v = outK l nm v l.length) ∨ (¬ ixF l nm < l.length ∧ setM l nm v = outK l nm v l.length ++ [⟨nm, v⟩]) := by
  unfold setM outK
  rw [List.take_length]
  by_cases h : ixF l nm < l.length
  · refine .inl ⟨h, ?_⟩
    rw [List.getElem?_eq_getElem h]
  · refine .inr ⟨h, ?_⟩
    rw [List.getElem?_eq_none (by omega)]

def SetPost (l : List Fd) (w : World) (e : Ending) (w' : World) : Prop :=
  ∃ A c, e = .returned (.slice A l.length c) ∧ Own w' 42 2 A l.length c (l.flatMap Fd.cells) ∧ (∀ b ∈ fpo A, w.heap.size ≤ b) ∧ Below w.heap.size w w'

set_option maxHeartbeats 1000000 in
theorem cloneF_any (l : List Fd) (A : Option Addr) (n c : Nat) (w : World) (h : Lst Fd.cells 2 w A n l) (h1 : n ≤ c) (h2 : c ≤ maxLen) (h3 : A = none → n = 0 ∧ c = 0) (hl : n ≤ 4000) :
    Calls Try.prog 29 #[.slice A n c] w (SetPost l w) := by
  obtain ⟨i1, hj, hy0, hy1, hy2⟩ := info_parts Try.infoFd
  have hs := h.src (by omega) Fd.cells_len h1 h2 h3
  obtain rfl := h.len
  rcases A with _ | a
  · obtain ⟨h4, h5⟩ := h3 rfl
    have hl0 : l = [] := List.eq_nil_of_length_eq_zero h4
    subst hl0
    subst h5
    have e1 : ∀ w : World, (binOp .eql 22 (.slice none 0 0) (.slice none 0 0)).run Try.prog w = .ok (.bool true) w := fun _ => by kernel_rfl
    go_enter Try.func29, Try.ntmps29
    go_wp2
    go_ret
    exact ⟨none, 0, rfl, Own.nil _ _ _, by simp, Below.refl _ _⟩
  · have e1 := fun w : World => Lib.run_eql_slice_nil (P := Try.prog) w 22 42 (some a) l.length c 0 0 Try.underlying22
    clear h h3
    go_enter Try.func29, Try.ntmps29
    go_wp2_with (at_builtin; go_loud (refine wpList_appS _ rfl _ _ 22 rfl 42 i1 _ 2 32 Try.underlying22 hj hy0 hy1 hy2 rfl (by decide) rfl rfl (Own.lit _ 42 2 #[] 0 (by simp [maxLen]) rfl _ (by simp)) (hs.alloc _) (fd_one _) l.length (by simp) (l.flatMap Fd.cells) (by simp) (by unfold maxLen; omega) (by omega) ?_; intro A3 c3 w1 hown hfr hfp))
    go_ret
    refine ⟨A3, c3, rfl, hown, fun b hb => ?_, Below.frm (by repeat (first | with_reducible exact Below.refl _ _ | (with_reducible refine Below.setCell ?_ (by first | omega | (simp <;> omega)) _) | (with_reducible refine Below.alloc ?_ (by first | omega | (simp <;> omega)) _) | (with_reducible refine Below.drew ?_) | (with_reducible refine belowN ?_ _))) hfr (by simp)⟩
    rcases hfp b hb with h1 | h1
    · simp at h1; omega
    · simp at h1; omega

set_option maxRecDepth 100000 in
set_option maxHeartbeats 2000000 in
theorem set_any (l : List Fd) (nm v : ByteArray) (A : Option Addr) (n c : Nat) (w : World) (h : Lst Fd.cells 2 w A n l) (h1 : n ≤ c) (h2 : c ≤ maxLen) (h3 : A = none → n = 0 ∧ c = 0) (hl : n ≤ 4000) :
    Calls Try.prog 17 #[.slice A n c, .string nm, .string v] w (SetPost (setM l nm v) w) := by
  obtain ⟨i1, hj, hy0, hy1, hy2⟩ := info_parts Try.infoFd
  have HCL := Lib.hid (cloneF_any l A n c w h h1 h2 h3 hl)
  have HLL := Lib.hid h.len
  have hll : l.length ≤ 4000 := by rw [HLL.out]; exact hl
  clear h h1 h2 h3
  by_cases hi : ixF l nm < l.length
  · have hp : plI l nm = ((ixF l nm : Nat) : Int) := by unfold plI; rw [if_pos hi]
    have hsm : setM l nm v = l.set (ixF l nm) ⟨l[ixF l nm].name, v⟩ := by unfold setM; rw [List.getElem?_eq_getElem hi]
    have hfl := flat_set Fd.cells 2 Fd.cells_len l (ixF l nm) 1 ⟨l[ixF l nm].name, v⟩ (.string v) hi (by omega) rfl
    rw [← hsm] at hfl
    have hsl : (setM l nm v).length = l.length := by rw [hsm]; simp
    have HP := Lib.hid hp
    have HFL := Lib.hid hfl
    have HSL := Lib.hid hsl
    clear hp hsm hfl hsl
    have hel := fun (w' : World) (A3 : Option Addr) (c3 : Nat) (ho : Own w' 42 2 A3 l.length c3 (l.flatMap Fd.cells)) => ho.elem Fd.cells_len (by omega) (ixF l nm) hi
    have HEL := Lib.hid hel
    clear hel
    generalize ixF l nm = k at *
    go_enter Try.func17, Try.ntmps17
    go_wp2_with (first | (go_at_call 29; refine HCL.out.mono ?_; rintro e w1 ⟨A3, c3, rfl, ho1, hn1, hb1⟩; have HN1 := Lib.hid hn1; clear hn1) | (go_at_call 28; refine (place_any l nm A3 _ c3 _ (Rd.lst Fd.cells_len rfl ho1.rd) (by unfold maxLen; omega)).mono ?_; rw [HP.out]; rintro e w2 ⟨rfl, hb2⟩; have ho2 := ho1.below hb2; obtain ⟨g, hA3, hg, fc, ff⟩ := HEL.out _ _ _ ho2; subst hA3; have fc1 := fc 1 _ rfl; clear fc))
    go_ret
    have hgn : w.heap.size ≤ g := HN1.out g (by simp)
    refine ⟨some ⟨g, 0, none⟩, c3, by rw [HSL.out]; rfl, ?_, by simpa using hgn, ?_⟩
    · have hx := ho2.set_ (k * 2 + 1) (.string v)
      rw [HFL.out] at hx
      rw [HSL.out]
      exact hx
    · exact (Below.go hb1 hb2).setCell (p := ⟨g, k * 2 + 1, none⟩) hgn _
  · have hp : plI l nm = -1 := by unfold plI; rw [if_neg hi]
    have hsm : setM l nm v = l ++ [Fd.mk nm v] := by unfold setM; rw [List.getElem?_eq_none (by omega)]
    rw [hsm]
    have HP := Lib.hid hp
    clear hp hsm
    go_enter Try.func17, Try.ntmps17
    go_wp2_with (first | (go_at_call 29; refine HCL.out.mono ?_; rintro e w1 ⟨A3, c3, rfl, ho1, hn1, hb1⟩; have HN1 := Lib.hid hn1; clear hn1) | (go_at_call 28; refine (place_any l nm A3 _ c3 _ (Rd.lst Fd.cells_len rfl ho1.rd) (by unfold maxLen; omega)).mono ?_; rw [HP.out]; rintro e w2 ⟨rfl, hb2⟩; have ho2 := ho1.below hb2) | (at_builtin; go_loud (refine wpList_app _ rfl _ _ 22 rfl 42 i1 _ 2 32 Try.underlying22 hj hy0 hy1 hy2 rfl (by decide) rfl rfl (ho2.alloc _) (Rd.lit _ 42 2 _ 1 (by simp [maxLen]) rfl _ (by simp)) (by intro u hu; simp at hu; rcases hu with rfl | rfl <;> rfl) (l.length + 1) rfl ((l ++ [Fd.mk nm v]).flatMap Fd.cells) (by simp [Fd.cells]) (by unfold maxLen; omega) (by omega) ?_; intro A4 c4 w4 hown2 hfr2 hfp2)))
    go_ret
    have hw2 := Below.go hb1 hb2
    refine ⟨A4, c4, by simp, by simpa using hown2, fun b hb => ?_, Below.frm (hw2.alloc hw2.size _) hfr2 HN1.out⟩
    rcases hfp2 b hb with h | h
    · exact HN1.out b h
    · have := hw2.size
      simp at h
      omega
end Go.Proofs.Ythmpdgbhbbbknaa
