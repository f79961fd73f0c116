/-
  Layer 5: the first field of a name. The walks: place, Get, the reference's Get.
-/
import Derived.Test.YthmpdgbhbbbknaaFText
namespace Go.Proofs.Ythmpdgbhbbbknaa
open Go.RowKit

def isF (nm : ByteArray) (f : Fd) : Bool := f.name.toList == nm.toList
def ixF : List Fd → ByteArray → Nat
  | [], _ => 0
  | f :: r, nm => if isF nm f then 0 else ixF r nm + 1
theorem ixF_le : ∀ (l : List Fd) (nm : ByteArray), ixF l nm ≤ l.length
  | [], _ => Nat.le_refl _
  | f :: r, nm => by
    have := ixF_le r nm
    unfold ixF
    split <;> simp <;> omega
theorem ixF_hit : ∀ {l : List Fd} {nm : ByteArray} {k : Nat} (hk : k < l.length), isF nm l[k] = true → (∀ j (hj : j < l.length), j < k → isF nm l[j] = false) → ixF l nm = k
  | f :: r, nm, 0, _, h, _ => by
    have h' : isF nm f = true := h
    simp [ixF, h']
  | f :: r, nm, k + 1, hk, h, hb => by
    have h0 : isF nm f = false := hb 0 (by simp) (by omega)
    have := ixF_hit (l := r) (nm := nm) (k := k) (by simpa using hk) (by simpa using h) (fun j hj hjk => by
      have := hb (j + 1) (by simpa using hj) (by omega)
      simpa using this)
    simp [ixF, h0, this]
theorem ixF_miss : ∀ {l : List Fd} {nm : ByteArray}, (∀ j (hj : j < l.length), isF nm l[j] = false) → ixF l nm = l.length
  | [], _, _ => rfl
  | f :: r, nm, h => by
    have h0 : isF nm f = false := h 0 (by simp)
    have := ixF_miss (l := r) (nm := nm) (fun j hj => by
      have := h (j + 1) (by simpa using hj)
      simpa using this)
    simp [ixF, h0, this]
def plI (l : List Fd) (nm : ByteArray) : Int := if ixF l nm < l.length then (ixF l nm : Int) else -1
theorem plI_hit {l : List Fd} {nm : ByteArray} {k : Nat} (hk : k < l.length) (h : isF nm l[k] = true) (hb : ∀ j (hj : j < l.length), j < k → isF nm l[j] = false) : plI l nm = (k : Int) := by
  unfold plI
  rw [ixF_hit hk h hb, if_pos hk]
theorem plI_miss {l : List Fd} {nm : ByteArray} (h : ∀ j (hj : j < l.length), isF nm l[j] = false) : plI l nm = -1 := by
  unfold plI
  rw [ixF_miss h, if_neg (by omega)]
def getM (l : List Fd) (nm : ByteArray) : ByteArray × Bool := match l[ixF l nm]? with | some f => (f.value, true) | none => (⟨#[]⟩, false)

theorem place1_any (x : Fd) (nm : ByteArray) (g : Nat) (w : World) (hc : w.cell? ⟨g, 0, none⟩ = some (.string nm)) :
    Calls Try.prog 35 #[.agg #[.string x.name, .string x.value], .pointer (some ⟨g, 0, none⟩)] w fun e w' => e = .returned (.bool (isF nm x)) ∧ Below w.heap.size w w' := by
  have hg := World.block_lt_of_cell? w _ hc
  unfold isF
  go_enter Try.func35, Try.ntmps35
  go_wp2
  go_ret
  exact ⟨rfl, (Below.refl _ _).alloc (Nat.le_refl _) _⟩

set_option maxRecDepth 100000 in
set_option maxHeartbeats 4000000 in
theorem indexF_any (l : List Fd) (nm : ByteArray) (g : Nat) (A : Option Addr) (n c : Nat) (w : World) (h : Lst Fd.cells 2 w A n l) (hnm : n ≤ maxLen) (hc : w.cell? ⟨g, 0, none⟩ = some (.string nm)) :
    Calls Try.prog 34 #[.slice A n c, .func (.func 35) #[] #[.pointer (some ⟨g, 0, none⟩)]] w fun e w' => e = .returned (.int .i64 (plI l nm)) ∧ Below w.heap.size w w' := by
  have HL := Lib.hid h.len
  have HC := Lib.hid hc
  have hg := World.block_lt_of_cell? w _ hc
  clear hc
  unfold maxLen at hnm
  go_enter Try.func34, Try.ntmps34
  go_wp2
  go_loopw [5, 8] (fun _ i wr => ∃ k : Nat, k ≤ n ∧ i = .int .i64 k ∧ (∀ j (hj : j < l.length), j < k → isF nm l[j] = false) ∧ Below w.heap.size w wr) (fun _ i _ => n - (intOf i).toNat)
  case atStart => exact ⟨0, by omega, rfl, fun _ _ h => absurd h (by omega), Below.refl _ _⟩
  case round =>
    obtain ⟨k, hk, rfl, hall, hw⟩ := hrel
    have HA := Lib.hid hall
    clear hall
    by_cases hlt : k < n
    · have hlk : k < l.length := by rw [HL.out]; exact hlt
      obtain ⟨ba, oa, rfl, hba, f0, f1⟩ := (h.below hw).fd k hlk
      have hcr : wr.cell? ⟨g, 0, none⟩ = some (.string nm) := (hw.cell (p := ⟨g, 0, none⟩) hg).trans HC.out
      have HCR := Lib.hid hcr
      clear hcr
      have hph := fun h => plI_hit (nm := nm) hlk h HA.out
      have hns : isF nm l[k] = false → ∀ j (hj : j < l.length), j < k + 1 → isF nm l[j] = false := fun h j hj hjk => by
        by_cases e : j = k
        · subst e; exact h
        · exact HA.out j hj (by omega)
      generalize l[k] = x at *
      cases hm : isF nm x
      · have HN := Lib.hid (hns hm)
        have HM := Lib.hid hm
        clear hns hph hm
        go_wp2_with (go_at_call 35; refine (place1_any x nm g _ HCR.out).mono ?_; rw [HM.out]; rintro e w1 ⟨rfl, hb1⟩)
        go_roundw
        case rel => exact ⟨k + 1, by omega, by go_num, HN.out, Below.go hw hb1⟩
        case measure => simp [intOf]; omega
      · have HP := Lib.hid (hph hm)
        have HM := Lib.hid hm
        clear hns hph hm
        go_wp2_with (go_at_call 35; refine (place1_any x nm g _ HCR.out).mono ?_; rw [HM.out]; rintro e w1 ⟨rfl, hb1⟩)
        go_ret
        exact ⟨by rw [HP.out]; rfl, Below.go hw hb1⟩
    · obtain rfl : k = n := by omega
      have hp := plI_miss (l := l) (nm := nm) (fun j hj => HA.out j hj (by rw [← HL.out]; exact hj))
      have HP := Lib.hid hp
      clear hp
      go_wp2
      go_ret
      exact ⟨by rw [HP.out]; rfl, hw⟩

set_option maxHeartbeats 2000000 in
theorem place_any (l : List Fd) (nm : ByteArray) (A : Option Addr) (n c : Nat) (w : World) (h : Lst Fd.cells 2 w A n l) (hnm : n ≤ maxLen) :
    Calls Try.prog 28 #[.slice A n c, .string nm] w fun e w' => e = .returned (.int .i64 (plI l nm)) ∧ Below w.heap.size w w' := by
  have hw0 : Below w.heap.size w (w.alloc (.cells #[.string nm] 9)) := (Below.refl _ _).alloc (Nat.le_refl _) _
  have B0 := Blk.new' w 9 #[.string nm] _ rfl
  go_enter Try.func28, Try.ntmps28
  go_wp2_with (go_at_call 34; refine (indexF_any l nm w.heap.size A n c _ (h.below hw0) hnm (B0.cell 0 _ rfl)).mono ?_; rintro e w1 ⟨rfl, hb1⟩)
  go_ret
  exact ⟨rfl, Below.go hw0 hb1⟩

set_option maxRecDepth 100000 in
set_option maxHeartbeats 2000000 in
theorem get_any (l : List Fd) (nm : ByteArray) (A : Option Addr) (n c : Nat) (w : World) (h : Lst Fd.cells 2 w A n l) (hnm : n ≤ maxLen) :
    Calls Try.prog 15 #[.slice A n c, .string nm] w fun e w' => e = .returned (.tuple #[.string (getM l nm).1, .bool (getM l nm).2]) ∧ Below w.heap.size w w' := by
  have HL := Lib.hid h.len
  have hpl := place_any l nm A n c
  by_cases hi : ixF l nm < l.length
  · have hg : getM l nm = (l[ixF l nm].value, true) := by unfold getM; rw [List.getElem?_eq_getElem hi]
    have hp : plI l nm = ((ixF l nm : Nat) : Int) := by unfold plI; rw [if_pos hi]
    rw [hg]
    have HP := Lib.hid hp
    clear hg hp
    have hfd := fun (w' : World) (hb : Below w.heap.size w w') => (h.below hb).fd (ixF l nm) hi
    have hin : ixF l nm < n := by rw [← HL.out]; exact hi
    generalize hx : l[ixF l nm] = x at *
    clear hx
    generalize ixF l nm = k at *
    have HF := Lib.hid hfd
    have HPL := Lib.hid hpl
    clear hfd hpl
    unfold maxLen at hnm
    go_enter Try.func15, Try.ntmps15
    go_wp2_with (go_at_call 28; refine (HPL.out _ h (by unfold maxLen; omega)).mono ?_; rw [HP.out]; rintro e w1 ⟨rfl, hb1⟩; obtain ⟨ba, oa, hA, hba, f0, f1⟩ := HF.out _ hb1; subst hA)
    go_ret2
    exact ⟨rfl, hb1⟩
  · have hg : getM l nm = (⟨#[]⟩, false) := by unfold getM; rw [List.getElem?_eq_none (by omega)]
    have hp : plI l nm = -1 := by unfold plI; rw [if_neg hi]
    rw [hg]
    have HP := Lib.hid hp
    clear hg hp
    have HPL := Lib.hid hpl
    clear hpl
    go_enter Try.func15, Try.ntmps15
    go_wp2_with (go_at_call 28; refine (HPL.out _ h hnm).mono ?_; rw [HP.out]; rintro e w1 ⟨rfl, hb1⟩)
    go_ret2
    exact ⟨rfl, hb1⟩

set_option maxRecDepth 100000 in
set_option maxHeartbeats 2000000 in
theorem refGet_any (l : List Fd) (nm : ByteArray) (A : Option Addr) (n c : Nat) (w : World) (h : Lst Fd.cells 2 w A n l) (hnm : n ≤ maxLen) :
    Calls Try.prog 16 #[.slice A n c, .string nm] w fun e w' => e = .returned (.tuple #[.string (getM l nm).1, .bool (getM l nm).2]) ∧ Below w.heap.size w w' := by
  have HL := Lib.hid h.len
  unfold maxLen at hnm
  go_enter Try.func16, Try.ntmps16
  go_wp2
  go_loopw [6] (fun i wr => ∃ k : Nat, k ≤ n ∧ i = .int .i64 k ∧ (∀ j (hj : j < l.length), j < k → isF nm l[j] = false) ∧ wr = w) (fun i _ => n - (intOf i).toNat)
  case atStart => exact ⟨0, by omega, rfl, fun _ _ h => absurd h (by omega), rfl⟩
  case round =>
    obtain ⟨k, hk, rfl, hall, rfl⟩ := hrel
    have HA := Lib.hid hall
    clear hall
    by_cases hlt : k < n
    · have hlk : k < l.length := by rw [HL.out]; exact hlt
      obtain ⟨ba, oa, rfl, hba, f0, f1⟩ := h.fd k hlk
      have hph : isF nm l[k] = true → getM l nm = (l[k].value, true) := fun h => by
        unfold getM
        rw [ixF_hit hlk h HA.out, List.getElem?_eq_getElem hlk]
      have hns : isF nm l[k] = false → ∀ j (hj : j < l.length), j < k + 1 → isF nm l[j] = false := fun h j hj hjk => by
        by_cases e : j = k
        · subst e; exact h
        · exact HA.out j hj (by omega)
      generalize l[k] = x at *
      cases hm : isF nm x
      · have HN := Lib.hid (hns hm)
        unfold isF at hm
        clear hns hph
        go_wp2
        go_roundw
        case rel => exact ⟨k + 1, by omega, by go_num, HN.out, by first | trivial | rfl⟩
        case measure => simp [intOf]; omega
      · have HP := Lib.hid (hph hm)
        unfold isF at hm
        clear hns hph
        go_wp2
        go_ret2
        exact ⟨by rw [HP.out]; rfl, Below.refl _ _⟩
    · obtain rfl : k = n := by omega
      have hp : getM l nm = (⟨#[]⟩, false) := by
        unfold getM
        rw [ixF_miss (fun j hj => HA.out j hj (by rw [← HL.out]; exact hj)), List.getElem?_eq_none (Nat.le_refl _)]
      have HP := Lib.hid hp
      clear hp
      go_wp2
      go_ret2
      exact ⟨by rw [HP.out]; rfl, Below.refl _ _⟩
end Go.Proofs.Ythmpdgbhbbbknaa
