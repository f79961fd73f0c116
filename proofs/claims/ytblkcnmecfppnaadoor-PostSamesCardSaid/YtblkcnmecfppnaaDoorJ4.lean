/-
  Texts of this proof, joined: FEq, FKind, PC, PD, PE, PF, PG, PH, PI, PJ, PK, PL, PM, FTextRef, PN, PO, NumLaw, PQ, Itoa, PP, Y, PR, PS, PT, PU, PV, PW, PX, PY, PZ, QA, QB, QD, VT, GlobOf.
-/
import Derived.Test.YtblkcnmecfppnaaDoorJ3
import Derived.Lib.ParseIntBCases
import Derived.Lib.ItoaMem
import Derived.Shelf.Strconv.Itoa4
import Derived.Test.YtblkcnmecfppnaaDoorChecked
import Derived.Lib.Walk
import Derived.Lib.AppendIntMem
import Derived.WalkKit
import Derived.BigCall
import Derived.BigGuard
import Derived.KernelRfl
import Derived.Lib.LaidTab
import Derived.MakeChecks
import Derived.Stop.LaidErr
import Derived.Test.YtblkcnmecfppnaaDoorRows
set_option linter.unusedVariables false
set_option linter.unusedSimpArgs false
/-
  Layer 5: two lists of fields, two papers: are they one. The walks.
-/
namespace Go.Proofs.YtblkcnmecfppnaaDoor
open Go.RowKit

def eqF (x y : Fd) : Bool := (x.name.toList == y.name.toList) && (x.value.toList == y.value.toList)
def sameL : List Fd → List Fd → Bool
  | [], [] => true
  | x :: r, y :: s => eqF x y && sameL r s
  | [], _ :: _ => false
  | _ :: _, [] => false
def eqTo (l l' : List Fd) (k : Nat) : Prop := ∀ j (h : j < l.length) (h' : j < l'.length), j < k → eqF l[j] l'[j] = true
theorem sameL_len : ∀ {l l' : List Fd}, l.length ≠ l'.length → sameL l l' = false
  | [], [], h => absurd rfl h
  | _ :: _, [], _ => rfl
  | [], _ :: _, _ => rfl
  | x :: r, y :: s, h => by
    have := sameL_len (l := r) (l' := s) (fun e => h (by simp [e]))
    simp [sameL, this]
theorem sameL_not : ∀ {l l' : List Fd} {k : Nat} (h : k < l.length) (h' : k < l'.length), eqF l[k] l'[k] = false → sameL l l' = false
  | x :: r, y :: s, 0, _, _, he => by
    have he' : eqF x y = false := he
    simp [sameL, he']
  | x :: r, y :: s, k + 1, h, h', he => by
    have := sameL_not (l := r) (l' := s) (k := k) (by simpa using h) (by simpa using h') (by simpa using he)
    simp [sameL, this]
theorem sameL_all : ∀ {l l' : List Fd}, l.length = l'.length → eqTo l l' l.length → sameL l l' = true
  | [], [], _, _ => rfl
  | [], _ :: _, h, _ => by simp at h
  | _ :: _, [], h, _ => by simp at h
  | x :: r, y :: s, h, he => by
    have h0 : eqF x y = true := he 0 (by simp) (by simp) (by simp)
    have h1 := sameL_all (l := r) (l' := s) (by simpa using h) (fun j hj hj' hk => by
      have := he (j + 1) (by simpa using hj) (by simpa using hj') (by simpa using hk)
      simpa using this)
    simp [sameL, h0, h1]
theorem eqTo_succ {l l' : List Fd} {k : Nat} (h : k < l.length) (h' : k < l'.length) (ht : eqTo l l' k) (he : eqF l[k] l'[k] = true) : eqTo l l' (k + 1) := fun j hj hj' hk => by
  by_cases e : j = k
  · subst e; exact he
  · exact ht j hj hj' (by omega)
theorem sameL_self (l : List Fd) : sameL l l = true := sameL_all rfl (fun j _ _ _ => by simp [eqF])

/-- A paper. -/
structure Dc where
  kind : Int
  number : ByteArray
  issuer : ByteArray
  fields : List Fd
structure DocIn (w : World) (A : Option Addr) (d : Dc) : Prop where
  lst : Lst Fd.cells 2 w A d.fields.length d.fields
  max : d.fields.length ≤ maxLen
theorem DocIn.below {w w' : World} {A : Option Addr} {d : Dc} (h : DocIn w A d) (hb : Below w.heap.size w w') : DocIn w' A d := ⟨h.lst.below hb, h.max⟩
def sameD (a b : Dc) : Bool := (a.kind == b.kind) && (a.number.toList == b.number.toList) && (a.issuer.toList == b.issuer.toList) && sameL a.fields b.fields
theorem sameD_self (a : Dc) : sameD a a = true := by simp [sameD, sameL_self]

set_option maxRecDepth 100000 in
set_option maxHeartbeats 4000000 in
theorem equal_any (l l' : List Fd) (A A' : Option Addr) (n c n' c' : Nat) (w : World) (h : Lst Fd.cells 2 w A n l) (h' : Lst Fd.cells 2 w A' n' l') (hnm : n ≤ maxLen) (hnm' : n' ≤ maxLen) :
    Calls Tryd.prog 61 #[.slice A n c, .slice A' n' c'] w fun e w' => e = .returned (.bool (sameL l l')) ∧ Below w.heap.size w w' := by
  have HL := Lib.hid h.len
  have HL' := Lib.hid h'.len
  unfold maxLen at hnm hnm'
  by_cases hnn : n = n'
  · subst hnn
    go_enter Tryd.func61, Tryd.ntmps61
    go_wp2
    go_loopw [13] (fun i wr => ∃ k : Nat, k ≤ n ∧ i = .int .i64 k ∧ Below w.heap.size w wr ∧ eqTo l l' k) (fun i _ => n - (intOf i).toNat)
    case atStart => exact ⟨0, by omega, rfl, Below.refl _ _, fun j _ _ hj => absurd hj (by omega)⟩
    case round =>
      obtain ⟨k, hk, rfl, hw, he⟩ := hrel
      have HE := Lib.hid he
      clear he
      by_cases hlt : k < n
      · have hlk : k < l.length := by rw [HL.out]; exact hlt
        have hlk' : k < l'.length := by rw [HL'.out]; exact hlt
        obtain ⟨ba, oa, rfl, hba, f0, f1⟩ := (h.below hw).fd k hlk
        obtain ⟨bb, ob, rfl, hbb, g0, g1⟩ := (h'.below hw).fd k hlk'
        have hs := eqTo_succ hlk hlk' HE.out
        have hf := sameL_not hlk hlk'
        generalize l[k] = x at *
        generalize l'[k] = y at *
        unfold eqF at hs hf
        cases e1 : (x.name.toList == y.name.toList)
        · rw [e1] at hf
          have HF := Lib.hid (hf (by simp))
          clear hf hs
          go_wp2
          refine wp_region_plan_still [(true, 0, none), (true, 1, none), (true, 2, none), (true, 3, none), (true, 4, none), (true, 5, none), (true, 6, none), (true, 7, none), (true, 8, none)] (by kernel_rfl) (by kernel_rfl) (fun _ _ d _ _ h => by cases d <;> exact h) rfl ?_
          repeat (first | (refine wpPlan_skip (by rfl) ?_; (try simp only [Act.put, List.setIfInBounds_toArray, List.set_cons_zero, List.set_cons_succ])) | (refine wpPlan_take (v := ?_) (by rfl) (by rfl) ?_ ?_; rotate_left; (focus (intro w hSw; (try dsimp only at hSw); go_simp; (try with_reducible rfl))); (try simp only [Act.put, List.setIfInBounds_toArray, List.set_cons_zero, List.set_cons_succ])))
          refine wpPlan_nil ?_
          go_wp2
          go_ret
          exact ⟨ret_bool HF.out.symm, hw.drew⟩
        · cases e2 : (x.value.toList == y.value.toList)
          · rw [e1, e2] at hf
            have HF := Lib.hid (hf (by simp))
            clear hf hs
            go_wp2
            refine wp_region_plan_still [(true, 0, none), (true, 1, none), (true, 2, none), (true, 3, none), (true, 4, none), (true, 5, none), (true, 6, none), (true, 7, none), (true, 8, none)] (by kernel_rfl) (by kernel_rfl) (fun _ _ d _ _ h => by cases d <;> exact h) rfl ?_
            repeat (first | (refine wpPlan_skip (by rfl) ?_; (try simp only [Act.put, List.setIfInBounds_toArray, List.set_cons_zero, List.set_cons_succ])) | (refine wpPlan_take (v := ?_) (by rfl) (by rfl) ?_ ?_; rotate_left; (focus (intro w hSw; (try dsimp only at hSw); go_simp; (try with_reducible rfl))); (try simp only [Act.put, List.setIfInBounds_toArray, List.set_cons_zero, List.set_cons_succ])))
            refine wpPlan_nil ?_
            go_wp2
            go_ret
            exact ⟨ret_bool HF.out.symm, hw.drew⟩
          · rw [e1, e2] at hs
            have HS := Lib.hid (hs (by simp))
            clear hf hs
            go_wp2
            refine wp_region_plan_still [(true, 0, none), (true, 1, none), (true, 2, none), (true, 3, none), (true, 4, none), (true, 5, none), (true, 6, none), (true, 7, none), (true, 8, none)] (by kernel_rfl) (by kernel_rfl) (fun _ _ d _ _ h => by cases d <;> exact h) rfl ?_
            repeat (first | (refine wpPlan_skip (by rfl) ?_; (try simp only [Act.put, List.setIfInBounds_toArray, List.set_cons_zero, List.set_cons_succ])) | (refine wpPlan_take (v := ?_) (by rfl) (by rfl) ?_ ?_; rotate_left; (focus (intro w hSw; (try dsimp only at hSw); go_simp; (try with_reducible rfl))); (try simp only [Act.put, List.setIfInBounds_toArray, List.set_cons_zero, List.set_cons_succ])))
            refine wpPlan_nil ?_
            go_wp2
            go_roundw
            case rel => exact ⟨k + 1, by omega, by go_num, hw.drew, HS.out⟩
            case measure => simp [intOf]; omega
      · obtain rfl : k = n := by omega
        have hall := sameL_all (HL.out.trans HL'.out.symm) (by rw [HL.out]; exact HE.out)
        have HA := Lib.hid hall
        clear hall
        go_wp2
        go_ret
        exact ⟨ret_bool HA.out.symm, hw⟩
  · have hf : sameL l l' = false := sameL_len (by rw [HL.out, HL'.out]; exact hnn)
    rw [hf]
    clear hf
    have hnz : ((n : Int) != (n' : Int)) = true := by rw [bne_iff_ne]; omega
    go_enter Tryd.func61, Tryd.ntmps61
    go_wp2
    go_ret
    exact ⟨rfl, Below.refl _ _⟩

set_option maxRecDepth 100000 in
set_option maxHeartbeats 4000000 in
theorem refEq_any (l l' : List Fd) (A A' : Option Addr) (n c n' c' : Nat) (w : World) (h : Lst Fd.cells 2 w A n l) (h' : Lst Fd.cells 2 w A' n' l') (hnm : n ≤ maxLen) (hnm' : n' ≤ maxLen) :
    Calls Tryd.prog 10 #[.slice A n c, .slice A' n' c'] w fun e w' => e = .returned (.bool (sameL l l')) ∧ Below w.heap.size w w' := by
  have HL := Lib.hid h.len
  have HL' := Lib.hid h'.len
  unfold maxLen at hnm hnm'
  by_cases hnn : n = n'
  · subst hnn
    go_enter Tryd.func10, Tryd.ntmps10
    go_wp2
    go_loopw [5] (fun i wr => ∃ k : Nat, k ≤ n ∧ i = .int .i64 k ∧ Below w.heap.size w wr ∧ eqTo l l' k) (fun i _ => n - (intOf i).toNat)
    case atStart => exact ⟨0, by omega, rfl, Below.refl _ _, fun j _ _ hj => absurd hj (by omega)⟩
    case round =>
      obtain ⟨k, hk, rfl, hw, he⟩ := hrel
      have HE := Lib.hid he
      clear he
      by_cases hlt : k < n
      · have hlk : k < l.length := by rw [HL.out]; exact hlt
        have hlk' : k < l'.length := by rw [HL'.out]; exact hlt
        obtain ⟨ba, oa, rfl, hba, f0, f1⟩ := (h.below hw).fd k hlk
        obtain ⟨bb, ob, rfl, hbb, g0, g1⟩ := (h'.below hw).fd k hlk'
        have hs := eqTo_succ hlk hlk' HE.out
        have hf := sameL_not hlk hlk'
        generalize l[k] = x at *
        generalize l'[k] = y at *
        unfold eqF at hs hf
        cases e1 : (x.name.toList == y.name.toList)
        · rw [e1] at hf
          have HF := Lib.hid (hf (by simp))
          clear hf hs
          go_wp2
          refine wp_region_plan_still [(true, 0, none), (true, 1, none), (true, 2, none), (true, 3, none), (true, 4, none), (true, 5, none), (true, 6, none), (true, 7, none), (true, 8, none)] (by kernel_rfl) (by kernel_rfl) (fun _ _ d _ _ h => by cases d <;> exact h) rfl ?_
          repeat (first | (refine wpPlan_skip (by rfl) ?_; (try simp only [Act.put, List.setIfInBounds_toArray, List.set_cons_zero, List.set_cons_succ])) | (refine wpPlan_take (v := ?_) (by rfl) (by rfl) ?_ ?_; rotate_left; (focus (intro w hSw; (try dsimp only at hSw); go_simp; (try with_reducible rfl))); (try simp only [Act.put, List.setIfInBounds_toArray, List.set_cons_zero, List.set_cons_succ])))
          refine wpPlan_nil ?_
          go_wp2
          go_ret
          exact ⟨ret_bool HF.out.symm, hw.drew⟩
        · cases e2 : (x.value.toList == y.value.toList)
          · rw [e1, e2] at hf
            have HF := Lib.hid (hf (by simp))
            clear hf hs
            go_wp2
            refine wp_region_plan_still [(true, 0, none), (true, 1, none), (true, 2, none), (true, 3, none), (true, 4, none), (true, 5, none), (true, 6, none), (true, 7, none), (true, 8, none)] (by kernel_rfl) (by kernel_rfl) (fun _ _ d _ _ h => by cases d <;> exact h) rfl ?_
            repeat (first | (refine wpPlan_skip (by rfl) ?_; (try simp only [Act.put, List.setIfInBounds_toArray, List.set_cons_zero, List.set_cons_succ])) | (refine wpPlan_take (v := ?_) (by rfl) (by rfl) ?_ ?_; rotate_left; (focus (intro w hSw; (try dsimp only at hSw); go_simp; (try with_reducible rfl))); (try simp only [Act.put, List.setIfInBounds_toArray, List.set_cons_zero, List.set_cons_succ])))
            refine wpPlan_nil ?_
            go_wp2
            go_ret
            exact ⟨ret_bool HF.out.symm, hw.drew⟩
          · rw [e1, e2] at hs
            have HS := Lib.hid (hs (by simp))
            clear hf hs
            go_wp2
            refine wp_region_plan_still [(true, 0, none), (true, 1, none), (true, 2, none), (true, 3, none), (true, 4, none), (true, 5, none), (true, 6, none), (true, 7, none), (true, 8, none)] (by kernel_rfl) (by kernel_rfl) (fun _ _ d _ _ h => by cases d <;> exact h) rfl ?_
            repeat (first | (refine wpPlan_skip (by rfl) ?_; (try simp only [Act.put, List.setIfInBounds_toArray, List.set_cons_zero, List.set_cons_succ])) | (refine wpPlan_take (v := ?_) (by rfl) (by rfl) ?_ ?_; rotate_left; (focus (intro w hSw; (try dsimp only at hSw); go_simp; (try with_reducible rfl))); (try simp only [Act.put, List.setIfInBounds_toArray, List.set_cons_zero, List.set_cons_succ])))
            refine wpPlan_nil ?_
            go_wp2
            go_roundw
            case rel => exact ⟨k + 1, by omega, by go_num, hw.drew, HS.out⟩
            case measure => simp [intOf]; omega
      · obtain rfl : k = n := by omega
        have hall := sameL_all (HL.out.trans HL'.out.symm) (by rw [HL.out]; exact HE.out)
        have HA := Lib.hid hall
        clear hall
        go_wp2
        go_ret
        exact ⟨ret_bool HA.out.symm, hw⟩
  · have hf : sameL l l' = false := sameL_len (by rw [HL.out, HL'.out]; exact hnn)
    rw [hf]
    clear hf
    have hnz : ((n : Int) != (n' : Int)) = true := by rw [bne_iff_ne]; omega
    go_enter Tryd.func10, Tryd.ntmps10
    go_wp2
    go_ret
    exact ⟨rfl, Below.refl _ _⟩

set_option maxRecDepth 100000 in
set_option maxHeartbeats 4000000 in
theorem docSame_any (a b : Dc) (A A' : Option Addr) (c c' : Nat) (w : World) (h : DocIn w A a) (h' : DocIn w A' b) :
    Calls Tryd.prog 43 #[.agg #[.int .i64 a.kind, .string a.number, .string a.issuer, .slice A a.fields.length c], .agg #[.int .i64 b.kind, .string b.number, .string b.issuer, .slice A' b.fields.length c']] w fun e w' => e = .returned (.bool (sameD a b)) ∧ Below w.heap.size w w' := by
  have hw0 : Below w.heap.size w ((w.alloc (.cells #[.int .i64 a.kind, .string a.number, .string a.issuer, .slice A a.fields.length c] 40)).alloc (.cells #[.int .i64 b.kind, .string b.number, .string b.issuer, .slice A' b.fields.length c'] 40)) := ((Below.refl _ _).alloc (Nat.le_refl _) _).alloc (by simp) _
  unfold sameD
  cases e0 : (a.kind == b.kind)
  · go_enter Tryd.func43, Tryd.ntmps43
    go_wp2
    go_ret
    exact ⟨ret_bool (by simp), hw0⟩
  · cases e1 : (a.number.toList == b.number.toList)
    · go_enter Tryd.func43, Tryd.ntmps43
      go_wp2
      go_ret
      exact ⟨ret_bool (by simp), hw0⟩
    · cases e2 : (a.issuer.toList == b.issuer.toList)
      · go_enter Tryd.func43, Tryd.ntmps43
        go_wp2
        go_ret
        exact ⟨ret_bool (by simp), hw0⟩
      · go_enter Tryd.func43, Tryd.ntmps43
        go_wp2_with (go_at_call 61; refine (equal_any a.fields b.fields A A' _ c _ c' _ (h.lst.below hw0) (h'.lst.below hw0) h.max h'.max).mono ?_; rintro e w1 ⟨rfl, hb⟩; have hw1 := Below.go hw0 hb)
        go_ret
        exact ⟨ret_bool (by simp), hw1⟩

set_option maxRecDepth 100000 in
set_option maxHeartbeats 4000000 in
theorem alike_any (a b : Dc) (A A' : Option Addr) (c c' : Nat) (w : World) (h : DocIn w A a) (h' : DocIn w A' b) :
    Calls Tryd.prog 45 #[.agg #[.int .i64 a.kind, .string a.number, .string a.issuer, .slice A a.fields.length c], .agg #[.int .i64 b.kind, .string b.number, .string b.issuer, .slice A' b.fields.length c']] w fun e w' => e = .returned (.bool (sameD a b)) ∧ Below w.heap.size w w' := by
  have hw0 : Below w.heap.size w ((w.alloc (.cells #[.int .i64 a.kind, .string a.number, .string a.issuer, .slice A a.fields.length c] 40)).alloc (.cells #[.int .i64 b.kind, .string b.number, .string b.issuer, .slice A' b.fields.length c'] 40)) := ((Below.refl _ _).alloc (Nat.le_refl _) _).alloc (by simp) _
  unfold sameD
  cases e0 : (a.kind == b.kind)
  · go_enter Tryd.func45, Tryd.ntmps45
    go_wp2
    go_ret
    exact ⟨ret_bool (by simp), hw0⟩
  · cases e1 : (a.number.toList == b.number.toList)
    · go_enter Tryd.func45, Tryd.ntmps45
      go_wp2
      go_ret
      exact ⟨ret_bool (by simp), hw0⟩
    · cases e2 : (a.issuer.toList == b.issuer.toList)
      · go_enter Tryd.func45, Tryd.ntmps45
        go_wp2
        go_ret
        exact ⟨ret_bool (by simp), hw0⟩
      · go_enter Tryd.func45, Tryd.ntmps45
        go_wp2_with (go_at_call 10; refine (refEq_any a.fields b.fields A A' _ c _ c' _ (h.lst.below hw0) (h'.lst.below hw0) h.max h'.max).mono ?_; rintro e w1 ⟨rfl, hb⟩; have hw1 := Below.go hw0 hb)
        go_ret
        exact ⟨ret_bool (by simp), hw1⟩

end Go.Proofs.YtblkcnmecfppnaaDoor
/-
  The kinds' names; the reference's Kind.
-/
namespace Go.Proofs.YtblkcnmecfppnaaDoor
open Go.RowKit

def kindS (k : Int) : ByteArray := if k = 0 then ⟨#[105, 110, 118, 111, 105, 99, 101]⟩ else if k = 1 then ⟨#[112, 97, 99, 107, 105, 110, 103]⟩ else if k = 2 then ⟨#[108, 97, 100, 105, 110, 103]⟩ else if k = 3 then ⟨#[105, 110, 115, 117, 114, 97, 110, 99, 101]⟩ else if k = 4 then ⟨#[111, 114, 105, 103, 105, 110]⟩ else if k = 5 then ⟨#[100, 114, 97, 102, 116]⟩ else ⟨#[]⟩
theorem kind_ways (k : Int) : (k < 0 ∧ kindS k = ⟨#[]⟩) ∨ (5 < k ∧ kindS k = ⟨#[]⟩) ∨ k = 0 ∨ k = 1 ∨ k = 2 ∨ k = 3 ∨ k = 4 ∨ k = 5 := by
  by_cases h : k < 0
  · exact .inl ⟨h, by unfold kindS; repeat rw [if_neg (by omega)]⟩
  · by_cases h5 : 5 < k
    · exact .inr (.inl ⟨h5, by unfold kindS; repeat rw [if_neg (by omega)]⟩)
    · omega

set_option maxHeartbeats 2000000 in
theorem refKind_any (k : Int) (w : World) : Calls Tryd.prog 52 #[.int .i64 k] w fun e w' => e = .returned (.string (kindS k)) ∧ Below w.heap.size w w' := by
  rcases kind_ways k with ⟨h, e⟩ | ⟨h, e⟩ | rfl | rfl | rfl | rfl | rfl | rfl
  · rw [e]
    clear e
    go_enter Tryd.func52, Tryd.ntmps52
    go_wp2
    go_ret
    exact ⟨rfl, by repeat (first | with_reducible exact Below.refl _ _ | (with_reducible refine Below.setCell ?_ (by first | omega | (simp <;> omega)) _) | (with_reducible refine Below.alloc ?_ (by first | omega | (simp <;> omega)) _) | (with_reducible refine Below.drew ?_) | (with_reducible refine belowN ?_ _))⟩
  · rw [e]
    clear e
    go_enter Tryd.func52, Tryd.ntmps52
    go_wp2
    go_ret
    exact ⟨rfl, by repeat (first | with_reducible exact Below.refl _ _ | (with_reducible refine Below.setCell ?_ (by first | omega | (simp <;> omega)) _) | (with_reducible refine Below.alloc ?_ (by first | omega | (simp <;> omega)) _) | (with_reducible refine Below.drew ?_) | (with_reducible refine belowN ?_ _))⟩
  all_goals
    go_enter Tryd.func52, Tryd.ntmps52
    go_wp2
    go_ret
    exact ⟨rfl, by repeat (first | with_reducible exact Below.refl _ _ | (with_reducible refine Below.setCell ?_ (by first | omega | (simp <;> omega)) _) | (with_reducible refine Below.alloc ?_ (by first | omega | (simp <;> omega)) _) | (with_reducible refine Below.drew ?_) | (with_reducible refine belowN ?_ _))⟩
end Go.Proofs.YtblkcnmecfppnaaDoor
/-
 Papers: field.Doc; post.isDoc.
-/
namespace Go.Proofs.YtblkcnmecfppnaaDoor
open Go.RowKit
set_option maxHeartbeats 2000000
set_option maxRecDepth 100000
noncomputable def DcA : Dc → AV
 | ⟨kind, number, issuer, fields⟩ => .agg [.i kind, .str number, .str issuer, .sl 2 (mapA FdA fields)]
/-- A paper's record. -/
def recP (d : Dc) : List Fd := ⟨⟨#[112, 97, 112, 101, 114]⟩, kindS d.kind⟩ :: ⟨⟨#[110, 117, 109, 98, 101, 114]⟩, d.number⟩ :: ⟨⟨#[105, 115, 115, 117, 101, 114]⟩, d.issuer⟩ :: d.fields
def docR (d : Dc) : Bool := decide (0 ≤ d.kind) && decide (d.kind < 6) && decide (d.fields.length ≤ 61)
def docC (d : Dc) : Int := if docR d then textC (recP d) else 1
def docS (d : Dc) : List UInt8 := if docR d then textS (recP d) else []
structure NamesS (l : List Fd) : Prop where
 len : l.length ≤ maxLen
 each : ∀ f ∈ l, f.name.size ≤ maxLen
theorem recP_names {d : Dc} (h : NamesS d.fields) : ∀ f ∈ recP d, f.name.size ≤ maxLen := by
 intro f hf
 unfold recP at hf
 simp only [List.mem_cons] at hf
 rcases hf with rfl | rfl | rfl | hf
 ·exact of_decide_eq_true (p := (⟨#[112, 97, 112, 101, 114]⟩ : ByteArray).size ≤ maxLen) (by decide)
 ·exact of_decide_eq_true (p := (⟨#[110, 117, 109, 98, 101, 114]⟩ : ByteArray).size ≤ maxLen) (by decide)
 ·exact of_decide_eq_true (p := (⟨#[105, 115, 115, 117, 101, 114]⟩ : ByteArray).size ≤ maxLen) (by decide)
 ·exact h.each f hf
theorem docS_yes {d : Dc} (h1 : 0 ≤ d.kind) (h2 : d.kind < 6) (h3 : d.fields.length ≤ 61) : docS d = textS (recP d) ∧ docC d = textC (recP d) := by
 have h : docR d = true := by unfold docR; simp [h1, h2, h3]
 unfold docS docC
 rw [h]
 exact ⟨rfl, rfl⟩
theorem docS_no {d : Dc} (h0 : d.kind < 0 ∨ 6 ≤ d.kind ∨ 61 < d.fields.length) : docS d = [] ∧ docC d = 1 := by
 have h : docR d = false := by unfold docR; simp; omega
 unfold docS docC
 rw [h]
 exact ⟨rfl, rfl⟩
theorem callG_eq {P : Program} {keep : List Nat} {f : Nat} {args args' : List AV} {st : St} {K : AV → St → Prop} (e : args = args') (h : CallG P keep f args' st K) : CallG P keep f args st K := e ▸ h
noncomputable def DocC : Ctr := spec (fun d : Dc => [DcA d]) (fun _ => []) (fun d => NamesS d.fields) (fun d => .tup [.str ⟨(docS d).toArray⟩, .i (docC d)]) fun _ => []
theorem doc_body (P : Program) (ht : FnOk P 46 TextC) : BodyOk P x39 DocC := by
 intro args H K hc
 obtain ⟨d, rfl, rfl, hp, hK⟩ := hc
 refine ⟨Nat.le_of_ble_eq_true rfl, ?_⟩
 obtain ⟨kind, number, issuer, fields⟩ := d
 dsimp only at hK hp ⊢
 have no : (kind < 0 ∨ 6 ≤ kind ∨ 61 < fields.length) → K (.tup [.str ⟨#[]⟩, .i 1]) [] := fun h0 => by
  obtain ⟨e1, e2⟩ := docS_no (d := ⟨kind, number, issuer, fields⟩) h0
  rw [e1, e2] at hK
  exact hK
 have yes : ∀ t c, 0 ≤ kind → kind < 6 → fields.length ≤ 61 → t = textS (recP ⟨kind, number, issuer, fields⟩) → c = textC (recP ⟨kind, number, issuer, fields⟩) → K (.tup [.str ⟨t.toArray⟩, .i c]) [] := fun t c h1 h2 h3 e3 e4 => by
  obtain ⟨e1, e2⟩ := docS_yes (d := ⟨kind, number, issuer, fields⟩) h1 h2 h3
  rw [e1, e2] at hK
  rw [e3, e4]
  exact hK
 have hl : ∀ z : Int, z = ↑(mapA FdA fields).length → z = fields.length := fun z h => by rw [h, mapA_len]
 clear hK
 cbv; repeat' ((first | refine .mk (fun h => ?_) fun h => ?_ | refine .k fun z hz => ?_ | refine .o ?_ | refine .zl fun zs hzs hzl => ?_ | fail) <;> cbv)
 ·exact FinK.mk ⟨_, Gh.refl _, .inl (CutK.val rfl (Le.refl _) (no (.inl h)))⟩
 ·exact FinK.mk ⟨_, Gh.refl _, .inl (CutK.val rfl (Le.refl _) (no (.inr (.inl h))))⟩
 ·have := hl z hz
  exact FinK.mk ⟨_, Gh.refl _, .inl (CutK.val rfl (Le.refl _) (no (.inr (.inr (by ((try simp only [vn] at *) <;> omega))))))⟩
 all_goals
  have hll := hl z hz
  subst hzs
  refine callG_publish 1 rfl ?_
  refine callG_eq (args' := [.sl 2 (mapA FdA (recP ⟨kind, number, issuer, fields⟩))]) (by first | (rw [h]; rfl) | (rw [show kind = 0 by simp only [Int.ofNat_eq_natCast] at *; omega]; rfl)) ?_
  refine callG_spec0 ht (recP ⟨kind, number, issuer, fields⟩) (recP_names hp) rfl rfl rfl ?_
  obtain ⟨t, hht⟩ : ∃ t, t = textS (recP ⟨kind, number, issuer, fields⟩) := ⟨_, rfl⟩
  obtain ⟨c, hhc⟩ : ∃ c, c = textC (recP ⟨kind, number, issuer, fields⟩) := ⟨_, rfl⟩
  rw [← hht, ← hhc]
  have hy := yes t c (by omega) (by omega) (by ((try simp only [vn] at *) <;> omega)) hht hhc
  clear yes no
  cbv
  exact FinK.mk ⟨_, Gh.refl _, .inl (CutK.val rfl (Le.refl _) hy)⟩
end Go.Proofs.YtblkcnmecfppnaaDoor
/-
 post: whether a letter may be: its parts.
-/
namespace Go.Proofs.YtblkcnmecfppnaaDoor
open Go.RowKit
set_option maxHeartbeats 2000000
set_option maxRecDepth 100000
structure Lt where
 frm : ByteArray
 to : ByteArray
 number : Int
 kind : Int
 ack : Int
 deal : ByteArray
 text : ByteArray
 party : ByteArray
 index : Int
 day : Int
 cur : ByteArray
 amt : Int
 docs : List Dc
 boxes : List ByteArray
noncomputable def LtA : Lt → AV
 | ⟨frm, to, number, kind, ack, deal, text, party, index, day, cur, amt, docs, boxes⟩ => .agg [.str frm, .str to, .i number, .i kind, .i ack, .str deal, .str text, .str party, .i index, .i day, .str cur, .i amt, .sl 4 (mapA DcA docs), .sl 1 (mapA .str boxes)]
/-! ### Lists: the first that is so -/
section
variable {α : Type}
def idxP (p : α → Bool) (l : List α) : Int := match l.findIdx? p with
 | some i => Int.ofNat i
 | none => -1
def NoneTo (p : α → Bool) (l : List α) (k : Nat) : Prop := ∀ j y, j < k → l[j]? = some y → p y = false
theorem NoneTo.zero {p : α → Bool} {l : List α} : NoneTo p l 0 := fun j y h => absurd h (Nat.not_lt_zero j)
theorem NoneTo.succ {p : α → Bool} {l : List α} {k : Nat} {x : α} (h : NoneTo p l k) (hx : l[k]? = some x) (hp : p x = false) : NoneTo p l (k + 1) := fun j y hj hy => by
 rcases Nat.lt_or_ge j k with h1 | h1
 ·exact h j y h1 hy
 ·obtain rfl : j = k := by omega
  rw [hx] at hy
  cases hy
  exact hp
theorem idxP_at {p : α → Bool} {l : List α} {k : Nat} {x : α} (h : NoneTo p l k) (hx : l[k]? = some x) (hp : p x = true) : idxP p l = Int.ofNat k := by
 obtain ⟨hk, rfl⟩ := List.getElem?_eq_some_iff.1 hx
 have : l.findIdx? p = some k := List.findIdx?_eq_some_iff_getElem.2 ⟨hk, hp, fun j hj => by rw [h j _ hj (List.getElem?_eq_getElem (Nat.lt_trans hj hk))]; exact Bool.false_ne_true⟩
 unfold idxP
 rw [this]
theorem idxP_none {p : α → Bool} {l : List α} (h : NoneTo p l l.length) : idxP p l = -1 := by
 have : l.findIdx? p = none := List.findIdx?_eq_none_iff.2 fun x hx => by
  obtain ⟨j, hj, rfl⟩ := List.getElem_of_mem hx
  exact h j _ hj (List.getElem?_eq_getElem hj)
 unfold idxP
 rw [this]
theorem idxP_any (p : α → Bool) (l : List α) : decide (0 ≤ idxP p l) = l.any p := by
 unfold idxP
 cases h : l.findIdx? p with
 | none =>
  have := List.findIdx?_eq_none_iff.1 h
  dsimp only
  rw [eq_comm, decide_eq_false (by decide), List.any_eq_false]
  exact fun x hx => by rw [this x hx]; exact Bool.false_ne_true
 | some i =>
  obtain ⟨hk, hp, _⟩ := List.findIdx?_eq_some_iff_getElem.1 h
  dsimp only
  rw [decide_eq_true (show (0 : Int) ≤ Int.ofNat i from Int.natCast_nonneg i), eq_comm, List.any_eq_true]
  exact ⟨_, List.getElem_mem hk, hp⟩
end
/-! ### Papers -/
def isDocB (d : Dc) : Bool := decide (docC d = 0) && decide ((docS d).length ≤ 4096)
noncomputable def DocP (g : Dc → Bool) : Ctr := spec (fun d : Dc => [DcA d]) (fun _ => []) (fun d => NamesS d.fields) (fun d => .bl (g d)) fun _ => []
theorem isDoc_body (P : Program) (hd : FnOk P 39 DocC) : BodyOk P x25 (DocP isDocB) := by
 intro args H K hc
 obtain ⟨d, rfl, rfl, hp, hK⟩ := hc
 refine ⟨Nat.le_of_ble_eq_true rfl, ?_⟩
 unfold isDocB at hK
 obtain ⟨t, ht⟩ : ∃ t, t = docS d := ⟨_, rfl⟩
 obtain ⟨c, hcc⟩ : ∃ c, c = docC d := ⟨_, rfl⟩
 have hd2 := hd
 dsimp only at hK
 rw [← ht, ← hcc] at hK
 obtain ⟨kind, number, issuer, fields⟩ := d
 dsimp only at hp ⊢
 cbv
 refine callG_spec0 hd ⟨kind, number, issuer, fields⟩ hp rfl rfl rfl ?_
 try dsimp only
 rw [← ht, ← hcc]
 cbv; repeat' ((first | refine .mk (fun h => ?_) fun h => ?_ | refine .k fun z hz => ?_ | fail) <;> cbv)
 ·exact FinK.mk ⟨_, Gh.refl _, .inl (CutK.val rfl (Le.refl _) (K_bl hK (by (rw [decide_eq_true ‹c = 0›, decide_eq_true (by have e : z = t.length := hz; omega), Bool.and_self]))))⟩
 ·exact FinK.mk ⟨_, Gh.refl _, .inl (CutK.val rfl (Le.refl _) (K_bl hK (by (rw [decide_eq_false (p := t.length ≤ 4096) (by have e : z = t.length := hz; omega), Bool.and_false]))))⟩
 ·exact FinK.mk ⟨_, Gh.refl _, .inl (CutK.val rfl (Le.refl _) (K_bl hK (by (rw [decide_eq_false h, Bool.false_and]))))⟩
theorem may1_body (P : Program) (hd : FnOk P 25 (DocP isDocB)) : BodyOk P x24 (DocP fun d => !isDocB d) := by
 intro args H K hc
 obtain ⟨d, rfl, rfl, hp, hK⟩ := hc
 refine ⟨Nat.le_of_ble_eq_true rfl, ?_⟩
 obtain ⟨b, hb⟩ : ∃ b, b = isDocB d := ⟨_, rfl⟩
 dsimp only at hK
 rw [← hb] at hK
 obtain ⟨kind, number, issuer, fields⟩ := d
 dsimp only at hp ⊢
 cbv
 refine callG_spec0 hd ⟨kind, number, issuer, fields⟩ hp rfl rfl rfl ?_
 rw [← hb]
 cases b
 ·cbv
  exact FinK.mk ⟨_, Gh.refl _, .inl (CutK.val rfl (Le.refl _) (K_bl hK (by rfl)))⟩
 ·cbv
  exact FinK.mk ⟨_, Gh.refl _, .inl (CutK.val rfl (Le.refl _) (K_bl hK (by rfl)))⟩
theorem may2_body (P : Program) (hd : FnOk P 19 (StrC shortS nameB)) : BodyOk P x27 (StrC shortS fun s => !nameB s) := by
 intro args H K hc
 obtain ⟨s, rfl, rfl, hp, hK⟩ := hc
 refine ⟨Nat.le_of_ble_eq_true rfl, ?_⟩
 obtain ⟨b, hb⟩ : ∃ b, b = nameB s := ⟨_, rfl⟩
 dsimp only at hK hp ⊢
 rw [← hb] at hK
 cbv
 refine callG_spec0 hd s hp rfl rfl rfl ?_
 rw [← hb]
 cases b
 ·cbv
  exact FinK.mk ⟨_, Gh.refl _, .inl (CutK.val rfl (Le.refl _) (K_bl hK (by rfl)))⟩
 ·cbv
  exact FinK.mk ⟨_, Gh.refl _, .inl (CutK.val rfl (Le.refl _) (K_bl hK (by rfl)))⟩
structure DocsS (l : List Dc) : Prop where
 len : l.length ≤ 9223372036854775807
 each : ∀ d ∈ l, NamesS d.fields
structure StrsS (l : List ByteArray) : Prop where
 len : l.length ≤ 9223372036854775807
 each : ∀ s ∈ l, shortS s
noncomputable def IdxDC (f : Nat) (p : Dc → Bool) : Ctr := spec (fun l : List Dc => [.sl 4 (mapA DcA l), .clo f []]) (fun _ => []) DocsS (fun l => .i (idxP p l)) fun _ => []
theorem idxD_body (P : Program) (f : Nat) (p : Dc → Bool) (hm : MayCall P f) (hf : FnOk P f (DocP p)) : BodyOk P x48 (IdxDC f p) := by
 intro args H K hc
 obtain ⟨l, rfl, rfl, hp, hK⟩ := hc
 refine ⟨Nat.le_of_ble_eq_true rfl, ?_⟩
 have hlen := hp.len
 dsimp only at hK ⊢
 cbv; repeat' ((first | refine .k fun z hz => ?_ | fail) <;> cbv)
 refine xloopV [] (fun q : { k : Nat // k ≤ l.length ∧ NoneTo p l k } => [(8, .i (nI q.1))]) (fun _ => []) (fun q => lft 9223372036854775808 q.1) ⟨0, Nat.zero_le _, .zero⟩ ?_
 rintro ⟨k, hk, hn⟩
 dsimp only at hk hn ⊢
 cbv; repeat' ((first | refine .mk (fun h => ?_) fun h => ?_ | fail) <;> cbv)
 ·refine askEl_int (by ((try simp only [vn] at *) <;> omega)) (by ((try simp only [vn] at *) <;> omega)) fun i x hi hx => ?_
  obtain rfl : k = i := by ((try simp only [vn] at *) <;> omega)
  have hxs := hp.each x (List.mem_of_getElem? hx)
  obtain ⟨b, hb⟩ : ∃ b, b = p x := ⟨_, rfl⟩
  have hat := fun hb1 : b = true => idxP_at hn hx (hb.symm.trans hb1)
  have hsu := fun hb1 : b = false => hn.succ hx (hb.symm.trans hb1)
  clear hx
  obtain ⟨kind, number, issuer, fields⟩ := x
  cbv; repeat' ((first | refine And.intro ?_ ?_ | fail) <;> cbv)
  ·exact hm
  ·refine callG_spec0 hf ⟨kind, number, issuer, fields⟩ hxs rfl rfl rfl ?_
   rw [← hb]
   cases b with
   | true =>
    cbv
    exact FinK.mk ⟨_, Gh.refl _, .inl (CutK.val rfl (Le.refl _) (K_i hK (by (rw [hat rfl]))))⟩
   | false =>
    cbv; repeat' ((first | refine .k fun z hz => ?_ | fail) <;> cbv)
    obtain rfl : z = nI (k + 1) := by ((try simp only [vn] at *) <;> omega)
    exact roundV ⟨k + 1, by ((try simp only [vn] at *) <;> omega), hsu rfl⟩ (lft_lt (by ((try simp only [vn] at *) <;> omega)))
 ·obtain rfl : k = l.length := by ((try simp only [vn] at *) <;> omega)
  exact FinK.mk ⟨_, Gh.refl _, .inl (CutK.val rfl (Le.refl _) (K_i hK (by (rw [idxP_none hn]))))⟩
noncomputable def IdxSC (f : Nat) (p : ByteArray → Bool) : Ctr := spec (fun l : List ByteArray => [.sl 1 (mapA .str l), .clo f []]) (fun _ => []) StrsS (fun l => .i (idxP p l)) fun _ => []
theorem idxS_body (P : Program) (f : Nat) (p : ByteArray → Bool) (hm : MayCall P f) (hf : FnOk P f (StrC shortS p)) : BodyOk P x49 (IdxSC f p) := by
 intro args H K hc
 obtain ⟨l, rfl, rfl, hp, hK⟩ := hc
 refine ⟨Nat.le_of_ble_eq_true rfl, ?_⟩
 have hlen := hp.len
 dsimp only at hK ⊢
 cbv; repeat' ((first | refine .k fun z hz => ?_ | fail) <;> cbv)
 refine xloopV [] (fun q : { k : Nat // k ≤ l.length ∧ NoneTo p l k } => [(8, .i (nI q.1))]) (fun _ => []) (fun q => lft 9223372036854775808 q.1) ⟨0, Nat.zero_le _, .zero⟩ ?_
 rintro ⟨k, hk, hn⟩
 dsimp only at hk hn ⊢
 cbv; repeat' ((first | refine .mk (fun h => ?_) fun h => ?_ | fail) <;> cbv)
 ·refine askEl_int (by ((try simp only [vn] at *) <;> omega)) (by ((try simp only [vn] at *) <;> omega)) fun i x hi hx => ?_
  obtain rfl : k = i := by ((try simp only [vn] at *) <;> omega)
  have hxs := hp.each x (List.mem_of_getElem? hx)
  cbv; repeat' ((first | refine And.intro ?_ ?_ | fail) <;> cbv)
  ·exact hm
  ·obtain ⟨b, hb⟩ : ∃ b, b = p x := ⟨_, rfl⟩
   refine callG_spec0 hf x hxs rfl rfl rfl ?_
   rw [← hb]
   cases b with
   | true =>
    cbv
    exact FinK.mk ⟨_, Gh.refl _, .inl (CutK.val rfl (Le.refl _) (K_i hK (by (rw [idxP_at hn hx hb.symm]))))⟩
   | false =>
    cbv; repeat' ((first | refine .k fun z hz => ?_ | fail) <;> cbv)
    obtain rfl : z = nI (k + 1) := by ((try simp only [vn] at *) <;> omega)
    exact roundV ⟨k + 1, by ((try simp only [vn] at *) <;> omega), hn.succ hx hb.symm⟩ (lft_lt (by ((try simp only [vn] at *) <;> omega)))
 ·obtain rfl : k = l.length := by ((try simp only [vn] at *) <;> omega)
  exact FinK.mk ⟨_, Gh.refl _, .inl (CutK.val rfl (Le.refl _) (K_i hK (by (rw [idxP_none hn]))))⟩
noncomputable def ConDC (f : Nat) (p : Dc → Bool) : Ctr := spec (fun l : List Dc => [.sl 4 (mapA DcA l), .clo f []]) (fun _ => []) DocsS (fun l => .bl (l.any p)) fun _ => []
theorem conD_body (P : Program) (f : Nat) (p : Dc → Bool) (hi : FnOk P 48 (IdxDC f p)) : BodyOk P x23 (ConDC f p) := by
 intro args H K hc
 obtain ⟨l, rfl, rfl, hp, hK⟩ := hc
 refine ⟨Nat.le_of_ble_eq_true rfl, ?_⟩
 dsimp only at hK ⊢
 rw [← idxP_any] at hK
 obtain ⟨e, he⟩ : ∃ e, e = idxP p l := ⟨_, rfl⟩
 rw [← he] at hK
 cbv
 (refine callG_spec0 hi l hp rfl rfl rfl ?_; try dsimp only)
 rw [← he]
 cbv; repeat' ((first | refine .mk (fun h => ?_) fun h => ?_ | fail) <;> cbv)
 ·exact FinK.mk ⟨_, Gh.refl _, .inl (CutK.val rfl (Le.refl _) (K_bl hK (by (rw [decide_eq_true h]))))⟩
 ·exact FinK.mk ⟨_, Gh.refl _, .inl (CutK.val rfl (Le.refl _) (K_bl hK (by (rw [decide_eq_false (by omega)]))))⟩
noncomputable def ConSC (f : Nat) (p : ByteArray → Bool) : Ctr := spec (fun l : List ByteArray => [.sl 1 (mapA .str l), .clo f []]) (fun _ => []) StrsS (fun l => .bl (l.any p)) fun _ => []
theorem conS_body (P : Program) (f : Nat) (p : ByteArray → Bool) (hi : FnOk P 49 (IdxSC f p)) : BodyOk P x26 (ConSC f p) := by
 intro args H K hc
 obtain ⟨l, rfl, rfl, hp, hK⟩ := hc
 refine ⟨Nat.le_of_ble_eq_true rfl, ?_⟩
 dsimp only at hK ⊢
 rw [← idxP_any] at hK
 obtain ⟨e, he⟩ : ∃ e, e = idxP p l := ⟨_, rfl⟩
 rw [← he] at hK
 cbv
 (refine callG_spec0 hi l hp rfl rfl rfl ?_; try dsimp only)
 rw [← he]
 cbv; repeat' ((first | refine .mk (fun h => ?_) fun h => ?_ | fail) <;> cbv)
 ·exact FinK.mk ⟨_, Gh.refl _, .inl (CutK.val rfl (Le.refl _) (K_bl hK (by (rw [decide_eq_true h]))))⟩
 ·exact FinK.mk ⟨_, Gh.refl _, .inl (CutK.val rfl (Le.refl _) (K_bl hK (by (rw [decide_eq_false (by omega)]))))⟩
end Go.Proofs.YtblkcnmecfppnaaDoor
/-
 money.May; post.isBare.
-/
namespace Go.Proofs.YtblkcnmecfppnaaDoor
open Go.RowKit
set_option maxHeartbeats 2000000
set_option maxRecDepth 100000
def upB (n : Int) : Bool := decide (65 ≤ n) && decide (n ≤ 90)
def upTo (s : ByteArray) (k : Nat) : Prop := ∀ j (h : j < s.size), j < k → upB s[j].toNat = true
theorem upTo_zero (s : ByteArray) : upTo s 0 := fun _ _ h => absurd h (by omega)
theorem upTo_succ {s : ByteArray} {k : Nat} (hk : k < s.size) (h : upTo s k) (hc : upB s[k].toNat = true) : upTo s (k + 1) := fun j hj hjk => by
 by_cases e : j = k
 ·subst e; exact hc
 ·exact h j hj (by omega)
def curB (s : ByteArray) : Bool := decide (s.size = 3) && s.data.toList.all fun c => upB c.toNat
theorem curB_all {s : ByteArray} (h3 : s.size = 3) (h : upTo s s.size) : curB s = true := by
 have : (s.data.toList.all fun c => upB c.toNat) = true := by
  rw [List.all_eq_true]
  intro c hc
  obtain ⟨j, hj, rfl⟩ := List.getElem_of_mem hc
  exact h j (by simpa using hj) (by simpa using hj)
 simp [curB, this, h3]
theorem curB_not {s : ByteArray} {k : Nat} (hk : k < s.size) (h : upB s[k].toNat = false) : curB s = false := by
 have : (s.data.toList.all fun c => upB c.toNat) = false := by
  rw [← Bool.not_eq_true, List.all_eq_true]
  intro hh
  have := hh (s[k]) (by exact List.getElem_mem (l := s.data.toList) (by simpa using hk))
  rw [h] at this
  cases this
 simp [curB, this]
theorem curB_size {s : ByteArray} (h : s.size ≠ 3) : curB s = false := by simp [curB, h]
theorem isCur_body (P : Program) : BodyOk P x47 (StrC (fun _ => True) curB) := by
 intro args H K hc
 obtain ⟨s, rfl, rfl, _, hK⟩ := hc
 refine ⟨Nat.le_of_ble_eq_true rfl, ?_⟩
 dsimp only at hK ⊢
 have big : s.size ≠ 3 → K (.bl false) [] := fun h => K_bl hK (curB_size h).symm
 have all : s.size = 3 → upTo s s.size → K (.bl true) [] := fun h h1 => K_bl hK (curB_all h h1).symm
 have bad : ∀ k (hk : k < s.size), upB s[k].toNat = false → K (.bl false) [] := fun k hk h => K_bl hK (curB_not hk h).symm
 clear hK
 cbv; repeat' ((first | refine .mk (fun h => ?_) fun h => ?_ | refine .k fun z hz => ?_ | fail) <;> cbv)
 ·refine xloopV [] (fun p : { k : Nat // k ≤ s.size ∧ upTo s k } => [(9, .i (nI p.1))]) (fun _ => []) (fun p => lft 3 p.1) ⟨0, Nat.zero_le _, upTo_zero s⟩ ?_
  rintro ⟨k, hk, hf⟩
  dsimp only
  cbv; repeat' ((first | refine .mk (fun h => ?_) fun h => ?_ | fail) <;> cbv)
  ·have hks : k < s.size := by ((try simp only [vn] at *) <;> omega)
   refine askByte_nI hks fun y hy => ?_
   have hu : upB s[k].toNat = (decide (65 ≤ y) && decide (y ≤ 90)) := by rw [show y = (s[k].toNat : Int) from hy]; rfl
   cbv; repeat' ((first | refine .mk (fun h => ?_) fun h => ?_ | fail) <;> cbv)
   ·exact FinK.mk ⟨_, Gh.refl _, .inl (CutK.val rfl (Le.refl _) (bad k hks (by rw [hu, decide_eq_false (by omega), Bool.false_and])))⟩
   refine askByte_nI hks fun x hx => ?_
   obtain rfl : x = y := (show x = (s[k].toNat : Int) from hx).trans (show y = (s[k].toNat : Int) from hy).symm
   clear hx hy
   cbv; repeat' ((first | refine .mk (fun h => ?_) fun h => ?_ | refine .k fun z hz => ?_ | fail) <;> cbv)
   ·exact FinK.mk ⟨_, Gh.refl _, .inl (CutK.val rfl (Le.refl _) (bad k hks (by rw [hu, decide_eq_false (p := x ≤ (90 : Int)) (by omega), Bool.and_false])))⟩
   ·rw [decide_eq_true (by omega), decide_eq_true (by omega), Bool.and_self] at hu
    obtain rfl : z = nI (k + 1) := by ((try simp only [vn] at *) <;> omega)
    exact roundV ⟨k + 1, hks, upTo_succ hks hf hu⟩ (lft_lt (by ((try simp only [vn] at *) <;> omega)))
  ·obtain rfl : k = s.size := by ((try simp only [vn] at *) <;> omega)
   exact FinK.mk ⟨_, Gh.refl _, .inl (CutK.val rfl (Le.refl _) (all (by ((try simp only [vn] at *) <;> omega)) hf))⟩
 ·exact FinK.mk ⟨_, Gh.refl _, .inl (CutK.val rfl (Le.refl _) (big (by ((try simp only [vn] at *) <;> omega))))⟩
def moneyB (c : ByteArray) (a : Int) : Bool := curB c && decide (-1099511627776 ≤ a) && decide (a ≤ 1099511627776)
def MoneyC : Ctr := spec (fun q : ByteArray × Int => [.agg [.str q.1, .i q.2]]) (fun _ => []) (fun _ => True) (fun q => .bl (moneyB q.1 q.2)) fun _ => []
theorem money_body (P : Program) (hc : FnOk P 47 (StrC (fun _ => True) curB)) : BodyOk P x22 MoneyC := by
 intro args H K hcc
 obtain ⟨⟨c, a⟩, rfl, rfl, _, hK⟩ := hcc
 refine ⟨Nat.le_of_ble_eq_true rfl, ?_⟩
 dsimp only at hK ⊢
 unfold moneyB at hK
 obtain ⟨b, hb⟩ : ∃ b, b = curB c := ⟨_, rfl⟩
 rw [← hb] at hK
 cbv
 refine callG_spec0 hc c trivial rfl rfl rfl ?_
 rw [← hb]
 cases b
 ·cbv
  exact FinK.mk ⟨_, Gh.refl _, .inl (CutK.val rfl (Le.refl _) (K_bl hK (by rfl)))⟩
 ·cbv; repeat' ((first | refine .mk (fun h => ?_) fun h => ?_ | fail) <;> cbv)
  all_goals exact FinK.mk ⟨_, Gh.refl _, .inl (CutK.val rfl (Le.refl _) (K_bl hK (by (simp; omega))))⟩
def zeroS (s : ByteArray) : Bool := decide (s = ⟨#[]⟩)
def bareB (l : Lt) : Bool := decide (l.number = 0) && zeroS l.deal && zeroS l.text && zeroS l.party && decide (l.index = 0) && decide (l.day = 0) && (zeroS l.cur && decide (l.amt = 0)) && decide (l.docs.length = 0) && decide (l.boxes.length = 0)
structure SmallL (l : Lt) : Prop where
 docs : DocsS l.docs
 boxes : StrsS l.boxes
 frm : shortS l.frm
 to : shortS l.to
 deal : shortS l.deal
 text : shortS l.text
 party : shortS l.party
noncomputable def LtP (g : Lt → Bool) : Ctr := spec (fun l : Lt => [LtA l]) (fun _ => []) SmallL (fun l => .bl (g l)) fun _ => []
theorem bare_body (P : Program) : BodyOk P x28 (LtP bareB) := by
 intro args H K hc
 obtain ⟨⟨frm, to, number, kind, ack, deal, text, party, index, day, cur, amt, docs, boxes⟩, rfl, rfl, hp, hK⟩ := hc
 refine ⟨Nat.le_of_ble_eq_true rfl, ?_⟩
 unfold bareB zeroS at hK
 dsimp only at hK ⊢
 clear hp
 obtain ⟨m, hm, hm2⟩ : ∃ m : Int, (∀ z : Int, z = ↑(mapA DcA docs).length → z = m) ∧ decide (docs.length = 0) = decide (m = 0) := ⟨docs.length, fun z h => by rw [h, mapA_len], by simp⟩
 obtain ⟨n, hn, hn2⟩ : ∃ m : Int, (∀ z : Int, z = ↑(mapA AV.str boxes).length → z = m) ∧ decide (boxes.length = 0) = decide (m = 0) := ⟨boxes.length, fun z h => by rw [h, mapA_len], by simp⟩
 rw [hm2, hn2] at hK
 clear hm2 hn2
 cbv; repeat' ((first | refine .mk (fun h => ?_) fun h => ?_ | refine .k fun z hz => ?_ | fail) <;> cbv)
 all_goals exact FinK.mk ⟨_, Gh.refl _, .inl (CutK.val rfl (Le.refl _) (K_bl hK (by (first | (have e1 := hm _ (by assumption); have e2 := hn _ (by assumption); clear hm hn; simp_all; done) | (have e1 := hm _ (by assumption); clear hm hn; simp_all; done) | (clear hm hn; simp_all; done)))))⟩
end Go.Proofs.YtblkcnmecfppnaaDoor
/-
 post.May.
-/
namespace Go.Proofs.YtblkcnmecfppnaaDoor
open Go.RowKit
set_option maxHeartbeats 4000000
set_option maxRecDepth 100000
def fromB (n a b : Int) : Bool := decide (a ≤ n) && decide (n ≤ b)
def FromD : Ctr := spec (fun q : Int × Int × Int => [.i q.1, .i q.2.1, .i q.2.2]) (fun _ => []) (fun _ => True) (fun q => .bl (fromB q.1 q.2.1 q.2.2)) fun _ => []
def noneB (s : ByteArray) : Bool := decide (s.size = 0) || nameB s
/-- Whether a letter may be. -/
def mayB (l : Lt) : Bool := nameB l.frm && nameB l.to && !decide (l.frm = l.to) && !decide (kindN l.kind = ⟨#[]⟩) && fromB l.number 0 1048576 && fromB l.ack 0 1048576 && noneB l.deal && noneB l.party && decide (l.text.size ≤ 4096) && fromB l.index (-1) 2 && fromB l.day 0 1048576 &&
 (decide (l.cur = ⟨#[]⟩ ∧ l.amt = 0) || moneyB l.cur l.amt) && decide (l.docs.length ≤ 8) && decide (l.boxes.length ≤ 32) && !(l.docs.any fun d => !isDocB d) && !(l.boxes.any fun s => !nameB s) && (!decide (l.kind = 28) || bareB l)
theorem may_body (P : Program) (hN : FnOk P 19 (StrC shortS nameB)) (hNN : FnOk P 21 (StrC shortS noneB)) (hK0 : FnOk P 15 NameC) (hF : FnOk P 20 FromD)
  (hM : FnOk P 22 MoneyC) (hD : FnOk P 23 (ConDC 24 fun d => !isDocB d)) (hS : FnOk P 26 (ConSC 27 fun s => !nameB s)) (hB : FnOk P 28 (LtP bareB)) :
  BodyOk P x8 (LtP mayB) := by
 intro args H K hc
 obtain ⟨l, rfl, rfl, hp, hK⟩ := hc
 refine ⟨Nat.le_of_ble_eq_true rfl, ?_⟩
 obtain ⟨h1, h2, h3, h4, h5, h6, h7⟩ := hp
 have hp : SmallL l := ⟨h1, h2, h3, h4, h5, h6, h7⟩
 unfold mayB at hK
 obtain ⟨bare, hbare⟩ : ∃ b, b = bareB l := ⟨_, rfl⟩
 dsimp only at hK
 rw [← hbare] at hK
 obtain ⟨frm, to, number, kind, ack, deal, text, party, index, day, cur, amt, docs, boxes⟩ := l
 dsimp only at hK h1 h2 h3 h4 h5 h6 h7 ⊢
 obtain ⟨md, hmd, hm2⟩ : ∃ m : Int, (∀ z : Int, z = ↑(mapA DcA docs).length → z = m) ∧ decide (docs.length ≤ 8) = decide (m ≤ 8) := ⟨docs.length, fun z h => by rw [h, mapA_len], by simp; omega⟩
 obtain ⟨nb, hnb, hn2⟩ : ∃ m : Int, (∀ z : Int, z = ↑(mapA AV.str boxes).length → z = m) ∧ decide (boxes.length ≤ 32) = decide (m ≤ 32) := ⟨boxes.length, fun z h => by rw [h, mapA_len], by simp; omega⟩
 rw [hm2, hn2] at hK
 clear hm2 hn2
 obtain ⟨b1, e_b1⟩ : ∃ b, b = (nameB frm) := ⟨_, rfl⟩
 obtain ⟨b2, e_b2⟩ : ∃ b, b = (nameB to) := ⟨_, rfl⟩
 obtain ⟨b5, e_b5⟩ : ∃ b, b = (fromB number 0 1048576) := ⟨_, rfl⟩
 obtain ⟨b6, e_b6⟩ : ∃ b, b = (fromB ack 0 1048576) := ⟨_, rfl⟩
 obtain ⟨b7, e_b7⟩ : ∃ b, b = (noneB deal) := ⟨_, rfl⟩
 obtain ⟨b8, e_b8⟩ : ∃ b, b = (noneB party) := ⟨_, rfl⟩
 obtain ⟨c1, e_c1⟩ : ∃ b, b = (fromB index (-1) 2) := ⟨_, rfl⟩
 obtain ⟨c2, e_c2⟩ : ∃ b, b = (fromB day 0 1048576) := ⟨_, rfl⟩
 obtain ⟨c3, e_c3⟩ : ∃ b, b = (moneyB cur amt) := ⟨_, rfl⟩
 obtain ⟨c4, e_c4⟩ : ∃ b, b = (docs.any fun d => !isDocB d) := ⟨_, rfl⟩
 obtain ⟨c5, e_c5⟩ : ∃ b, b = (boxes.any fun s => !nameB s) := ⟨_, rfl⟩
 obtain ⟨nm, e_nm⟩ : ∃ b, b = kindN kind := ⟨_, rfl⟩
 rw [← e_b1, ← e_b2, ← e_b5, ← e_b6, ← e_b7, ← e_b8, ← e_c1, ← e_c2, ← e_c3, ← e_c4, ← e_c5, ← e_nm] at hK
 cbv
 refine callG_spec0 hN frm h3 rfl rfl rfl ?_
 try dsimp only
 rw [show (nameB frm) = b1 from e_b1.symm]
 cases b1
 ·cbv
  exact FinK.mk ⟨_, Gh.refl _, .inl (CutK.val rfl (Le.refl _) (K_bl hK rfl))⟩
 cbv
 refine callG_spec0 hN to h4 rfl rfl rfl ?_
 try dsimp only
 rw [show (nameB to) = b2 from e_b2.symm]
 cases b2
 ·cbv
  exact FinK.mk ⟨_, Gh.refl _, .inl (CutK.val rfl (Le.refl _) (K_bl hK rfl))⟩
 cbv; repeat' ((first | refine .mk (fun h => ?_) fun h => ?_ | fail) <;> cbv)
 ·rw [decide_eq_true h] at hK
  exact FinK.mk ⟨_, Gh.refl _, .inl (CutK.val rfl (Le.refl _) (K_bl hK rfl))⟩
 rw [decide_eq_false h] at hK
 refine callG_spec0 hK0 kind trivial rfl rfl rfl ?_
 try dsimp only
 rw [← e_nm]
 cbv; repeat' ((first | refine .mk (fun h => ?_) fun h => ?_ | fail) <;> cbv)
 ·rw [decide_eq_true h] at hK
  exact FinK.mk ⟨_, Gh.refl _, .inl (CutK.val rfl (Le.refl _) (K_bl hK rfl))⟩
 rw [decide_eq_false h] at hK
 refine callG_spec0 hF (number, 0, 1048576) trivial rfl rfl rfl ?_
 try dsimp only
 rw [show (fromB number 0 1048576) = b5 from e_b5.symm]
 cases b5
 ·cbv
  exact FinK.mk ⟨_, Gh.refl _, .inl (CutK.val rfl (Le.refl _) (K_bl hK rfl))⟩
 cbv
 refine callG_spec0 hF (ack, 0, 1048576) trivial rfl rfl rfl ?_
 try dsimp only
 rw [show (fromB ack 0 1048576) = b6 from e_b6.symm]
 cases b6
 ·cbv
  exact FinK.mk ⟨_, Gh.refl _, .inl (CutK.val rfl (Le.refl _) (K_bl hK rfl))⟩
 cbv
 refine callG_spec0 hNN deal h5 rfl rfl rfl ?_
 try dsimp only
 rw [show (noneB deal) = b7 from e_b7.symm]
 cases b7
 ·cbv
  exact FinK.mk ⟨_, Gh.refl _, .inl (CutK.val rfl (Le.refl _) (K_bl hK rfl))⟩
 cbv
 refine callG_spec0 hNN party h7 rfl rfl rfl ?_
 try dsimp only
 rw [show (noneB party) = b8 from e_b8.symm]
 cases b8
 ·cbv
  exact FinK.mk ⟨_, Gh.refl _, .inl (CutK.val rfl (Le.refl _) (K_bl hK rfl))⟩
 cbv; repeat' ((first | refine .mk (fun h => ?_) fun h => ?_ | refine .k fun z hz => ?_ | fail) <;> cbv)
 rotate_left
 ·rw [decide_eq_false (p := text.size ≤ 4096) (by ((try simp only [vn] at *) <;> omega))] at hK
  exact FinK.mk ⟨_, Gh.refl _, .inl (CutK.val rfl (Le.refl _) (K_bl hK rfl))⟩
 rw [decide_eq_true (p := text.size ≤ 4096) (by ((try simp only [vn] at *) <;> omega))] at hK
 refine callG_spec0 hF (index, -1, 2) trivial rfl rfl rfl ?_
 try dsimp only
 rw [show (fromB index (-1) 2) = c1 from e_c1.symm]
 cases c1
 ·cbv
  exact FinK.mk ⟨_, Gh.refl _, .inl (CutK.val rfl (Le.refl _) (K_bl hK rfl))⟩
 cbv
 refine callG_spec0 hF (day, 0, 1048576) trivial rfl rfl rfl ?_
 try dsimp only
 rw [show (fromB day 0 1048576) = c2 from e_c2.symm]
 cases c2
 ·cbv
  exact FinK.mk ⟨_, Gh.refl _, .inl (CutK.val rfl (Le.refl _) (K_bl hK rfl))⟩
 cbv; repeat' ((first | refine .mk (fun h => ?_) fun h => ?_ | refine .k fun z hz => ?_ | fail) <;> cbv)
 rotate_left 3
 ·rw [decide_eq_false (p := cur = ⟨#[]⟩ ∧ amt = 0) (fun e => h ⟨e.1, e.2, trivial⟩)] at hK
  refine callG_spec0 hM (cur, amt) trivial rfl rfl rfl ?_
  try dsimp only
  rw [show (moneyB cur amt) = c3 from e_c3.symm]
  cases c3
  ·cbv
   exact FinK.mk ⟨_, Gh.refl _, .inl (CutK.val rfl (Le.refl _) (K_bl hK rfl))⟩
  cbv; repeat' ((first | refine .mk (fun h => ?_) fun h => ?_ | refine .k fun z hz => ?_ | fail) <;> cbv)
  rotate_left
  ·rw [decide_eq_true (p := md ≤ 8) (by have e := hmd _ (by assumption); omega), decide_eq_false (p := nb ≤ 32) (by have e := hnb _ (by assumption); omega)] at hK
   exact FinK.mk ⟨_, Gh.refl _, .inl (CutK.val rfl (Le.refl _) (K_bl hK rfl))⟩
  ·rw [decide_eq_false (p := md ≤ 8) (by have e := hmd _ (by assumption); omega)] at hK
   exact FinK.mk ⟨_, Gh.refl _, .inl (CutK.val rfl (Le.refl _) (K_bl hK rfl))⟩
  rw [decide_eq_true (p := md ≤ 8) (by have e := hmd _ (by assumption); omega), decide_eq_true (p := nb ≤ 32) (by have e := hnb _ (by assumption); omega)] at hK
  refine callG_spec0 hD docs h1 rfl rfl rfl ?_
  try dsimp only
  rw [show (docs.any fun d => !isDocB d) = c4 from e_c4.symm]
  cases c4
  rotate_left
  ·cbv
   exact FinK.mk ⟨_, Gh.refl _, .inl (CutK.val rfl (Le.refl _) (K_bl hK rfl))⟩
  cbv
  refine callG_spec0 hS boxes h2 rfl rfl rfl ?_
  try dsimp only
  rw [show (boxes.any fun s => !nameB s) = c5 from e_c5.symm]
  cases c5
  rotate_left
  ·cbv
   exact FinK.mk ⟨_, Gh.refl _, .inl (CutK.val rfl (Le.refl _) (K_bl hK rfl))⟩
  cbv; repeat' ((first | refine .mk (fun h => ?_) fun h => ?_ | fail) <;> cbv)
  ·rw [decide_eq_true h] at hK
   refine callG_spec0 hB ⟨frm, to, number, kind, ack, deal, text, party, index, day, cur, amt, docs, boxes⟩ hp rfl rfl rfl ?_
   rw [← hbare]
   cbv
   exact FinK.mk ⟨_, Gh.refl _, .inl (CutK.val rfl (Le.refl _) (K_bl hK rfl))⟩
  ·rw [decide_eq_false h] at hK
   exact FinK.mk ⟨_, Gh.refl _, .inl (CutK.val rfl (Le.refl _) (K_bl hK rfl))⟩
 all_goals (have hcur : cur = ⟨#[]⟩ ∧ amt = 0 ∧ True := (by assumption); rw [decide_eq_true (p := cur = ⟨#[]⟩ ∧ amt = 0) ⟨hcur.1, hcur.2.1⟩] at hK)
 rotate_left
 ·rw [decide_eq_true (p := md ≤ 8) (by have e := hmd _ (by assumption); omega), decide_eq_false (p := nb ≤ 32) (by have e := hnb _ (by assumption); omega)] at hK
  exact FinK.mk ⟨_, Gh.refl _, .inl (CutK.val rfl (Le.refl _) (K_bl hK rfl))⟩
 ·rw [decide_eq_false (p := md ≤ 8) (by have e := hmd _ (by assumption); omega)] at hK
  exact FinK.mk ⟨_, Gh.refl _, .inl (CutK.val rfl (Le.refl _) (K_bl hK rfl))⟩
 rw [decide_eq_true (p := md ≤ 8) (by have e := hmd _ (by assumption); omega), decide_eq_true (p := nb ≤ 32) (by have e := hnb _ (by assumption); omega)] at hK
 refine callG_spec0 hD docs h1 rfl rfl rfl ?_
 try dsimp only
 rw [show (docs.any fun d => !isDocB d) = c4 from e_c4.symm]
 cases c4
 rotate_left
 ·cbv
  exact FinK.mk ⟨_, Gh.refl _, .inl (CutK.val rfl (Le.refl _) (K_bl hK rfl))⟩
 cbv
 refine callG_spec0 hS boxes h2 rfl rfl rfl ?_
 try dsimp only
 rw [show (boxes.any fun s => !nameB s) = c5 from e_c5.symm]
 cases c5
 rotate_left
 ·cbv
  exact FinK.mk ⟨_, Gh.refl _, .inl (CutK.val rfl (Le.refl _) (K_bl hK rfl))⟩
 cbv; repeat' ((first | refine .mk (fun h => ?_) fun h => ?_ | fail) <;> cbv)
 ·rw [decide_eq_true h] at hK
  refine callG_spec0 hB ⟨frm, to, number, kind, ack, deal, text, party, index, day, cur, amt, docs, boxes⟩ hp rfl rfl rfl ?_
  rw [← hbare]
  cbv
  exact FinK.mk ⟨_, Gh.refl _, .inl (CutK.val rfl (Le.refl _) (K_bl hK rfl))⟩
 ·rw [decide_eq_false h] at hK
  exact FinK.mk ⟨_, Gh.refl _, .inl (CutK.val rfl (Le.refl _) (K_bl hK rfl))⟩
end Go.Proofs.YtblkcnmecfppnaaDoor
/-
 Are two lists, two papers one?
-/
namespace Go.Proofs.YtblkcnmecfppnaaDoor
open Go.RowKit
set_option maxHeartbeats 2000000
set_option maxRecDepth 100000
noncomputable def eqB {α : Type} (a b : α) : Bool := @decide (a = b) (Classical.propDecidable _)
theorem eqB_true {α : Type} {a b : α} (h : a = b) : eqB a b = true := by unfold eqB; exact @decide_eq_true _ (Classical.propDecidable _) h
theorem eqB_false {α : Type} {a b : α} (h : ¬ a = b) : eqB a b = false := by unfold eqB; exact @decide_eq_false _ (Classical.propDecidable _) h
def EqTo {α : Type} (l m : List α) (k : Nat) : Prop := ∀ j, j < k → l[j]? = m[j]?
theorem EqTo.zero {α : Type} (l m : List α) : EqTo l m 0 := fun j h => absurd h (Nat.not_lt_zero j)
theorem EqTo.succ {α : Type} {l m : List α} {k : Nat} {x : α} (h : EqTo l m k) (hl : l[k]? = some x) (hm : m[k]? = some x) : EqTo l m (k + 1) := fun j hj => by
 by_cases e : j = k
 ·subst e; rw [hl, hm]
 ·exact h j (by omega)
theorem EqTo.all {α : Type} {l m : List α} (hl : l.length = m.length) (h : EqTo l m l.length) : l = m := List.ext_getElem? fun j => by
 rcases Nat.lt_or_ge j l.length with h1 | h1
 ·exact h j h1
 ·rw [List.getElem?_eq_none h1, List.getElem?_eq_none (by omega)]
theorem ne_at {α : Type} {l m : List α} {k : Nat} {x y : α} (hl : l[k]? = some x) (hm : m[k]? = some y) (h : ¬ x = y) : ¬ l = m := fun e => h (by subst e; rw [hl] at hm; exact Option.some.inj hm)
noncomputable def EqLC {α : Type} (sz : Nat) (F : α → AV) : Ctr := spec (fun q : List α × List α => [.sl sz (mapA F q.1), .sl sz (mapA F q.2)]) (fun _ => []) (fun q => q.1.length ≤ 9223372036854775807 ∧ q.2.length ≤ 9223372036854775807) (fun q => .bl (eqB q.1 q.2)) fun _ => []
theorem eqS_body (P : Program) : BodyOk P x44 (EqLC 1 AV.str) := by
 intro args H K hc
 obtain ⟨⟨l, m⟩, rfl, rfl, ⟨hp1, hp2⟩, hK⟩ := hc
 refine ⟨Nat.le_of_ble_eq_true rfl, ?_⟩
 dsimp only at hK hp1 hp2 ⊢
 have no : ¬ l = m → K (.bl false) [] := fun h => K_bl hK (eqB_false h).symm
 have yes : l = m → K (.bl true) [] := fun h => K_bl hK (eqB_true h).symm
 clear hK
 have h1 := mapA_len AV.str l
 have h2 := mapA_len AV.str m
 cbv; repeat' ((first | refine .mk (fun h => ?_) fun h => ?_ | refine .k fun z hz => ?_ | fail) <;> cbv)
 rotate_left
 ·exact FinK.mk ⟨_, Gh.refl _, .inl (CutK.val rfl (Le.refl _) (no (by rintro rfl; exact h ((by assumption : _ = _).trans (by symm; assumption)))))⟩
 have hlm : l.length = m.length := by ((try simp only [vn] at *) <;> omega)
 refine xloopV [] (fun p : { k : Nat // k ≤ l.length ∧ EqTo l m k } => [(13, .i (nI p.1))]) (fun _ => []) (fun p => lft 9223372036854775808 p.1) ⟨0, Nat.zero_le _, .zero l m⟩ ?_
 rintro ⟨k, hk, hf⟩
 dsimp only
 cbv; repeat' ((first | refine .mk (fun h => ?_) fun h => ?_ | fail) <;> cbv)
 ·refine askEl_int (by ((try simp only [vn] at *) <;> omega)) (by ((try simp only [vn] at *) <;> omega)) fun i x hi hx => ?_
  obtain rfl : k = i := by ((try simp only [vn] at *) <;> omega)
  have hx0 := hx
  have key : ∀ y, m[k]? = some y → (¬ x = y → ¬ l = m) ∧ (x = y → EqTo l m (k + 1)) := fun y hy => ⟨ne_at hx0 hy, fun e => by subst e; exact hf.succ hx0 hy⟩
  cbv
  refine askEl_int (by ((try simp only [vn] at *) <;> omega)) (by ((try simp only [vn] at *) <;> omega)) fun j y hj hy => ?_
  obtain rfl : k = j := by ((try simp only [vn] at *) <;> omega)
  obtain ⟨ky1, ky2⟩ := key y hy
  cbv; repeat' ((first | refine .mk (fun h => ?_) fun h => ?_ | refine .k fun z hz => ?_ | fail) <;> cbv)
  ·obtain rfl : z = nI (k + 1) := by ((try simp only [vn] at *) <;> omega)
   exact roundV ⟨k + 1, by ((try simp only [vn] at *) <;> omega), ky2 h⟩ (lft_lt (by ((try simp only [vn] at *) <;> omega)))
  ·exact FinK.mk ⟨_, Gh.refl _, .inl (CutK.val rfl (Le.refl _) (no (ky1 h)))⟩
 ·obtain rfl : k = l.length := by ((try simp only [vn] at *) <;> omega)
  exact FinK.mk ⟨_, Gh.refl _, .inl (CutK.val rfl (Le.refl _) (yes (hf.all hlm)))⟩
theorem eqF_body (P : Program) : BodyOk P x61 (EqLC 2 FdA) := by
 intro args H K hc
 obtain ⟨⟨l, m⟩, rfl, rfl, ⟨hp1, hp2⟩, hK⟩ := hc
 refine ⟨Nat.le_of_ble_eq_true rfl, ?_⟩
 dsimp only at hK hp1 hp2 ⊢
 have no : ¬ l = m → K (.bl false) [] := fun h => K_bl hK (eqB_false h).symm
 have yes : l = m → K (.bl true) [] := fun h => K_bl hK (eqB_true h).symm
 clear hK
 have h1 := mapA_len FdA l
 have h2 := mapA_len FdA m
 cbv; repeat' ((first | refine .mk (fun h => ?_) fun h => ?_ | refine .k fun z hz => ?_ | fail) <;> cbv)
 rotate_left
 ·exact FinK.mk ⟨_, Gh.refl _, .inl (CutK.val rfl (Le.refl _) (no (by rintro rfl; exact h ((by assumption : _ = _).trans (by symm; assumption)))))⟩
 have hlm : l.length = m.length := by ((try simp only [vn] at *) <;> omega)
 refine xloopV [] (fun p : { k : Nat // k ≤ l.length ∧ EqTo l m k } => [(13, .i (nI p.1))]) (fun _ => []) (fun p => lft 9223372036854775808 p.1) ⟨0, Nat.zero_le _, .zero l m⟩ ?_
 rintro ⟨k, hk, hf⟩
 dsimp only
 cbv; repeat' ((first | refine .mk (fun h => ?_) fun h => ?_ | fail) <;> cbv)
 ·refine askEl_int (by ((try simp only [vn] at *) <;> omega)) (by ((try simp only [vn] at *) <;> omega)) fun i x hi hx => ?_
  obtain rfl : k = i := by ((try simp only [vn] at *) <;> omega)
  have hx0 := hx
  have key : ∀ y, m[k]? = some y → (¬ x = y → ¬ l = m) ∧ (x = y → EqTo l m (k + 1)) := fun y hy => ⟨ne_at hx0 hy, fun e => by subst e; exact hf.succ hx0 hy⟩
  obtain ⟨n1, v1⟩ := x
  cbv
  refine askEl_int (by ((try simp only [vn] at *) <;> omega)) (by ((try simp only [vn] at *) <;> omega)) fun j y hj hy => ?_
  obtain rfl : k = j := by ((try simp only [vn] at *) <;> omega)
  obtain ⟨ky1, ky2⟩ := key y hy
  obtain ⟨n2, v2⟩ := y
  cbv; repeat' ((first | refine .mk (fun h => ?_) fun h => ?_ | refine .k fun z hz => ?_ | fail) <;> cbv)
  ·obtain rfl : z = nI (k + 1) := by ((try simp only [vn] at *) <;> omega)
   exact roundV ⟨k + 1, by ((try simp only [vn] at *) <;> omega), ky2 (by rw [h.1, h.2.1])⟩ (lft_lt (by ((try simp only [vn] at *) <;> omega)))
  ·exact FinK.mk ⟨_, Gh.refl _, .inl (CutK.val rfl (Le.refl _) (no (ky1 (fun e => h (by cases e; exact ⟨rfl, rfl, trivial⟩)))))⟩
 ·obtain rfl : k = l.length := by ((try simp only [vn] at *) <;> omega)
  exact FinK.mk ⟨_, Gh.refl _, .inl (CutK.val rfl (Le.refl _) (yes (hf.all hlm)))⟩
theorem refF_body (P : Program) : BodyOk P x10 (EqLC 2 FdA) := by
 intro args H K hc
 obtain ⟨⟨l, m⟩, rfl, rfl, ⟨hp1, hp2⟩, hK⟩ := hc
 refine ⟨Nat.le_of_ble_eq_true rfl, ?_⟩
 dsimp only at hK hp1 hp2 ⊢
 have no : ¬ l = m → K (.bl false) [] := fun h => K_bl hK (eqB_false h).symm
 have yes : l = m → K (.bl true) [] := fun h => K_bl hK (eqB_true h).symm
 clear hK
 have h1 := mapA_len FdA l
 have h2 := mapA_len FdA m
 cbv; repeat' ((first | refine .mk (fun h => ?_) fun h => ?_ | refine .k fun z hz => ?_ | fail) <;> cbv)
 rotate_left
 ·exact FinK.mk ⟨_, Gh.refl _, .inl (CutK.val rfl (Le.refl _) (no (by rintro rfl; exact h ((by assumption : _ = _).trans (by symm; assumption)))))⟩
 have hlm : l.length = m.length := by ((try simp only [vn] at *) <;> omega)
 refine xloopV [] (fun p : { k : Nat // k ≤ l.length ∧ EqTo l m k } => [(5, .i (nI p.1))]) (fun _ => []) (fun p => lft 9223372036854775808 p.1) ⟨0, Nat.zero_le _, .zero l m⟩ ?_
 rintro ⟨k, hk, hf⟩
 dsimp only
 cbv; repeat' ((first | refine .mk (fun h => ?_) fun h => ?_ | refine .k fun z hz => ?_ | fail) <;> cbv)
 ·refine askEl_int (by ((try simp only [vn] at *) <;> omega)) (by ((try simp only [vn] at *) <;> omega)) fun i x hi hx => ?_
  obtain rfl : k = i := by ((try simp only [vn] at *) <;> omega)
  have hx0 := hx
  have key : ∀ y, m[k]? = some y → (¬ x = y → ¬ l = m) ∧ (x = y → EqTo l m (k + 1)) := fun y hy => ⟨ne_at hx0 hy, fun e => by subst e; exact hf.succ hx0 hy⟩
  obtain ⟨n1, v1⟩ := x
  cbv
  refine askEl_int (by ((try simp only [vn] at *) <;> omega)) (by ((try simp only [vn] at *) <;> omega)) fun j y hj hy => ?_
  obtain rfl : k = j := by ((try simp only [vn] at *) <;> omega)
  obtain ⟨ky1, ky2⟩ := key y hy
  obtain ⟨n2, v2⟩ := y
  cbv; repeat' ((first | refine .mk (fun h => ?_) fun h => ?_ | refine .k fun z hz => ?_ | fail) <;> cbv)
  ·obtain rfl : z = nI (k + 1) := by ((try simp only [vn] at *) <;> omega)
   exact roundV ⟨k + 1, by ((try simp only [vn] at *) <;> omega), ky2 (by rw [h.1, h.2.1])⟩ (lft_lt (by ((try simp only [vn] at *) <;> omega)))
  ·exact FinK.mk ⟨_, Gh.refl _, .inl (CutK.val rfl (Le.refl _) (no (ky1 (fun e => h (by cases e; exact ⟨rfl, rfl, trivial⟩)))))⟩
 ·obtain rfl : k = l.length := by ((try simp only [vn] at *) <;> omega)
  exact FinK.mk ⟨_, Gh.refl _, .inl (CutK.val rfl (Le.refl _) (yes (hf.all hlm)))⟩
end Go.Proofs.YtblkcnmecfppnaaDoor
/-
 Are two papers one; two lists of papers?
-/
namespace Go.Proofs.YtblkcnmecfppnaaDoor
open Go.RowKit
set_option maxHeartbeats 2000000
set_option maxRecDepth 100000
noncomputable def EqDC : Ctr := spec (fun q : Dc × Dc => [DcA q.1, DcA q.2]) (fun _ => []) (fun q => q.1.fields.length ≤ 9223372036854775807 ∧ q.2.fields.length ≤ 9223372036854775807) (fun q => .bl (eqB q.1 q.2)) fun _ => []
theorem same_body (P : Program) (hE : FnOk P 61 (EqLC 2 FdA)) : BodyOk P x43 EqDC := by
 intro args H K hc
 obtain ⟨⟨⟨k1, n1, i1, f1⟩, ⟨k2, n2, i2, f2⟩⟩, rfl, rfl, hp, hK⟩ := hc
 refine ⟨Nat.le_of_ble_eq_true rfl, ?_⟩
 dsimp only at hK hp ⊢
 have no : ¬ (k1 = k2 ∧ n1 = n2 ∧ i1 = i2 ∧ f1 = f2) → K (.bl false) [] := fun h => K_bl hK (eqB_false fun e => h (by cases e; exact ⟨rfl, rfl, rfl, rfl⟩)).symm
 have yes : k1 = k2 → n1 = n2 → i1 = i2 → K (.bl (eqB f1 f2)) [] := fun h1 h2 h3 => by
  subst h1 h2 h3
  by_cases h : f1 = f2
  ·subst h
   rw [eqB_true rfl]
   exact K_bl hK (eqB_true rfl).symm
  ·rw [eqB_false h]
   exact K_bl hK (eqB_false fun e => h (by cases e; rfl)).symm
 clear hK
 obtain ⟨b, hb⟩ : ∃ b, b = eqB f1 f2 := ⟨_, rfl⟩
 rw [← hb] at yes
 cbv; repeat' ((first | refine .mk (fun h => ?_) fun h => ?_ | fail) <;> cbv)
 ·refine callG_spec0 hE (f1, f2) hp rfl rfl rfl ?_
  try dsimp only
  rw [← hb]
  cbv
  exact FinK.mk ⟨_, Gh.refl _, .inl (CutK.val rfl (Le.refl _) (yes (by assumption) (by assumption) (by assumption)))⟩
 all_goals exact FinK.mk ⟨_, Gh.refl _, .inl (CutK.val rfl (Le.refl _) (no (fun e => h (by first | exact e.1 | exact e.2.1 | exact e.2.2.1))))⟩
theorem alike_body (P : Program) (hE : FnOk P 10 (EqLC 2 FdA)) : BodyOk P x45 EqDC := by
 intro args H K hc
 obtain ⟨⟨⟨k1, n1, i1, f1⟩, ⟨k2, n2, i2, f2⟩⟩, rfl, rfl, hp, hK⟩ := hc
 refine ⟨Nat.le_of_ble_eq_true rfl, ?_⟩
 dsimp only at hK hp ⊢
 have no : ¬ (k1 = k2 ∧ n1 = n2 ∧ i1 = i2 ∧ f1 = f2) → K (.bl false) [] := fun h => K_bl hK (eqB_false fun e => h (by cases e; exact ⟨rfl, rfl, rfl, rfl⟩)).symm
 have yes : k1 = k2 → n1 = n2 → i1 = i2 → K (.bl (eqB f1 f2)) [] := fun h1 h2 h3 => by
  subst h1 h2 h3
  by_cases h : f1 = f2
  ·subst h
   rw [eqB_true rfl]
   exact K_bl hK (eqB_true rfl).symm
  ·rw [eqB_false h]
   exact K_bl hK (eqB_false fun e => h (by cases e; rfl)).symm
 clear hK
 obtain ⟨b, hb⟩ : ∃ b, b = eqB f1 f2 := ⟨_, rfl⟩
 rw [← hb] at yes
 cbv; repeat' ((first | refine .mk (fun h => ?_) fun h => ?_ | fail) <;> cbv)
 ·refine callG_spec0 hE (f1, f2) hp rfl rfl rfl ?_
  try dsimp only
  rw [← hb]
  cbv
  exact FinK.mk ⟨_, Gh.refl _, .inl (CutK.val rfl (Le.refl _) (yes (by assumption) (by assumption) (by assumption)))⟩
 all_goals exact FinK.mk ⟨_, Gh.refl _, .inl (CutK.val rfl (Le.refl _) (no (fun e => h (by first | exact e.1 | exact e.2.1 | exact e.2.2.1))))⟩
structure DocsE (l m : List Dc) : Prop where
 l1 : l.length ≤ 9223372036854775807
 l2 : m.length ≤ 9223372036854775807
 e1 : ∀ d ∈ l, d.fields.length ≤ 9223372036854775807
 e2 : ∀ d ∈ m, d.fields.length ≤ 9223372036854775807
noncomputable def EqDsC (f : Nat) : Ctr := spec (fun q : List Dc × List Dc => [.sl 4 (mapA DcA q.1), .sl 4 (mapA DcA q.2), .clo f []]) (fun _ => []) (fun q => DocsE q.1 q.2) (fun q => .bl (eqB q.1 q.2)) fun _ => []
theorem eqDs_body (P : Program) (f : Nat) (hm : MayCall P f) (hf0 : FnOk P f EqDC) : BodyOk P x42 (EqDsC f) := by
 intro args H K hc
 obtain ⟨⟨l, m⟩, rfl, rfl, hp, hK⟩ := hc
 refine ⟨Nat.le_of_ble_eq_true rfl, ?_⟩
 obtain ⟨hp1, hp2, hp3, hp4⟩ := hp
 dsimp only at hK hp1 hp2 hp3 hp4 ⊢
 have no : ¬ l = m → K (.bl false) [] := fun h => K_bl hK (eqB_false h).symm
 have yes : l = m → K (.bl true) [] := fun h => K_bl hK (eqB_true h).symm
 clear hK
 have h1 := mapA_len DcA l
 have h2 := mapA_len DcA m
 cbv; repeat' ((first | refine .mk (fun h => ?_) fun h => ?_ | refine .k fun z hz => ?_ | fail) <;> cbv)
 rotate_left
 ·exact FinK.mk ⟨_, Gh.refl _, .inl (CutK.val rfl (Le.refl _) (no (by rintro rfl; exact h ((by assumption : _ = _).trans (by symm; assumption)))))⟩
 have hlm : l.length = m.length := by ((try simp only [vn] at *) <;> omega)
 refine xloopV [] (fun p : { k : Nat // k ≤ l.length ∧ EqTo l m k } => [(17, .i (nI p.1))]) (fun _ => []) (fun p => lft 9223372036854775808 p.1) ⟨0, Nat.zero_le _, .zero l m⟩ ?_
 rintro ⟨k, hk, hf⟩
 dsimp only
 cbv; repeat' ((first | refine .mk (fun h => ?_) fun h => ?_ | fail) <;> cbv)
 ·refine askEl_int (by ((try simp only [vn] at *) <;> omega)) (by ((try simp only [vn] at *) <;> omega)) fun i x hi hx => ?_
  obtain rfl : k = i := by ((try simp only [vn] at *) <;> omega)
  have hx0 := hx
  have key : ∀ y, m[k]? = some y → (¬ x = y → ¬ l = m) ∧ (x = y → EqTo l m (k + 1)) ∧ x.fields.length ≤ 9223372036854775807 ∧ y.fields.length ≤ 9223372036854775807 := fun y hy => ⟨ne_at hx0 hy, fun e => by subst e; exact hf.succ hx0 hy, hp3 x (List.mem_of_getElem? hx0), hp4 y (List.mem_of_getElem? hy)⟩
  obtain ⟨k1, n1, i1, f1⟩ := x
  cbv
  refine askEl_int (by ((try simp only [vn] at *) <;> omega)) (by ((try simp only [vn] at *) <;> omega)) fun j y hj hy => ?_
  obtain rfl : k = j := by ((try simp only [vn] at *) <;> omega)
  obtain ⟨ky1, ky2, ky3⟩ := key y hy
  obtain ⟨b, hb⟩ : ∃ b, b = eqB (⟨k1, n1, i1, f1⟩ : Dc) y := ⟨_, rfl⟩
  have ky4 : b = false → ¬ l = m := fun h => ky1 fun e => (by rw [eqB_true e] at hb; rw [hb] at h; cases h)
  have ky5 : b = true → EqTo l m (k + 1) := fun h => ky2 (Classical.byContradiction fun e => (by rw [eqB_false e] at hb; rw [hb] at h; cases h))
  clear ky1 ky2 hy key hx hx0
  obtain ⟨k2, n2, i2, f2⟩ := y
  cbv; repeat' ((first | refine And.intro ?_ ?_ | fail) <;> cbv)
  ·exact hm
  ·refine callG_spec0 hf0 (⟨k1, n1, i1, f1⟩, ⟨k2, n2, i2, f2⟩) ky3 rfl rfl rfl ?_
   try dsimp only
   rw [← hb]
   cases b
   ·cbv
    exact FinK.mk ⟨_, Gh.refl _, .inl (CutK.val rfl (Le.refl _) (no (ky4 rfl)))⟩
   ·cbv; repeat' ((first | refine .k fun z hz => ?_ | fail) <;> cbv)
    obtain rfl : z = nI (k + 1) := by ((try simp only [vn] at *) <;> omega)
    exact roundV ⟨k + 1, by ((try simp only [vn] at *) <;> omega), ky5 rfl⟩ (lft_lt (by ((try simp only [vn] at *) <;> omega)))
 ·obtain rfl : k = l.length := by ((try simp only [vn] at *) <;> omega)
  exact FinK.mk ⟨_, Gh.refl _, .inl (CutK.val rfl (Le.refl _) (yes (hf.all hlm)))⟩
end Go.Proofs.YtblkcnmecfppnaaDoor
/-
 post.Same.
-/
namespace Go.Proofs.YtblkcnmecfppnaaDoor
open Go.RowKit
set_option maxHeartbeats 4000000
set_option maxRecDepth 100000
structure LtE (l : Lt) : Prop where
 docs : l.docs.length ≤ 9223372036854775807
 boxes : l.boxes.length ≤ 9223372036854775807
 each : ∀ d ∈ l.docs, d.fields.length ≤ 9223372036854775807
noncomputable def EqLtC : Ctr := spec (fun q : Lt × Lt => [LtA q.1, LtA q.2]) (fun _ => []) (fun q => LtE q.1 ∧ LtE q.2) (fun q => .bl (eqB q.1 q.2)) fun _ => []
theorem sameL_body (P : Program) (hD : FnOk P 42 (EqDsC 43)) (hS : FnOk P 44 (EqLC 1 AV.str)) : BodyOk P x16 EqLtC := by
 intro args H K hc
 obtain ⟨⟨⟨a0, a1, a2, a3, a4, a5, a6, a7, a8, a9, a10, a11, a12, a13⟩, ⟨b0, b1, b2, b3, b4, b5, b6, b7, b8, b9, b10, b11, b12, b13⟩⟩, rfl, rfl, ⟨⟨p1, p2, p3⟩, ⟨q1, q2, q3⟩⟩, hK⟩ := hc
 refine ⟨Nat.le_of_ble_eq_true rfl, ?_⟩
 dsimp only at hK p1 p2 p3 q1 q2 q3 ⊢
 have no : ¬ (a0 = b0 ∧ a1 = b1 ∧ a2 = b2 ∧ a3 = b3 ∧ a4 = b4 ∧ a5 = b5 ∧ a6 = b6 ∧ a7 = b7 ∧ a8 = b8 ∧ a9 = b9 ∧ a10 = b10 ∧ a11 = b11 ∧ a12 = b12 ∧ a13 = b13) → K (.bl false) [] := fun h => K_bl hK (eqB_false fun e => h (by cases e; exact ⟨rfl, rfl, rfl, rfl, rfl, rfl, rfl, rfl, rfl, rfl, rfl, rfl, rfl, rfl⟩)).symm
 have yes : (a0 = b0 ∧ a1 = b1 ∧ a2 = b2 ∧ a3 = b3 ∧ a4 = b4 ∧ a5 = b5 ∧ a6 = b6 ∧ a7 = b7 ∧ a8 = b8 ∧ a9 = b9 ∧ a10 = b10 ∧ a11 = b11 ∧ a12 = b12 ∧ a13 = b13) → K (.bl true) [] := fun h => K_bl hK (eqB_true (by obtain ⟨rfl, rfl, rfl, rfl, rfl, rfl, rfl, rfl, rfl, rfl, rfl, rfl, rfl, rfl⟩ := h; rfl)).symm
 clear hK
 obtain ⟨bd, hbd⟩ : ∃ b, b = eqB a12 b12 := ⟨_, rfl⟩
 obtain ⟨bs, hbs⟩ : ∃ b, b = eqB a13 b13 := ⟨_, rfl⟩
 have d1 : bd = false → ¬ a12 = b12 := fun h e => (by rw [eqB_true e] at hbd; rw [hbd] at h; cases h)
 have d2 : bd = true → a12 = b12 := fun h => Classical.byContradiction fun e => (by rw [eqB_false e] at hbd; rw [hbd] at h; cases h)
 have s1 : bs = false → ¬ a13 = b13 := fun h e => (by rw [eqB_true e] at hbs; rw [hbs] at h; cases h)
 have s2 : bs = true → a13 = b13 := fun h => Classical.byContradiction fun e => (by rw [eqB_false e] at hbs; rw [hbs] at h; cases h)
 cbv; repeat' ((first | refine .mk (fun h => ?_) fun h => ?_ | fail) <;> cbv)
 ·refine callG_spec0 hD (a12, b12) ⟨p1, q1, p3, q3⟩ rfl rfl rfl ?_
  try dsimp only
  rw [← hbd]
  cases bd
  ·cbv
   exact FinK.mk ⟨_, Gh.refl _, .inl (CutK.val rfl (Le.refl _) (no fun ⟨e0, e1, e2, e3, e4, e5, e6, e7, e8, e9, e10, e11, e12, e13⟩ => d1 rfl e12))⟩
  ·cbv
   refine callG_spec0 hS (a13, b13) ⟨p2, q2⟩ rfl rfl rfl ?_
   try dsimp only
   rw [← hbs]
   cases bs
   ·cbv
    exact FinK.mk ⟨_, Gh.refl _, .inl (CutK.val rfl (Le.refl _) (no fun ⟨e0, e1, e2, e3, e4, e5, e6, e7, e8, e9, e10, e11, e12, e13⟩ => s1 rfl e13))⟩
   ·cbv
    have hsum : a10 = b10 ∧ a11 = b11 ∧ True := by assumption
    exact FinK.mk ⟨_, Gh.refl _, .inl (CutK.val rfl (Le.refl _) (yes ⟨by assumption, by assumption, by assumption, by assumption, by assumption, by assumption, by assumption, by assumption, by assumption, by assumption, hsum.1, hsum.2.1, d2 rfl, s2 rfl⟩))⟩
 all_goals exact FinK.mk ⟨_, Gh.refl _, .inl (CutK.val rfl (Le.refl _) (no fun ⟨e0, e1, e2, e3, e4, e5, e6, e7, e8, e9, e10, e11, e12, e13⟩ => h (by first | assumption | exact ⟨e10, e11, trivial⟩)))⟩
end Go.Proofs.YtblkcnmecfppnaaDoor
/-
 The reference's Same of letters.
-/
namespace Go.Proofs.YtblkcnmecfppnaaDoor
open Go.RowKit
set_option maxHeartbeats 4000000
set_option maxRecDepth 100000
theorem refL_body (P : Program) (hA : FnOk P 45 EqDC) : BodyOk P x17 EqLtC := by
 intro args H K hc
 obtain ⟨⟨⟨a0, a1, a2, a3, a4, a5, a6, a7, a8, a9, a10, a11, a12, a13⟩, ⟨b0, b1, b2, b3, b4, b5, b6, b7, b8, b9, b10, b11, b12, b13⟩⟩, rfl, rfl, ⟨⟨p1, p2, p3⟩, ⟨q1, q2, q3⟩⟩, hK⟩ := hc
 refine ⟨Nat.le_of_ble_eq_true rfl, ?_⟩
 dsimp only at hK p1 p2 p3 q1 q2 q3 ⊢
 have no : ¬ (a0 = b0 ∧ a1 = b1 ∧ a2 = b2 ∧ a3 = b3 ∧ a4 = b4 ∧ a5 = b5 ∧ a6 = b6 ∧ a7 = b7 ∧ a8 = b8 ∧ a9 = b9 ∧ a10 = b10 ∧ a11 = b11 ∧ a12 = b12 ∧ a13 = b13) → K (.bl false) [] := fun h => K_bl hK (eqB_false fun e => h (by cases e; exact ⟨rfl, rfl, rfl, rfl, rfl, rfl, rfl, rfl, rfl, rfl, rfl, rfl, rfl, rfl⟩)).symm
 have yes : (a0 = b0 ∧ a1 = b1 ∧ a2 = b2 ∧ a3 = b3 ∧ a4 = b4 ∧ a5 = b5 ∧ a6 = b6 ∧ a7 = b7 ∧ a8 = b8 ∧ a9 = b9 ∧ a10 = b10 ∧ a11 = b11 ∧ a12 = b12 ∧ a13 = b13) → K (.bl true) [] := fun h => K_bl hK (eqB_true (by obtain ⟨rfl, rfl, rfl, rfl, rfl, rfl, rfl, rfl, rfl, rfl, rfl, rfl, rfl, rfl⟩ := h; rfl)).symm
 clear hK
 have h1 := mapA_len DcA a12
 have h2 := mapA_len DcA b12
 have h3 := mapA_len AV.str a13
 have h4 := mapA_len AV.str b13
 cbv; repeat' ((first | refine .mk (fun h => ?_) fun h => ?_ | refine .k fun z hz => ?_ | fail) <;> cbv)
 rotate_left
 all_goals first | exact FinK.mk ⟨_, Gh.refl _, .inl (CutK.val rfl (Le.refl _) (no fun ⟨e0, e1, e2, e3, e4, e5, e6, e7, e8, e9, e10, e11, e12, e13⟩ => h (by first | assumption | exact ⟨e10, e11, trivial⟩ | (subst_vars; rfl))))⟩ | skip
 have hsum : a10 = b10 ∧ a11 = b11 ∧ True := by assumption
 have hl1 : a12.length = b12.length := by ((try simp only [vn] at *) <;> omega)
 have hl2 : a13.length = b13.length := by ((try simp only [vn] at *) <;> omega)
 have yes2 : a12 = b12 → a13 = b13 → K (.bl true) [] := fun hd hb => yes ⟨by assumption, by assumption, by assumption, by assumption, by assumption, by assumption, by assumption, by assumption, by assumption, by assumption, hsum.1, hsum.2.1, hd, hb⟩
 have no2 : ¬ a12 = b12 → K (.bl false) [] := fun hd => no fun ⟨e0, e1, e2, e3, e4, e5, e6, e7, e8, e9, e10, e11, e12, e13⟩ => hd e12
 have no3 : ¬ a13 = b13 → K (.bl false) [] := fun hd => no fun ⟨e0, e1, e2, e3, e4, e5, e6, e7, e8, e9, e10, e11, e12, e13⟩ => hd e13
 clear yes no
 refine xloopV [] (fun p : { k : Nat // k ≤ a12.length ∧ EqTo a12 b12 k } => [(5, .i (nI p.1))]) (fun _ => [.blk 27 [.str a0, .str a1, .i a2, .i a3, .i a4, .str a5, .str a6, .str a7, .i a8, .i a9, .str a10, .i a11, .sl 4 (mapA DcA a12), .sl 1 (mapA .str a13)], .blk 27 [.str b0, .str b1, .i b2, .i b3, .i b4, .str b5, .str b6, .str b7, .i b8, .i b9, .str b10, .i b11, .sl 4 (mapA DcA b12), .sl 1 (mapA .str b13)]]) (fun p => lft 9223372036854775808 p.1) ⟨0, Nat.zero_le _, .zero _ _⟩ ?_
 rintro ⟨k, hk, hf⟩
 dsimp only
 cbv; repeat' ((first | refine .mk (fun h => ?_) fun h => ?_ | refine .k fun z hz => ?_ | fail) <;> cbv)
 ·refine askEl_int (by ((try simp only [vn] at *) <;> omega)) (by ((try simp only [vn] at *) <;> omega)) fun i x hi hx => ?_
  obtain rfl : k = i := by ((try simp only [vn] at *) <;> omega)
  have hx0 := hx
  have key : ∀ y, b12[k]? = some y → (¬ x = y → ¬ a12 = b12) ∧ (x = y → EqTo a12 b12 (k + 1)) ∧ x.fields.length ≤ 9223372036854775807 ∧ y.fields.length ≤ 9223372036854775807 := fun y hy => ⟨ne_at hx0 hy, fun e => by subst e; exact hf.succ hx0 hy, p3 x (List.mem_of_getElem? hx0), q3 y (List.mem_of_getElem? hy)⟩
  obtain ⟨k1, n1, i1, f1⟩ := x
  cbv
  refine askEl_int (by ((try simp only [vn] at *) <;> omega)) (by ((try simp only [vn] at *) <;> omega)) fun j y hj hy => ?_
  obtain rfl : k = j := by ((try simp only [vn] at *) <;> omega)
  obtain ⟨ky1, ky2, ky3⟩ := key y hy
  obtain ⟨b, hb⟩ : ∃ b, b = eqB (⟨k1, n1, i1, f1⟩ : Dc) y := ⟨_, rfl⟩
  have ky4 : b = false → ¬ a12 = b12 := fun h => ky1 fun e => (by rw [eqB_true e] at hb; rw [hb] at h; cases h)
  have ky5 : b = true → EqTo a12 b12 (k + 1) := fun h => ky2 (Classical.byContradiction fun e => (by rw [eqB_false e] at hb; rw [hb] at h; cases h))
  clear ky1 ky2 hy key hx hx0
  obtain ⟨k2, n2, i2, f2⟩ := y
  cbv
  refine callG_spec0 hA (⟨k1, n1, i1, f1⟩, ⟨k2, n2, i2, f2⟩) ky3 rfl rfl rfl ?_
  try dsimp only
  rw [← hb]
  cases b
  ·cbv
   exact FinK.mk ⟨_, Gh.refl _, .inl (CutK.val rfl (Le.refl _) (no2 (ky4 rfl)))⟩
  ·cbv; repeat' ((first | refine .k fun z hz => ?_ | fail) <;> cbv)
   obtain rfl : z = nI (k + 1) := by ((try simp only [vn] at *) <;> omega)
   exact roundV ⟨k + 1, by ((try simp only [vn] at *) <;> omega), ky5 rfl⟩ (lft_lt (by ((try simp only [vn] at *) <;> omega)))
 ·have hke : k = a12.length := by ((try simp only [vn] at *) <;> omega)
  have hdocs : a12 = b12 := EqTo.all hl1 (hke ▸ hf)
  clear hf hke hk
  refine xloopV [] (fun p : { k : Nat // k ≤ a13.length ∧ EqTo a13 b13 k } => [(6, .i (nI p.1))]) (fun _ => [.blk 27 [.str a0, .str a1, .i a2, .i a3, .i a4, .str a5, .str a6, .str a7, .i a8, .i a9, .str a10, .i a11, .sl 4 (mapA DcA a12), .sl 1 (mapA .str a13)], .blk 27 [.str b0, .str b1, .i b2, .i b3, .i b4, .str b5, .str b6, .str b7, .i b8, .i b9, .str b10, .i b11, .sl 4 (mapA DcA b12), .sl 1 (mapA .str b13)]]) (fun p => lft 9223372036854775808 p.1) ⟨0, Nat.zero_le _, .zero _ _⟩ ?_
  rintro ⟨k, hk, hf⟩
  dsimp only
  cbv; repeat' ((first | refine .mk (fun h => ?_) fun h => ?_ | refine .k fun z hz => ?_ | fail) <;> cbv)
  ·refine askEl_int (by ((try simp only [vn] at *) <;> omega)) (by ((try simp only [vn] at *) <;> omega)) fun i x hi hx => ?_
   obtain rfl : k = i := by ((try simp only [vn] at *) <;> omega)
   have hx0 := hx
   have key : ∀ y, b13[k]? = some y → (¬ x = y → ¬ a13 = b13) ∧ (x = y → EqTo a13 b13 (k + 1)) := fun y hy => ⟨ne_at hx0 hy, fun e => by subst e; exact hf.succ hx0 hy⟩
   cbv
   refine askEl_int (by ((try simp only [vn] at *) <;> omega)) (by ((try simp only [vn] at *) <;> omega)) fun j y hj hy => ?_
   obtain rfl : k = j := by ((try simp only [vn] at *) <;> omega)
   obtain ⟨ky1, ky2⟩ := key y hy
   cbv; repeat' ((first | refine .mk (fun h => ?_) fun h => ?_ | refine .k fun z hz => ?_ | fail) <;> cbv)
   ·obtain rfl : z = nI (k + 1) := by ((try simp only [vn] at *) <;> omega)
    exact roundV ⟨k + 1, by ((try simp only [vn] at *) <;> omega), ky2 h⟩ (lft_lt (by ((try simp only [vn] at *) <;> omega)))
   ·exact FinK.mk ⟨_, Gh.refl _, .inl (CutK.val rfl (Le.refl _) (no3 (ky1 h)))⟩
  ·obtain rfl : k = a13.length := by ((try simp only [vn] at *) <;> omega)
   exact FinK.mk ⟨_, Gh.refl _, .inl (CutK.val rfl (Le.refl _) (yes2 hdocs (hf.all hl2)))⟩
end Go.Proofs.YtblkcnmecfppnaaDoor
/-
 The reference's small functions of letters.
-/
namespace Go.Proofs.YtblkcnmecfppnaaDoor
open Go.RowKit
set_option maxHeartbeats 2000000
set_option maxRecDepth 100000
theorem k_refName : FnOk Tryd.prog 29 (StrC shortS nameB) := fn_strB fun s w hs => refName_any s w hs
theorem between_body (P : Program) : BodyOk P x30 FromC := by
 intro args H K hc
 obtain ⟨⟨n, a, b⟩, rfl, rfl, _, hK⟩ := hc
 refine ⟨Nat.le_of_ble_eq_true rfl, ?_⟩
 dsimp only at hK ⊢
 cbv; repeat' ((first | refine .mk (fun h => ?_) fun h => ?_ | fail) <;> cbv)
 all_goals exact FinK.mk ⟨_, Gh.refl _, .inl (CutK.val rfl (Le.refl _) (K_bl hK (by (simp; omega))))⟩
theorem some_body (P : Program) (hn : FnOk P 29 (StrC shortS nameB)) : BodyOk P x31 (StrC shortS noneB) := by
 intro args H K hc
 obtain ⟨s, rfl, rfl, hs, hK⟩ := hc
 refine ⟨Nat.le_of_ble_eq_true rfl, ?_⟩
 unfold noneB at hK
 dsimp only at hK ⊢
 cbv; repeat' ((first | refine .mk (fun h => ?_) fun h => ?_ | fail) <;> cbv)
 ·exact FinK.mk ⟨_, Gh.refl _, .inl (CutK.val rfl (Le.refl _) (K_bl hK (by (subst h; rfl))))⟩
 have h0 : s.size ≠ 0 := fun e => h (ByteArray.ext (Array.eq_empty_of_size_eq_zero e))
 (refine callG_spec0 hn s hs rfl rfl rfl ?_; try dsimp only)
 rw [decide_eq_false h0, Bool.false_or] at hK
 obtain ⟨b, hb⟩ : ∃ b, b = nameB s := ⟨_, rfl⟩
 rw [← hb] at hK ⊢
 cbv
 exact FinK.mk ⟨_, Gh.refl _, .inl (CutK.val rfl (Le.refl _) (K_bl hK (by rfl)))⟩
def NoneC : Ctr := spec (fun q : ByteArray × Int => [.agg [.str q.1, .i q.2]]) (fun _ => []) (fun _ => True) (fun q => .bl (decide (q.1 = ⟨#[]⟩ ∧ q.2 = 0))) fun _ => []
theorem none_body (P : Program) : BodyOk P x32 NoneC := by
 intro args H K hc
 obtain ⟨⟨c, a⟩, rfl, rfl, _, hK⟩ := hc
 refine ⟨Nat.le_of_ble_eq_true rfl, ?_⟩
 dsimp only at hK ⊢
 cbv; repeat' ((first | refine .mk (fun h => ?_) fun h => ?_ | fail) <;> cbv)
 all_goals exact FinK.mk ⟨_, Gh.refl _, .inl (CutK.val rfl (Le.refl _) (K_bl hK (by (simp_all))))⟩
theorem rmoney_body (P : Program) (hc : FnOk P 50 (StrC (fun _ => True) curB)) : BodyOk P x33 MoneyC := by
 intro args H K hcc
 obtain ⟨⟨c, a⟩, rfl, rfl, _, hK⟩ := hcc
 refine ⟨Nat.le_of_ble_eq_true rfl, ?_⟩
 dsimp only at hK ⊢
 unfold moneyB at hK
 obtain ⟨b, hb⟩ : ∃ b, b = curB c := ⟨_, rfl⟩
 rw [← hb] at hK
 cbv
 refine callG_spec0 hc c trivial rfl rfl rfl ?_
 rw [← hb]
 cases b
 ·cbv
  exact FinK.mk ⟨_, Gh.refl _, .inl (CutK.val rfl (Le.refl _) (K_bl hK (by rfl)))⟩
 ·cbv; repeat' ((first | refine .mk (fun h => ?_) fun h => ?_ | fail) <;> cbv)
  all_goals exact FinK.mk ⟨_, Gh.refl _, .inl (CutK.val rfl (Le.refl _) (K_bl hK (by (simp; omega))))⟩
end Go.Proofs.YtblkcnmecfppnaaDoor
/-
 The reference's currency; its names.
-/
namespace Go.Proofs.YtblkcnmecfppnaaDoor
open Go.RowKit
set_option maxHeartbeats 2000000
set_option maxRecDepth 100000
theorem rcur_body (P : Program) : BodyOk P x50 (StrC (fun _ => True) curB) := by
 intro args H K hc
 obtain ⟨s, rfl, rfl, _, hK⟩ := hc
 refine ⟨Nat.le_of_ble_eq_true rfl, ?_⟩
 dsimp only at hK ⊢
 have big : s.size ≠ 3 → K (.bl false) [] := fun h => K_bl hK (curB_size h).symm
 have all : s.size = 3 → upTo s s.size → K (.bl true) [] := fun h h1 => K_bl hK (curB_all h h1).symm
 have bad : ∀ k (hk : k < s.size), upB s[k].toNat = false → K (.bl false) [] := fun k hk h => K_bl hK (curB_not hk h).symm
 clear hK
 cbv; repeat' ((first | refine .mk (fun h => ?_) fun h => ?_ | refine .k fun z hz => ?_ | fail) <;> cbv)
 ·have h3 : s.size = 3 := by ((try simp only [vn] at *) <;> omega)
  refine xloopV [] (fun p : { k : Nat // k ≤ 3 ∧ upTo s k } => [(3, .i (nI p.1))]) (fun _ => []) (fun p => lft 3 p.1) ⟨0, Nat.zero_le _, upTo_zero s⟩ ?_
  rintro ⟨k, hk, hf⟩
  dsimp only
  cbv; repeat' ((first | refine .mk (fun h => ?_) fun h => ?_ | fail) <;> cbv)
  ·have hks : k < s.size := by ((try simp only [vn] at *) <;> omega)
   refine askByte_nI hks fun y hy => ?_
   have hu : upB s[k].toNat = (decide (65 ≤ y) && decide (y ≤ 90)) := by rw [show y = (s[k].toNat : Int) from hy]; rfl
   cbv; repeat' ((first | refine .mk (fun h => ?_) fun h => ?_ | fail) <;> cbv)
   ·exact FinK.mk ⟨_, Gh.refl _, .inl (CutK.val rfl (Le.refl _) (bad k hks (by rw [hu, decide_eq_false (by omega), Bool.false_and])))⟩
   refine askByte_nI hks fun x hx => ?_
   obtain rfl : x = y := (show x = (s[k].toNat : Int) from hx).trans (show y = (s[k].toNat : Int) from hy).symm
   clear hx hy
   cbv; repeat' ((first | refine .mk (fun h => ?_) fun h => ?_ | refine .k fun z hz => ?_ | fail) <;> cbv)
   ·exact FinK.mk ⟨_, Gh.refl _, .inl (CutK.val rfl (Le.refl _) (bad k hks (by rw [hu, decide_eq_false (p := x ≤ (90 : Int)) (by omega), Bool.and_false])))⟩
   ·rw [decide_eq_true (by omega), decide_eq_true (by omega), Bool.and_self] at hu
    obtain rfl : z = nI (k + 1) := by ((try simp only [vn] at *) <;> omega)
    exact roundV ⟨k + 1, by ((try simp only [vn] at *) <;> omega), upTo_succ hks hf hu⟩ (lft_lt (by ((try simp only [vn] at *) <;> omega)))
  ·have hke : k = s.size := by ((try simp only [vn] at *) <;> omega)
   subst hke
   exact FinK.mk ⟨_, Gh.refl _, .inl (CutK.val rfl (Le.refl _) (all h3 hf))⟩
 ·exact FinK.mk ⟨_, Gh.refl _, .inl (CutK.val rfl (Le.refl _) (big (by ((try simp only [vn] at *) <;> omega))))⟩
end Go.Proofs.YtblkcnmecfppnaaDoor
/-
 The reference's names of kinds.
-/
namespace Go.Proofs.YtblkcnmecfppnaaDoor
open Go.RowKit
set_option maxHeartbeats 2000000
set_option maxRecDepth 100000
def names29 : List ByteArray := (List.range 29).map fun i => kindN (Int.ofNat i)
noncomputable def NamesC : Ctr := spec (fun _ : Unit => []) (fun _ => []) (fun _ => True) (fun _ => .sl 1 (mapA .str names29)) fun _ => []
theorem names_body (P : Program) : BodyOk P x13 NamesC := by
 intro args H K hc
 obtain ⟨_, rfl, rfl, _, hK⟩ := hc
 refine ⟨Nat.le_of_ble_eq_true rfl, ?_⟩
 dsimp only at hK ⊢
 obtain ⟨ns, hns⟩ : ∃ ns, ns = mapA AV.str names29 := ⟨_, rfl⟩
 rw [← hns] at hK
 cbv
 refine FinK.mk ⟨_, Gh.plain 0 rfl, ?_⟩
 cbv
 exact .inl (CutK.val rfl (Le.refl _) (K_of hK (by rw [hns]; rfl)))
end Go.Proofs.YtblkcnmecfppnaaDoor
/-
  The reference's Text (layer 5): the walk.
-/
namespace Go.Proofs.YtblkcnmecfppnaaDoor
open Go.RowKit

theorem one_byte (s : ByteArray) (m : Nat) (h : m < s.size) : (s.data.toList.drop m).take 1 = [s[m]] := by
  rw [List.drop_eq_getElem_cons (by simpa using h)]
  rfl
theorem size_of_list' {S : ByteArray} {L : List UInt8} (h : S.data.toList = L) : S.size = L.length := by rw [← h]; simp

set_option maxRecDepth 100000 in
set_option maxHeartbeats 8000000 in
theorem refText_any (l : List Fd) (A : Option Addr) (n c : Nat) (w : World) (h : Lst Fd.cells 2 w A n l) (hs : ∀ f ∈ l, f.name.size ≤ maxLen) :
    Calls Tryd.prog 35 #[.slice A n c] w (TextPost l w) := by
  have HL := Lib.hid h.len
  by_cases hn : 64 < n
  · have hc : textC l = 7 := by unfold textC; rw [if_pos (by rw [HL.out]; exact hn)]
    have hS : textS l = [] := by unfold textS; rw [if_neg (by rw [hc]; decide)]
    have HP : TextPost l w = fun e w' => e = .returned (.tuple #[.string ⟨#[]⟩, .int .i64 7]) ∧ Below w.heap.size w w' := by unfold TextPost; rw [hc, hS]
    rw [HP]
    clear HP hc hS
    have hn' : (64 : Int) < (n : Int) := by omega
    go_enter Tryd.func35, Tryd.ntmps35
    go_wp2
    go_ret2
    exact ⟨rfl, Below.refl _ _⟩
  have hn' : ¬ (64 : Int) < (n : Int) := by omega
  go_enter Tryd.func35, Tryd.ntmps35
  go_wp2
  go_loopw [4, 5] (fun t i wr => ∃ k : Nat, k ≤ n ∧ i = .int .i64 k ∧ (∃ S : ByteArray, t = .string S ∧ S.data.toList = textL (l.take k)) ∧ Below w.heap.size w wr ∧ ∀ j (hj : j < l.length), j < k → mayF l[j] = true) (fun _ i _ => n - (intOf i).toNat)
  case atStart => exact ⟨0, by omega, rfl, ⟨_, rfl, rfl⟩, Below.refl _ _, fun j hj h => by omega⟩
  case round =>
    obtain ⟨k, hk, rfl, ⟨S0, rfl, hS0⟩, hw, hall⟩ := hrel
    have HS0 := Lib.hid hS0
    clear hS0
    have HA := Lib.hid hall
    clear hall
    by_cases hlt : k < n
    · have hlk : k < l.length := by rw [HL.out]; exact hlt
      obtain ⟨ba, oa, rfl, hba, f0, f1⟩ := (h.below hw).fd k hlk
      have hns := hs _ (List.getElem_mem hlk)
      have htl := upto_len (by omega) HA.out
      have hz0 : S0.size ≤ 525440 := by rw [size_of_list' HS0.out]; exact htl
      have hg2 := (h.below hw)
      generalize hx : l[k] = x at *
      have HX := Lib.hid hx
      clear hx
      generalize hT : textL (l.take k) = T at *
      have HT := Lib.hid hT
      clear hT
      cases hm : mayF x
      · have hc : textC l = 1 := textC_bad hlk (by rw [HL.out]; omega) (by rw [HX.out]; exact hm)
        have hS : textS l = [] := by unfold textS; rw [if_neg (by rw [hc]; decide)]
        have HC := Lib.hid hc
        have HS := Lib.hid hS
        have HM := Lib.hid hm
        clear hm hc hS
        go_wp2_with (go_at_call 51; refine (refMay_any x _ hns).mono ?_; rw [HM.out]; rintro e w1 ⟨rfl, hb1⟩; have hw1 := Below.go hw hb1)
        go_ret2
        refine ⟨?_, hw1⟩
        rw [HC.out, HS.out]
        rfl
      · have HM := Lib.hid hm
        have hbd := mayF_bd hm
        clear hm
        go_wp2_with (go_at_call 51; refine (refMay_any x _ hns).mono ?_; rw [HM.out]; rintro e w1 ⟨rfl, hb1⟩; have hw1 := Below.go hw hb1; have e0 := hb1.cell (p := ⟨ba, oa + k * 2, none⟩) hba; have e1 := hb1.cell (p := ⟨ba, oa + k * 2 + 1, none⟩) hba; rw [f0] at e0; rw [f1] at e1; have hz1 := hb1.size; have hba1 : ba < w1.heap.size := (by have := hb1.size; omega); clear f0 f1)
        clear hw hb1 hg2
        go_loop [4, 6] (fun t i => ∃ m : Nat, m ≤ x.value.size ∧ i = .int .i64 m ∧ ∃ S : ByteArray, t = .string S ∧ S.data.toList = T ++ x.name.data.toList ++ [61] ++ esc (x.value.data.toList.take m)) (fun _ i => x.value.size - (intOf i).toNat)
        case atStart => exact ⟨0, by omega, rfl, _, rfl, by simp [esc, HS0.out]⟩
        case round =>
          obtain ⟨m, hm, rfl, S, rfl, hS⟩ := hrel
          have hzS : S.size ≤ 534000 := by
            rw [size_of_list' hS]
            have h1 := esc_len (x.value.data.toList.take m)
            have h2 : (x.value.data.toList.take m).length ≤ m := List.length_take_le _ _
            have h3 : x.name.data.size = x.name.size := rfl
            simp only [List.length_append, List.length_cons, List.length_nil, Array.length_toList]
            omega
          have HS := Lib.hid hS
          clear hS
          by_cases hlm : m < x.value.size
          · have hsn := esc_byte x.value m hlm
            rcases byte_ways x.value[m] with ⟨q1, q3⟩ | ⟨q1, q2, q3⟩ | ⟨q1, q2, q3⟩
            all_goals
              rw [q3] at hsn
              have HN := Lib.hid hsn
              clear hsn q3
              go_wp2
            all_goals
              go_round
              case rel =>
                refine ⟨m + 1, by omega, by go_num, _, rfl, ?_⟩
                rw [HN.out]
                first | (simp [HS.out]; done) | (simp [HS.out]; exact one_byte x.value m hlm)
              case measure => simp [intOf]; omega
          · obtain rfl : m = x.value.size := by omega
            have hfull : x.value.data.toList.take x.value.size = x.value.data.toList := List.take_of_length_le (by simp)
            rw [hfull] at HS
            clear hfull
            go_wp2
            go_roundw
            case rel =>
              refine ⟨k + 1, by omega, by go_num, ⟨_, rfl, ?_⟩, hw1, fun j hj hjk => ?_⟩
              · rw [textL_snoc l k hlk, HT.out, HX.out]
                simp [HS.out, lineL]
              · by_cases e : j = k
                · subst e; rw [HX.out]; exact HM.out
                · exact HA.out j hj (by omega)
            case measure => simp [intOf]; omega
    · obtain rfl : k = n := by omega
      have hc : textC l = 0 := textC_good (by rw [HL.out]; omega) (fun j hj => HA.out j hj (by rw [← HL.out]; exact hj))
      have hS : textS l = textL l := by unfold textS; rw [if_pos hc]
      have HC := Lib.hid hc
      have HS := Lib.hid hS
      clear hc hS
      rw [List.take_of_length_le (by rw [HL.out]; omega)] at HS0
      go_wp2
      go_ret2
      refine ⟨?_, hw⟩
      have e : S0 = ⟨(textL l).toArray⟩ := by
        cases S0
        have := HS0.out
        simp only at this
        rw [← this]
      rw [HC.out, HS.out, e]
      rfl
end Go.Proofs.YtblkcnmecfppnaaDoor
/-
 The reference's text of fields, kinds of papers, papers, records.
-/
namespace Go.Proofs.YtblkcnmecfppnaaDoor
open Go.RowKit
set_option maxHeartbeats 2000000
set_option maxRecDepth 100000
theorem k_refText : FnOk Tryd.prog 35 TextC := fn_add fun l hp pub w vals hf _ hv => by
 obtain ⟨u, us', hl, h1, h2⟩ := hv.cons_inv
 have h3 := h2.nil_inv
 subst h3
 obtain ⟨A, c, rfl, _, _, _, hL⟩ := h1.lst flat_fd
 have h4 : vals = #[.slice A l.length c] := Array.toList_inj.1 (by simpa using hl)
 subst h4
 refine (refText_any l A _ c w hL hp).mono fun e w' ⟨he, hb⟩ => ?_
 exact AddPost.plain he hb hf (tup2 (.str _) (.int _ _))
def KindSC : Ctr := spec (fun k : Int => [.i k]) (fun _ => []) (fun _ => True) (fun k => .str (kindS k)) fun _ => []
theorem k_refKind : FnOk Tryd.prog 52 KindSC := fn_add fun k _ pub w vals hf _ hv => by
 obtain ⟨u, us', hl, h1, h2⟩ := hv.cons_inv
 have h3 := h2.nil_inv
 subst h3
 cases h1
 have h4 : vals = #[.int .i64 k] := Array.toList_inj.1 (by simpa using hl)
 subst h4
 exact (refKind_any k w).mono fun e w' ⟨he, hb⟩ => AddPost.plain he hb hf (.str _)
noncomputable def RecC : Ctr := spec (fun d : Dc => [DcA d]) (fun _ => []) (fun d => d.fields.length ≤ 4000) (fun d => .sl 2 (mapA FdA (recP d))) fun _ => []
theorem record_body (P : Program) (hk : FnOk P 52 KindSC) : BodyOk P x36 RecC := by
 intro args H K hc
 obtain ⟨⟨kind, number, issuer, fields⟩, rfl, rfl, hp, hK⟩ := hc
 refine ⟨Nat.le_of_ble_eq_true rfl, ?_⟩
 dsimp only at hK hp ⊢
 have hl := mapA_len FdA fields
 obtain ⟨s, hs⟩ : ∃ s, s = kindS kind := ⟨_, rfl⟩
 obtain ⟨r, hr⟩ : ∃ r, r = mapA FdA (recP ⟨kind, number, issuer, fields⟩) := ⟨_, rfl⟩
 rw [← hr] at hK
 cbv
 refine callG_spec0 hk kind trivial rfl rfl rfl ?_
 rw [← hs]
 cbv; repeat' ((first | refine .zl fun zs hzs hzl => ?_ | fail) <;> cbv)
 refine FinK.mk ⟨_, Gh.plain 1 rfl, ?_⟩
 cbv
 exact .inl (CutK.val rfl (Le.refl _) (K_of hK (by rw [hr, hzs, hs]; rfl)))
end Go.Proofs.YtblkcnmecfppnaaDoor
/-
 post.Text: of a letter's record (what the record is comes in as a function).
-/
namespace Go.Proofs.YtblkcnmecfppnaaDoor
open Go.RowKit
set_option maxHeartbeats 2000000
set_option maxRecDepth 100000
noncomputable def FieldsC (fl : Lt → List Fd) : Ctr := spec (fun l : Lt => [LtA l]) (fun _ => []) SmallL (fun l => .sl 2 (mapA FdA (fl l))) fun _ => []
noncomputable def TextLC (fl : Lt → List Fd) : Ctr := spec (fun l : Lt => [LtA l]) (fun _ => []) SmallL (fun l => .tup [.str ⟨(if mayB l then textS (fl l) else []).toArray⟩, .i (if mayB l then textC (fl l) else 1)]) fun _ => []
theorem text_body (P : Program) (fl : Lt → List Fd) (hfl : ∀ l, ∀ f ∈ fl l, f.name.size ≤ maxLen) (hm : FnOk P 8 (LtP mayB)) (hf : FnOk P 11 (FieldsC fl)) (ht : FnOk P 46 TextC) : BodyOk P x18 (TextLC fl) := by
 intro args H K hc
 obtain ⟨l, rfl, rfl, hp, hK⟩ := hc
 refine ⟨Nat.le_of_ble_eq_true rfl, ?_⟩
 dsimp only at hK ⊢
 obtain ⟨b, hb⟩ : ∃ b, b = mayB l := ⟨_, rfl⟩
 obtain ⟨fs, hfs⟩ : ∃ fs, fs = fl l := ⟨_, rfl⟩
 have hfn := hfl l
 rw [← hfs] at hfn
 rw [← hb, ← hfs] at hK
 obtain ⟨t, hht⟩ : ∃ t, t = textS fs := ⟨_, rfl⟩
 obtain ⟨c, hhc⟩ : ∃ c, c = textC fs := ⟨_, rfl⟩
 rw [← hht, ← hhc] at hK
 obtain ⟨frm, to, number, kind, ack, deal, text, party, index, day, cur, amt, docs, boxes⟩ := l
 cbv
 refine callG_spec0 hm ⟨frm, to, number, kind, ack, deal, text, party, index, day, cur, amt, docs, boxes⟩ hp rfl rfl rfl ?_
 rw [← hb]
 cases b
 ·cbv
  exact FinK.mk ⟨_, Gh.refl _, .inl (CutK.val rfl (Le.refl _) (K_of hK rfl))⟩
 ·cbv
  refine callG_spec0 hf ⟨frm, to, number, kind, ack, deal, text, party, index, day, cur, amt, docs, boxes⟩ hp rfl rfl rfl ?_
  rw [← hfs]
  cbv
  refine callG_spec0 ht fs hfn rfl rfl rfl ?_
  try dsimp only
  rw [← hht, ← hhc]
  cbv
  exact FinK.mk ⟨_, Gh.refl _, .inl (CutK.val rfl (Le.refl _) (K_of hK rfl))⟩
end Go.Proofs.YtblkcnmecfppnaaDoor
/-
  Numbers and their digits: the plain law.
-/
namespace Go.Proofs.YtblkcnmecfppnaaDoor

theorem dec_lt (u : Nat) (h : u < 10) : Lib.decDigits u = [UInt8.ofNat (48 + u)] := by rw [Lib.decDigits, dif_pos h]
theorem dec_ge (u : Nat) (h : ¬ u < 10) : Lib.decDigits u = Lib.decDigits (u / 10) ++ [UInt8.ofNat (48 + u % 10)] := by rw [Lib.decDigits, dif_neg h]
theorem dig_nat (d : Nat) (h : d < 10) : (UInt8.ofNat (48 + d)).toNat = 48 + d := by
  rw [UInt8.toNat_ofNat']; omega
theorem dec_len : ∀ (k u : Nat), 1 ≤ k → u < 10 ^ k → (Lib.decDigits u).length ≤ k
  | 0, u, h, _ => by omega
  | k + 1, u, _, h => by
    by_cases h0 : u < 10
    · rw [dec_lt u h0]; simp
    · rw [dec_ge u h0]
      have hk : 1 ≤ k := by
        rcases k with _ | k
        · simp at h; omega
        · omega
      have := dec_len k (u / 10) hk (by rw [Nat.pow_succ] at h; omega)
      simp; omega
theorem dec_head (u : Nat) : ∃ c r, Lib.decDigits u = c :: r ∧ 48 ≤ c.toNat ∧ c.toNat ≤ 57 := by
  induction u using Nat.strongRecOn with
  | _ u ih =>
    by_cases h0 : u < 10
    · rw [dec_lt u h0]
      exact ⟨_, _, rfl, by rw [dig_nat u h0]; omega, by rw [dig_nat u h0]; omega⟩
    · obtain ⟨c, r, h1, h2, h3⟩ := ih (u / 10) (by omega)
      rw [dec_ge u h0, h1]
      exact ⟨c, _, rfl, h2, h3⟩

/-! ### the library's -/
theorem pM_snoc (M : Nat) (c : UInt8) (hc : 48 ≤ c.toNat ∧ c.toNat ≤ 57) (v : Nat) (hv : v < 1844674407370955162) (hM : v * 10 + (c.toNat - 48) ≤ M) :
    ∀ (l : List UInt8) (acc : Nat), Lib.parseUintM M acc l = .ok v → Lib.parseUintM M acc (l ++ [c]) = .ok (v * 10 + (c.toNat - 48))
  | [], acc, h => by
    simp only [Lib.parseUintM, Lib.NumEnd.ok.injEq] at h
    subst h
    simp only [List.nil_append, Lib.parseUintM]
    rw [if_pos hc, if_neg (by omega), if_neg (by omega)]
  | x :: r, acc, h => by
    simp only [List.cons_append, Lib.parseUintM] at h ⊢
    split at h
    · rename_i h1
      rw [if_pos h1]
      split at h
      · cases h
      · rename_i h2
        rw [if_neg h2]
        split at h
        · cases h
        · rename_i h3
          rw [if_neg h3]
          exact pM_snoc M c hc v hv hM r _ h
    · cases h
theorem pM_dec (u : Nat) (h : u ≤ 18446744073709551615) : Lib.parseUintM 18446744073709551615 0 (Lib.decDigits u) = .ok u := by
  induction u using Nat.strongRecOn with
  | _ u ih =>
    by_cases h0 : u < 10
    · rw [dec_lt u h0]
      simp only [Lib.parseUintM]
      rw [dig_nat u h0, if_pos (by omega), if_neg (by omega), if_neg (by omega)]
      simp
    · rw [dec_ge u h0]
      have h1 := ih (u / 10) (by omega) (by omega)
      have h2 := pM_snoc 18446744073709551615 (UInt8.ofNat (48 + u % 10)) (by rw [dig_nat _ (by omega)]; omega) (u / 10) (by omega) (by rw [dig_nat _ (by omega)]; omega) _ _ h1
      rw [dig_nat _ (by omega)] at h2
      rw [h2]
      congr 1
      omega
theorem pB_dec (u : Nat) (h : u ≤ 18446744073709551615) : Lib.parseUintB 64 (Lib.decDigits u) = .ok u := by
  obtain ⟨c, r, h1, _⟩ := dec_head u
  unfold Lib.parseUintB
  rw [if_neg (by rw [h1]; simp)]
  exact pM_dec u h

def inR (n : Int) : Prop := -4611686018427387904 ≤ n ∧ n ≤ 4611686018427387904
instance (n : Int) : Decidable (inR n) := by unfold inR; infer_instance
theorem parse_itoa64 (n : Int) (h : -9223372036854775808 ≤ n ∧ n ≤ 9223372036854775807) : Lib.parseIntB 64 (Lib.itoa n) = .ok n := by
  unfold Lib.itoa
  by_cases h0 : n < 0
  · rw [if_pos h0]
    have h1 := pB_dec n.natAbs (by omega)
    simp only [Lib.parseIntB]
    rw [if_pos (by simp), h1]
    simp only
    rw [if_neg (by simp), if_neg (by simp; omega), if_pos (by simp)]
    congr 1
    omega
  · rw [if_neg h0]
    have h1 := pB_dec n.toNat (by omega)
    obtain ⟨c, r, h2, h3, h4⟩ := dec_head n.toNat
    rw [h2] at h1 ⊢
    simp only [Lib.parseIntB]
    rw [if_neg (by omega), h1]
    simp only
    rw [if_neg (by simp; omega), if_neg (by omega), if_neg (by omega)]
    congr 1
    omega
theorem parse_itoa (n : Int) (h : inR n) : Lib.parseIntB 64 (Lib.itoa n) = .ok n := parse_itoa64 n (by unfold inR at h; omega)
/-- The number of digits, by the program. -/
def numP (l : List UInt8) : Option Int :=
  match Lib.parseIntB 64 l with
  | .ok v => if inR v ∧ Lib.itoa v = l then some v else none
  | _ => none
theorem numP_iff (l : List UInt8) (v : Int) : numP l = some v ↔ inR v ∧ l = Lib.itoa v := by
  unfold numP
  constructor
  · intro h
    split at h
    · split at h
      · rename_i h1
        cases h
        exact ⟨h1.1, h1.2.symm⟩
      · cases h
    · cases h
  · rintro ⟨h1, rfl⟩
    rw [parse_itoa v h1]
    simp only
    rw [if_pos ⟨h1, trivial⟩]

theorem numP_itoa (n : Int) (h : -9223372036854775808 ≤ n ∧ n ≤ 9223372036854775807) : (inR n → numP (Lib.itoa n) = some n) ∧ (¬ inR n → numP (Lib.itoa n) = none) := by
  unfold numP
  rw [parse_itoa64 n h]
  exact ⟨fun h1 => if_pos ⟨h1, rfl⟩, fun h1 => if_neg (fun h2 => h1 h2.1)⟩

/-! ### the reference's -/
def refLoop (n : Nat) : List UInt8 → Option Nat
  | [] => some n
  | c :: r => if c.toNat < 48 ∨ 57 < c.toNat ∨ 461168601842738790 < n then none else refLoop (10 * n + (c.toNat - 48)) r
theorem refLoop_snoc (c : UInt8) : ∀ (l : List UInt8) (n : Nat), refLoop n (l ++ [c]) = (refLoop n l).bind fun v => if c.toNat < 48 ∨ 57 < c.toNat ∨ 461168601842738790 < v then none else some (10 * v + (c.toNat - 48))
  | [], n => by simp only [List.nil_append, refLoop, Option.bind_some]
  | x :: r, n => by
    simp only [List.cons_append, refLoop]
    split
    · rfl
    · exact refLoop_snoc c r _
theorem refLoop_dec (u : Nat) (h : u ≤ 4611686018427387904) : refLoop 0 (Lib.decDigits u) = some u := by
  induction u using Nat.strongRecOn with
  | _ u ih =>
    by_cases h0 : u < 10
    · rw [dec_lt u h0]
      simp only [refLoop]
      rw [dig_nat u h0, if_neg (by omega)]
      simp
    · rw [dec_ge u h0, refLoop_snoc, ih (u / 10) (by omega) (by omega)]
      simp only [Option.bind_some]
      rw [dig_nat _ (by omega), if_neg (by omega)]
      congr 1
      omega
def refV (l : List UInt8) (m : Nat) : Int := if l.head? = some 45 then -(m : Int) else m
def refNum (l : List UInt8) : Option Int :=
  if l = [] ∨ 20 < l.length then none
  else match refLoop 0 (if l.head? = some 45 then l.tail else l) with
    | none => none
    | some m => if inR (refV l m) ∧ Lib.itoa (refV l m) = l then some (refV l m) else none
theorem refNum_iff (l : List UInt8) (v : Int) : refNum l = some v ↔ inR v ∧ l = Lib.itoa v := by
  unfold refNum
  constructor
  · intro h
    split at h
    · cases h
    · split at h
      · cases h
      · split at h
        · rename_i h1
          cases h
          exact ⟨h1.1, h1.2.symm⟩
        · cases h
  · rintro ⟨h1, rfl⟩
    have h1' := h1
    unfold inR at h1'
    unfold Lib.itoa
    by_cases h0 : v < 0
    · rw [if_pos h0]
      have hl := dec_len 19 v.natAbs (by omega) (by omega)
      rw [if_neg (by simp; omega)]
      simp only [List.head?_cons, List.tail_cons, if_true]
      rw [refLoop_dec v.natAbs (by omega)]
      have e : refV (45 :: Lib.decDigits v.natAbs) v.natAbs = v := by unfold refV; simp; omega
      simp only [e]
      rw [if_pos ⟨h1, by rw [if_pos h0]⟩]
    · rw [if_neg h0]
      have hl := dec_len 19 v.toNat (by omega) (by omega)
      obtain ⟨c, r, h2, h3, h4⟩ := dec_head v.toNat
      have hh : ¬ (Lib.decDigits v.toNat).head? = some 45 := by
        rw [h2]
        simp
        rintro rfl
        simp at h3
      rw [if_neg (by rw [h2]; rw [h2] at hl; simp at hl ⊢; omega), if_neg hh, refLoop_dec v.toNat (by omega)]
      have e : refV (Lib.decDigits v.toNat) v.toNat = v := by unfold refV; rw [if_neg hh]; omega
      simp only [e]
      rw [if_pos ⟨h1, by rw [if_neg h0]⟩]
theorem ref_prog (l : List UInt8) : refNum l = numP l := by
  cases h : numP l with
  | some v => exact (refNum_iff l v).2 ((numP_iff l v).1 h)
  | none =>
    cases h' : refNum l with
    | none => rfl
    | some v => rw [(numP_iff l v).2 ((refNum_iff l v).1 h')] at h; cases h
end Go.Proofs.YtblkcnmecfppnaaDoor
/-
 The digits of money: the plain law.
-/
namespace Go.Proofs.YtblkcnmecfppnaaDoor
/-- A number's digits, so many at least. -/
def wholeL (u least : Nat) : List UInt8 := if h : u = 0 ∧ least = 0 then [] else wholeL (u / 10) (least - 1) ++ [UInt8.ofNat (48 + u % 10)]
termination_by u + least
decreasing_by omega
theorem whole_nil : wholeL 0 0 = [] := by rw [wholeL, dif_pos ⟨rfl, rfl⟩]
theorem whole_step {u least : Nat} (h : ¬ (u = 0 ∧ least = 0)) : wholeL u least = wholeL (u / 10) (least - 1) ++ [UInt8.ofNat (48 + u % 10)] := by rw [wholeL, dif_neg h]
theorem whole_pos {v : Nat} (h : v ≠ 0) : wholeL v 0 = wholeL v 1 := by rw [whole_step (by omega), whole_step (u := v) (least := 1) (by omega)]
theorem dec_whole (u : Nat) : Lib.decDigits u = wholeL u 1 := by
 induction u using Nat.strongRecOn with
 | _ u ih =>
  by_cases h : u < 10
  ·rw [dec_lt u h, whole_step (by omega), show u / 10 = 0 by omega, show (1 - 1 : Nat) = 0 from rfl, whole_nil, show u % 10 = u by omega]; rfl
  ·rw [dec_ge u h, whole_step (u := u) (least := 1) (by omega), ih (u / 10) (by omega), show (1 - 1 : Nat) = 0 from rfl, whole_pos (by omega)]
theorem dec_len_pos (u : Nat) : 1 ≤ (wholeL u 1).length := by rw [whole_step (by omega)]; simp
theorem whole_pad : ∀ (k u : Nat), 1 ≤ k → wholeL u k = List.replicate (k - (wholeL u 1).length) 48 ++ wholeL u 1
 | 0, _, h => by omega
 | 1, u, _ => by rw [show 1 - (wholeL u 1).length = 0 by have := dec_len_pos u; omega]; rfl
 | k + 2, u, _ => by
  rw [whole_step (by omega), show k + 2 - 1 = k + 1 from rfl, whole_pad (k + 1) (u / 10) (by omega)]
  by_cases h : u < 10
  ·rw [show u / 10 = 0 by omega]
   have e0 : wholeL 0 1 = [48] := by rw [whole_step (by omega), show (0 : Nat) / 10 = 0 from rfl, show (1 - 1 : Nat) = 0 from rfl, whole_nil]; rfl
   have eu : wholeL u 1 = [UInt8.ofNat (48 + u % 10)] := by rw [whole_step (by omega), show u / 10 = 0 by omega, show (1 - 1 : Nat) = 0 from rfl, whole_nil]; rfl
   rw [e0, eu]
   simp only [List.length_singleton, Nat.add_sub_cancel, show k + 2 - 1 = k + 1 from rfl]
   rw [List.replicate_succ']
  ·have e1 : wholeL u 1 = wholeL (u / 10) 1 ++ [UInt8.ofNat (48 + u % 10)] := by rw [whole_step (u := u) (least := 1) (by omega), show (1 - 1 : Nat) = 0 from rfl, whole_pos (by omega)]
   rw [e1]
   simp only [List.length_append, List.length_singleton]
   rw [show k + 2 - ((wholeL (u / 10) 1).length + 1) = k + 1 - (wholeL (u / 10) 1).length by omega, List.append_assoc]
theorem whole_two (u : Nat) : wholeL u 3 = wholeL (u / 100) 1 ++ wholeL (u % 100) 2 := by
 rw [whole_step (u := u) (by omega), whole_step (u := u / 10) (by omega), whole_step (u := u % 100) (by omega), whole_step (u := u % 100 / 10) (by omega)]
 simp only [show (3 - 1 : Nat) = 2 from rfl, show (2 - 1 : Nat) = 1 from rfl, show (1 - 1 : Nat) = 0 from rfl]
 rw [show u % 100 / 10 / 10 = 0 by omega, whole_nil, show u / 10 / 10 = u / 100 by omega, show u % 100 % 10 = u % 10 by omega, show u % 100 / 10 % 10 = u / 10 % 10 by omega]
 simp
theorem whole_three (u : Nat) : wholeL u 4 = wholeL (u / 1000) 1 ++ wholeL (u % 1000) 3 := by
 rw [whole_step (u := u) (by omega), whole_step (u := u / 10) (by omega), whole_step (u := u / 10 / 10) (by omega), whole_step (u := u % 1000) (by omega), whole_step (u := u % 1000 / 10) (by omega), whole_step (u := u % 1000 / 10 / 10) (by omega)]
 simp only [show (4 - 1 : Nat) = 3 from rfl, show (3 - 1 : Nat) = 2 from rfl, show (2 - 1 : Nat) = 1 from rfl, show (1 - 1 : Nat) = 0 from rfl]
 rw [show u % 1000 / 10 / 10 / 10 = 0 by omega, whole_nil, show u / 10 / 10 / 10 = u / 1000 by omega, show u % 1000 % 10 = u % 10 by omega, show u % 1000 / 10 % 10 = u / 10 % 10 by omega, show u % 1000 / 10 / 10 % 10 = u / 10 / 10 % 10 by omega]
 simp
theorem whole_len : ∀ (k u : Nat), u < 10 ^ k → (wholeL u k).length = k
 | 0, u, h => by
  obtain rfl : u = 0 := by simp at h; omega
  rw [whole_nil]; rfl
 | k + 1, u, h => by
  rw [whole_step (by omega), List.length_append, show k + 1 - 1 = k from rfl, whole_len k (u / 10) (by rw [Nat.pow_succ] at h; omega)]; rfl
/-- A number with so many digits behind the point. -/
def fracL (n u : Nat) : List UInt8 := if n = 0 then wholeL u 1 else wholeL (u / 10 ^ n) 1 ++ 46 :: wholeL (u % 10 ^ n) n
/-- The program's way: filled up with zeros, and cut. -/
theorem frac_cut (n u : Nat) (hn : n = 2 ∨ n = 3) : fracL n u = (wholeL u (n + 1)).take ((wholeL u (n + 1)).length - n) ++ 46 :: (wholeL u (n + 1)).drop ((wholeL u (n + 1)).length - n) := by
 have key : wholeL u (n + 1) = wholeL (u / 10 ^ n) 1 ++ wholeL (u % 10 ^ n) n := by
  rcases hn with rfl | rfl
  ·exact whole_two u
  ·exact whole_three u
 have hl : (wholeL (u % 10 ^ n) n).length = n := whole_len _ _ (Nat.mod_lt _ (Nat.pow_pos (by omega)))
 rw [key, List.length_append, hl, Nat.add_sub_cancel, List.take_left, List.drop_left]
 unfold fracL
 rw [if_neg (by omega)]
end Go.Proofs.YtblkcnmecfppnaaDoor
/-
  strconv.Itoa and strconv.FormatUint at base 10, at this program's numbers: the digits, over abstract values.
-/
namespace Go.Proofs.YtblkcnmecfppnaaDoor
open Go.Shelf Go.RowKit
set_option maxRecDepth 100000

def laysM171_ren : Go.Shelf.Ren := ⟨fun | 171 => 37 | 243 => 53 | 246 => 66 | 283 => 74 | 284 => 75 | 285 => 76 | 286 => 77 | 129 => 84 | 317 => 83 | 318 => 85 | 319 => 86 | 320 => 87 | 337 => 89 | 338 => 90 | n => n, fun | 3 => 3 | 9 => 9 | 2 => 2 | 4 => 4 | 171 => 92 | 0 => 0 | 53 => 69 | 37 => 76 | 5 => 5 | 173 => 95 | 212 => 106 | 51 => 97 | 20 => 20 | 213 => 107 | 46 => 85 | 232 => 112 | 233 => 113 | n => n, fun | 17 => 2 | 18 => 4 | 19 => 5 | n => n⟩
theorem laysM171 : Go.Proofs.LaysM.n171 Tryd.prog laysM171_ren := {
  mixed := by kernel_rfl
  f129 := Tryd.func84.trans (congrArg some (by kernel_rfl))
  f171 := Tryd.func37.trans (congrArg some (by kernel_rfl))
  f243 := Tryd.func53.trans (congrArg some (by kernel_rfl))
  f246 := Tryd.func66.trans (congrArg some (by kernel_rfl))
  f283 := Tryd.func74.trans (congrArg some (by kernel_rfl))
  f284 := Tryd.func75.trans (congrArg some (by kernel_rfl))
  f285 := Tryd.func76.trans (congrArg some (by kernel_rfl))
  f286 := Tryd.func77.trans (congrArg some (by kernel_rfl))
  f317 := Tryd.func83.trans (congrArg some (by kernel_rfl))
  f318 := Tryd.func85.trans (congrArg some (by kernel_rfl))
  f319 := Tryd.func86.trans (congrArg some (by kernel_rfl))
  f320 := Tryd.func87.trans (congrArg some (by kernel_rfl))
  f337 := Tryd.func89.trans (congrArg some (by kernel_rfl))
  f338 := Tryd.func90.trans (congrArg some (by kernel_rfl))
  t0 := Tryd.underlying0
  a0 := Tryd.isAgg0
  z0 := Tryd.sizeOf0
  v0 := Tryd.zeroValue0
  t2 := Tryd.underlying2
  a2 := Tryd.isAgg2
  z2 := Tryd.sizeOf2
  v2 := Tryd.zeroValue2
  t3 := Tryd.underlying3
  a3 := Tryd.isAgg3
  z3 := Tryd.sizeOf3
  v3 := Tryd.zeroValue3
  t4 := Tryd.underlying4
  a4 := Tryd.isAgg4
  z4 := Tryd.sizeOf4
  v4 := Tryd.zeroValue4
  t5 := Tryd.underlying5
  a5 := Tryd.isAgg5
  z5 := Tryd.sizeOf5
  v5 := Tryd.zeroValue5
  t9 := Tryd.underlying9
  a9 := Tryd.isAgg9
  z9 := Tryd.sizeOf9
  v9 := Tryd.zeroValue9
  t20 := Tryd.underlying20
  a20 := Tryd.isAgg20
  z20 := Tryd.sizeOf20
  v20 := Tryd.zeroValue20
  t37 := Tryd.underlying76
  a37 := Tryd.isAgg76
  z37 := Tryd.sizeOf76
  v37 := Tryd.zeroValue76
  t46 := Tryd.underlying85
  a46 := Tryd.isAgg85
  z46 := Tryd.sizeOf85
  v46 := Tryd.zeroValue85
  t51 := Tryd.underlying97
  a51 := Tryd.isAgg97
  z51 := Tryd.sizeOf97
  v51 := Tryd.zeroValue97
  t53 := Tryd.underlying69
  a53 := Tryd.isAgg69
  z53 := Tryd.sizeOf69
  v53 := Tryd.zeroValue69
  t171 := Tryd.underlying92
  a171 := Tryd.isAgg92
  z171 := Tryd.sizeOf92
  v171 := Tryd.zeroValue92
  t173 := Tryd.underlying95
  a173 := Tryd.isAgg95
  z173 := Tryd.sizeOf95
  v173 := Tryd.zeroValue95
  t212 := Tryd.underlying106
  a212 := Tryd.isAgg106
  z212 := Tryd.sizeOf106
  v212 := Tryd.zeroValue106
  t213 := Tryd.underlying107
  a213 := Tryd.isAgg107
  z213 := Tryd.sizeOf107
  t232 := Tryd.underlying112
  a232 := Tryd.isAgg112
  z232 := Tryd.sizeOf112
  v232 := Tryd.zeroValue112
  t233 := Tryd.underlying113
  a233 := Tryd.isAgg113
  z233 := Tryd.sizeOf113
  v233 := Tryd.zeroValue113
  g17 := by kernel_rfl
  g18 := by kernel_rfl
  g19 := by kernel_rfl
  i0 := by kernel_rfl
  i2 := by kernel_rfl
  i3 := by kernel_rfl
  i4 := by kernel_rfl
  i5 := by kernel_rfl
  i9 := by kernel_rfl
  i20 := by kernel_rfl
  i37 := by kernel_rfl
  i46 := by kernel_rfl
  i51 := by kernel_rfl
  i53 := by kernel_rfl
  i171 := by kernel_rfl
  i173 := by kernel_rfl
  i212 := by kernel_rfl
  i232 := by kernel_rfl
  i233 := by kernel_rfl
  m17 := by kernel_rfl
  m18 := by kernel_rfl
  m19 := by kernel_rfl }

theorem below_grow (w : World) (k : Nat) (os : Array Obj) : Below w.heap.size w (Sort.grow (w.drewN k) os) :=
  ⟨rfl, rfl, rfl, by simp [Sort.grow, World.drewN], fun j hj => by
    show ((w.drewN k).heap ++ os)[j]? = _
    rw [Array.getElem?_append_left (by exact hj)]
    rfl⟩
theorem tab_of_glob {pub : Pub} {w : World} (h : GlobOk pub w) : Lib.TabIs Tryd.prog w "internal/strconv.uint64pow10" .u64 Lib.pow10Tab := by
  obtain ⟨t, fz, hb⟩ := h.block (g := 2) (by show 0 < 20; omega)
  have hg : Tryd.prog.globalNamed "internal/strconv.uint64pow10" = some 2 := by kernel_rfl
  unfold Lib.TabIs World.var?
  rw [hg]
  simp only [Option.bind_some]
  rw [hb]
  rfl
def itoS (n : Int) : ByteArray := ⟨(Lib.itoa n).toArray⟩
def ItoC (ito : Int → ByteArray) : Ctr := spec (fun n : Int => [.i n]) (fun _ => []) (fun n => -9223372036854775808 ≤ n ∧ n ≤ 9223372036854775807) (fun n => .str (ito n)) fun _ => []
theorem k_itoa : FnOk Tryd.prog 37 (ItoC itoS) := fn_add fun n hp pub w vals hf hg hv => by
  obtain ⟨u, us', hl, h1, h2⟩ := hv.cons_inv
  have h3 := h2.nil_inv
  subst h3
  cases h1
  have h4 : vals = #[.int .i64 n] := Array.toList_inj.1 (by simpa using hl)
  subst h4
  refine (Any.strconv_Itoa laysM171 n hp.1 hp.2 w (tab_of_glob hg)).mono fun e w' ⟨he, k, os, hw⟩ => ?_
  subst hw
  exact AddPost.plain he (below_grow w k os) hf (.str _)

open Go.Sort Go.Lib in
set_option maxHeartbeats 6400000 in
theorem formatUint_in (n : Nat) (hn : n < 18446744073709551616) (w : World) (htab : Lib.TabIs Tryd.prog w "internal/strconv.uint64pow10" .u64 Lib.pow10Tab) :
    Calls Tryd.prog 67 #[.int .u64 n, .int .i64 10] w fun e w' => e = .returned (.string ⟨(Lib.decDigits n).toArray⟩) ∧ ∃ k os, w' = grow (w.drewN k) os := by
  have L := laysM171
  have L283 : Go.Proofs.Lays.n283 Tryd.prog laysM171_ren := { L with }
  have L284 : Go.Proofs.LaysM.n284 Tryd.prog laysM171_ren := { L with }
  have L285 : Go.Proofs.Lays.n285 Tryd.prog laysM171_ren := { L with }
  by_cases hs : n < 100
  · go_enter Tryd.func67, Tryd.ntmps67
    go_wp2_with (go_at_call 74; refine (Any.internal_strconv_small L283 n hs _).mono ?_; rintro e w' ⟨rfl, rfl⟩)
    go_ret
    refine ⟨?_, 0, #[], by simp [World.drewN_zero]⟩
    rfl
  · have hu1 : 1 ≤ n := by omega
    have hnd20 : Lib.nDigits n ≤ 20 := by have := Lib.numDigits_eq n hu1 hn; split at this <;> omega
    have hal : Tryd.prog.arrayLen 92 = 24 := by kernel_rfl
    have hsl1 : ∀ W, (Instr.sliceAt 92 (.pointer (some ⟨w.heap.size, 0, none⟩)) none (some (.int .i64 (Lib.nDigits n : Int))) none).run Tryd.prog W = .ok (.slice (some ⟨w.heap.size, 0, none⟩) (Lib.nDigits n) 24) W := fun W => by
      rw [run_sliceAt_array_h W 92 ⟨w.heap.size, 0, none⟩ (by simp [Program.arrayLen, Program.elem, Tryd.underlying92]) .i64 (Lib.nDigits n : Int) (by omega) (by rw [hal]; omega)]
      go_simp
    have hH0 := Lib.holds_zero0 w 92 (Lib.nDigits n) (by omega)
    have hfmt := Any.internal_strconv_formatBase10 L285 w.heap.size 0 24 n (Array.replicate (Lib.nDigits n) 0) (w.alloc (.cells Lib.zeros24 92)) hH0 (by rw [Array.size_replicate]; exact Lib.lt_pow_nDigits n) hn (by rw [Array.size_replicate]; omega)
    rw [Array.size_replicate] at hfmt
    have HH0 := Lib.hid hH0
    clear hH0 hal
    go_enter Tryd.func67, Tryd.ntmps67
    go_wp2_with (first
      | (go_at_call 75; refine (Any.internal_strconv_numDigits L284 n hu1 hn _ (Lib.tabIs_alloc htab _)).mono ?_; rintro e w' ⟨rfl, rfl⟩))
    go_at_call 76
    refine hfmt.mono ?_
    rintro e w' ⟨rfl, k, v', dk, rfl, hF⟩
    have hcv : (convert 76 9 (.slice (some ⟨w.heap.size, 0, none⟩) (Lib.nDigits n) 24)).run Tryd.prog ((putRow (fun (b : UInt8) => Value.int .u8 (b.toNat : Int)) (w.alloc (.cells Lib.zeros24 92)) w.heap.size 0 dk).drewN k) = .ok (.string ⟨(Lib.decDigits n).toArray⟩) ((putRow (fun (b : UInt8) => Value.int .u8 (b.toNat : Int)) (w.alloc (.cells Lib.zeros24 92)) w.heap.size 0 dk).drewN k) := by
      have h := run_convert_bytes_back (P := Tryd.prog) ((putRow (fun (b : UInt8) => Value.int .u8 (b.toNat : Int)) (w.alloc (.cells Lib.zeros24 92)) w.heap.size 0 dk).drewN k) 76 9 5 ⟨w.heap.size, 0, none⟩ 24 (Lib.decDigits n) Tryd.underlying76 Tryd.underlying5 Tryd.underlying9 (fun j hj => by
        rw [Lib.row_is_numeral hF j hj, Lib.add_plain, World.cell?_drewN]
        exact cell?_putRow (fun (b : UInt8) => Value.int .u8 (b.toNat : Int)) _ w.heap.size 0 _ dk HH0.out (by rw [hF.size, Array.size_replicate]) j (by rw [hF.size]; rw [Lib.decDigits_length] at hj; exact hj))
      rw [Lib.decDigits_length] at h
      exact h
    go_wp2
    go_ret
    obtain ⟨os, eo⟩ := Lib.fin_at w (.cells Lib.zeros24 92) dk k 0
    exact ⟨rfl, k, os, eo⟩
theorem formatUint_any (n : Nat) (hn : n < 18446744073709551616) (w : World) (htab : Lib.TabIs Tryd.prog w "internal/strconv.uint64pow10" .u64 Lib.pow10Tab) :
    Calls Tryd.prog 55 #[.int .u64 n, .int .i64 10] w fun e w' => e = .returned (.string ⟨(Lib.decDigits n).toArray⟩) ∧ ∃ k os, w' = Sort.grow (w.drewN k) os := by
  go_enter Tryd.func55, Tryd.ntmps55
  go_wp2_with (go_at_call 67; refine (formatUint_in n hn _ htab).mono ?_; rintro e w' ⟨rfl, k, os, rfl⟩)
  go_ret
  exact ⟨rfl, k, os, rfl⟩
def FmtC : Ctr := spec (fun n : Nat => [.int .u64 n, .i 10]) (fun _ => []) (fun n => n < 18446744073709551616) (fun n => .str ⟨(wholeL n 1).toArray⟩) fun _ => []
theorem k_fmtUint : FnOk Tryd.prog 55 FmtC := fn_add fun n hp pub w vals hf hg hv => by
  obtain ⟨u, us', hl, h1, h2⟩ := hv.cons_inv
  obtain ⟨u2, us2, hl2, h12, h22⟩ := h2.cons_inv
  have h3 := h22.nil_inv
  subst h3
  cases h1
  cases h12
  subst hl2
  have h4 : vals = #[.int .u64 n, .int .i64 10] := Array.toList_inj.1 (by simpa using hl)
  subst h4
  refine (formatUint_any n hp w (tab_of_glob hg)).mono fun e w' ⟨he, k, os, hw⟩ => ?_
  subst hw
  rw [dec_whole] at he
  exact AddPost.plain he (below_grow w k os) hf (.str _)
end Go.Proofs.YtblkcnmecfppnaaDoor
/-
 post.Fields.
-/
namespace Go.Proofs.YtblkcnmecfppnaaDoor
open Go.RowKit
set_option maxHeartbeats 4000000
set_option maxRecDepth 100000
def MonC (mon : ByteArray → Int → ByteArray) : Ctr := spec (fun q : ByteArray × Int => [.agg [.str q.1, .i q.2]]) (fun _ => []) (fun _ => True) (fun q => .str (mon q.1 q.2)) fun _ => []
theorem mayB_facts {l : Lt} (h : mayB l = true) : (0 ≤ l.number ∧ l.number ≤ 1048576) ∧ (0 ≤ l.ack ∧ l.ack ≤ 1048576) ∧ (-1 ≤ l.index ∧ l.index ≤ 2) ∧ (0 ≤ l.day ∧ l.day ≤ 1048576) ∧ l.docs.length ≤ 8 ∧ l.boxes.length ≤ 32 := by
 simp only [mayB, fromB, Bool.and_eq_true, decide_eq_true_eq] at h
 omega
def recB (frm to i1 kn i2 deal text party i3 i4 mo : ByteArray) : List Fd := [⟨⟨#[102, 114, 111, 109]⟩, frm⟩, ⟨⟨#[116, 111]⟩, to⟩, ⟨⟨#[110, 117, 109, 98, 101, 114]⟩, i1⟩, ⟨⟨#[107, 105, 110, 100]⟩, kn⟩, ⟨⟨#[97, 99, 107]⟩, i2⟩, ⟨⟨#[100, 101, 97, 108]⟩, deal⟩, ⟨⟨#[116, 101, 120, 116]⟩, text⟩, ⟨⟨#[112, 97, 114, 116, 121]⟩, party⟩, ⟨⟨#[105, 110, 100, 101, 120]⟩, i3⟩, ⟨⟨#[100, 97, 121]⟩, i4⟩, ⟨⟨#[115, 117, 109]⟩, mo⟩]
def docF (d : Dc) : Fd := ⟨⟨#[100, 111, 99]⟩, ⟨(docS d).toArray⟩⟩
def boxF (s : ByteArray) : Fd := ⟨⟨#[98, 111, 120]⟩, s⟩
def fieldsL (ito : Int → ByteArray) (mon : ByteArray → Int → ByteArray) (l : Lt) : List Fd := if mayB l then recB l.frm l.to (ito l.number) (kindN l.kind) (ito l.ack) l.deal l.text l.party (ito l.index) (ito l.day) (mon l.cur l.amt) ++ l.docs.map docF ++ l.boxes.map boxF else []
theorem fields_body (P : Program) (ito : Int → ByteArray) (mon : ByteArray → Int → ByteArray) (hm : FnOk P 8 (LtP mayB)) (hN : FnOk P 15 NameC) (hI : FnOk P 37 (ItoC ito)) (hM : FnOk P 38 (MonC mon)) (hD : FnOk P 39 DocC) : BodyOk P x11 (FieldsC (fieldsL ito mon)) := by
 intro args H K hc
 obtain ⟨l, rfl, rfl, hp, hK⟩ := hc
 refine ⟨Nat.le_of_ble_eq_true rfl, ?_⟩
 dsimp only at hK ⊢
 obtain ⟨b, hb⟩ : ∃ b, b = mayB l := ⟨_, rfl⟩
 obtain ⟨frm, to, number, kind, ack, deal, text, party, index, day, cur, amt, docs, boxes⟩ := l
 cbv
 refine callG_spec0 hm ⟨frm, to, number, kind, ack, deal, text, party, index, day, cur, amt, docs, boxes⟩ hp rfl rfl rfl ?_
 rw [← hb]
 obtain ⟨i1, hi1⟩ : ∃ s, s = ito number := ⟨_, rfl⟩
 obtain ⟨i2, hi2⟩ : ∃ s, s = ito ack := ⟨_, rfl⟩
 obtain ⟨i3, hi3⟩ : ∃ s, s = ito index := ⟨_, rfl⟩
 obtain ⟨i4, hi4⟩ : ∃ s, s = ito day := ⟨_, rfl⟩
 obtain ⟨kn, hkn⟩ : ∃ s, s = kindN kind := ⟨_, rfl⟩
 obtain ⟨mo, hmo⟩ : ∃ s, s = mon cur amt := ⟨_, rfl⟩
 cases b
 ·have hK0 : K (.sl 2 (mapA FdA [])) [] := by unfold fieldsL at hK; rw [← hb] at hK; exact hK
  cbv
  exact FinK.mk ⟨_, Gh.refl _, .inl (CutK.val rfl (by repeat' (first | exact LeL.nil | exact LeL0.nil | exact LeH.nil | exact LeE.refl _ | exact Le.refl _ | exact Le0.one (.refl _) | exact Le0.one (.nil _) | exact Le1.refl _ | exact Le1.nil _ | refine LeH.cons ?_ ?_ | refine LeE.row ?_ | refine LeE.blk ?_ | refine LeL0.cons ?_ ?_ | refine LeL.cons ?_ ?_ | refine Le0.agg ?_ | refine Le.tup ?_ | exact Le.one (.one (.nil _)) | refine Le.one (.agg ?_))) hK0)⟩
 ·obtain ⟨f1, f2, f3, f4, f5, f6⟩ := mayB_facts hb.symm
  dsimp only at f1 f2 f3 f4 f5 f6
  cbv
  refine callG_spec0 hI number (by omega) rfl rfl rfl ?_
  rw [← hi1]
  cbv
  refine callG_spec0 hN kind trivial rfl rfl rfl ?_
  rw [← hkn]
  cbv
  refine callG_spec0 hI ack (by omega) rfl rfl rfl ?_
  rw [← hi2]
  cbv
  refine callG_spec0 hI index (by omega) rfl rfl rfl ?_
  rw [← hi3]
  cbv
  refine callG_spec0 hI day (by omega) rfl rfl rfl ?_
  rw [← hi4]
  cbv
  refine callG_spec0 hM (cur, amt) trivial rfl rfl rfl ?_
  try dsimp only
  rw [← hmo]
  cbv; repeat' ((first | refine .k fun z hz => ?_ | fail) <;> cbv)
  have hl1 := mapA_len DcA docs
  have hK1 : K (.sl 2 (mapA FdA (recB frm to i1 kn i2 deal text party i3 i4 mo ++ docs.map docF ++ boxes.map boxF))) [] := by
   unfold fieldsL at hK
   rw [← hb] at hK
   dsimp only at hK
   rw [← hi1, ← hi2, ← hi3, ← hi4, ← hkn, ← hmo] at hK
   exact hK
  clear hK
  obtain ⟨B, hB⟩ : ∃ B, B = recB frm to i1 kn i2 deal text party i3 i4 mo := ⟨_, rfl⟩
  refine xloopV [1] (fun q : { q : Nat × List Fd // q.1 ≤ docs.length ∧ q.2 = B ++ (docs.take q.1).map docF } => [(56, .i (nI q.1.1)), (3, .hd 1)]) (fun q => [.blk 27 [.str frm, .str to, .i number, .i kind, .i ack, .str deal, .str text, .str party, .i index, .i day, .str cur, .i amt, .sl 4 (mapA DcA docs), .sl 1 (mapA .str boxes)], .row 43 2 (mapA FdA q.1.2)]) (fun q => lft 9 q.1.1) ⟨(0, recB frm to i1 kn i2 deal text party i3 i4 mo), Nat.zero_le _, by rw [hB]; simp⟩ ?_
  rintro ⟨⟨k, L⟩, hk, hL⟩
  dsimp only at hk hL ⊢
  cbv; repeat' ((first | refine .mk (fun h => ?_) fun h => ?_ | refine .k fun z hz => ?_ | fail) <;> cbv)
  ·refine askEl_int (by ((try simp only [vn] at *) <;> omega)) (by ((try simp only [vn] at *) <;> omega)) fun i x hi hx => ?_
   obtain rfl : k = i := by ((try simp only [vn] at *) <;> omega)
   have hxs : NamesS x.fields := hp.docs.each x (List.mem_of_getElem? hx)
   have hkl : k < docs.length := (List.getElem?_eq_some_iff.1 hx).1
   have hnx : B ++ (docs.take (k + 1)).map docF = L ++ [docF x] := by rw [hL, List.take_add_one, hx]; simp
   obtain ⟨t, ht⟩ : ∃ t, t = docS x := ⟨_, rfl⟩
   obtain ⟨c, hcc⟩ : ∃ c, c = docC x := ⟨_, rfl⟩
   have hfx : docF x = ⟨⟨#[100, 111, 99]⟩, ⟨t.toArray⟩⟩ := by rw [ht]; rfl
   rw [hfx] at hnx
   clear hx hfx
   obtain ⟨k1, n1, is1, fs1⟩ := x
   have hLl : L.length ≤ 30 := by rw [hL, hB]; simp [recB]; omega
   have hLl2 := mapA_len FdA L
   cbv
   refine callG_spec0 hD ⟨k1, n1, is1, fs1⟩ hxs rfl rfl rfl ?_
   try dsimp only
   rw [← ht, ← hcc]
   cbv; repeat' ((first | refine .k fun z hz => ?_ | refine .zl fun zs hzs hzl => ?_ | fail) <;> cbv)
   obtain rfl : zs = mapA FdA (L ++ [(⟨⟨#[100, 111, 99]⟩, ⟨t.toArray⟩⟩ : Fd)]) := by (rw [mapA_app, mapA_one]; first | exact hzs | (subst_vars; rfl))
   obtain rfl : z = nI (k + 1) := by ((try simp only [vn] at *) <;> omega)
   exact roundV ⟨(k + 1, L ++ [⟨⟨#[100, 111, 99]⟩, ⟨t.toArray⟩⟩]), hkl, hnx.symm⟩ (lft_lt (by ((try simp only [vn] at *) <;> omega)))
  have hke : k = docs.length := by ((try simp only [vn] at *) <;> omega)
  have hL2 : L = B ++ docs.map docF := by rw [hL, hke, List.take_length]
  have hLl : L.length ≤ 30 := by rw [hL2, hB]; simp [recB]; omega
  clear hL hke hk
  have hl2 := mapA_len AV.str boxes
  refine xloopV [1] (fun q : { q : Nat × List Fd // q.1 ≤ boxes.length ∧ q.2 = L ++ (boxes.take q.1).map boxF } => [(74, .i (nI q.1.1)), (3, .hd 1)]) (fun q => [.blk 27 [.str frm, .str to, .i number, .i kind, .i ack, .str deal, .str text, .str party, .i index, .i day, .str cur, .i amt, .sl 4 (mapA DcA docs), .sl 1 (mapA .str boxes)], .row 43 2 (mapA FdA q.1.2)]) (fun q => lft 33 q.1.1) ⟨(0, L), Nat.zero_le _, by simp⟩ ?_
  rintro ⟨⟨k, M⟩, hk, hM⟩
  dsimp only at hk hM ⊢
  cbv; repeat' ((first | refine .mk (fun h => ?_) fun h => ?_ | fail) <;> cbv)
  ·refine askEl_int (by ((try simp only [vn] at *) <;> omega)) (by ((try simp only [vn] at *) <;> omega)) fun i x hi hx => ?_
   obtain rfl : k = i := by ((try simp only [vn] at *) <;> omega)
   have hkl : k < boxes.length := (List.getElem?_eq_some_iff.1 hx).1
   have hnx : L ++ (boxes.take (k + 1)).map boxF = M ++ [⟨⟨#[98, 111, 120]⟩, x⟩] := by rw [hM, List.take_add_one, hx]; simp [boxF]
   clear hx
   have hMl : M.length ≤ 70 := by rw [hM]; simp; omega
   have hMl2 := mapA_len FdA M
   cbv; repeat' ((first | refine .k fun z hz => ?_ | refine .zl fun zs hzs hzl => ?_ | fail) <;> cbv)
   obtain rfl : zs = mapA FdA (M ++ [(⟨⟨#[98, 111, 120]⟩, x⟩ : Fd)]) := by (rw [mapA_app, mapA_one]; first | exact hzs | (subst_vars; rfl))
   obtain rfl : z = nI (k + 1) := by ((try simp only [vn] at *) <;> omega)
   exact roundV ⟨(k + 1, M ++ [⟨⟨#[98, 111, 120]⟩, x⟩]), hkl, hnx.symm⟩ (lft_lt (by ((try simp only [vn] at *) <;> omega)))
  have hke : k = boxes.length := by ((try simp only [vn] at *) <;> omega)
  have hM2 : M = recB frm to i1 kn i2 deal text party i3 i4 mo ++ docs.map docF ++ boxes.map boxF := by rw [hM, hke, List.take_length, hL2, hB]
  rw [← hM2] at hK1
  refine FinK.mk ⟨_, Gh.plain 1 rfl, ?_⟩
  cbv
  exact .inl (CutK.val rfl (Le.refl _) hK1)
end Go.Proofs.YtblkcnmecfppnaaDoor
/-
  Functions of the program as code on abstract values (printed by xgen.sh).
-/
namespace Go.Proofs.YtblkcnmecfppnaaDoor
def x57 : XFn := ⟨125, .seq (.reg [(zs 4 (.mov (.c (.str ⟨#[]⟩))))]) (.seq (.seq (.reg [(zm 11 1)]) (.block 0 (.seq (.reg [(zs 13 (.cmp .eql (.t 11) (.c (.int .i64 0)))), (zm 12 13)]) (.cond (.t 12) (.seq (.reg [(zs 4 (.mov (.c (.str ⟨#[]⟩))))]) .ret) (.seq (.reg [(zs 15 (.cmp .eql (.t 11) (.c (.int .i64 1)))), (zm 14 15)]) (.cond (.t 14) (.seq (.reg [(zm 16 0), (zm 4 16)]) .ret) .skip)))))) (.seq (.seq (.reg [(zm 17 1), (zs 18 (.cmp .lss (.t 17) (.c (.int .i64 0))))]) (.cond (.t 18) (.reg [(zs 19 (.bad)), (zn (.bad))]) .skip)) (.seq (.reg [(zm 21 0), (zs 22 (.lens (.t 21))), (zs 23 (.cvi .u64 (.t 22))), (zm 24 1), (zs 25 (.cvi .u64 (.t 24))), (zs 26 (.call 68 [.t 23, .t 25])), (zm 20 26), (zs 27 (.ext (.t 20) 0)), (zs 28 (.ext (.t 20) 1)), (zm 5 27), (zm 6 28)]) (.seq (.seq (.reg [(zm 29 5), (zs 30 (.cmp .gtr (.t 29) (.c (.int .u64 0)))), (zm 31 30), (zh 32 31 false 6), (zg 33 31 false (.cmp .gtr (.t 32) (.c (.int .u64 9223372036854775807)))), (zs 34 (.pick (.t 31) (.c (.bl true)) (.t 33)))]) (.cond (.t 34) (.reg [(zs 35 (.bad)), (zn (.bad))]) .skip)) (.seq (.reg [(zm 36 6), (zs 37 (.cvi .i64 (.t 36))), (zm 7 37)]) (.seq (.seq (.reg [(zm 38 0), (zs 39 (.lens (.t 38))), (zs 40 (.cmp .eql (.t 39) (.c (.int .i64 0))))]) (.cond (.t 40) (.seq (.reg [(zs 4 (.mov (.c (.str ⟨#[]⟩))))]) .ret) .skip)) (.seq (.seq (.reg [(zm 41 0), (zs 42 (.idx (.t 41) (.c (.int .i64 0))))]) (.block 1 (.seq (.seq (.reg [(zs 44 (.cmp .eql (.t 42) (.c (.int .u8 32)))), (zm 43 44)]) (.cond (.t 43) .skip (.seq (.reg [(zs 45 (.cmp .eql (.t 42) (.c (.int .u8 45)))), (zm 43 45)]) (.cond (.t 43) .skip (.seq (.reg [(zs 46 (.cmp .eql (.t 42) (.c (.int .u8 48)))), (zm 43 46)]) (.cond (.t 43) .skip (.seq (.reg [(zs 47 (.cmp .eql (.t 42) (.c (.int .u8 61)))), (zm 43 47)]) (.cond (.t 43) .skip (.reg [(zs 48 (.cmp .eql (.t 42) (.c (.int .u8 9)))), (zm 43 48)]))))))))) (.cond (.t 43) (.block 2 (.seq (.reg [(zm 50 7), (zs 51 (.cmp .leq (.t 50) (.c (.int .i64 128)))), (zm 52 51), (zh 53 52 true 0), (zg 54 52 true (.call 69 [.c (.str ⟨#[32, 32, 32, 32, 32, 32, 32, 32, 32, 32, 32, 32, 32, 32, 32, 32, 32, 32, 32, 32, 32, 32, 32, 32, 32, 32, 32, 32, 32, 32, 32, 32, 32, 32, 32, 32, 32, 32, 32, 32, 32, 32, 32, 32, 32, 32, 32, 32, 32, 32, 32, 32, 32, 32, 32, 32, 32, 32, 32, 32, 32, 32, 32, 32, 32, 32, 32, 32, 32, 32, 32, 32, 32, 32, 32, 32, 32, 32, 32, 32, 32, 32, 32, 32, 32, 32, 32, 32, 32, 32, 32, 32, 32, 32, 32, 32, 32, 32, 32, 32, 32, 32, 32, 32, 32, 32, 32, 32, 32, 32, 32, 32, 32, 32, 32, 32, 32, 32, 32, 32, 32, 32, 32, 32, 32, 32, 32, 32]⟩), .t 53])), (zs 55 (.pick (.t 52) (.t 54) (.c (.bl false)))), (zm 49 55)]) (.cond (.t 49) (.seq (.reg [(zm 56 7), (zs 57 (.sls (.c (.str ⟨#[32, 32, 32, 32, 32, 32, 32, 32, 32, 32, 32, 32, 32, 32, 32, 32, 32, 32, 32, 32, 32, 32, 32, 32, 32, 32, 32, 32, 32, 32, 32, 32, 32, 32, 32, 32, 32, 32, 32, 32, 32, 32, 32, 32, 32, 32, 32, 32, 32, 32, 32, 32, 32, 32, 32, 32, 32, 32, 32, 32, 32, 32, 32, 32, 32, 32, 32, 32, 32, 32, 32, 32, 32, 32, 32, 32, 32, 32, 32, 32, 32, 32, 32, 32, 32, 32, 32, 32, 32, 32, 32, 32, 32, 32, 32, 32, 32, 32, 32, 32, 32, 32, 32, 32, 32, 32, 32, 32, 32, 32, 32, 32, 32, 32, 32, 32, 32, 32, 32, 32, 32, 32, 32, 32, 32, 32, 32, 32]⟩)) none (some (.t 56)))), (zm 4 57)]) .ret) (.seq (.reg [(zm 59 7), (zs 60 (.cmp .leq (.t 59) (.c (.int .i64 128)))), (zm 61 60), (zh 62 61 true 0), (zg 63 61 true (.call 69 [.c (.str ⟨#[45, 45, 45, 45, 45, 45, 45, 45, 45, 45, 45, 45, 45, 45, 45, 45, 45, 45, 45, 45, 45, 45, 45, 45, 45, 45, 45, 45, 45, 45, 45, 45, 45, 45, 45, 45, 45, 45, 45, 45, 45, 45, 45, 45, 45, 45, 45, 45, 45, 45, 45, 45, 45, 45, 45, 45, 45, 45, 45, 45, 45, 45, 45, 45, 45, 45, 45, 45, 45, 45, 45, 45, 45, 45, 45, 45, 45, 45, 45, 45, 45, 45, 45, 45, 45, 45, 45, 45, 45, 45, 45, 45, 45, 45, 45, 45, 45, 45, 45, 45, 45, 45, 45, 45, 45, 45, 45, 45, 45, 45, 45, 45, 45, 45, 45, 45, 45, 45, 45, 45, 45, 45, 45, 45, 45, 45, 45, 45]⟩), .t 62])), (zs 64 (.pick (.t 61) (.t 63) (.c (.bl false)))), (zm 58 64)]) (.cond (.t 58) (.seq (.reg [(zm 65 7), (zs 66 (.sls (.c (.str ⟨#[45, 45, 45, 45, 45, 45, 45, 45, 45, 45, 45, 45, 45, 45, 45, 45, 45, 45, 45, 45, 45, 45, 45, 45, 45, 45, 45, 45, 45, 45, 45, 45, 45, 45, 45, 45, 45, 45, 45, 45, 45, 45, 45, 45, 45, 45, 45, 45, 45, 45, 45, 45, 45, 45, 45, 45, 45, 45, 45, 45, 45, 45, 45, 45, 45, 45, 45, 45, 45, 45, 45, 45, 45, 45, 45, 45, 45, 45, 45, 45, 45, 45, 45, 45, 45, 45, 45, 45, 45, 45, 45, 45, 45, 45, 45, 45, 45, 45, 45, 45, 45, 45, 45, 45, 45, 45, 45, 45, 45, 45, 45, 45, 45, 45, 45, 45, 45, 45, 45, 45, 45, 45, 45, 45, 45, 45, 45, 45]⟩)) none (some (.t 65)))), (zm 4 66)]) .ret) (.seq (.reg [(zm 68 7), (zs 69 (.cmp .leq (.t 68) (.c (.int .i64 64)))), (zm 70 69), (zh 71 70 true 0), (zg 72 70 true (.call 69 [.c (.str ⟨#[48, 48, 48, 48, 48, 48, 48, 48, 48, 48, 48, 48, 48, 48, 48, 48, 48, 48, 48, 48, 48, 48, 48, 48, 48, 48, 48, 48, 48, 48, 48, 48, 48, 48, 48, 48, 48, 48, 48, 48, 48, 48, 48, 48, 48, 48, 48, 48, 48, 48, 48, 48, 48, 48, 48, 48, 48, 48, 48, 48, 48, 48, 48, 48]⟩), .t 71])), (zs 73 (.pick (.t 70) (.t 72) (.c (.bl false)))), (zm 67 73)]) (.cond (.t 67) (.seq (.reg [(zm 74 7), (zs 75 (.sls (.c (.str ⟨#[48, 48, 48, 48, 48, 48, 48, 48, 48, 48, 48, 48, 48, 48, 48, 48, 48, 48, 48, 48, 48, 48, 48, 48, 48, 48, 48, 48, 48, 48, 48, 48, 48, 48, 48, 48, 48, 48, 48, 48, 48, 48, 48, 48, 48, 48, 48, 48, 48, 48, 48, 48, 48, 48, 48, 48, 48, 48, 48, 48, 48, 48, 48, 48]⟩)) none (some (.t 74)))), (zm 4 75)]) .ret) (.seq (.reg [(zm 77 7), (zs 78 (.cmp .leq (.t 77) (.c (.int .i64 128)))), (zm 79 78), (zh 80 79 true 0), (zg 81 79 true (.call 69 [.c (.str ⟨#[61, 61, 61, 61, 61, 61, 61, 61, 61, 61, 61, 61, 61, 61, 61, 61, 61, 61, 61, 61, 61, 61, 61, 61, 61, 61, 61, 61, 61, 61, 61, 61, 61, 61, 61, 61, 61, 61, 61, 61, 61, 61, 61, 61, 61, 61, 61, 61, 61, 61, 61, 61, 61, 61, 61, 61, 61, 61, 61, 61, 61, 61, 61, 61, 61, 61, 61, 61, 61, 61, 61, 61, 61, 61, 61, 61, 61, 61, 61, 61, 61, 61, 61, 61, 61, 61, 61, 61, 61, 61, 61, 61, 61, 61, 61, 61, 61, 61, 61, 61, 61, 61, 61, 61, 61, 61, 61, 61, 61, 61, 61, 61, 61, 61, 61, 61, 61, 61, 61, 61, 61, 61, 61, 61, 61, 61, 61, 61]⟩), .t 80])), (zs 82 (.pick (.t 79) (.t 81) (.c (.bl false)))), (zm 76 82)]) (.cond (.t 76) (.seq (.reg [(zm 83 7), (zs 84 (.sls (.c (.str ⟨#[61, 61, 61, 61, 61, 61, 61, 61, 61, 61, 61, 61, 61, 61, 61, 61, 61, 61, 61, 61, 61, 61, 61, 61, 61, 61, 61, 61, 61, 61, 61, 61, 61, 61, 61, 61, 61, 61, 61, 61, 61, 61, 61, 61, 61, 61, 61, 61, 61, 61, 61, 61, 61, 61, 61, 61, 61, 61, 61, 61, 61, 61, 61, 61, 61, 61, 61, 61, 61, 61, 61, 61, 61, 61, 61, 61, 61, 61, 61, 61, 61, 61, 61, 61, 61, 61, 61, 61, 61, 61, 61, 61, 61, 61, 61, 61, 61, 61, 61, 61, 61, 61, 61, 61, 61, 61, 61, 61, 61, 61, 61, 61, 61, 61, 61, 61, 61, 61, 61, 61, 61, 61, 61, 61, 61, 61, 61, 61]⟩)) none (some (.t 83)))), (zm 4 84)]) .ret) (.seq (.reg [(zm 86 7), (zs 87 (.cmp .leq (.t 86) (.c (.int .i64 64)))), (zm 88 87), (zh 89 88 true 0), (zg 90 88 true (.call 69 [.c (.str ⟨#[9, 9, 9, 9, 9, 9, 9, 9, 9, 9, 9, 9, 9, 9, 9, 9, 9, 9, 9, 9, 9, 9, 9, 9, 9, 9, 9, 9, 9, 9, 9, 9, 9, 9, 9, 9, 9, 9, 9, 9, 9, 9, 9, 9, 9, 9, 9, 9, 9, 9, 9, 9, 9, 9, 9, 9, 9, 9, 9, 9, 9, 9, 9, 9]⟩), .t 89])), (zs 91 (.pick (.t 88) (.t 90) (.c (.bl false)))), (zm 85 91)]) (.cond (.t 85) (.seq (.reg [(zm 92 7), (zs 93 (.sls (.c (.str ⟨#[9, 9, 9, 9, 9, 9, 9, 9, 9, 9, 9, 9, 9, 9, 9, 9, 9, 9, 9, 9, 9, 9, 9, 9, 9, 9, 9, 9, 9, 9, 9, 9, 9, 9, 9, 9, 9, 9, 9, 9, 9, 9, 9, 9, 9, 9, 9, 9, 9, 9, 9, 9, 9, 9, 9, 9, 9, 9, 9, 9, 9, 9, 9, 9]⟩)) none (some (.t 92)))), (zm 4 93)]) .ret) .skip))))))))))) .skip)))) (.seq (.reg [(zm 94 7), (zm 8 94)]) (.seq (.seq (.reg [(zm 95 7), (zs 96 (.cmp .gtr (.t 95) (.c (.int .i64 8192))))]) (.cond (.t 96) (.seq (.reg [(zm 97 0), (zs 98 (.lens (.t 97))), (zs 99 (.ari .quo .i64 (.c (.int .i64 8192)) (.t 98))), (zm 100 0), (zs 101 (.lens (.t 100))), (zs 102 (.ari .mul .i64 (.t 99) (.t 101))), (zm 8 102)]) (.seq (.reg [(zm 103 8), (zs 104 (.cmp .eql (.t 103) (.c (.int .i64 0))))]) (.cond (.t 104) (.reg [(zm 105 0), (zs 106 (.lens (.t 105))), (zm 8 106)]) .skip))) .skip)) (.seq (.reg [(zs 9 (.alloc 78 [.v (.pointer none), .v (.slice none 0 0)]))]) (.seq (.reg [(zm 107 7), (zs 108 (.call 70 [.t 9, .t 107]))]) (.seq (.reg [(zm 109 0), (zs 110 (.call 63 [.t 9, .t 109]))]) (.seq (.block 3 (.loop (.seq (.seq (.reg [(zs 111 (.call 71 [.t 9])), (zm 112 7), (zs 113 (.cmp .lss (.t 111) (.t 112)))]) (.cond (.t 113) .skip (.exit 3))) (.block 4 (.seq (.reg [(zm 114 7), (zs 115 (.call 71 [.t 9])), (zs 116 (.ari .sub .i64 (.t 114) (.t 115))), (zs 117 (.call 71 [.t 9])), (zm 118 8), (zs 119 (.bad)), (zm 10 119)]) (.reg [(zs 120 (.call 65 [.t 9])), (zm 121 10), (zs 122 (.sls (.t 120) none (some (.t 121)))), (zs 123 (.call 63 [.t 9, .t 122]))])))))) (.seq (.reg [(zs 124 (.call 65 [.t 9])), (zm 4 124)]) .ret)))))))))))))), [.tmp 4]⟩
def x68 : XFn := ⟨30, .seq (.reg [(zs 4 (.mov (.c (.int .u64 0)))), (zs 5 (.mov (.c (.int .u64 0))))]) (.seq (.cond (.c (.bl false)) (.seq (.reg [(zm 11 0), (zs 12 (.cvi .u32 (.t 11))), (zm 13 1), (zs 14 (.cvi .u32 (.t 13))), (zs 15 (.call 78 [.t 12, .t 14])), (zm 10 15), (zs 16 (.ext (.t 10) 0)), (zs 17 (.ext (.t 10) 1)), (zm 6 16), (zm 7 17)]) (.seq (.reg [(zm 18 6), (zs 19 (.cvi .u64 (.t 18))), (zm 20 7), (zs 21 (.cvi .u64 (.t 20))), (zm 4 19), (zm 5 21)]) .ret)) .skip) (.seq (.reg [(zm 23 0), (zm 24 1), (zs 25 (.call 79 [.t 23, .t 24])), (zm 22 25), (zs 26 (.ext (.t 22) 0)), (zs 27 (.ext (.t 22) 1)), (zm 8 26), (zm 9 27)]) (.seq (.reg [(zm 28 8), (zm 29 9), (zm 4 28), (zm 5 29)]) .ret))), [.tmp 4, .tmp 5]⟩
def x69 : XFn := ⟨8, .seq (.reg [(zs 4 (.mov (.c (.bl false))))]) (.seq (.reg [(zm 5 0), (zm 6 1), (zs 7 (.call 80 [.t 5, .t 6])), (zm 4 7)]) .ret), [.tmp 4]⟩
def x79 : XFn := ⟨51, .seq (.reg [(zs 4 (.mov (.c (.int .u64 0)))), (zs 5 (.mov (.c (.int .u64 0))))]) (.seq (.reg [(zm 14 0), (zs 15 (.ari .and .u64 (.t 14) (.c (.int .u64 4294967295)))), (zm 6 15)]) (.seq (.reg [(zm 16 0), (zs 17 (.shf .shr .u64 (.t 16) (.c (.int .u64 32)))), (zm 7 17)]) (.seq (.reg [(zm 18 1), (zs 19 (.ari .and .u64 (.t 18) (.c (.int .u64 4294967295)))), (zm 8 19)]) (.seq (.reg [(zm 20 1), (zs 21 (.shf .shr .u64 (.t 20) (.c (.int .u64 32)))), (zm 9 21)]) (.seq (.reg [(zm 22 6), (zm 23 8), (zs 24 (.ari .mul .u64 (.t 22) (.t 23))), (zm 10 24)]) (.seq (.reg [(zm 25 7), (zm 26 8), (zs 27 (.ari .mul .u64 (.t 25) (.t 26))), (zm 28 10), (zs 29 (.shf .shr .u64 (.t 28) (.c (.int .u64 32)))), (zs 30 (.ari .add .u64 (.t 27) (.t 29))), (zm 11 30)]) (.seq (.reg [(zm 31 11), (zs 32 (.ari .and .u64 (.t 31) (.c (.int .u64 4294967295)))), (zm 12 32)]) (.seq (.reg [(zm 33 11), (zs 34 (.shf .shr .u64 (.t 33) (.c (.int .u64 32)))), (zm 13 34)]) (.seq (.reg [(zm 35 12), (zm 36 6), (zm 37 9), (zs 38 (.ari .mul .u64 (.t 36) (.t 37))), (zs 39 (.ari .add .u64 (.t 35) (.t 38))), (zm 12 39)]) (.seq (.reg [(zm 40 7), (zm 41 9), (zs 42 (.ari .mul .u64 (.t 40) (.t 41))), (zm 43 13), (zs 44 (.ari .add .u64 (.t 42) (.t 43))), (zm 45 12), (zs 46 (.shf .shr .u64 (.t 45) (.c (.int .u64 32)))), (zs 47 (.ari .add .u64 (.t 44) (.t 46))), (zm 4 47)]) (.seq (.reg [(zm 48 0), (zm 49 1), (zs 50 (.ari .mul .u64 (.t 48) (.t 49))), (zm 5 50)]) .ret))))))))))), [.tmp 4, .tmp 5]⟩
def x80 : XFn := ⟨18, .seq (.reg [(zs 4 (.mov (.c (.bl false))))]) (.seq (.reg [(zm 5 0), (zs 6 (.lens (.t 5))), (zm 7 1), (zs 8 (.lens (.t 7))), (zs 9 (.cmp .geq (.t 6) (.t 8))), (zm 10 9), (zh 11 10 true 0), (zh 12 10 true 1), (zg 13 10 true (.lens (.t 12))), (zg 14 10 true (.sls (.t 11) none (some (.t 13)))), (zh 15 10 true 1), (zg 16 10 true (.cmp .eql (.t 14) (.t 15))), (zs 17 (.pick (.t 10) (.t 16) (.c (.bl false)))), (zm 4 17)]) .ret), [.tmp 4]⟩
end Go.Proofs.YtblkcnmecfppnaaDoor
/-
 strings.Repeat of the sign 0, up to four times.
-/
namespace Go.Proofs.YtblkcnmecfppnaaDoor
open Go.RowKit
set_option maxHeartbeats 4000000
set_option maxRecDepth 100000
def two4 (k : Nat) : Prop := k = 2 ∨ k = 3 ∨ k = 4
def MulC : Ctr := spec (fun k : Nat => [.int .u64 1, .int .u64 (Int.ofNat k)]) (fun _ => []) two4 (fun k => .tup [.int .u64 0, .int .u64 (Int.ofNat k)]) fun _ => []
theorem mul64_body (P : Program) : BodyOk P x79 MulC := by
 intro args H K hc
 obtain ⟨k, rfl, rfl, hp, hK⟩ := hc
 refine ⟨Nat.le_of_ble_eq_true rfl, ?_⟩
 dsimp only at hK ⊢
 rcases hp with rfl | rfl | rfl
 all_goals
  cbv
  repeat' ((first | (refine ⟨rfl, ?_⟩) | (refine BitK.k fun z hz => ?_; simp [IntKind.wrap, IntKind.bits, IntKind.signed] at hz; subst hz) | (refine ⟨by decide, fun z hz => ?_⟩; simp at hz; subst hz) | first | refine .k fun z hz => ?_ | fail) <;> cbv)
 all_goals
  subst_vars
  exact FinK.mk ⟨_, Gh.refl _, .inl (CutK.val rfl (Le.refl _) (K_of hK (by kernel_rfl)))⟩
theorem mul_body (P : Program) (h : FnOk P 79 MulC) : BodyOk P x68 MulC := by
 intro args H K hc
 obtain ⟨k, rfl, rfl, hp, hK⟩ := hc
 refine ⟨Nat.le_of_ble_eq_true rfl, ?_⟩
 dsimp only at hK ⊢
 cbv
 (refine callG_spec0 h k hp rfl rfl rfl ?_; try dsimp only)
 cbv
 exact FinK.mk ⟨_, Gh.refl _, .inl (CutK.val rfl (Le.refl _) hK)⟩
/-- Does a text begin with another one? -/
def hasB (s p : ByteArray) : Bool := decide (p.size ≤ s.size) && decide (s.extract 0 p.size = p)
def HasC : Ctr := spec (fun c : ByteArray × ByteArray => [.str c.1, .str c.2]) (fun _ => []) (fun _ => True) (fun c => .bl (hasB c.1 c.2)) fun _ => []
theorem hasIn_body (P : Program) : BodyOk P x80 HasC := by
 intro args H K hc
 obtain ⟨⟨s, p⟩, rfl, rfl, _, hK⟩ := hc
 refine ⟨Nat.le_of_ble_eq_true rfl, ?_⟩
 unfold hasB at hK
 dsimp only at hK ⊢
 cbv; repeat' ((first | refine .mk (fun h => ?_) fun h => ?_ | refine .k fun z hz => ?_ | refine .u fun u hu hul => ?_ | fail) <;> cbv)
 ·refine FinK.mk ⟨_, Gh.refl _, .inl (CutK.val rfl (Le.refl _) (K_bl hK ?_))⟩
  have hu' : u = s.extract 0 p.size := by rw [hu, hz]; rfl
  rw [decide_eq_true (by ((try simp only [vn] at *) <;> omega)), decide_eq_true (by rw [← hu', h]), Bool.and_self]
 ·refine FinK.mk ⟨_, Gh.refl _, .inl (CutK.val rfl (Le.refl _) (K_bl hK ?_))⟩
  have hu' : u = s.extract 0 p.size := by rw [hu, hz]; rfl
  rw [← hu', decide_eq_false h, Bool.and_false]
 ·exact FinK.mk ⟨_, Gh.refl _, .inl (CutK.val rfl (Le.refl _) (K_bl hK (by (rw [decide_eq_false (by ((try simp only [vn] at *) <;> omega)), Bool.false_and]))))⟩
theorem has_body (P : Program) (h : FnOk P 80 HasC) : BodyOk P x69 HasC := by
 intro args H K hc
 obtain ⟨⟨s, p⟩, rfl, rfl, _, hK⟩ := hc
 refine ⟨Nat.le_of_ble_eq_true rfl, ?_⟩
 dsimp only at hK ⊢
 obtain ⟨b, hb⟩ : ∃ b, b = hasB s p := ⟨_, rfl⟩
 rw [← hb] at hK
 cbv
 refine callG_spec0 h (s, p) trivial rfl rfl rfl ?_
 rw [← hb]
 cbv
 exact FinK.mk ⟨_, Gh.refl _, .inl (CutK.val rfl (Le.refl _) hK)⟩
def rep0 (k : Nat) : ByteArray := ⟨(List.replicate k 48).toArray⟩
def RepC : Ctr := spec (fun k : Nat => [.str ⟨#[48]⟩, .i (Int.ofNat k)]) (fun _ => []) (fun k => k = 1 ∨ two4 k) (fun k => .str (rep0 k)) fun _ => []
theorem repeat_body (P : Program) (hM : FnOk P 68 MulC) (hH : FnOk P 69 HasC) : BodyOk P x57 RepC := by
 intro args H K hc
 obtain ⟨k, rfl, rfl, hp, hK⟩ := hc
 refine ⟨Nat.le_of_ble_eq_true rfl, ?_⟩
 dsimp only at hK ⊢
 rcases hp with rfl | hp
 ·cbv; repeat' ((first | refine .n fun h => ?_ | refine .y fun h => ?_ | fail) <;> cbv)
  exact FinK.mk ⟨_, Gh.refl _, .inl (CutK.val rfl (Le.refl _) (K_of hK rfl))⟩
 rcases hp with rfl | rfl | rfl
 ·cbv; repeat' ((first | refine .n fun h => ?_ | refine .k fun z hz => ?_ | fail) <;> cbv)
  subst_vars
  refine callG_spec0 hM 2 (.inl rfl) rfl rfl rfl ?_
  cbv; repeat' ((first | refine .n fun h => ?_ | refine .mk (fun h => ?_) fun h => ?_ | refine .k fun z hz => ?_ | refine .o ?_ | fail) <;> cbv)
  ·exfalso; subst hz; cases h
  refine askByte_nI (i := 0) (by decide) fun y hy => ?_
  obtain rfl : y = 48 := hy.trans rfl
  cbv; repeat' ((first | refine .n fun h => ?_ | refine .y fun h => ?_ | fail) <;> cbv)
  all_goals try (exfalso; omega)
  refine callG_spec0 hH (_, _) trivial (by rfl) (by rfl) (by rfl) ?_
  rw [show hasB _ _ = false from by decide +kernel]
  cbv; repeat' ((first | refine .y fun h => ?_ | fail) <;> cbv)
  refine callG_spec0 hH (_, _) trivial (by rfl) (by rfl) (by rfl) ?_
  rw [show hasB _ _ = false from by decide +kernel]
  cbv; repeat' ((first | refine .y fun h => ?_ | fail) <;> cbv)
  all_goals try (exfalso; omega)
  refine callG_spec0 hH (_, _) trivial (by rfl) (by rfl) (by rfl) ?_
  rw [show hasB _ _ = true from by decide +kernel]
  cbv
  refine ⟨by decide +kernel, fun u hu => ?_⟩
  cbv
  exact FinK.mk ⟨_, Gh.refl _, .inl (CutK.val rfl (Le.refl _) (K_of hK (by rw [hu]; rfl)))⟩
 ·cbv; repeat' ((first | refine .n fun h => ?_ | refine .k fun z hz => ?_ | fail) <;> cbv)
  subst_vars
  refine callG_spec0 hM 3 (.inr (.inl rfl)) rfl rfl rfl ?_
  cbv; repeat' ((first | refine .n fun h => ?_ | refine .mk (fun h => ?_) fun h => ?_ | refine .k fun z hz => ?_ | refine .o ?_ | fail) <;> cbv)
  ·exfalso; subst hz; cases h
  refine askByte_nI (i := 0) (by decide) fun y hy => ?_
  obtain rfl : y = 48 := hy.trans rfl
  cbv; repeat' ((first | refine .n fun h => ?_ | refine .y fun h => ?_ | fail) <;> cbv)
  all_goals try (exfalso; omega)
  refine callG_spec0 hH (_, _) trivial (by rfl) (by rfl) (by rfl) ?_
  rw [show hasB _ _ = false from by decide +kernel]
  cbv; repeat' ((first | refine .y fun h => ?_ | fail) <;> cbv)
  refine callG_spec0 hH (_, _) trivial (by rfl) (by rfl) (by rfl) ?_
  rw [show hasB _ _ = false from by decide +kernel]
  cbv; repeat' ((first | refine .y fun h => ?_ | fail) <;> cbv)
  all_goals try (exfalso; omega)
  refine callG_spec0 hH (_, _) trivial (by rfl) (by rfl) (by rfl) ?_
  rw [show hasB _ _ = true from by decide +kernel]
  cbv
  refine ⟨by decide +kernel, fun u hu => ?_⟩
  cbv
  exact FinK.mk ⟨_, Gh.refl _, .inl (CutK.val rfl (Le.refl _) (K_of hK (by rw [hu]; rfl)))⟩
 ·cbv; repeat' ((first | refine .n fun h => ?_ | refine .k fun z hz => ?_ | fail) <;> cbv)
  subst_vars
  refine callG_spec0 hM 4 (.inr (.inr rfl)) rfl rfl rfl ?_
  cbv; repeat' ((first | refine .n fun h => ?_ | refine .mk (fun h => ?_) fun h => ?_ | refine .k fun z hz => ?_ | refine .o ?_ | fail) <;> cbv)
  ·exfalso; subst hz; cases h
  refine askByte_nI (i := 0) (by decide) fun y hy => ?_
  obtain rfl : y = 48 := hy.trans rfl
  cbv; repeat' ((first | refine .n fun h => ?_ | refine .y fun h => ?_ | fail) <;> cbv)
  all_goals try (exfalso; omega)
  refine callG_spec0 hH (_, _) trivial (by rfl) (by rfl) (by rfl) ?_
  rw [show hasB _ _ = false from by decide +kernel]
  cbv; repeat' ((first | refine .y fun h => ?_ | fail) <;> cbv)
  refine callG_spec0 hH (_, _) trivial (by rfl) (by rfl) (by rfl) ?_
  rw [show hasB _ _ = false from by decide +kernel]
  cbv; repeat' ((first | refine .y fun h => ?_ | fail) <;> cbv)
  all_goals try (exfalso; omega)
  refine callG_spec0 hH (_, _) trivial (by rfl) (by rfl) (by rfl) ?_
  rw [show hasB _ _ = true from by decide +kernel]
  cbv
  refine ⟨by decide +kernel, fun u hu => ?_⟩
  cbv
  exact FinK.mk ⟨_, Gh.refl _, .inl (CutK.val rfl (Le.refl _) (K_of hK (by rw [hu]; rfl)))⟩
end Go.Proofs.YtblkcnmecfppnaaDoor
/-
 money.Text; the reference's.
-/
namespace Go.Proofs.YtblkcnmecfppnaaDoor
open Go.RowKit
set_option maxHeartbeats 4000000
set_option maxRecDepth 100000
/-- How many digits a currency has behind the point. -/
def digN (c : ByteArray) : Nat := if c = ⟨#[74, 80, 89]⟩ then 0 else if c = ⟨#[75, 82, 87]⟩ then 0 else if c = ⟨#[66, 72, 68]⟩ then 3 else if c = ⟨#[75, 87, 68]⟩ then 3 else if c = ⟨#[84, 78, 68]⟩ then 3 else 2
def DigC : Ctr := spec (fun c : ByteArray => [.str c]) (fun _ => []) (fun _ => True) (fun c => .i (Int.ofNat (digN c))) fun _ => []
theorem digits_body (P : Program) : BodyOk P x54 DigC := by
 intro args H K hc
 obtain ⟨s, rfl, rfl, hs, hK⟩ := hc
 refine ⟨Nat.le_of_ble_eq_true rfl, ?_⟩
 dsimp only at hK ⊢
 unfold digN at hK
 cbv; repeat' ((first | refine .mk (fun h => ?_) fun h => ?_ | fail) <;> cbv)
 all_goals exact FinK.mk ⟨_, Gh.refl _, .inl (CutK.val rfl (Le.refl _) (K_of hK (by simp only [*, if_true, if_false]; try rfl)))⟩
theorem rdigits_body (P : Program) : BodyOk P x58 DigC := by
 intro args H K hc
 obtain ⟨s, rfl, rfl, hs, hK⟩ := hc
 refine ⟨Nat.le_of_ble_eq_true rfl, ?_⟩
 dsimp only at hK ⊢
 unfold digN at hK
 cbv; repeat' ((first | refine .mk (fun h => ?_) fun h => ?_ | fail) <;> cbv)
 all_goals exact FinK.mk ⟨_, Gh.refl _, .inl (CutK.val rfl (Le.refl _) (K_of hK (by simp only [*, if_true, if_false]; try rfl)))⟩
def SizeC : Ctr := spec (fun n : Int => [.i n]) (fun _ => []) (fun n => -1099511627776 ≤ n ∧ n ≤ 1099511627776) (fun n => .int .u64 (Int.ofNat n.natAbs)) fun _ => []
theorem size_body (P : Program) : BodyOk P x56 SizeC := by
 intro args H K hc
 obtain ⟨n, rfl, rfl, hp, hK⟩ := hc
 refine ⟨Nat.le_of_ble_eq_true rfl, ?_⟩
 dsimp only at hK hp ⊢
 cbv; repeat' ((first | refine .mk (fun h => ?_) fun h => ?_ | refine .k fun z hz => ?_ | fail) <;> cbv)
 all_goals exact FinK.mk ⟨_, Gh.refl _, .inl (CutK.val rfl (Le.refl _) (K_of hK (congrArg (AV.int .u64) (by rw [hz, IntKind.wrap_u64]; simp only [vn] at *; omega))))⟩
theorem moneyB_rng {c : ByteArray} {a : Int} (h : true = moneyB c a) : -1099511627776 ≤ a ∧ a ≤ 1099511627776 := by
 unfold moneyB at h
 simp only [Bool.and_eq_true, decide_eq_true_eq, Eq.comm (a := true)] at h
 omega
theorem digN_in (c : ByteArray) : digN c = 0 ∨ digN c = 2 ∨ digN c = 3 := by
 unfold digN
 repeat' split
 all_goals simp
/-- The text of money. -/
def monS (c : ByteArray) (a : Int) : ByteArray := if moneyB c a then ((c ++ ⟨#[32]⟩) ++ (if a < 0 then ⟨#[45]⟩ else ⟨#[]⟩)) ++ ⟨(fracL (digN c) a.natAbs).toArray⟩ else ⟨#[]⟩
theorem pad_lt {d u : Nat} (h : (wholeL u 1).length ≤ d) : rep0 (d + 1 - (wholeL u 1).length) ++ ⟨(wholeL u 1).toArray⟩ = ⟨(wholeL u (d + 1)).toArray⟩ := by
 rw [whole_pad (d + 1) u (by omega)]
 apply ByteArray.ext
 simp [rep0]
theorem pad_ge {d u : Nat} (h : d < (wholeL u 1).length) : wholeL u (d + 1) = wholeL u 1 := by
 rw [whole_pad (d + 1) u (by omega), show d + 1 - (wholeL u 1).length = 0 by omega]; rfl
theorem cut_eq {d u : Nat} (h : d = 2 ∨ d = 3) {s a b : ByteArray} (hs : s = ⟨(wholeL u (d + 1)).toArray⟩) (ha : a = s.extract 0 (s.size - d)) (hb : b = s.extract (s.size - d) s.size) : (a ++ ⟨#[46]⟩) ++ b = ⟨(fracL d u).toArray⟩ := by
 rw [frac_cut d u h, ha, hb, hs]
 have hl : (⟨(wholeL u (d + 1)).toArray⟩ : ByteArray).size = (wholeL u (d + 1)).length := by simp [ByteArray.size]
 rw [hl]
 apply ByteArray.ext
 apply Array.toList_inj.1
 simp [ByteArray.data_extract, List.take_of_length_le]
theorem cut_of {d u : Nat} {s a p b x : ByteArray} {z1 z3 : Int} (hx : x = p ++ b) (hp : p = a ++ ⟨⟨[46]⟩⟩) (ha : a = s.extract ((none : Option Int).getD 0).toNat ((some z1).getD ↑s.size).toNat) (hb : b = s.extract ((some z3).getD 0).toNat ((none : Option Int).getD ↑s.size).toNat)
  (h : d = 2 ∨ d = 3) (hs : s = ⟨(wholeL u (d + 1)).toArray⟩) (h1 : z1 = s.size - Int.ofNat d) (h3 : z3 = s.size - Int.ofNat d) : x = ⟨(fracL d u).toArray⟩ := by
 have e1 : z1.toNat = s.size - d := by rw [h1]; simp only [Int.ofNat_eq_natCast]; omega
 have e3 : z3.toNat = s.size - d := by rw [h3]; simp only [Int.ofNat_eq_natCast]; omega
 rw [hx, hp]
 exact cut_eq h hs (by rw [ha]; simp only [Option.getD_none, Option.getD_some, e1]; rfl) (by rw [hb]; simp only [Option.getD_none, Option.getD_some, e3]; rfl)
theorem montext_body (P : Program) (hM : FnOk P 22 MoneyC) (hD : FnOk P 54 DigC) (hS : FnOk P 56 SizeC) (hF : FnOk P 55 FmtC) (hR : FnOk P 57 RepC) : BodyOk P x38 (MonC monS) := by
 intro args H K hc
 obtain ⟨⟨c, a⟩, rfl, rfl, _, hK⟩ := hc
 refine ⟨Nat.le_of_ble_eq_true rfl, ?_⟩
 dsimp only at hK ⊢
 unfold monS at hK
 obtain ⟨b, hb⟩ : ∃ b, b = moneyB c a := ⟨_, rfl⟩
 rw [← hb] at hK
 have hd := digN_in c
 obtain ⟨d, hdd⟩ : ∃ d, d = digN c := ⟨_, rfl⟩
 rw [← hdd] at hd hK
 obtain ⟨q, hq⟩ : ∃ q, q = a.natAbs := ⟨_, rfl⟩
 rw [← hq] at hK
 obtain ⟨w, hw⟩ : ∃ w : ByteArray, w = ⟨(wholeL q 1).toArray⟩ := ⟨_, rfl⟩
 have hws : w.size = (wholeL q 1).length := by rw [hw]; simp [ByteArray.size]
 cbv
 refine callG_spec0 hM (c, a) trivial rfl rfl rfl ?_
 try dsimp only
 rw [← hb]
 cases b
 ·cbv
  exact FinK.mk ⟨_, Gh.refl _, .inl (CutK.val rfl (Le.refl _) hK)⟩
 have hr := moneyB_rng hb
 have hc3 : c.size = 3 := by
  unfold moneyB curB at hb
  simp only [Bool.and_eq_true, decide_eq_true_eq, Eq.comm (a := true)] at hb
  exact hb.1.1.1
 have hw1 : 1 ≤ w.size := by rw [hws]; exact dec_len_pos q
 have hw2 : w.size ≤ 13 := by rw [hws, ← dec_whole]; exact dec_len 13 q (by omega) (by omega)
 clear hb
 have finN : a < 0 → ∀ {v u2 u1 x : ByteArray}, v = u2 ++ x → u2 = u1 ++ ⟨⟨[45]⟩⟩ → u1 = c ++ ⟨⟨[32]⟩⟩ → x = ⟨(fracL d q).toArray⟩ → K (.str v) [] := fun h v u2 u1 x e1 e2 e3 e4 => by
  rw [e1, e2, e3, e4]
  simp only [if_true, if_pos h] at hK
  exact hK
 have finP : 0 ≤ a → ∀ {v u2 u1 x : ByteArray}, v = u2 ++ x → u2 = u1 ++ ⟨⟨[]⟩⟩ → u1 = c ++ ⟨⟨[32]⟩⟩ → x = ⟨(fracL d q).toArray⟩ → K (.str v) [] := fun h v u2 u1 x e1 e2 e3 e4 => by
  rw [e1, e2, e3, e4]
  simp only [if_true, if_neg (show ¬ a < 0 by omega)] at hK
  exact hK
 clear hK
 have z0 : (ByteArray.mk (Array.mk [])).size = 0 := rfl
 have z32 : (ByteArray.mk (Array.mk [32])).size = 1 := rfl
 have z45 : (ByteArray.mk (Array.mk [45])).size = 1 := rfl
 have z46 : (ByteArray.mk (Array.mk [46])).size = 1 := rfl
 cbv; repeat' ((first | refine .mk (fun h => ?_) fun h => ?_ | fail) <;> cbv)
 all_goals
  refine callG_spec0 hD c trivial rfl rfl rfl ?_
  rw [← hdd]
  cbv
  refine callG_spec0 hS a hr rfl rfl rfl ?_
  rw [← hq]
  cbv
  refine callG_spec0 hF q (by omega) rfl rfl rfl ?_
  rw [← hw]
  cbv; repeat' ((first | refine .mk (fun h => ?_) fun h => ?_ | refine .k fun z hz => ?_ | refine .u fun u hu hul => ?_ | fail) <;> cbv)
  ·obtain ⟨k, rfl, hk⟩ : ∃ k : Nat, z = Int.ofNat k ∧ (k = 1 ∨ two4 k) ∧ k = d + 1 - w.size := ⟨d + 1 - w.size, by simp only [vn] at *; omega, by unfold two4; simp only [vn] at *; omega, rfl⟩
   refine callG_spec0 hR k hk.1 rfl rfl rfl ?_
   have hks : (rep0 k).size = k := by simp [rep0, ByteArray.size]
   obtain ⟨t, ht⟩ : ∃ t, t = rep0 k := ⟨_, rfl⟩
   rw [← ht] at hks ⊢
   have hk4 : k ≤ 4 := by unfold two4 at hk; omega
   cbv; repeat' ((first | refine .y fun h => ?_ | refine .k fun z hz => ?_ | refine .u fun u hu hul => ?_ | fail) <;> cbv)
   have hpad : t ++ w = ⟨(wholeL q (d + 1)).toArray⟩ := by
    rw [ht, hk.2, hws, hw]
    exact pad_lt (by simp only [vn] at *; omega)
   all_goals first | refine FinK.mk ⟨_, Gh.refl _, .inl (CutK.val rfl (Le.refl _) (finN (by assumption) (by assumption) (by assumption) (by assumption) ?_))⟩ | refine FinK.mk ⟨_, Gh.refl _, .inl (CutK.val rfl (Le.refl _) (finP (by assumption) (by assumption) (by assumption) (by assumption) ?_))⟩
   all_goals exact cut_of (by assumption) (by assumption) (by assumption) (by assumption) (by simp only [vn] at *; omega) (Eq.trans (by assumption) hpad) (by ((try simp only [vn] at *) <;> omega)) (by ((try simp only [vn] at *) <;> omega))
  all_goals first | refine FinK.mk ⟨_, Gh.refl _, .inl (CutK.val rfl (Le.refl _) (finN (by assumption) (by assumption) (by assumption) (by assumption) ?_))⟩ | refine FinK.mk ⟨_, Gh.refl _, .inl (CutK.val rfl (Le.refl _) (finP (by assumption) (by assumption) (by assumption) (by assumption) ?_))⟩
  ·exact cut_of (by assumption) (by assumption) (by assumption) (by assumption) (by simp only [vn] at *; omega) (by rw [hw]; exact (congrArg (fun l : List UInt8 => ByteArray.mk l.toArray) (pad_ge (by simp only [vn] at *; omega))).symm) (by ((try simp only [vn] at *) <;> omega)) (by ((try simp only [vn] at *) <;> omega))
  ·have hd0 : d = 0 := by simp only [vn] at *; omega
   rw [hw, hd0]
   rfl
end Go.Proofs.YtblkcnmecfppnaaDoor
/-
 The reference's text of money.
-/
namespace Go.Proofs.YtblkcnmecfppnaaDoor
open Go.RowKit
set_option maxHeartbeats 4000000
set_option maxRecDepth 100000
def wB (u k : Nat) : ByteArray := ⟨(wholeL u k).toArray⟩
theorem wB_nil : wB 0 0 = ⟨#[]⟩ := by unfold wB; rw [whole_nil]
theorem wB_step {v k : Nat} (h : ¬ (v = 0 ∧ k = 0)) {z2 z1 z : Int} (hz : z2 = (Int.ofNat v).tmod 10) (h1 : z1 = 48 + z2) (h2 : z = IntKind.u8.wrap z1) : wB v k = wB (v / 10) (k - 1) ++ strOf [z] := by
 have e : strOf [z] = ⟨#[UInt8.ofNat (48 + v % 10)]⟩ := by
  have hz3 : z = ((48 + v % 10 : Nat) : Int) := by
   rw [h2, h1, hz, IntKind.wrap_u8]
   have : (Int.ofNat v).tmod 10 = ((v % 10 : Nat) : Int) := rfl
   rw [this]; omega
  rw [hz3]; rfl
 rw [e]
 unfold wB
 rw [whole_step h]
 apply ByteArray.ext
 simp
def WholeC : Ctr := spec (fun q : Nat × Nat => [.i (Int.ofNat q.1), .i (Int.ofNat q.2)]) (fun _ => []) (fun q => q.1 ≤ 1099511627776 ∧ q.2 ≤ 3) (fun q => .str (wB q.1 q.2)) fun _ => []
structure WhI (u least v : Nat) (s : ByteArray) : Prop where
 val : v = u / 10 ^ s.size
 len : s.size ≤ 13
 eq : wB u least = wB v (least - s.size) ++ s
theorem WhI.step {u least v : Nat} {s t x : ByteArray} (h : WhI u least v s) (hu : u ≤ 1099511627776) (hl : least ≤ 3) {z2 z1 z : Int} (hz : z2 = (Int.ofNat v).tmod 10) (h1 : z1 = 48 + z2) (h2 : z = IntKind.u8.wrap z1) (hc : 0 < v ∨ s.size < least) (ht : t = strOf [z]) (hx : x = t ++ s) : WhI u least (v / 10) x := by
 have hts : t.size = 1 := by rw [ht]; rfl
 have hxs : x.size = s.size + 1 := by rw [hx, ByteArray.size_append, hts]; omega
 refine ⟨?_, ?_, ?_⟩
 ·rw [hxs, Nat.pow_succ, ← Nat.div_div_eq_div_mul, ← h.val]
 ·rw [hxs]
  rcases hc with hc | hc
  ·rcases Nat.lt_or_ge s.size 13 with h4 | h4
   ·omega
   ·exfalso
    have h5 : s.size = 13 := by have := h.len; omega
    have := h.val
    rw [h5] at this
    omega
  ·omega
 ·rw [hxs, h.eq, wB_step (by omega) hz h1 h2, hx, ht, Nat.sub_sub, ByteArray.append_assoc]
theorem rwhole_body (P : Program) : BodyOk P x59 WholeC := by
 intro args H K hc
 obtain ⟨⟨u, least⟩, rfl, rfl, hp, hK⟩ := hc
 refine ⟨Nat.le_of_ble_eq_true rfl, ?_⟩
 dsimp only at hK hp ⊢
 cbv
 refine xloopV [] (fun p : { p : Nat × ByteArray × Nat // WhI u least p.1 p.2.1 ∧ p.2.2 = p.2.1.size } => [(0, .i (nI p.1.1)), (5, .str p.1.2.1)]) (fun _ => []) (fun p => lft 20 p.1.2.2) ⟨(u, ⟨⟨[]⟩⟩, 0), ⟨by simp [ByteArray.size], by simp [ByteArray.size], by simp [ByteArray.size]; apply ByteArray.ext; simp⟩, rfl⟩ ?_
 rintro ⟨⟨v, s, n⟩, hI, hn⟩
 dsimp only at hI hn ⊢
 have hsl := hI.len
 have hv : v ≤ 1099511627776 := by rw [hI.val]; exact Nat.le_trans (Nat.div_le_self _ _) hp.1
 have h1 : ∀ z : Int, (strOf [z]).size = 1 := fun z => rfl
 cbv; repeat' ((first | refine .q fun z hz hz0 hz1 => ?_ | refine .mk (fun h => ?_) fun h => ?_ | refine .k fun z hz => ?_ | refine .u fun u hu hul => ?_ | refine .s fun s hs hsl => ?_ | fail) <;> cbv)
 ·obtain rfl : z = nI (v / 10) := hz
  exact roundV ⟨(v / 10, u, n + 1), hI.step hp.1 hp.2 (by assumption) (by assumption) (by assumption) (.inl (by ((try simp only [vn] at *) <;> omega))) (by assumption) (by assumption), by simp only [List.length_cons, List.length_nil] at *; omega⟩ (lft_lt (by ((try simp only [vn] at *) <;> omega)))
 ·obtain rfl : z = nI (v / 10) := hz
  exact roundV ⟨(v / 10, u, n + 1), hI.step hp.1 hp.2 (by assumption) (by assumption) (by assumption) (.inr (by ((try simp only [vn] at *) <;> omega))) (by assumption) (by assumption), by simp only [List.length_cons, List.length_nil] at *; omega⟩ (lft_lt (by ((try simp only [vn] at *) <;> omega)))
 ·have hv0 : v = 0 := by ((try simp only [vn] at *) <;> omega)
  have hl0 : least - s.size = 0 := by ((try simp only [vn] at *) <;> omega)
  have he := hI.eq
  rw [hv0, hl0, wB_nil] at he
  exact FinK.mk ⟨_, Gh.refl _, .inl (CutK.val rfl (Le.refl _) (K_of hK (by rw [he]; congr 1)))⟩
theorem rmontext_body (P : Program) (hM : FnOk P 33 MoneyC) (hD : FnOk P 58 DigC) (hW : FnOk P 59 WholeC) : BodyOk P x40 (MonC monS) := by
 intro args H K hc
 obtain ⟨⟨c, a⟩, rfl, rfl, _, hK⟩ := hc
 refine ⟨Nat.le_of_ble_eq_true rfl, ?_⟩
 dsimp only at hK ⊢
 unfold monS at hK
 obtain ⟨b, hb⟩ : ∃ b, b = moneyB c a := ⟨_, rfl⟩
 rw [← hb] at hK
 have hd := digN_in c
 obtain ⟨d, hdd⟩ : ∃ d, d = digN c := ⟨_, rfl⟩
 rw [← hdd] at hd hK
 obtain ⟨q, hq⟩ : ∃ q, q = a.natAbs := ⟨_, rfl⟩
 rw [← hq] at hK
 cbv
 refine callG_spec0 hM (c, a) trivial rfl rfl rfl ?_
 try dsimp only
 rw [← hb]
 cases b
 ·cbv
  exact FinK.mk ⟨_, Gh.refl _, .inl (CutK.val rfl (Le.refl _) hK)⟩
 have hr := moneyB_rng hb
 have hc3 : c.size = 3 := by
  unfold moneyB curB at hb
  simp only [Bool.and_eq_true, decide_eq_true_eq, Eq.comm (a := true)] at hb
  exact hb.1.1.1
 clear hb
 have z0 : (ByteArray.mk (Array.mk [])).size = 0 := rfl
 have z32 : (ByteArray.mk (Array.mk [32])).size = 1 := rfl
 have z45 : (ByteArray.mk (Array.mk [45])).size = 1 := rfl
 have z46 : (ByteArray.mk (Array.mk [46])).size = 1 := rfl
 cbv; repeat' ((first | refine .mk (fun h => ?_) fun h => ?_ | refine .k fun z hz => ?_ | refine .u fun u hu hul => ?_ | fail) <;> cbv)
 all_goals
  refine callG_spec0 hD c trivial rfl rfl rfl ?_
  rw [← hdd]
  cbv
 ·have hK' : K (.str (u ++ ⟨(fracL d q).toArray⟩)) [] := by
   simp only [if_true, if_pos h] at hK
   rename_i v _ _
   exact K_of hK (by rw [hu]; congr 3)
  clear hK
  obtain rfl : z = nI q := by ((try simp only [vn] at *) <;> omega)
  refine xloopV [] (fun p : { p : Nat × Nat // p.1 ≤ d ∧ p.2 = 10 ^ p.1 } => [(7, .i (nI p.1.1)), (6, .i (nI p.1.2))]) (fun _ => [.blk 23 [.str c, .i a]]) (fun p => lft d p.1.1) ⟨(0, 1), Nat.zero_le _, rfl⟩ ?_
  rintro ⟨⟨i, un⟩, hi, hun⟩
  dsimp only at hi hun ⊢
  have hunb : 1 ≤ un ∧ un ≤ 1000 := by
   have h3 : i = 0 ∨ i = 1 ∨ i = 2 ∨ i = 3 := by omega
   rcases h3 with rfl | rfl | rfl | rfl <;> (rw [hun]; decide)
  cbv; repeat' ((first | refine .q fun z hz hz0 hz1 => ?_ | refine .mk (fun h => ?_) fun h => ?_ | refine .k fun z hz => ?_ | fail) <;> cbv)
  ·rename_i y hy
   obtain rfl : y = nI (un * 10) := by ((try simp only [vn] at *) <;> omega)
   obtain rfl : z = nI (i + 1) := by ((try simp only [vn] at *) <;> omega)
   exact roundV ⟨(i + 1, un * 10), by ((try simp only [vn] at *) <;> omega), by rw [hun, Nat.pow_succ]⟩ (lft_lt (by ((try simp only [vn] at *) <;> omega)))
  have hid : i = d := by ((try simp only [vn] at *) <;> omega)
  subst hid
  have hqq : q ≤ 1099511627776 := by ((try simp only [vn] at *) <;> omega)
  obtain ⟨v, hv⟩ : ∃ v, v = q / un := ⟨_, rfl⟩
  obtain rfl : z = nI v := by rw [hv]; exact hz
  have hvv : v ≤ 1099511627776 := by rw [hv]; exact Nat.le_trans (Nat.div_le_self _ _) hqq
  refine callG_spec0 hW (v, 1) ⟨hvv, Nat.le_of_ble_eq_true rfl⟩ rfl rfl rfl ?_
  have hs1 : (wB v 1).size ≤ 13 := by
   show (wholeL v 1).toArray.size ≤ 13
   rw [List.size_toArray, ← dec_whole]
   exact dec_len 13 _ (by omega) (Nat.lt_of_le_of_lt hvv (by decide))
  obtain ⟨w1, hw1⟩ : ∃ w, w = wB v 1 := ⟨_, rfl⟩
  rw [← hw1] at hs1 ⊢
  cbv; repeat' ((first | refine .q fun z hz hz0 hz1 => ?_ | refine .mk (fun h => ?_) fun h => ?_ | refine .u fun u hu hul => ?_ | fail) <;> cbv)
  ·obtain ⟨v2, hv2⟩ : ∃ v, v = q % un := ⟨_, rfl⟩
   obtain rfl : z = nI v2 := by rw [hv2]; exact hz
   have hi3 : i = 2 ∨ i = 3 := by simp only [vn] at *; omega
   have hv3 : v2 ≤ 1099511627776 := by rw [hv2]; exact Nat.le_trans (Nat.mod_le _ _) hqq
   refine callG_spec0 hW (v2, i) ⟨hv3, by show i ≤ 3; omega⟩ rfl rfl rfl ?_
   have hs2 : (wB v2 i).size ≤ 3 := by
    show (wholeL v2 i).toArray.size ≤ 3
    rw [List.size_toArray, whole_len i v2 (by rw [hv2, ← hun]; exact Nat.mod_lt _ (by omega))]
    omega
   obtain ⟨w2, hw2⟩ : ∃ w, w = wB v2 i := ⟨_, rfl⟩
   rw [← hw2] at hs2 ⊢
   cbv; repeat' ((first | refine .u fun u hu hul => ?_ | fail) <;> cbv)
   have hfr : (⟨(fracL i q).toArray⟩ : ByteArray) = w1 ++ (⟨⟨[46]⟩⟩ ++ w2) := by
    rw [hw1, hw2, hv, hv2, hun]
    unfold fracL wB
    rw [if_neg (by omega)]
    apply ByteArray.ext
    simp
   rw [hfr] at hK'
   exact FinK.mk ⟨_, Gh.refl _, .inl (CutK.val rfl (Le.refl _) (K_of hK' (by subst_vars; simp only [ByteArray.append_assoc]; rfl)))⟩
  ·have hi0 : i = 0 := by simp only [vn] at *; omega
   have hfr : (⟨(fracL i q).toArray⟩ : ByteArray) = w1 := by
    rw [hw1, hv, hun, hi0]
    unfold fracL wB
    rw [if_pos rfl, Nat.pow_zero, Nat.div_one]
   rw [hfr] at hK'
   exact FinK.mk ⟨_, Gh.refl _, .inl (CutK.val rfl (Le.refl _) (K_of hK' (by rw [hu]; rfl)))⟩
 ·have hK' : K (.str (u ++ ⟨(fracL d q).toArray⟩)) [] := by
   simp only [if_true, if_neg (show ¬ a < 0 by omega)] at hK
   exact K_of hK (by rw [hu]; congr 2; apply ByteArray.ext; simp)
  clear hK
  obtain rfl : a = nI q := by ((try simp only [vn] at *) <;> omega)
  refine xloopV [] (fun p : { p : Nat × Nat // p.1 ≤ d ∧ p.2 = 10 ^ p.1 } => [(7, .i (nI p.1.1)), (6, .i (nI p.1.2))]) (fun _ => [.blk 23 [.str c, .i (nI q)]]) (fun p => lft d p.1.1) ⟨(0, 1), Nat.zero_le _, rfl⟩ ?_
  rintro ⟨⟨i, un⟩, hi, hun⟩
  dsimp only at hi hun ⊢
  have hunb : 1 ≤ un ∧ un ≤ 1000 := by
   have h3 : i = 0 ∨ i = 1 ∨ i = 2 ∨ i = 3 := by omega
   rcases h3 with rfl | rfl | rfl | rfl <;> (rw [hun]; decide)
  cbv; repeat' ((first | refine .q fun z hz hz0 hz1 => ?_ | refine .mk (fun h => ?_) fun h => ?_ | refine .k fun z hz => ?_ | fail) <;> cbv)
  ·rename_i y hy
   obtain rfl : y = nI (un * 10) := by ((try simp only [vn] at *) <;> omega)
   obtain rfl : z = nI (i + 1) := by ((try simp only [vn] at *) <;> omega)
   exact roundV ⟨(i + 1, un * 10), by ((try simp only [vn] at *) <;> omega), by rw [hun, Nat.pow_succ]⟩ (lft_lt (by ((try simp only [vn] at *) <;> omega)))
  have hid : i = d := by ((try simp only [vn] at *) <;> omega)
  subst hid
  have hqq : q ≤ 1099511627776 := by ((try simp only [vn] at *) <;> omega)
  obtain ⟨v, hv⟩ : ∃ v, v = q / un := ⟨_, rfl⟩
  obtain rfl : z = nI v := by rw [hv]; exact hz
  have hvv : v ≤ 1099511627776 := by rw [hv]; exact Nat.le_trans (Nat.div_le_self _ _) hqq
  refine callG_spec0 hW (v, 1) ⟨hvv, Nat.le_of_ble_eq_true rfl⟩ rfl rfl rfl ?_
  have hs1 : (wB v 1).size ≤ 13 := by
   show (wholeL v 1).toArray.size ≤ 13
   rw [List.size_toArray, ← dec_whole]
   exact dec_len 13 _ (by omega) (Nat.lt_of_le_of_lt hvv (by decide))
  obtain ⟨w1, hw1⟩ : ∃ w, w = wB v 1 := ⟨_, rfl⟩
  rw [← hw1] at hs1 ⊢
  cbv; repeat' ((first | refine .q fun z hz hz0 hz1 => ?_ | refine .mk (fun h => ?_) fun h => ?_ | refine .u fun u hu hul => ?_ | fail) <;> cbv)
  ·obtain ⟨v2, hv2⟩ : ∃ v, v = q % un := ⟨_, rfl⟩
   obtain rfl : z = nI v2 := by rw [hv2]; exact hz
   have hi3 : i = 2 ∨ i = 3 := by simp only [vn] at *; omega
   have hv3 : v2 ≤ 1099511627776 := by rw [hv2]; exact Nat.le_trans (Nat.mod_le _ _) hqq
   refine callG_spec0 hW (v2, i) ⟨hv3, by show i ≤ 3; omega⟩ rfl rfl rfl ?_
   have hs2 : (wB v2 i).size ≤ 3 := by
    show (wholeL v2 i).toArray.size ≤ 3
    rw [List.size_toArray, whole_len i v2 (by rw [hv2, ← hun]; exact Nat.mod_lt _ (by omega))]
    omega
   obtain ⟨w2, hw2⟩ : ∃ w, w = wB v2 i := ⟨_, rfl⟩
   rw [← hw2] at hs2 ⊢
   cbv; repeat' ((first | refine .u fun u hu hul => ?_ | fail) <;> cbv)
   have hfr : (⟨(fracL i q).toArray⟩ : ByteArray) = w1 ++ (⟨⟨[46]⟩⟩ ++ w2) := by
    rw [hw1, hw2, hv, hv2, hun]
    unfold fracL wB
    rw [if_neg (by omega)]
    apply ByteArray.ext
    simp
   rw [hfr] at hK'
   exact FinK.mk ⟨_, Gh.refl _, .inl (CutK.val rfl (Le.refl _) (K_of hK' (by subst_vars; simp only [ByteArray.append_assoc]; rfl)))⟩
  ·have hi0 : i = 0 := by simp only [vn] at *; omega
   have hfr : (⟨(fracL i q).toArray⟩ : ByteArray) = w1 := by
    rw [hw1, hv, hun, hi0]
    unfold fracL wB
    rw [if_pos rfl, Nat.pow_zero, Nat.div_one]
   rw [hfr] at hK'
   exact FinK.mk ⟨_, Gh.refl _, .inl (CutK.val rfl (Le.refl _) (K_of hK' (by rw [hu]; rfl)))⟩
end Go.Proofs.YtblkcnmecfppnaaDoor
/-
 The reference's papers; its digits; a law's 'short'.
-/
namespace Go.Proofs.YtblkcnmecfppnaaDoor
open Go.RowKit
set_option maxHeartbeats 4000000
set_option maxRecDepth 100000
def FldC : Ctr := spec (fun f : Fd => [.agg [.str f.name, .str f.value]]) (fun _ => []) (fun f => f.name.size ≤ maxLen) (fun f => .bl (mayF f)) fun _ => []
theorem rfmay_body (P : Program) (hn : FnOk P 29 (StrC shortS nameB)) : BodyOk P x51 FldC := by
 intro args H K hc
 obtain ⟨⟨n, v⟩, rfl, rfl, hp, hK⟩ := hc
 refine ⟨Nat.le_of_ble_eq_true rfl, ?_⟩
 unfold mayF at hK
 dsimp only at hp hK ⊢
 obtain ⟨b, hb⟩ : ∃ b, b = nameB n := ⟨_, rfl⟩
 rw [← hb] at hK
 cbv
 refine callG_spec0 hn n hp rfl rfl rfl ?_
 rw [← hb]
 cases b
 ·cbv
  exact FinK.mk ⟨_, Gh.refl _, .inl (CutK.val rfl (Le.refl _) (K_bl hK (by rfl)))⟩
 ·cbv; repeat' ((first | refine .mk (fun h => ?_) fun h => ?_ | refine .k fun z hz => ?_ | fail) <;> cbv)
  all_goals exact FinK.mk ⟨_, Gh.refl _, .inl (CutK.val rfl (Le.refl _) (K_bl hK (by (simp; ((try simp only [vn] at *) <;> omega)))))⟩
def paperB (d : Dc) : Bool := d.fields.all mayF && !decide (kindS d.kind = ⟨#[]⟩) && decide (d.number.size ≤ 4096) && decide (d.issuer.size ≤ 4096) && decide (d.fields.length ≤ 61)
theorem isDocB_eq (d : Dc) : isDocB d = (paperB d && decide ((textS (recP d)).length ≤ 4096)) := by
 by_cases hr : docR d = true
 ·have hc : docC d = textC (recP d) := by unfold docC; rw [if_pos hr]
  have hs : docS d = textS (recP d) := by unfold docS; rw [if_pos hr]
  unfold isDocB
  rw [hc, hs]
  congr 1
  unfold docR at hr
  simp only [Bool.and_eq_true, decide_eq_true_eq] at hr
  have hk : decide (kindS d.kind = ⟨#[]⟩) = false := by
   have h6 : d.kind = 0 ∨ d.kind = 1 ∨ d.kind = 2 ∨ d.kind = 3 ∨ d.kind = 4 ∨ d.kind = 5 := by omega
   rcases h6 with h | h | h | h | h | h <;> rw [h] <;> decide
  have hk2 : (kindS d.kind).size ≤ 4096 := by
   have h6 : d.kind = 0 ∨ d.kind = 1 ∨ d.kind = 2 ∨ d.kind = 3 ∨ d.kind = 4 ∨ d.kind = 5 := by omega
   rcases h6 with h | h | h | h | h | h <;> rw [h] <;> decide
  unfold paperB textC
  rw [hk, decide_eq_true hr.2, if_neg (by unfold recP; simp only [List.length_cons]; omega)]
  have e : (recP d).all mayF = (decide (d.number.size ≤ 4096) && (decide (d.issuer.size ≤ 4096) && d.fields.all mayF)) := by
   unfold recP
   simp only [List.all_cons]
   have a1 : mayF ⟨⟨#[112, 97, 112, 101, 114]⟩, kindS d.kind⟩ = true := by
    unfold mayF
    rw [decide_eq_true hk2]
    rfl
   have a2 : ∀ v : ByteArray, mayF ⟨⟨#[110, 117, 109, 98, 101, 114]⟩, v⟩ = decide (v.size ≤ 4096) := fun v => by
    unfold mayF
    rw [show nameB ⟨#[110, 117, 109, 98, 101, 114]⟩ = true from by decide, Bool.true_and]
   have a3 : ∀ v : ByteArray, mayF ⟨⟨#[105, 115, 115, 117, 101, 114]⟩, v⟩ = decide (v.size ≤ 4096) := fun v => by
    unfold mayF
    rw [show nameB ⟨#[105, 115, 115, 117, 101, 114]⟩ = true from by decide, Bool.true_and]
   rw [a1, a2, a3, Bool.true_and]
  rw [e]
  cases d.fields.all mayF <;> cases decide (d.number.size ≤ 4096) <;> cases decide (d.issuer.size ≤ 4096) <;> rfl
 ·have hc : docC d = 1 := by unfold docC; rw [if_neg hr]
  have h1 : isDocB d = false := by unfold isDocB; rw [hc]; rfl
  have h2 : paperB d = false := by
   unfold docR at hr
   simp only [Bool.and_eq_true, decide_eq_true_eq] at hr
   unfold paperB
   by_cases hl : d.fields.length ≤ 61
   ·have hk : kindS d.kind = ⟨#[]⟩ := by
     rcases kind_ways d.kind with ⟨_, e⟩ | ⟨_, e⟩ | h
     ·exact e
     ·exact e
     ·omega
    rw [hk]
    simp
   ·rw [decide_eq_false hl, Bool.and_false]
  rw [h1, h2, Bool.false_and]
theorem paper_body (P : Program) (hm : FnOk P 51 FldC) (hkk : FnOk P 52 KindSC) : BodyOk P x34 (DocP paperB) := by
 intro args H K hc
 obtain ⟨⟨kind, number, issuer, fields⟩, rfl, rfl, hp, hK⟩ := hc
 refine ⟨Nat.le_of_ble_eq_true rfl, ?_⟩
 unfold paperB at hK
 dsimp only at hK hp ⊢
 have hl := mapA_len FdA fields
 have hlm : fields.length ≤ 9223372036854775807 := hp.len
 have bad : ∀ i (h : i < fields.length), mayF fields[i] = false → K (.bl false) [] := fun i h e => by
  have : fields.all mayF = false := by
   rw [List.all_eq_false]
   exact ⟨_, List.getElem_mem h, by rw [e]; decide⟩
  rw [this] at hK
  exact hK
 have good : (∀ i (h : i < fields.length), mayF fields[i] = true) → K (.bl (!decide (kindS kind = ⟨#[]⟩) && decide (number.size ≤ 4096) && decide (issuer.size ≤ 4096) && decide (fields.length ≤ 61))) [] := fun h => by
  have : fields.all mayF = true := by
   rw [List.all_eq_true]
   intro x hx
   obtain ⟨i, hi, rfl⟩ := List.getElem_of_mem hx
   exact h i hi
  rw [this, Bool.true_and] at hK
  exact hK
 clear hK
 obtain ⟨s, hs⟩ : ∃ s, s = kindS kind := ⟨_, rfl⟩
 rw [← hs] at good
 obtain ⟨n, hn⟩ : ∃ n, n = fields.length := ⟨_, rfl⟩
 cbv
 refine xloopV [] (fun p : { k : Nat // k ≤ fields.length ∧ ∀ i (h : i < fields.length), i < k → mayF fields[i] = true } => [(3, .i (nI p.1))]) (fun _ => [.blk 40 [.i kind, .str number, .str issuer, .sl 2 (mapA FdA fields)]]) (fun p => lft n p.1) ⟨0, Nat.zero_le _, fun _ _ h => absurd h (by omega)⟩ ?_
 rintro ⟨k, hk, hf⟩
 dsimp only
 cbv; repeat' ((first | refine .mk (fun h => ?_) fun h => ?_ | refine .k fun z hz => ?_ | fail) <;> cbv)
 ·have hkl : k < fields.length := by ((try simp only [vn] at *) <;> omega)
  refine askEl_int (by ((try simp only [vn] at *) <;> omega)) (by ((try simp only [vn] at *) <;> omega)) fun i x hi hx => ?_
  obtain rfl : k = i := by ((try simp only [vn] at *) <;> omega)
  have hxe : x = fields[k] := by rw [List.getElem?_eq_getElem hkl] at hx; exact (Option.some.inj hx).symm
  have hxn : x.name.size ≤ maxLen := hp.each x (List.mem_of_getElem? hx)
  obtain ⟨b, hb⟩ : ∃ b, b = mayF x := ⟨_, rfl⟩
  have bad' : b = false → K (.bl false) [] := fun h => bad k hkl (by rw [← hxe, ← hb, h])
  have nxt : b = true → ∀ i (h : i < fields.length), i < k + 1 → mayF fields[i] = true := fun hbt i hi hik => by
   by_cases e : i = k
   ·subst e; rw [← hxe, ← hb, hbt]
   ·exact hf i hi (by omega)
  clear hx hxe
  obtain ⟨nm, vl⟩ := x
  cbv
  refine callG_spec0 hm ⟨nm, vl⟩ hxn rfl rfl rfl ?_
  rw [← hb]
  cases b
  ·cbv
   exact FinK.mk ⟨_, Gh.refl _, .inl (CutK.val rfl (Le.refl _) (bad' rfl))⟩
  ·cbv; repeat' ((first | refine .k fun z hz => ?_ | fail) <;> cbv)
   obtain rfl : z = nI (k + 1) := by ((try simp only [vn] at *) <;> omega)
   exact roundV ⟨k + 1, hkl, nxt rfl⟩ (lft_lt (by ((try simp only [vn] at *) <;> omega)))
 have hK1 := good fun i hi => hf i hi (by ((try simp only [vn] at *) <;> omega))
 have yes : ¬ s = ⟨⟨[]⟩⟩ → number.size ≤ 4096 → issuer.size ≤ 4096 → fields.length ≤ 61 → K (.bl true) [] := fun h1 h2 h3 h4 => K_bl hK1 (by rw [decide_eq_false h1, decide_eq_true h2, decide_eq_true h3, decide_eq_true h4]; rfl)
 have no : (s = ⟨⟨[]⟩⟩ ∨ (4096 < number.size ∨ 4096 < issuer.size ∨ 61 < fields.length)) → K (.bl false) [] := fun h => K_bl hK1 (by
  rcases h with h | h | h | h
  ·rw [decide_eq_true h]; rfl
  ·rw [decide_eq_false (show ¬ number.size ≤ 4096 by omega), Bool.and_false]; rfl
  ·rw [decide_eq_false (show ¬ issuer.size ≤ 4096 by omega), Bool.and_false]; rfl
  ·rw [decide_eq_false (show ¬ fields.length ≤ 61 by omega), Bool.and_false])
 clear good bad hK1
 refine callG_spec0 hkk kind trivial rfl rfl rfl ?_
 rw [← hs]
 cbv; repeat' ((first | refine .mk (fun h => ?_) fun h => ?_ | refine .k fun z hz => ?_ | fail) <;> cbv)
 all_goals first | exact FinK.mk ⟨_, Gh.refl _, .inl (CutK.val rfl (Le.refl _) (yes (by assumption) (by ((try simp only [vn] at *) <;> omega)) (by ((try simp only [vn] at *) <;> omega)) (by ((try simp only [vn] at *) <;> omega))))⟩ | exact FinK.mk ⟨_, Gh.refl _, .inl (CutK.val rfl (Le.refl _) (no (.inl (by assumption))))⟩ | exact FinK.mk ⟨_, Gh.refl _, .inl (CutK.val rfl (Le.refl _) (no (.inr (by ((try simp only [vn] at *) <;> omega)))))⟩
/-- A contract whose answer is no, or yes where something is so. -/
def boolC {ι : Type} (a : ι → List AV) (p q : ι → Prop) : Ctr := fun args H K => ∃ i, args = a i ∧ H = [] ∧ p i ∧ (q i → K (.bl true) []) ∧ K (.bl false) []
theorem callG_boolC {P : Program} {f : Nat} {ι : Type} {a : ι → List AV} {p q : ι → Prop} (hf : FnOk P f (boolC a p q)) (i : ι) {keep : List Nat} {st : St} {K : AV → St → Prop} (hp : p i) (hb : AV.bndL 0 (a i) = true) (hk : (keep.all fun k => Nat.blt k st.H.length) = true) (hT : q i → K (.bl true) st) (hF : K (.bl false) st) : CallG P keep f (a i) st K :=
 callG_pure hf (fun _ _ _ _ hk ⟨i, h1, h2, h3, h4, h5⟩ => ⟨i, h1, h2, h3, fun h => hk _ _ (h4 h), hk _ _ h5⟩) hb (fun k hkk => by have := List.all_eq_true.1 hk k hkk; simpa [Nat.blt_eq] using this) ⟨i, rfl, rfl, hp, fun h => ⟨rfl, rfl, hT h⟩, rfl, rfl, hF⟩
noncomputable def ShortC : Ctr := boolC (fun l : Lt => [LtA l]) SmallL (fun l => l.docs.length ≤ 12 ∧ l.boxes.length ≤ 60)
theorem short_body (P : Program) : BodyOk P x6 ShortC := by
 intro args H K hc
 obtain ⟨⟨frm, to, number, kind, ack, deal, text, party, index, day, cur, amt, docs, boxes⟩, rfl, rfl, hp, hT, hF⟩ := hc
 refine ⟨Nat.le_of_ble_eq_true rfl, ?_⟩
 dsimp only at hT hF hp ⊢
 have hl1 := mapA_len DcA docs
 have hl2 := mapA_len AV.str boxes
 obtain ⟨nd, hnd⟩ : ∃ n, n = docs.length := ⟨_, rfl⟩
 have hd9 : docs.length ≤ 9223372036854775807 := hp.docs.len
 have hb9 : boxes.length ≤ 9223372036854775807 := hp.boxes.len
 cbv; repeat' ((first | (first | refine .k fun z hz => ?_ | fail) | refine AddK.w fun z hz => ?_) <;> cbv)
 refine xloopV [] (fun p : { p : Nat × Int // p.1 ≤ docs.length } => [(3, .i p.1.2), (32, .i (nI p.1.1))]) (fun _ => [.blk 27 [.str frm, .str to, .i number, .i kind, .i ack, .str deal, .str text, .str party, .i index, .i day, .str cur, .i amt, .sl 4 (mapA DcA docs), .sl 1 (mapA .str boxes)]]) (fun p => lft nd p.1.1) ⟨(0, _), Nat.zero_le _⟩ ?_
 rintro ⟨⟨k, n⟩, hk⟩
 dsimp only at hk ⊢
 cbv; repeat' ((first | (first | refine .mk (fun h => ?_) fun h => ?_ | refine .k fun z hz => ?_ | fail) | refine AddK.w fun z hz => ?_) <;> cbv)
 ·have hkl : k < docs.length := by ((try simp only [vn] at *) <;> omega)
  refine askEl_int (by ((try simp only [vn] at *) <;> omega)) (by ((try simp only [vn] at *) <;> omega)) fun i x hi hx => ?_
  obtain rfl : k = i := by ((try simp only [vn] at *) <;> omega)
  have hxn : NamesS x.fields := hp.docs.each x (List.mem_of_getElem? hx)
  clear hx
  obtain ⟨k1, n1, is1, fs1⟩ := x
  dsimp only at hxn
  have hl3 := mapA_len FdA fs1
  have hf9 : fs1.length ≤ 9223372036854775807 := hxn.len
  obtain ⟨nf, hnf⟩ : ∃ n, n = fs1.length := ⟨_, rfl⟩
  cbv; repeat' ((first | (first | refine .k fun z hz => ?_ | fail) | refine AddK.w fun z hz => ?_) <;> cbv)
  refine xloopV [] (fun p : { p : Nat × Int // p.1 ≤ fs1.length } => [(3, .i p.1.2), (48, .i (nI p.1.1))]) (fun _ => [.blk 27 [.str frm, .str to, .i number, .i kind, .i ack, .str deal, .str text, .str party, .i index, .i day, .str cur, .i amt, .sl 4 (mapA DcA docs), .sl 1 (mapA .str boxes)], .blk 40 [.i k1, .str n1, .str is1, .sl 2 (mapA FdA fs1)]]) (fun p => lft nf p.1.1) ⟨(0, _), Nat.zero_le _⟩ ?_
  rintro ⟨⟨j, m⟩, hj⟩
  dsimp only at hj ⊢
  cbv; repeat' ((first | (first | refine .mk (fun h => ?_) fun h => ?_ | refine .k fun z hz => ?_ | fail) | refine AddK.w fun z hz => ?_) <;> cbv)
  ·have hjl : j < fs1.length := by ((try simp only [vn] at *) <;> omega)
   refine askEl_int (by ((try simp only [vn] at *) <;> omega)) (by ((try simp only [vn] at *) <;> omega)) fun i x hi hx => ?_
   obtain rfl : j = i := by ((try simp only [vn] at *) <;> omega)
   clear hx
   obtain ⟨fn, fv⟩ := x
   cbv; repeat' ((first | (first | refine .k fun z hz => ?_ | fail) | refine AddK.w fun z hz => ?_) <;> cbv)
   obtain rfl : z = nI (j + 1) := by ((try simp only [vn] at *) <;> omega)
   exact roundV ⟨(j + 1, _), hjl⟩ (lft_lt (by ((try simp only [vn] at *) <;> omega)))
  all_goals first
   | exact FinK.mk ⟨_, Gh.refl _, .inl (CutK.val rfl (Le.refl _) hF)⟩
   | (obtain rfl : z = nI (k + 1) := by ((try simp only [vn] at *) <;> omega)
      exact roundV ⟨(k + 1, _), hkl⟩ (lft_lt (by ((try simp only [vn] at *) <;> omega))))
   | fail
 obtain ⟨nb, hnb⟩ : ∃ n, n = boxes.length := ⟨_, rfl⟩
 refine xloopV [] (fun p : { p : Nat × Int // p.1 ≤ boxes.length } => [(3, .i p.1.2), (74, .i (nI p.1.1))]) (fun _ => [.blk 27 [.str frm, .str to, .i number, .i kind, .i ack, .str deal, .str text, .str party, .i index, .i day, .str cur, .i amt, .sl 4 (mapA DcA docs), .sl 1 (mapA .str boxes)]]) (fun p => lft nb p.1.1) ⟨(0, _), Nat.zero_le _⟩ ?_
 rintro ⟨⟨j, m⟩, hj⟩
 dsimp only at hj ⊢
 cbv; repeat' ((first | (first | refine .mk (fun h => ?_) fun h => ?_ | refine .k fun z hz => ?_ | fail) | refine AddK.w fun z hz => ?_) <;> cbv)
 ·refine askEl_int (by ((try simp only [vn] at *) <;> omega)) (by ((try simp only [vn] at *) <;> omega)) fun i x hi hx => ?_
  obtain rfl : j = i := by ((try simp only [vn] at *) <;> omega)
  have hjl : j < boxes.length := (List.getElem?_eq_some_iff.1 hx).1
  clear hx
  cbv; repeat' ((first | (first | refine .k fun z hz => ?_ | fail) | refine AddK.w fun z hz => ?_) <;> cbv)
  obtain rfl : z = nI (j + 1) := by ((try simp only [vn] at *) <;> omega)
  exact roundV ⟨(j + 1, _), hjl⟩ (lft_lt (by ((try simp only [vn] at *) <;> omega)))
 all_goals first | exact FinK.mk ⟨_, Gh.refl _, .inl (CutK.val rfl (Le.refl _) hF)⟩ | exact FinK.mk ⟨_, Gh.refl _, .inl (CutK.val rfl (Le.refl _) (hT ⟨by ((try simp only [vn] at *) <;> omega), by ((try simp only [vn] at *) <;> omega)⟩))⟩ | fail
end Go.Proofs.YtblkcnmecfppnaaDoor
/-
 The reference's digits of a number; a field of a number.
-/
namespace Go.Proofs.YtblkcnmecfppnaaDoor
open Go.RowKit
set_option maxHeartbeats 4000000
set_option maxRecDepth 100000
def DigK (k : Nat) : Ctr := spec (fun n : Int => [.i n]) (fun _ => []) (fun n => n.natAbs = k ∧ -9223372036854775808 ≤ n ∧ n ≤ 9223372036854775807) (fun n => .str (itoS n)) fun _ => []
theorem strOf_one {z : Int} {d : Nat} (hd : d < 10) (h : z = IntKind.u8.wrap (48 + (d : Int))) : strOf [z] = ⟨#[UInt8.ofNat (48 + d)]⟩ := by
 have e : z = ((48 + d : Nat) : Int) := by rw [h, IntKind.wrap_u8]; omega
 rw [e]; rfl
theorem itoS_small {n : Int} (h0 : 0 ≤ n) (h1 : n < 10) {z1 z : Int} (e1 : z1 = 48 + n) (e2 : z = IntKind.u8.wrap z1) : itoS n = strOf [z] := by
 obtain ⟨m, rfl⟩ : ∃ m : Nat, n = m := ⟨n.toNat, by omega⟩
 rw [strOf_one (d := m) (by omega) (by rw [e2, e1])]
 unfold itoS
 rw [Lib.itoa_nonneg, dec_lt m (by omega)]
theorem itoS_big {n : Int} (h0 : 10 ≤ n) {q r z1 z : Int} (eq : q = n.tdiv 10) (er : r = n.tmod 10) (e1 : z1 = 48 + r) (e2 : z = IntKind.u8.wrap z1) : itoS n = itoS q ++ strOf [z] := by
 obtain ⟨m, rfl⟩ : ∃ m : Nat, n = m := ⟨n.toNat, by omega⟩
 have er' : r = ((m % 10 : Nat) : Int) := er
 have eq' : q = ((m / 10 : Nat) : Int) := eq
 rw [strOf_one (d := m % 10) (by omega) (by rw [e2, e1, er']), eq']
 unfold itoS
 rw [Lib.itoa_nonneg, Lib.itoa_nonneg, dec_ge m (by omega)]
 apply ByteArray.ext
 simp
theorem itoS_nsmall {n : Int} (h0 : n < 0) (h1 : -10 < n) {z1 z : Int} (e1 : z1 = 48 - n) (e2 : z = IntKind.u8.wrap z1) : itoS n = ⟨⟨[45]⟩⟩ ++ strOf [z] := by
 obtain ⟨m, rfl⟩ : ∃ m : Nat, n = -(m : Int) := ⟨n.natAbs, by omega⟩
 rw [strOf_one (d := m) (by omega) (by rw [e2, e1]; congr 1; omega)]
 unfold itoS
 rw [Lib.itoa_neg m (by omega), dec_lt m (by omega)]
 apply ByteArray.ext
 simp
theorem itoS_nbig {n : Int} (h0 : n ≤ -10) {q r z1 z : Int} (eq : q = n.tdiv 10) (er : r = n.tmod 10) (e1 : z1 = 48 - r) (e2 : z = IntKind.u8.wrap z1) : itoS n = itoS q ++ strOf [z] := by
 obtain ⟨m, rfl⟩ : ∃ m : Nat, n = -(m : Int) := ⟨n.natAbs, by omega⟩
 have er' : r = -((m % 10 : Nat) : Int) := by rw [er, Int.neg_tmod]; rfl
 have eq' : q = -((m / 10 : Nat) : Int) := by rw [eq, Int.neg_tdiv]; rfl
 rw [strOf_one (d := m % 10) (by omega) (by rw [e2, e1, er']; congr 1; omega), eq']
 unfold itoS
 rw [Lib.itoa_neg m (by omega), Lib.itoa_neg (m / 10) (by omega), dec_ge m (by omega)]
 apply ByteArray.ext
 simp
theorem tdiv10 (n : Int) : (n.tdiv 10).natAbs = n.natAbs / 10 := by
 rw [Int.natAbs_tdiv]; rfl
theorem itoS_size {q : Int} (h : q.natAbs < 100000000000000000000) : (itoS q).size ≤ 21 := by
 have hd := dec_len 20 q.natAbs (by omega) h
 have : (itoS q).size = (Lib.itoa q).length := by simp [itoS, ByteArray.size]
 rw [this]
 unfold Lib.itoa
 split
 ·simp only [List.length_cons]; omega
 ·rw [show q.toNat = q.natAbs by omega]; omega
theorem rdig_step (P : Program) (k : Nat) (ih : ∀ m, m < k → FnOk P 60 (DigK m)) : BodyOk P x60 (DigK k) := by
 intro args H K hc
 obtain ⟨n, rfl, rfl, hp, hK⟩ := hc
 refine ⟨Nat.le_of_ble_eq_true rfl, ?_⟩
 dsimp only at hK hp ⊢
 have hq := tdiv10 n
 have h1 : ∀ z : Int, (strOf [z]).size = 1 := fun z => rfl
 have z45 : (ByteArray.mk (Array.mk [45])).size = 1 := rfl
 have qk : ∀ {K : Int → Prop}, (∀ q, q = n.tdiv 10 → q.natAbs = n.natAbs / 10 → K q) → QuoK .i64 n 10 K := fun h => ⟨⟨by decide, IntWalk.i64_in _ (by omega)⟩, fun z hz => h z hz (by rw [hz]; exact hq)⟩
 have rk : ∀ {K : Int → Prop}, (∀ r, r = n.tmod 10 → r.natAbs < 10 → K r) → RemK n 10 K := fun h => ⟨by decide, fun z hz => h z hz (by rw [hz, Int.natAbs_tmod]; exact Nat.mod_lt _ (by decide))⟩
 have small : ∀ q : Int, q.natAbs = n.natAbs / 10 → -9223372036854775808 ≤ q ∧ q ≤ 9223372036854775807 ∧ (itoS q).size ≤ 21 := fun q h => ⟨by omega, by omega, itoS_size (by omega)⟩
 cbv; repeat' ((first | refine .q fun z hz hz0 hz1 => ?_ | refine .mk (fun h => ?_) fun h => ?_ | refine .k fun z hz => ?_ | refine .u fun u hu hul => ?_ | refine .s fun s hs hsl => ?_ | refine And.intro ?_ ?_ | fail) <;> cbv)
 ·exact FinK.mk ⟨_, Gh.refl _, .inl (CutK.val rfl (Le.refl _) (K_s hK (by rw [itoS_nsmall (by assumption) (by assumption) (by assumption) (by assumption)]; subst_vars; rfl)))⟩
 ·refine qk fun q hq1 hq2 => ?_
  cbv
  refine rk fun r hr1 hr2 => ?_
  obtain ⟨sm1, sm2, sm3⟩ := small q hq2
  cbv; repeat' ((first | refine .k fun z hz => ?_ | refine .s fun s hs hsl => ?_ | refine And.intro ?_ ?_ | fail) <;> cbv)
  ·refine callG_spec0 (ih q.natAbs (by omega)) q ⟨rfl, sm1, sm2⟩ rfl rfl rfl ?_
   obtain ⟨w, hw⟩ : ∃ w, w = itoS q := ⟨_, rfl⟩
   rw [← hw] at sm3 ⊢
   cbv; repeat' ((first | refine .u fun u hu hul => ?_ | refine .s fun s hs hsl => ?_ | fail) <;> cbv)
   exact FinK.mk ⟨_, Gh.refl _, .inl (CutK.val rfl (Le.refl _) (K_s hK (by rw [itoS_nbig (by assumption) hq1 hr1 (by assumption) (by assumption), ← hw]; subst_vars; rfl)))⟩
  ·refine callG_spec0 (ih q.natAbs (by omega)) q ⟨rfl, sm1, sm2⟩ rfl rfl rfl ?_
   obtain ⟨w, hw⟩ : ∃ w, w = itoS q := ⟨_, rfl⟩
   rw [← hw] at sm3 ⊢
   cbv; repeat' ((first | refine .u fun u hu hul => ?_ | fail) <;> cbv)
   exact FinK.mk ⟨_, Gh.refl _, .inl (CutK.val rfl (Le.refl _) (K_s hK (by rw [itoS_nbig (by assumption) hq1 hr1 (by assumption) (by assumption), ← hw]; subst_vars; rfl)))⟩
 ·exact FinK.mk ⟨_, Gh.refl _, .inl (CutK.val rfl (Le.refl _) (K_s hK (by rw [itoS_small (by assumption) (by assumption) (by assumption) (by assumption)]; subst_vars; rfl)))⟩
 all_goals
  rename_i q hq1 _ _ r hr1 _ _
  obtain ⟨sm1, sm2, sm3⟩ := small q (by rw [hq1]; exact hq)
  have hq2 : q.natAbs = n.natAbs / 10 := by rw [hq1]; exact hq
  refine callG_spec0 (ih q.natAbs (by omega)) q ⟨rfl, sm1, sm2⟩ rfl rfl rfl ?_
  obtain ⟨w, hw⟩ : ∃ w, w = itoS q := ⟨_, rfl⟩
  rw [← hw] at sm3 ⊢
  cbv; repeat' ((first | refine .u fun u hu hul => ?_ | refine .s fun s hs hsl => ?_ | fail) <;> cbv)
  exact FinK.mk ⟨_, Gh.refl _, .inl (CutK.val rfl (Le.refl _) (K_s hK (by rw [itoS_big (by assumption) hq1 hr1 (by assumption) (by assumption), ← hw]; subst_vars; rfl)))⟩
theorem k_rdig {P : Program} (h : cFn P 60 = some x60) : FnOk P 60 (ItoC itoS) := by
 have key : ∀ k, FnOk P 60 (DigK k) := fun k => by
  induction k using Nat.strongRecOn with
  | _ k ih => exact body_ok h (rdig_step P k ih)
 intro args H K ⟨n, h1, h2, h3, h4⟩
 exact key n.natAbs args H K ⟨n, h1, h2, ⟨rfl, h3⟩, h4⟩
def NumFC : Ctr := spec (fun q : ByteArray × Int => [.str q.1, .i q.2]) (fun _ => []) (fun q => -9223372036854775808 ≤ q.2 ∧ q.2 ≤ 9223372036854775807) (fun q => .agg [.str q.1, .str (itoS q.2)]) fun _ => []
theorem number_body (P : Program) (hD : FnOk P 60 (ItoC itoS)) : BodyOk P x41 NumFC := by
 intro args H K hc
 obtain ⟨⟨nm, n⟩, rfl, rfl, hp, hK⟩ := hc
 refine ⟨Nat.le_of_ble_eq_true rfl, ?_⟩
 dsimp only at hK hp ⊢
 obtain ⟨w, hw⟩ : ∃ w, w = itoS n := ⟨_, rfl⟩
 rw [← hw] at hK
 cbv
 refine callG_spec0 hD n hp rfl rfl rfl ?_
 rw [← hw]
 cbv
 refine FinK.mk ⟨_, Gh.refl _, ?_⟩
 cbv
 exact .inl (CutK.val rfl (Le.refl _) hK)
end Go.Proofs.YtblkcnmecfppnaaDoor
/-
 The reference's May of letters: the same as the program's.
-/
namespace Go.Proofs.YtblkcnmecfppnaaDoor
open Go.RowKit
set_option maxHeartbeats 8000000
set_option maxRecDepth 100000
theorem kindN_dec (k : Int) : fromB k 0 28 = !decide (kindN k = ⟨#[]⟩) := by
 by_cases h : 0 ≤ k ∧ k ≤ 28
 ·have e : fromB k 0 28 = true := by unfold fromB; rw [decide_eq_true h.1, decide_eq_true h.2]; rfl
  have key : ∀ j : Nat, j < 29 → decide (kindN (Int.ofNat j) = ⟨#[]⟩) = false := by decide +kernel
  obtain ⟨j, rfl⟩ : ∃ j : Nat, k = Int.ofNat j := ⟨k.toNat, by simp only [Int.ofNat_eq_natCast]; omega⟩
  rw [e, key j (by have := h.2; simp only [Int.ofNat_eq_natCast] at this; omega)]; rfl
 ·rw [kindN_out (by omega)]
  unfold fromB
  rcases (show k < 0 ∨ 28 < k by omega) with h1 | h1
  ·rw [decide_eq_false (by omega : ¬ (0 : Int) ≤ k)]; rfl
  ·rw [decide_eq_false (by omega : ¬ k ≤ (28 : Int)), Bool.and_false]; rfl
theorem any_of {α : Type} {p : α → Bool} {l : List α} {k : Nat} {x : α} (hx : l[k]? = some x) (h : p x = true) : l.any p = true := List.any_eq_true.2 ⟨x, List.mem_of_getElem? hx, h⟩
theorem none_of {α : Type} {p : α → Bool} {l : List α} (h : NoneTo p l l.length) : l.any p = false := by
 rw [← idxP_any, idxP_none h]; rfl
theorem rmay_body (P : Program) (hN : FnOk P 29 (StrC shortS nameB)) (hB : FnOk P 30 FromD) (hNN : FnOk P 31 (StrC shortS noneB)) (hO : FnOk P 32 NoneC)
  (hM : FnOk P 33 MoneyC) (hPa : FnOk P 34 (DocP paperB)) (hT : FnOk P 35 TextC) (hR : FnOk P 36 RecC) : BodyOk P x9 (LtP mayB) := by
 intro args H K hc
 obtain ⟨l, rfl, rfl, hp, hK⟩ := hc
 refine ⟨Nat.le_of_ble_eq_true rfl, ?_⟩
 obtain ⟨h1, h2, h3, h4, h5, h6, h7⟩ := hp
 unfold mayB at hK
 unfold bareB zeroS at hK
 dsimp only at hK
 rw [← kindN_dec] at hK
 obtain ⟨frm, to, number, kind, ack, deal, text, party, index, day, cur, amt, docs, boxes⟩ := l
 dsimp only at hK h1 h2 h3 h4 h5 h6 h7 ⊢
 have hl1 := mapA_len DcA docs
 have hl2 := mapA_len AV.str boxes
 obtain ⟨b1, e_b1⟩ : ∃ b, b = (nameB frm) := ⟨_, rfl⟩
 obtain ⟨b2, e_b2⟩ : ∃ b, b = (nameB to) := ⟨_, rfl⟩
 obtain ⟨b3, e_b3⟩ : ∃ b, b = (decide (frm = to)) := ⟨_, rfl⟩
 obtain ⟨b4, e_b4⟩ : ∃ b, b = (fromB kind 0 28) := ⟨_, rfl⟩
 obtain ⟨b5, e_b5⟩ : ∃ b, b = (fromB number 0 1048576) := ⟨_, rfl⟩
 obtain ⟨b6, e_b6⟩ : ∃ b, b = (fromB ack 0 1048576) := ⟨_, rfl⟩
 obtain ⟨b7, e_b7⟩ : ∃ b, b = (noneB deal) := ⟨_, rfl⟩
 obtain ⟨b8, e_b8⟩ : ∃ b, b = (noneB party) := ⟨_, rfl⟩
 obtain ⟨b9, e_b9⟩ : ∃ b, b = (decide (text.size ≤ 4096)) := ⟨_, rfl⟩
 obtain ⟨c1, e_c1⟩ : ∃ b, b = (fromB index (-1) 2) := ⟨_, rfl⟩
 obtain ⟨c2, e_c2⟩ : ∃ b, b = (fromB day 0 1048576) := ⟨_, rfl⟩
 obtain ⟨c6, e_c6⟩ : ∃ b, b = (decide (cur = ⟨#[]⟩ ∧ amt = 0)) := ⟨_, rfl⟩
 obtain ⟨c3, e_c3⟩ : ∃ b, b = (moneyB cur amt) := ⟨_, rfl⟩
 obtain ⟨c7, e_c7⟩ : ∃ b, b = (decide (docs.length ≤ 8)) := ⟨_, rfl⟩
 obtain ⟨c8, e_c8⟩ : ∃ b, b = (decide (boxes.length ≤ 32)) := ⟨_, rfl⟩
 obtain ⟨c4, e_c4⟩ : ∃ b, b = (docs.any fun d => !isDocB d) := ⟨_, rfl⟩
 obtain ⟨c5, e_c5⟩ : ∃ b, b = (boxes.any fun s => !nameB s) := ⟨_, rfl⟩
 rw [← e_b1, ← e_b2, ← e_b3, ← e_b4, ← e_b5, ← e_b6, ← e_b7, ← e_b8, ← e_b9, ← e_c1, ← e_c2, ← e_c6, ← e_c3, ← e_c7, ← e_c8, ← e_c4, ← e_c5] at hK
 cbv
 refine callG_spec0 hN frm h3 rfl rfl rfl ?_
 try dsimp only
 rw [show (nameB frm) = b1 from e_b1.symm]
 cases b1
 ·cbv
  exact FinK.mk ⟨_, Gh.refl _, .inl (CutK.val rfl (Le.refl _) (K_bl hK (by simp only [Bool.false_and, Bool.and_false, Bool.not_true, Bool.not_false, Bool.true_and, Bool.false_or])))⟩
 cbv
 refine callG_spec0 hN to h4 rfl rfl rfl ?_
 try dsimp only
 rw [show (nameB to) = b2 from e_b2.symm]
 cases b2
 ·cbv
  exact FinK.mk ⟨_, Gh.refl _, .inl (CutK.val rfl (Le.refl _) (K_bl hK (by simp only [Bool.false_and, Bool.and_false, Bool.not_true, Bool.not_false, Bool.true_and, Bool.false_or])))⟩
 cbv; repeat' ((first | refine .mk (fun h => ?_) fun h => ?_ | fail) <;> cbv)
 ·obtain rfl : b3 = true := e_b3.trans (decide_eq_true h)
  exact FinK.mk ⟨_, Gh.refl _, .inl (CutK.val rfl (Le.refl _) (K_bl hK (by simp only [Bool.false_and, Bool.and_false, Bool.not_true, Bool.not_false, Bool.true_and, Bool.false_or])))⟩
 obtain rfl : b3 = false := e_b3.trans (decide_eq_false h)
 refine callG_spec0 hB (kind, 0, 28) trivial rfl rfl rfl ?_
 try dsimp only
 rw [show (fromB kind 0 28) = b4 from e_b4.symm]
 cases b4
 ·cbv
  exact FinK.mk ⟨_, Gh.refl _, .inl (CutK.val rfl (Le.refl _) (K_bl hK (by simp only [Bool.false_and, Bool.and_false, Bool.not_true, Bool.not_false, Bool.true_and, Bool.false_or])))⟩
 cbv
 refine callG_spec0 hB (number, 0, 1048576) trivial rfl rfl rfl ?_
 try dsimp only
 rw [show (fromB number 0 1048576) = b5 from e_b5.symm]
 cases b5
 ·cbv
  exact FinK.mk ⟨_, Gh.refl _, .inl (CutK.val rfl (Le.refl _) (K_bl hK (by simp only [Bool.false_and, Bool.and_false, Bool.not_true, Bool.not_false, Bool.true_and, Bool.false_or])))⟩
 cbv
 refine callG_spec0 hB (ack, 0, 1048576) trivial rfl rfl rfl ?_
 try dsimp only
 rw [show (fromB ack 0 1048576) = b6 from e_b6.symm]
 cases b6
 ·cbv
  exact FinK.mk ⟨_, Gh.refl _, .inl (CutK.val rfl (Le.refl _) (K_bl hK (by simp only [Bool.false_and, Bool.and_false, Bool.not_true, Bool.not_false, Bool.true_and, Bool.false_or])))⟩
 cbv
 refine callG_spec0 hNN deal h5 rfl rfl rfl ?_
 try dsimp only
 rw [show (noneB deal) = b7 from e_b7.symm]
 cases b7
 ·cbv
  exact FinK.mk ⟨_, Gh.refl _, .inl (CutK.val rfl (Le.refl _) (K_bl hK (by simp only [Bool.false_and, Bool.and_false, Bool.not_true, Bool.not_false, Bool.true_and, Bool.false_or])))⟩
 cbv
 refine callG_spec0 hNN party h7 rfl rfl rfl ?_
 try dsimp only
 rw [show (noneB party) = b8 from e_b8.symm]
 cases b8
 ·cbv
  exact FinK.mk ⟨_, Gh.refl _, .inl (CutK.val rfl (Le.refl _) (K_bl hK (by simp only [Bool.false_and, Bool.and_false, Bool.not_true, Bool.not_false, Bool.true_and, Bool.false_or])))⟩
 cbv; repeat' ((first | refine .mk (fun h => ?_) fun h => ?_ | refine .k fun z hz => ?_ | fail) <;> cbv)
 ·obtain rfl : b9 = false := e_b9.trans (decide_eq_false (by ((try simp only [vn] at *) <;> omega)))
  exact FinK.mk ⟨_, Gh.refl _, .inl (CutK.val rfl (Le.refl _) (K_bl hK (by simp only [Bool.false_and, Bool.and_false, Bool.not_true, Bool.not_false, Bool.true_and, Bool.false_or])))⟩
 obtain rfl : b9 = true := e_b9.trans (decide_eq_true (by ((try simp only [vn] at *) <;> omega)))
 refine callG_spec0 hB (index, -1, 2) trivial rfl rfl rfl ?_
 try dsimp only
 rw [show (fromB index (-1) 2) = c1 from e_c1.symm]
 cases c1
 ·cbv
  exact FinK.mk ⟨_, Gh.refl _, .inl (CutK.val rfl (Le.refl _) (K_bl hK (by simp only [Bool.false_and, Bool.and_false, Bool.not_true, Bool.not_false, Bool.true_and, Bool.false_or])))⟩
 cbv
 refine callG_spec0 hB (day, 0, 1048576) trivial rfl rfl rfl ?_
 try dsimp only
 rw [show (fromB day 0 1048576) = c2 from e_c2.symm]
 cases c2
 ·cbv
  exact FinK.mk ⟨_, Gh.refl _, .inl (CutK.val rfl (Le.refl _) (K_bl hK (by simp only [Bool.false_and, Bool.and_false, Bool.not_true, Bool.not_false, Bool.true_and, Bool.false_or])))⟩
 cbv
 refine callG_spec0 hO (cur, amt) trivial rfl rfl rfl ?_
 try dsimp only
 rw [show (decide (cur = ⟨#[]⟩ ∧ amt = 0)) = c6 from e_c6.symm]
 cases c6
 ·cbv
  refine callG_spec0 hM (cur, amt) trivial rfl rfl rfl ?_
  try dsimp only
  rw [show (moneyB cur amt) = c3 from e_c3.symm]
  cases c3
  ·cbv
   exact FinK.mk ⟨_, Gh.refl _, .inl (CutK.val rfl (Le.refl _) (K_bl hK (by simp only [Bool.false_and, Bool.and_false, Bool.not_true, Bool.not_false, Bool.true_and, Bool.false_or])))⟩
  cbv; repeat' ((first | refine .mk (fun h => ?_) fun h => ?_ | refine .k fun z hz => ?_ | fail) <;> cbv)
  ·obtain rfl : c7 = false := e_c7.trans (decide_eq_false (by ((try simp only [vn] at *) <;> omega)))
   exact FinK.mk ⟨_, Gh.refl _, .inl (CutK.val rfl (Le.refl _) (K_bl hK (by simp only [Bool.false_and, Bool.and_false, Bool.not_true, Bool.not_false, Bool.true_and, Bool.false_or])))⟩
  ·obtain rfl : c8 = false := e_c8.trans (decide_eq_false (by ((try simp only [vn] at *) <;> omega)))
   exact FinK.mk ⟨_, Gh.refl _, .inl (CutK.val rfl (Le.refl _) (K_bl hK (by simp only [Bool.false_and, Bool.and_false, Bool.not_true, Bool.not_false, Bool.true_and, Bool.false_or])))⟩
  obtain rfl : c7 = true := e_c7.trans (decide_eq_true (by ((try simp only [vn] at *) <;> omega)))
  obtain rfl : c8 = true := e_c8.trans (decide_eq_true (by ((try simp only [vn] at *) <;> omega)))
  have hd8 : docs.length ≤ 8 := by ((try simp only [vn] at *) <;> omega)
  have hb8 : boxes.length ≤ 32 := by ((try simp only [vn] at *) <;> omega)
  simp only [Bool.true_and, Bool.not_false, Bool.true_or, Bool.false_or] at hK
  have no4 : c4 = true → K (.bl false) [] := fun h => K_bl hK (by rw [h]; simp only [Bool.not_true, Bool.false_and])
  have no5 : c5 = true → K (.bl false) [] := fun h => K_bl hK (by rw [h]; simp only [Bool.not_true, Bool.false_and, Bool.and_false])
  refine xloopV [] (fun p : { k : Nat // k ≤ docs.length ∧ NoneTo (fun d => !isDocB d) docs k } => [(3, .i (nI p.1))]) (fun _ => [.blk 27 [.str frm, .str to, .i number, .i kind, .i ack, .str deal, .str text, .str party, .i index, .i day, .str cur, .i amt, .sl 4 (mapA DcA docs), .sl 1 (mapA .str boxes)]]) (fun p => lft 9 p.1) ⟨0, Nat.zero_le _, .zero⟩ ?_
  rintro ⟨k, hk, hf⟩
  dsimp only
  cbv; repeat' ((first | refine .mk (fun h => ?_) fun h => ?_ | refine .k fun z hz => ?_ | fail) <;> cbv)
  ·refine askEl_int (by ((try simp only [vn] at *) <;> omega)) (by ((try simp only [vn] at *) <;> omega)) fun i x hi hx => ?_
   obtain rfl : k = i := by ((try simp only [vn] at *) <;> omega)
   have hkl : k < docs.length := (List.getElem?_eq_some_iff.1 hx).1
   have hxn : NamesS x.fields := h1.each x (List.mem_of_getElem? hx)
   have ie := isDocB_eq x
   obtain ⟨pb, hpb⟩ : ∃ b, b = paperB x := ⟨_, rfl⟩
   rw [← hpb] at ie
   have bad : isDocB x = false → K (.bl false) [] := fun h => no4 (e_c4.trans (any_of hx (by rw [h]; rfl)))
   have nxt : isDocB x = true → NoneTo (fun d => !isDocB d) docs (k + 1) := fun h => hf.succ hx (by rw [h]; rfl)
   have hfew : pb = true → x.fields.length ≤ 4000 := fun h => by rw [h] at hpb; unfold paperB at hpb; simp only [Bool.and_eq_true, decide_eq_true_eq, Eq.comm (a := true)] at hpb; omega
   have hrn := recP_names hxn
   obtain ⟨fs, hfs⟩ : ∃ fs, fs = recP x := ⟨_, rfl⟩
   rw [← hfs] at ie hrn
   obtain ⟨t, ht⟩ : ∃ t, t = textS fs := ⟨_, rfl⟩
   obtain ⟨tc, htc⟩ : ∃ t, t = textC fs := ⟨_, rfl⟩
   rw [← ht] at ie
   have hts : (ByteArray.mk (Array.mk t)).size = t.length := by simp [ByteArray.size]
   obtain ⟨k1, n1, is1, fs1⟩ := x
   cbv
   refine callG_spec0 hPa ⟨k1, n1, is1, fs1⟩ hxn rfl rfl rfl ?_
   rw [← hpb]
   cases pb
   ·cbv
    exact FinK.mk ⟨_, Gh.refl _, .inl (CutK.val rfl (Le.refl _) (bad (by rw [ie]; rfl)))⟩
   ·cbv; repeat' ((first | refine .e ?_ | fail) <;> cbv)
    refine callG_spec0 hR ⟨k1, n1, is1, fs1⟩ (by exact hfew rfl) (by rfl) (by rfl) (by rfl) ?_
    rw [← hfs]
    cbv
    refine callG_spec0 hT fs hrn rfl rfl rfl ?_
    try dsimp only
    rw [← ht, ← htc]
    cbv; repeat' ((first | refine .mk (fun h => ?_) fun h => ?_ | refine .k fun z hz => ?_ | fail) <;> cbv)
    ·exact FinK.mk ⟨_, Gh.refl _, .inl (CutK.val rfl (Le.refl _) (bad (by rw [ie, decide_eq_false (by ((try simp only [vn] at *) <;> omega))]; rfl)))⟩
    ·obtain rfl : z = nI (k + 1) := by ((try simp only [vn] at *) <;> omega)
     exact roundV ⟨k + 1, hkl, nxt (by rw [ie, decide_eq_true (by ((try simp only [vn] at *) <;> omega))]; rfl)⟩ (lft_lt (by ((try simp only [vn] at *) <;> omega)))
  have hc4 : c4 = false := e_c4.trans (none_of (by obtain rfl : k = docs.length := (by ((try simp only [vn] at *) <;> omega)); exact hf))
  clear hf hk
  refine xloopV [] (fun p : { k : Nat // k ≤ boxes.length ∧ NoneTo (fun s => !nameB s) boxes k } => [(6, .i (nI p.1))]) (fun _ => [.blk 27 [.str frm, .str to, .i number, .i kind, .i ack, .str deal, .str text, .str party, .i index, .i day, .str cur, .i amt, .sl 4 (mapA DcA docs), .sl 1 (mapA .str boxes)]]) (fun p => lft 33 p.1) ⟨0, Nat.zero_le _, .zero⟩ ?_
  rintro ⟨k, hk, hf⟩
  dsimp only
  cbv; repeat' ((first | refine .mk (fun h => ?_) fun h => ?_ | refine .k fun z hz => ?_ | fail) <;> cbv)
  ·refine askEl_int (by ((try simp only [vn] at *) <;> omega)) (by ((try simp only [vn] at *) <;> omega)) fun i x hi hx => ?_
   obtain rfl : k = i := by ((try simp only [vn] at *) <;> omega)
   have hkl : k < boxes.length := (List.getElem?_eq_some_iff.1 hx).1
   have hxn : shortS x := h2.each x (List.mem_of_getElem? hx)
   obtain ⟨b, hb⟩ : ∃ b, b = nameB x := ⟨_, rfl⟩
   have bad : b = false → K (.bl false) [] := fun h => no5 (e_c5.trans (any_of hx (by rw [← hb, h]; rfl)))
   have nxt : b = true → NoneTo (fun s => !nameB s) boxes (k + 1) := fun h => hf.succ hx (by rw [← hb, h]; rfl)
   clear hx
   cbv
   refine callG_spec0 hN x hxn rfl rfl rfl ?_
   rw [← hb]
   cases b
   ·cbv
    exact FinK.mk ⟨_, Gh.refl _, .inl (CutK.val rfl (Le.refl _) (bad rfl))⟩
   ·cbv; repeat' ((first | refine .k fun z hz => ?_ | fail) <;> cbv)
    obtain rfl : z = nI (k + 1) := by ((try simp only [vn] at *) <;> omega)
    exact roundV ⟨k + 1, hkl, nxt rfl⟩ (lft_lt (by ((try simp only [vn] at *) <;> omega)))
  all_goals have hc5 : c5 = false := e_c5.trans (none_of (by obtain rfl : k = boxes.length := (by ((try simp only [vn] at *) <;> omega)); exact hf))
  all_goals (rw [hc4, hc5] at hK; simp only [Bool.not_false, Bool.true_and] at hK)
  all_goals try (have hcz : (decide (cur = ⟨#[]⟩) && decide (amt = 0)) = false := (by rw [e_c6, Bool.decide_and]))
  all_goals try rw [hcz] at hK
  all_goals clear no4 no5 hcz
  all_goals try (refine callG_spec0 hO (cur, amt) trivial rfl rfl rfl ?_; try dsimp only; rw [show (decide (cur = ⟨#[]⟩ ∧ amt = 0)) = false from e_c6.symm]; cbv)
  all_goals clear e_b1 e_b2 e_b3 e_b4 e_b5 e_b6 e_b7 e_b8 e_b9 e_c1 e_c2 e_c3 e_c4 e_c5 e_c6 e_c7 e_c8 hf h1 h2 h3 h4 h5 h6 h7
  all_goals exact FinK.mk ⟨_, Gh.refl _, .inl (CutK.val rfl (Le.refl _) (K_bl hK (by
   first
   | (simp_all; done)
   | (have d0 : docs.length = 0 := by ((try simp only [vn] at *) <;> omega)
      have b0 : boxes.length = 0 := by ((try simp only [vn] at *) <;> omega)
      rw [decide_eq_true d0, decide_eq_true b0, decide_eq_true (show number = 0 from by assumption), decide_eq_true (show deal = ⟨#[]⟩ from by assumption), decide_eq_true (show text = ⟨#[]⟩ from by assumption), decide_eq_true (show party = ⟨#[]⟩ from by assumption), decide_eq_true (show index = 0 from by assumption), decide_eq_true (show day = 0 from by assumption)]; simp; done)
   | (have d0 : decide (docs.length = 0) = false ∨ decide (boxes.length = 0) = false := by (rcases Nat.eq_zero_or_pos docs.length with e | e; exact .inr (decide_eq_false (by ((try simp only [vn] at *) <;> omega))); exact .inl (decide_eq_false (by ((try simp only [vn] at *) <;> omega))))
      rcases d0 with e | e <;> (rw [e]; simp only [Bool.false_and, Bool.and_false, Bool.or_false]; rw [decide_eq_true (show kind = 28 from by assumption)]; rfl)))))⟩
 ·cbv; repeat' ((first | refine .mk (fun h => ?_) fun h => ?_ | refine .k fun z hz => ?_ | fail) <;> cbv)
  ·obtain rfl : c7 = false := e_c7.trans (decide_eq_false (by ((try simp only [vn] at *) <;> omega)))
   exact FinK.mk ⟨_, Gh.refl _, .inl (CutK.val rfl (Le.refl _) (K_bl hK (by simp only [Bool.false_and, Bool.and_false, Bool.not_true, Bool.not_false, Bool.true_and, Bool.false_or])))⟩
  ·obtain rfl : c8 = false := e_c8.trans (decide_eq_false (by ((try simp only [vn] at *) <;> omega)))
   exact FinK.mk ⟨_, Gh.refl _, .inl (CutK.val rfl (Le.refl _) (K_bl hK (by simp only [Bool.false_and, Bool.and_false, Bool.not_true, Bool.not_false, Bool.true_and, Bool.false_or])))⟩
  obtain rfl : c7 = true := e_c7.trans (decide_eq_true (by ((try simp only [vn] at *) <;> omega)))
  obtain rfl : c8 = true := e_c8.trans (decide_eq_true (by ((try simp only [vn] at *) <;> omega)))
  have hd8 : docs.length ≤ 8 := by ((try simp only [vn] at *) <;> omega)
  have hb8 : boxes.length ≤ 32 := by ((try simp only [vn] at *) <;> omega)
  simp only [Bool.true_and, Bool.not_false, Bool.true_or, Bool.false_or] at hK
  have no4 : c4 = true → K (.bl false) [] := fun h => K_bl hK (by rw [h]; simp only [Bool.not_true, Bool.false_and])
  have no5 : c5 = true → K (.bl false) [] := fun h => K_bl hK (by rw [h]; simp only [Bool.not_true, Bool.false_and, Bool.and_false])
  refine xloopV [] (fun p : { k : Nat // k ≤ docs.length ∧ NoneTo (fun d => !isDocB d) docs k } => [(3, .i (nI p.1))]) (fun _ => [.blk 27 [.str frm, .str to, .i number, .i kind, .i ack, .str deal, .str text, .str party, .i index, .i day, .str cur, .i amt, .sl 4 (mapA DcA docs), .sl 1 (mapA .str boxes)]]) (fun p => lft 9 p.1) ⟨0, Nat.zero_le _, .zero⟩ ?_
  rintro ⟨k, hk, hf⟩
  dsimp only
  cbv; repeat' ((first | refine .mk (fun h => ?_) fun h => ?_ | refine .k fun z hz => ?_ | fail) <;> cbv)
  ·refine askEl_int (by ((try simp only [vn] at *) <;> omega)) (by ((try simp only [vn] at *) <;> omega)) fun i x hi hx => ?_
   obtain rfl : k = i := by ((try simp only [vn] at *) <;> omega)
   have hkl : k < docs.length := (List.getElem?_eq_some_iff.1 hx).1
   have hxn : NamesS x.fields := h1.each x (List.mem_of_getElem? hx)
   have ie := isDocB_eq x
   obtain ⟨pb, hpb⟩ : ∃ b, b = paperB x := ⟨_, rfl⟩
   rw [← hpb] at ie
   have bad : isDocB x = false → K (.bl false) [] := fun h => no4 (e_c4.trans (any_of hx (by rw [h]; rfl)))
   have nxt : isDocB x = true → NoneTo (fun d => !isDocB d) docs (k + 1) := fun h => hf.succ hx (by rw [h]; rfl)
   have hfew : pb = true → x.fields.length ≤ 4000 := fun h => by rw [h] at hpb; unfold paperB at hpb; simp only [Bool.and_eq_true, decide_eq_true_eq, Eq.comm (a := true)] at hpb; omega
   have hrn := recP_names hxn
   obtain ⟨fs, hfs⟩ : ∃ fs, fs = recP x := ⟨_, rfl⟩
   rw [← hfs] at ie hrn
   obtain ⟨t, ht⟩ : ∃ t, t = textS fs := ⟨_, rfl⟩
   obtain ⟨tc, htc⟩ : ∃ t, t = textC fs := ⟨_, rfl⟩
   rw [← ht] at ie
   have hts : (ByteArray.mk (Array.mk t)).size = t.length := by simp [ByteArray.size]
   obtain ⟨k1, n1, is1, fs1⟩ := x
   cbv
   refine callG_spec0 hPa ⟨k1, n1, is1, fs1⟩ hxn rfl rfl rfl ?_
   rw [← hpb]
   cases pb
   ·cbv
    exact FinK.mk ⟨_, Gh.refl _, .inl (CutK.val rfl (Le.refl _) (bad (by rw [ie]; rfl)))⟩
   ·cbv; repeat' ((first | refine .e ?_ | fail) <;> cbv)
    refine callG_spec0 hR ⟨k1, n1, is1, fs1⟩ (by exact hfew rfl) (by rfl) (by rfl) (by rfl) ?_
    rw [← hfs]
    cbv
    refine callG_spec0 hT fs hrn rfl rfl rfl ?_
    try dsimp only
    rw [← ht, ← htc]
    cbv; repeat' ((first | refine .mk (fun h => ?_) fun h => ?_ | refine .k fun z hz => ?_ | fail) <;> cbv)
    ·exact FinK.mk ⟨_, Gh.refl _, .inl (CutK.val rfl (Le.refl _) (bad (by rw [ie, decide_eq_false (by ((try simp only [vn] at *) <;> omega))]; rfl)))⟩
    ·obtain rfl : z = nI (k + 1) := by ((try simp only [vn] at *) <;> omega)
     exact roundV ⟨k + 1, hkl, nxt (by rw [ie, decide_eq_true (by ((try simp only [vn] at *) <;> omega))]; rfl)⟩ (lft_lt (by ((try simp only [vn] at *) <;> omega)))
  have hc4 : c4 = false := e_c4.trans (none_of (by obtain rfl : k = docs.length := (by ((try simp only [vn] at *) <;> omega)); exact hf))
  clear hf hk
  refine xloopV [] (fun p : { k : Nat // k ≤ boxes.length ∧ NoneTo (fun s => !nameB s) boxes k } => [(6, .i (nI p.1))]) (fun _ => [.blk 27 [.str frm, .str to, .i number, .i kind, .i ack, .str deal, .str text, .str party, .i index, .i day, .str cur, .i amt, .sl 4 (mapA DcA docs), .sl 1 (mapA .str boxes)]]) (fun p => lft 33 p.1) ⟨0, Nat.zero_le _, .zero⟩ ?_
  rintro ⟨k, hk, hf⟩
  dsimp only
  cbv; repeat' ((first | refine .mk (fun h => ?_) fun h => ?_ | refine .k fun z hz => ?_ | fail) <;> cbv)
  ·refine askEl_int (by ((try simp only [vn] at *) <;> omega)) (by ((try simp only [vn] at *) <;> omega)) fun i x hi hx => ?_
   obtain rfl : k = i := by ((try simp only [vn] at *) <;> omega)
   have hkl : k < boxes.length := (List.getElem?_eq_some_iff.1 hx).1
   have hxn : shortS x := h2.each x (List.mem_of_getElem? hx)
   obtain ⟨b, hb⟩ : ∃ b, b = nameB x := ⟨_, rfl⟩
   have bad : b = false → K (.bl false) [] := fun h => no5 (e_c5.trans (any_of hx (by rw [← hb, h]; rfl)))
   have nxt : b = true → NoneTo (fun s => !nameB s) boxes (k + 1) := fun h => hf.succ hx (by rw [← hb, h]; rfl)
   clear hx
   cbv
   refine callG_spec0 hN x hxn rfl rfl rfl ?_
   rw [← hb]
   cases b
   ·cbv
    exact FinK.mk ⟨_, Gh.refl _, .inl (CutK.val rfl (Le.refl _) (bad rfl))⟩
   ·cbv; repeat' ((first | refine .k fun z hz => ?_ | fail) <;> cbv)
    obtain rfl : z = nI (k + 1) := by ((try simp only [vn] at *) <;> omega)
    exact roundV ⟨k + 1, hkl, nxt rfl⟩ (lft_lt (by ((try simp only [vn] at *) <;> omega)))
  all_goals have hc5 : c5 = false := e_c5.trans (none_of (by obtain rfl : k = boxes.length := (by ((try simp only [vn] at *) <;> omega)); exact hf))
  all_goals (rw [hc4, hc5] at hK; simp only [Bool.not_false, Bool.true_and] at hK)
  all_goals try (have hcz : (decide (cur = ⟨#[]⟩) && decide (amt = 0)) = true := (by rw [e_c6, Bool.decide_and]))
  all_goals try rw [hcz] at hK
  all_goals clear no4 no5 hcz
  all_goals try (refine callG_spec0 hO (cur, amt) trivial rfl rfl rfl ?_; try dsimp only; rw [show (decide (cur = ⟨#[]⟩ ∧ amt = 0)) = true from e_c6.symm]; cbv; repeat' ((first | refine .mk (fun h => ?_) fun h => ?_ | refine .k fun z hz => ?_ | fail) <;> cbv))
  all_goals clear e_b1 e_b2 e_b3 e_b4 e_b5 e_b6 e_b7 e_b8 e_b9 e_c1 e_c2 e_c3 e_c4 e_c5 e_c6 e_c7 e_c8 hf h1 h2 h3 h4 h5 h6 h7
  all_goals exact FinK.mk ⟨_, Gh.refl _, .inl (CutK.val rfl (Le.refl _) (K_bl hK (by
   first
   | (simp_all; done)
   | (have d0 : docs.length = 0 := by ((try simp only [vn] at *) <;> omega)
      have b0 : boxes.length = 0 := by ((try simp only [vn] at *) <;> omega)
      rw [decide_eq_true d0, decide_eq_true b0, decide_eq_true (show number = 0 from by assumption), decide_eq_true (show deal = ⟨#[]⟩ from by assumption), decide_eq_true (show text = ⟨#[]⟩ from by assumption), decide_eq_true (show party = ⟨#[]⟩ from by assumption), decide_eq_true (show index = 0 from by assumption), decide_eq_true (show day = 0 from by assumption)]; simp; done)
   | (have d0 : decide (docs.length = 0) = false ∨ decide (boxes.length = 0) = false := by (rcases Nat.eq_zero_or_pos docs.length with e | e; exact .inr (decide_eq_false (by ((try simp only [vn] at *) <;> omega))); exact .inl (decide_eq_false (by ((try simp only [vn] at *) <;> omega))))
      rcases d0 with e | e <;> (rw [e]; simp only [Bool.false_and, Bool.and_false, Bool.or_false]; rw [decide_eq_true (show kind = 28 from by assumption)]; rfl)))))⟩
end Go.Proofs.YtblkcnmecfppnaaDoor
/-
 The reference's record of a letter: the same as the program's.
-/
namespace Go.Proofs.YtblkcnmecfppnaaDoor
open Go.RowKit
set_option maxHeartbeats 8000000
set_option maxRecDepth 100000
theorem monS_none {c : ByteArray} {a : Int} (h : c = ⟨#[]⟩ ∧ a = 0) : monS c a = ⟨#[]⟩ := by
 unfold monS
 rw [show moneyB c a = false from by rw [h.1, h.2]; rfl]; rfl
theorem mayB_kind {l : Lt} (h : mayB l = true) : 0 ≤ l.kind ∧ l.kind ≤ 28 := by
 simp only [mayB, Bool.and_eq_true] at h
 have hk : (!decide (kindN l.kind = ⟨#[]⟩)) = true := h.1.1.1.1.1.1.1.1.1.1.1.1.1.2
 rw [← kindN_dec] at hk
 unfold fromB at hk
 simp only [Bool.and_eq_true, decide_eq_true_eq] at hk
 exact hk
theorem mayB_docs {l : Lt} (h : mayB l = true) : ∀ d ∈ l.docs, isDocB d = true := by
 simp only [mayB, Bool.and_eq_true] at h
 have hk : (!(l.docs.any fun d => !isDocB d)) = true := h.1.1.2
 intro d hd
 cases hb : isDocB d with
 | true => rfl
 | false =>
  have : (l.docs.any fun d => !isDocB d) = true := List.any_eq_true.2 ⟨d, hd, by rw [hb]; rfl⟩
  rw [this] at hk
  cases hk
theorem isDocB_rec {d : Dc} (h : isDocB d = true) : docS d = textS (recP d) ∧ d.fields.length ≤ 4000 := by
 unfold isDocB at h
 simp only [Bool.and_eq_true, decide_eq_true_eq] at h
 by_cases hr : docR d = true
 ·refine ⟨by unfold docS; rw [if_pos hr], ?_⟩
  unfold docR at hr
  simp only [Bool.and_eq_true, decide_eq_true_eq] at hr
  omega
 ·have : docC d = 1 := by unfold docC; rw [if_neg hr]
  rw [this] at h
  exact absurd h.1 (by decide)
theorem names_get {j : Nat} {x : ByteArray} (h : names29[j]? = some x) : x = kindN (Int.ofNat j) := by
 have hj : j < 29 := (List.getElem?_eq_some_iff.1 h).1
 unfold names29 at h
 rw [List.getElem?_map, List.getElem?_range hj] at h
 exact (Option.some.inj h).symm
theorem names_len : names29.length = 29 := rfl
theorem rfields_body (P : Program) (hm : FnOk P 9 (LtP mayB)) (hO : FnOk P 32 NoneC) (hM : FnOk P 40 (MonC monS)) (hI : FnOk P 41 NumFC) (hNs : FnOk P 13 NamesC) (hR : FnOk P 36 RecC) (hT : FnOk P 35 TextC) : BodyOk P x12 (FieldsC (fieldsL itoS monS)) := by
 intro args H K hc
 obtain ⟨l, rfl, rfl, hp, hK⟩ := hc
 refine ⟨Nat.le_of_ble_eq_true rfl, ?_⟩
 dsimp only at hK ⊢
 obtain ⟨b, hb⟩ : ∃ b, b = mayB l := ⟨_, rfl⟩
 obtain ⟨frm, to, number, kind, ack, deal, text, party, index, day, cur, amt, docs, boxes⟩ := l
 cbv
 refine callG_spec0 hm ⟨frm, to, number, kind, ack, deal, text, party, index, day, cur, amt, docs, boxes⟩ hp rfl rfl rfl ?_
 rw [← hb]
 obtain ⟨i1, hi1⟩ : ∃ s, s = itoS number := ⟨_, rfl⟩
 obtain ⟨i2, hi2⟩ : ∃ s, s = itoS ack := ⟨_, rfl⟩
 obtain ⟨i3, hi3⟩ : ∃ s, s = itoS index := ⟨_, rfl⟩
 obtain ⟨i4, hi4⟩ : ∃ s, s = itoS day := ⟨_, rfl⟩
 obtain ⟨kn, hkn⟩ : ∃ s, s = kindN kind := ⟨_, rfl⟩
 obtain ⟨mo, hmo⟩ : ∃ s, s = monS cur amt := ⟨_, rfl⟩
 cases b
 ·have hK0 : K (.sl 2 (mapA FdA [])) [] := by unfold fieldsL at hK; rw [← hb] at hK; exact hK
  cbv
  exact FinK.mk ⟨_, Gh.refl _, .inl (CutK.val rfl (by repeat' (first | exact LeL.nil | exact LeL0.nil | exact LeH.nil | exact LeE.refl _ | exact Le.refl _ | exact Le0.one (.refl _) | exact Le0.one (.nil _) | exact Le1.refl _ | exact Le1.nil _ | refine LeH.cons ?_ ?_ | refine LeE.row ?_ | refine LeE.blk ?_ | refine LeL0.cons ?_ ?_ | refine LeL.cons ?_ ?_ | refine Le0.agg ?_ | refine Le.tup ?_ | exact Le.one (.one (.nil _)) | refine Le.one (.agg ?_))) hK0)⟩
 ·obtain ⟨f1, f2, f3, f4, f5, f6⟩ := mayB_facts hb.symm
  dsimp only at f1 f2 f3 f4 f5 f6
  have hk28 := mayB_kind hb.symm
  dsimp only at hk28
  obtain ⟨c6, e_c6⟩ : ∃ b, b = decide (cur = ⟨#[]⟩ ∧ amt = 0) := ⟨_, rfl⟩
  cbv
  refine callG_spec0 hO (cur, amt) trivial rfl rfl rfl ?_
  try dsimp only
  rw [← e_c6]
  cases c6
  case' false =>
   cbv
   refine callG_spec0 hM (cur, amt) trivial rfl rfl rfl ?_
   try dsimp only
   rw [← hmo]
  case' true =>
   have hmz : mo = ⟨#[]⟩ := by rw [hmo]; exact monS_none (of_decide_eq_true e_c6.symm)
   subst hmz
   let mo : ByteArray := ⟨#[]⟩
  all_goals
   cbv
   refine callG_spec0 hI (_, number) (by constructor <;> (try dsimp only) <;> omega) rfl rfl rfl ?_
   try dsimp only
   rw [← hi1]
   cbv
   refine callG_spec0 hNs () trivial rfl rfl rfl ?_
   obtain ⟨ns, hns⟩ : ∃ ns, ns = names29 := ⟨_, rfl⟩
   have hnl := mapA_len AV.str ns
   have hnl2 : ns.length = 29 := by rw [hns]; exact names_len
   rw [← hns]
   cbv
   refine askEl_int hk28.1 (by rw [hnl2]; omega) fun i x hi hx => ?_
   have hxk : x = kn := by
    rw [hkn, show kind = Int.ofNat i from hi]
    exact names_get (by rw [← hns]; exact hx)
   clear hx hns hnl hnl2
   subst hxk
   cbv
   refine callG_spec0 hI (_, ack) (by constructor <;> (try dsimp only) <;> omega) rfl rfl rfl ?_
   try dsimp only
   rw [← hi2]
   cbv
   refine callG_spec0 hI (_, index) (by constructor <;> (try dsimp only) <;> omega) rfl rfl rfl ?_
   try dsimp only
   rw [← hi3]
   cbv
   refine callG_spec0 hI (_, day) (by constructor <;> (try dsimp only) <;> omega) rfl rfl rfl ?_
   try dsimp only
   rw [← hi4]
   cbv
   have hl1 := mapA_len DcA docs
   have hK1 : K (.sl 2 (mapA FdA (recB frm to i1 x i2 deal text party i3 i4 mo ++ docs.map docF ++ boxes.map boxF))) [] := by
    unfold fieldsL at hK
    rw [← hb] at hK
    dsimp only at hK
    rw [← hi1, ← hi2, ← hi3, ← hi4, ← hkn, ← hmo] at hK
    exact hK
   have hdoc := mayB_docs hb.symm
   dsimp only at hdoc
   clear hK
   obtain ⟨B, hB⟩ : ∃ B, B = recB frm to i1 x i2 deal text party i3 i4 mo := ⟨_, rfl⟩
   refine xloopV [1] (fun q : { q : Nat × List Fd // q.1 ≤ docs.length ∧ q.2 = B ++ (docs.take q.1).map docF } => [(5, .i (nI q.1.1)), (4, .hd 1)]) (fun q => [.blk 27 [.str frm, .str to, .i number, .i kind, .i ack, .str deal, .str text, .str party, .i index, .i day, .str cur, .i amt, .sl 4 (mapA DcA docs), .sl 1 (mapA .str boxes)], .row 43 2 (mapA FdA q.1.2)]) (fun q => lft 9 q.1.1) ⟨(0, recB frm to i1 x i2 deal text party i3 i4 mo), Nat.zero_le _, by rw [hB]; simp⟩ ?_
   rintro ⟨⟨k, L⟩, hk, hL⟩
   dsimp only at hk hL ⊢
   cbv; repeat' ((first | refine .mk (fun h => ?_) fun h => ?_ | refine .k fun z hz => ?_ | fail) <;> cbv)
   ·refine askEl_int (by ((try simp only [vn] at *) <;> omega)) (by ((try simp only [vn] at *) <;> omega)) fun i y hi hx => ?_
    obtain rfl : k = i := by ((try simp only [vn] at *) <;> omega)
    have hkl : k < docs.length := (List.getElem?_eq_some_iff.1 hx).1
    have hnx : B ++ (docs.take (k + 1)).map docF = L ++ [docF y] := by rw [hL, List.take_add_one, hx]; simp
    obtain ⟨hys, hfew⟩ := isDocB_rec (hdoc y (List.mem_of_getElem? hx))
    have hrn := recP_names (hp.docs.each y (List.mem_of_getElem? hx))
    obtain ⟨fs, hfs⟩ : ∃ fs, fs = recP y := ⟨_, rfl⟩
    obtain ⟨t, ht⟩ : ∃ t, t = textS fs := ⟨_, rfl⟩
    obtain ⟨c, hcc⟩ : ∃ c, c = textC fs := ⟨_, rfl⟩
    have hfx : docF y = ⟨⟨#[100, 111, 99]⟩, ⟨t.toArray⟩⟩ := by rw [ht, hfs, ← hys]; rfl
    rw [hfx] at hnx
    rw [← hfs] at hrn
    clear hx hfx hys
    obtain ⟨k1, n1, is1, fs1⟩ := y
    have hLl : L.length ≤ 30 := by rw [hL, hB]; simp [recB]; omega
    have hLl2 := mapA_len FdA L
    cbv
    refine callG_spec0 hR ⟨k1, n1, is1, fs1⟩ hfew (by rfl) (by rfl) (by rfl) ?_
    rw [← hfs]
    cbv
    refine callG_spec0 hT fs hrn rfl rfl rfl ?_
    try dsimp only
    rw [← ht, ← hcc]
    cbv; repeat' ((first | refine .k fun z hz => ?_ | refine .zl fun zs hzs hzl => ?_ | fail) <;> cbv)
    obtain rfl : zs = mapA FdA (L ++ [(⟨⟨#[100, 111, 99]⟩, ⟨t.toArray⟩⟩ : Fd)]) := by (rw [mapA_app, mapA_one]; first | exact hzs | (subst_vars; rfl))
    obtain rfl : z = nI (k + 1) := by ((try simp only [vn] at *) <;> omega)
    exact roundV ⟨(k + 1, L ++ [⟨⟨#[100, 111, 99]⟩, ⟨t.toArray⟩⟩]), hkl, hnx.symm⟩ (lft_lt (by ((try simp only [vn] at *) <;> omega)))
   have hke : k = docs.length := by ((try simp only [vn] at *) <;> omega)
   have hL2 : L = B ++ docs.map docF := by rw [hL, hke, List.take_length]
   have hLl : L.length ≤ 30 := by rw [hL2, hB]; simp [recB]; omega
   clear hL hke hk hdoc
   have hl2 := mapA_len AV.str boxes
   refine xloopV [1] (fun q : { q : Nat × List Fd // q.1 ≤ boxes.length ∧ q.2 = L ++ (boxes.take q.1).map boxF } => [(8, .i (nI q.1.1)), (4, .hd 1)]) (fun q => [.blk 27 [.str frm, .str to, .i number, .i kind, .i ack, .str deal, .str text, .str party, .i index, .i day, .str cur, .i amt, .sl 4 (mapA DcA docs), .sl 1 (mapA .str boxes)], .row 43 2 (mapA FdA q.1.2)]) (fun q => lft 33 q.1.1) ⟨(0, L), Nat.zero_le _, by simp⟩ ?_
   rintro ⟨⟨k, M⟩, hk, hM⟩
   dsimp only at hk hM ⊢
   cbv; repeat' ((first | refine .mk (fun h => ?_) fun h => ?_ | refine .k fun z hz => ?_ | fail) <;> cbv)
   ·refine askEl_int (by ((try simp only [vn] at *) <;> omega)) (by ((try simp only [vn] at *) <;> omega)) fun i y hi hx => ?_
    obtain rfl : k = i := by ((try simp only [vn] at *) <;> omega)
    have hkl : k < boxes.length := (List.getElem?_eq_some_iff.1 hx).1
    have hnx : L ++ (boxes.take (k + 1)).map boxF = M ++ [⟨⟨#[98, 111, 120]⟩, y⟩] := by rw [hM, List.take_add_one, hx]; simp [boxF]
    clear hx
    have hMl : M.length ≤ 70 := by rw [hM]; simp; omega
    have hMl2 := mapA_len FdA M
    cbv; repeat' ((first | refine .k fun z hz => ?_ | refine .zl fun zs hzs hzl => ?_ | fail) <;> cbv)
    obtain rfl : zs = mapA FdA (M ++ [(⟨⟨#[98, 111, 120]⟩, y⟩ : Fd)]) := by (rw [mapA_app, mapA_one]; first | exact hzs | (subst_vars; rfl))
    obtain rfl : z = nI (k + 1) := by ((try simp only [vn] at *) <;> omega)
    exact roundV ⟨(k + 1, M ++ [⟨⟨#[98, 111, 120]⟩, y⟩]), hkl, hnx.symm⟩ (lft_lt (by ((try simp only [vn] at *) <;> omega)))
   have hke : k = boxes.length := by ((try simp only [vn] at *) <;> omega)
   have hM2 : M = recB frm to i1 x i2 deal text party i3 i4 mo ++ docs.map docF ++ boxes.map boxF := by rw [hM, hke, List.take_length, hL2, hB]
   rw [← hM2] at hK1
   refine FinK.mk ⟨_, Gh.plain 1 rfl, ?_⟩
   cbv
   exact .inl (CutK.val rfl (Le.refl _) hK1)
end Go.Proofs.YtblkcnmecfppnaaDoor
/-
 The chapter's examples; the law Mays.
-/
namespace Go.Proofs.YtblkcnmecfppnaaDoor
open Go.RowKit
set_option maxHeartbeats 8000000
set_option maxRecDepth 100000
def l0 : Lt := ⟨⟨#[97]⟩, ⟨#[98]⟩, 0, 28, 3, ⟨#[]⟩, ⟨#[]⟩, ⟨#[]⟩, 0, 0, ⟨#[]⟩, 0, [], []⟩
theorem ito3 : itoS 3 = ⟨#[51]⟩ := by
 unfold itoS
 rw [show (3 : Int) = ((3 : Nat) : Int) from rfl, Lib.itoa_nonneg, dec_lt 3 (by omega)]; rfl
theorem ito0 : itoS 0 = ⟨#[48]⟩ := by
 unfold itoS
 rw [show (0 : Int) = ((0 : Nat) : Int) from rfl, Lib.itoa_nonneg, dec_lt 0 (by omega)]; rfl
theorem mayl0 : mayB l0 = true := by decide +kernel
theorem fields0 : fieldsL itoS monS l0 = recB ⟨#[97]⟩ ⟨#[98]⟩ ⟨#[48]⟩ (kindN 28) ⟨#[51]⟩ ⟨#[]⟩ ⟨#[]⟩ ⟨#[]⟩ ⟨#[48]⟩ ⟨#[48]⟩ ⟨#[]⟩ := by
 unfold fieldsL
 rw [mayl0]
 have e : monS l0.cur l0.amt = ⟨#[]⟩ := by
  unfold monS
  rw [show moneyB l0.cur l0.amt = false from by decide +kernel]; rfl
 rw [e]
 show recB _ _ (itoS 0) _ (itoS 3) _ _ _ (itoS 0) (itoS 0) _ ++ [] ++ [] = _
 rw [ito0, ito3]
 rfl
theorem textC0 : textC (fieldsL itoS monS l0) = 0 := by rw [fields0]; decide +kernel
theorem textS0 : ∃ r, (⟨(textS (fieldsL itoS monS l0)).toArray⟩ : ByteArray) = ⟨([102, 114, 111, 109, 61, 97, 10, 116, 111, 61, 98, 10] ++ r).toArray⟩ ∧ 1 ≤ r.length ∧ r.length ≤ 1000 := by
 rw [fields0]
 refine ⟨(textS (recB ⟨#[97]⟩ ⟨#[98]⟩ ⟨#[48]⟩ (kindN 28) ⟨#[51]⟩ ⟨#[]⟩ ⟨#[]⟩ ⟨#[]⟩ ⟨#[48]⟩ ⟨#[48]⟩ ⟨#[]⟩)).drop 12, ?_, by decide +kernel, by decide +kernel⟩
 have e : (textS (recB ⟨#[97]⟩ ⟨#[98]⟩ ⟨#[48]⟩ (kindN 28) ⟨#[51]⟩ ⟨#[]⟩ ⟨#[]⟩ ⟨#[]⟩ ⟨#[48]⟩ ⟨#[48]⟩ ⟨#[]⟩)).take 12 = [102, 114, 111, 109, 61, 97, 10, 116, 111, 61, 98, 10] := by decide +kernel
 rw [← e, List.take_append_drop]
theorem s0 (s : ByteArray) (h : s.size ≤ 1) : shortS s := by unfold shortS maxLen; omega
theorem kind_ack : kindA ⟨#[97, 99, 107]⟩ = .tup [.i 28, .bl true] := by
 unfold kindA
 rw [show kindOf ⟨#[97, 99, 107]⟩ = some 28 from by decide +kernel]; rfl
theorem name_order : kindN 0 = ⟨#[111, 114, 100, 101, 114]⟩ := by decide +kernel
def AwC : Ctr := spec (fun _ : Unit => []) (fun _ => []) (fun _ => True) (fun _ => .bl true) fun _ => []
theorem awake_body (P : Program) (hT : FnOk P 18 (TextLC (fieldsL itoS monS))) (hK0 : FnOk P 14 KindC) (hN : FnOk P 15 NameC) : BodyOk P x7 AwC := by
 intro args H K hc
 obtain ⟨_, rfl, rfl, _, hK⟩ := hc
 refine ⟨Nat.le_of_ble_eq_true rfl, ?_⟩
 dsimp only at hK ⊢
 obtain ⟨r, hr, hr1, hr2⟩ := textS0
 obtain ⟨t, ht⟩ : ∃ t : ByteArray, t = ⟨(textS (fieldsL itoS monS l0)).toArray⟩ := ⟨_, rfl⟩
 rw [← ht] at hr
 have hts : t.size = 12 + r.length := by rw [hr]; simp [ByteArray.size]; omega
 have htx : t.extract 0 12 = ⟨⟨[102, 114, 111, 109, 61, 97, 10, 116, 111, 61, 98, 10]⟩⟩ := by
  rw [hr]
  apply ByteArray.ext
  apply Array.toList_inj.1
  simp [ByteArray.data_extract]
 cbv
 refine callG_le [.agg [.str ⟨#[97]⟩, .str ⟨#[98]⟩, .i 0, .i 28, .i 3, .str ⟨#[]⟩, .str ⟨#[]⟩, .str ⟨#[]⟩, .i 0, .i 0, .str ⟨#[]⟩, .i 0, .sl 4 [], .sl 1 []]] (by repeat' (first | exact LeL.nil | exact LeL0.nil | exact LeH.nil | exact LeE.refl _ | exact Le.refl _ | exact Le0.one (.refl _) | exact Le0.one (.nil _) | exact Le1.refl _ | exact Le1.nil _ | refine LeH.cons ?_ ?_ | refine LeE.row ?_ | refine LeE.blk ?_ | refine LeL0.cons ?_ ?_ | refine LeL.cons ?_ ?_ | refine Le0.agg ?_ | refine Le.tup ?_ | exact Le.one (.one (.nil _)) | refine Le.one (.agg ?_))) ?_
 refine callG_spec0 hT l0 ⟨⟨by decide, fun d h => by cases h⟩, ⟨by decide, fun d h => by cases h⟩, s0 _ (by decide), s0 _ (by decide), s0 _ (by decide), s0 _ (by decide), s0 _ (by decide)⟩ rfl rfl rfl ?_
 rw [mayl0, textC0]
 simp only [if_true]
 rw [← ht]
 cbv
 refine callG_spec0 hK0 ⟨#[97, 99, 107]⟩ trivial rfl (by rw [kind_ack]; rfl) rfl ?_
 rw [kind_ack]
 cbv; repeat' ((first | refine .y fun h => ?_ | refine .mk (fun h => ?_) fun h => ?_ | refine .k fun z hz => ?_ | refine .u fun u hu hul => ?_ | fail) <;> cbv)
 ·refine callG_spec0 hN 0 trivial rfl rfl rfl ?_
  rw [name_order]
  cbv; repeat' ((first | refine .y fun h => ?_ | refine .mk (fun h => ?_) fun h => ?_ | fail) <;> cbv)
  all_goals first | exact FinK.mk ⟨_, Gh.refl _, .inl (CutK.val rfl (Le.refl _) hK)⟩ | exact absurd rfl (by assumption)
 ·exact absurd (hu.trans htx) h
 all_goals trace_state
end Go.Proofs.YtblkcnmecfppnaaDoor
/-
 The laws Mays and Names.
-/
namespace Go.Proofs.YtblkcnmecfppnaaDoor
open Go.RowKit
set_option maxHeartbeats 8000000
set_option maxRecDepth 100000
theorem fieldsL_len (l : Lt) : (fieldsL itoS monS l).length ≤ 9223372036854775807 := by
 unfold fieldsL
 split
 ·rename_i h
  have := mayB_facts h
  simp only [List.length_append, List.length_map]
  simp only [recB, List.length_cons, List.length_nil]
  omega
 ·simp
noncomputable def MaysC : Ctr := spec (fun l : Lt => [LtA l]) (fun _ => []) SmallL (fun _ => .bl true) fun _ => []
theorem mays_body (P : Program) (hS : FnOk P 6 ShortC) (hA : FnOk P 7 AwC) (hm1 : FnOk P 8 (LtP mayB)) (hm2 : FnOk P 9 (LtP mayB)) (hf1 : FnOk P 11 (FieldsC (fieldsL itoS monS))) (hf2 : FnOk P 12 (FieldsC (fieldsL itoS monS)))
  (hE : FnOk P 10 (EqLC 2 FdA)) : BodyOk P x3 MaysC := by
 intro args H K hc
 obtain ⟨l, rfl, rfl, hp, hK⟩ := hc
 refine ⟨Nat.le_of_ble_eq_true rfl, ?_⟩
 dsimp only at hK ⊢
 obtain ⟨b, hb⟩ : ∃ b, b = mayB l := ⟨_, rfl⟩
 obtain ⟨fl, hfl⟩ : ∃ f, f = fieldsL itoS monS l := ⟨_, rfl⟩
 have hfll : fl.length ≤ 9223372036854775807 := by rw [hfl]; exact fieldsL_len l
 have heq : eqB fl fl = true := eqB_true rfl
 obtain ⟨frm, to, number, kind, ack, deal, text, party, index, day, cur, amt, docs, boxes⟩ := l
 cbv
 refine callG_boolC hS ⟨frm, to, number, kind, ack, deal, text, party, index, day, cur, amt, docs, boxes⟩ hp rfl rfl (fun _ => ?_) ?_
 ·cbv
  refine callG_spec0 hm1 ⟨frm, to, number, kind, ack, deal, text, party, index, day, cur, amt, docs, boxes⟩ hp rfl rfl rfl ?_
  rw [← hb]
  cbv
  refine callG_spec0 hm2 ⟨frm, to, number, kind, ack, deal, text, party, index, day, cur, amt, docs, boxes⟩ hp rfl rfl rfl ?_
  rw [← hb]
  cbv; repeat' ((first | refine .mk (fun h => ?_) fun h => ?_ | fail) <;> cbv)
  ·refine callG_spec0 hf1 ⟨frm, to, number, kind, ack, deal, text, party, index, day, cur, amt, docs, boxes⟩ hp rfl rfl rfl ?_
   rw [← hfl]
   cbv
   refine callG_spec0 hf2 ⟨frm, to, number, kind, ack, deal, text, party, index, day, cur, amt, docs, boxes⟩ hp rfl rfl rfl ?_
   rw [← hfl]
   cbv
   refine callG_spec0 hE (fl, fl) ⟨hfll, hfll⟩ rfl rfl rfl ?_
   dsimp only
   rw [heq]
   cbv
   refine callG_spec0 hA () trivial rfl rfl rfl ?_
   cbv
   exact FinK.mk ⟨_, Gh.refl _, .inl (CutK.val rfl (Le.refl _) hK)⟩
  ·exact absurd rfl h
 ·cbv
  refine callG_spec0 hA () trivial rfl rfl rfl ?_
  cbv
  exact FinK.mk ⟨_, Gh.refl _, .inl (CutK.val rfl (Le.refl _) hK)⟩
def foundK : Nat → ByteArray → Int
 | 0, _ => -1
 | n + 1, s => if kindN (Int.ofNat n) = s then Int.ofNat n else foundK n s
theorem kindN_inj : ∀ i j : Fin 29, kindN (Int.ofNat i.1) = kindN (Int.ofNat j.1) → i = j := by decide +kernel
theorem kindK_some {s : ByteArray} {k : Nat} : ∀ {n : Nat}, kindK n s = some k → k < n ∧ kindN (Int.ofNat k) = s
 | 0, h => by cases h
 | n + 1, h => by
  unfold kindK at h
  cases hk : kindK n s with
  | some j =>
   rw [hk] at h
   cases h
   have := kindK_some hk
   exact ⟨by omega, this.2⟩
  | none =>
   rw [hk] at h
   dsimp only at h
   split at h
   ·rename_i e; cases h; exact ⟨by omega, e⟩
   ·cases h
theorem found_eq (s : ByteArray) : ∀ n, n ≤ 29 → foundK n s = match kindK n s with
  | some k => Int.ofNat k
  | none => -1
 | 0, _ => rfl
 | n + 1, h => by
  unfold foundK kindK
  have ih := found_eq s n (by omega)
  cases hk : kindK n s with
  | none =>
   rw [hk] at ih
   dsimp only at ih ⊢
   by_cases e : kindN (Int.ofNat n) = s
   ·rw [if_pos e, if_pos (show kindN (n : Int) = s from e)]
   ·rw [if_neg e, if_neg (show ¬ kindN (n : Int) = s from e)]; exact ih
  | some j =>
   rw [hk] at ih
   obtain ⟨h1, h2⟩ := kindK_some hk
   have hne : ¬ kindN (Int.ofNat n) = s := fun e => by
    have := kindN_inj ⟨n, by omega⟩ ⟨j, by omega⟩ (e.trans h2.symm)
    simp only [Fin.mk.injEq] at this
    omega
   rw [if_neg hne]
   exact ih
theorem kind_found (s : ByteArray) : ∃ (k : Int) (ok : Bool), kindA s = .tup [.i k, .bl ok] ∧ ok = decide (0 ≤ foundK 29 s) ∧ k = max (foundK 29 s) 0 ∧ -1 ≤ foundK 29 s ∧ foundK 29 s ≤ 28 := by
 have h := found_eq s 29 (by omega)
 unfold kindA kindOf
 cases hk : kindK 29 s with
 | none =>
  rw [hk] at h
  exact ⟨0, false, rfl, by rw [h]; rfl, by rw [h]; rfl, by rw [h]; decide, by rw [h]; decide⟩
 | some k =>
  rw [hk] at h
  have := (kindK_some hk).1
  dsimp only at h
  rw [h]
  simp only [Int.ofNat_eq_natCast]
  exact ⟨k, true, rfl, by simp, by omega, by omega, by omega⟩
def NamesLC : Ctr := spec (fun q : Int × ByteArray => [.i q.1, .str q.2]) (fun _ => []) (fun _ => True) (fun _ => .bl true) fun _ => []
theorem names_law (P : Program) (hA : FnOk P 7 AwC) (hNs : FnOk P 13 NamesC) (hN : FnOk P 15 NameC) (hKi : FnOk P 14 KindC) : BodyOk P x4 NamesLC := by
 intro args H K hc
 obtain ⟨⟨kind, s⟩, rfl, rfl, hp, hK⟩ := hc
 refine ⟨Nat.le_of_ble_eq_true rfl, ?_⟩
 dsimp only at hK ⊢
 cbv; repeat' ((first | refine .mk (fun h => ?_) fun h => ?_ | refine .k fun z hz => ?_ | fail) <;> cbv)
 ·refine callG_spec0 hA () trivial rfl rfl rfl ?_
  cbv
  exact FinK.mk ⟨_, Gh.refl _, .inl (CutK.val rfl (Le.refl _) hK)⟩
 refine callG_spec0 hNs () trivial rfl rfl rfl ?_
 obtain ⟨ns, hns⟩ : ∃ ns, ns = names29 := ⟨_, rfl⟩
 have hnl := mapA_len AV.str ns
 have hnl2 : ns.length = 29 := by rw [hns]; exact names_len
 rw [← hns]
 cbv; repeat' ((first | refine .mk (fun h => ?_) fun h => ?_ | refine .k fun z hz => ?_ | fail) <;> cbv)
 case' refine_2.refine_1.refine_1 =>
  refine askEl_int (by ((try simp only [vn] at *) <;> omega)) (by ((try simp only [vn] at *) <;> omega)) fun i x hi hx => ?_
  have hw : kindN kind = x := by rw [show kind = Int.ofNat i from hi]; exact (names_get (by rw [← hns]; exact hx)).symm
  clear hx
  cbv
 case' refine_2.refine_1.refine_2 =>
  have hw : kindN kind = (⟨#[]⟩ : ByteArray) := kindN_out (.inr (by ((try simp only [vn] at *) <;> omega)))
  let x : ByteArray := ⟨#[]⟩
 case' refine_2.refine_2 =>
  have hw : kindN kind = (⟨#[]⟩ : ByteArray) := kindN_out (.inl h)
  let x : ByteArray := ⟨#[]⟩
 all_goals
  obtain ⟨kk, ok, e1, e2, e3, e4, e5⟩ := kind_found s
  refine callG_spec0 hKi s trivial rfl (by rw [e1]; rfl) rfl ?_
  rw [e1]
  cbv; repeat' ((first | refine .k fun z hz => ?_ | fail) <;> cbv)
  refine xloopV [] (fun q : { q : Nat × Int // q.1 ≤ 29 ∧ q.2 = foundK q.1 s } => [(36, .i (nI q.1.1)), (9, .i q.1.2)]) (fun _ => []) (fun q => lft 29 q.1.1) ⟨(0, -1), by omega, rfl⟩ ?_
  rintro ⟨⟨k, v⟩, hk, hv⟩
  dsimp only at hk hv ⊢
  cbv; repeat' ((first | refine .mk (fun h => ?_) fun h => ?_ | fail) <;> cbv)
  ·refine askEl_int (by ((try simp only [vn] at *) <;> omega)) (by ((try simp only [vn] at *) <;> omega)) fun i y hi hy => ?_
   obtain rfl : k = i := by ((try simp only [vn] at *) <;> omega)
   have hkl : k < 29 := by ((try simp only [vn] at *) <;> omega)
   have hyk : y = kindN (Int.ofNat k) := names_get (by rw [← hns]; exact hy)
   have hf : foundK (k + 1) s = if y = s then Int.ofNat k else v := by rw [hyk, hv]; rfl
   clear hy
   cbv; repeat' ((first | refine .mk (fun h => ?_) fun h => ?_ | refine .k fun z hz => ?_ | fail) <;> cbv)
   all_goals try obtain rfl : z = nI (k + 1) := (by ((try simp only [vn] at *) <;> omega))
   ·exact roundV ⟨(k + 1, Int.ofNat k), hkl, by rw [hf, if_pos (by assumption)]⟩ (lft_lt (by ((try simp only [vn] at *) <;> omega)))
   ·exact roundV ⟨(k + 1, v), hkl, by rw [hf, if_neg (by assumption)]⟩ (lft_lt (by ((try simp only [vn] at *) <;> omega)))
  obtain rfl : k = 29 := by ((try simp only [vn] at *) <;> omega)
  rw [← hv] at e2 e3 e4 e5
  refine callG_spec0 hN kind trivial rfl rfl rfl ?_
  rw [hw]
  cbv; repeat' ((first | refine .y fun h => ?_ | refine .mk (fun h => ?_) fun h => ?_ | refine .k fun z hz => ?_ | fail) <;> cbv)
  all_goals try (refine callG_spec0 hA () trivial rfl rfl rfl ?_; cbv)
  all_goals first
   | exact FinK.mk ⟨_, Gh.refl _, .inl (CutK.val rfl (Le.refl _) hK)⟩
   | exact absurd rfl (by assumption)
   | (exfalso; omega)
   | (exfalso; rw [decide_eq_true (by assumption)] at e2; exact absurd e2 (by assumption))
   | (exfalso; rw [decide_eq_false (by omega)] at e2; exact absurd e2 (by assumption))
   | fail
end Go.Proofs.YtblkcnmecfppnaaDoor
/-
 The law Sames.
-/
namespace Go.Proofs.YtblkcnmecfppnaaDoor
open Go.RowKit
set_option maxHeartbeats 8000000
set_option maxRecDepth 100000
def sndC : XCode → XCode
 | .seq _ b => b
 | c => c
theorem xor_ne {m z : Int} (h0 : -9223372036854775808 ≤ m) (h1 : m ≤ 9223372036854775807) (hz : z = IntKind.wrap .i64 (BitVec.ofInt 64 m ^^^ BitVec.ofInt 64 1).toNat) : ¬ m = z := by
 intro e
 have hb : BitVec.ofInt 64 z = BitVec.ofInt 64 m ^^^ BitVec.ofInt 64 1 := by
  rw [hz]
  apply BitVec.eq_of_toNat_eq
  rw [BitVec.toNat_ofInt]
  generalize (BitVec.ofInt 64 m ^^^ BitVec.ofInt 64 1) = x
  have hx := x.isLt
  unfold IntKind.wrap IntKind.bits IntKind.signed
  simp only [Bool.true_and, ge_iff_le, decide_eq_true_eq]
  split <;> omega
 rw [← e] at hb
 have := congrArg (fun v => v ^^^ BitVec.ofInt 64 m) hb
 simp only [BitVec.xor_self] at this
 rw [BitVec.xor_comm, ← BitVec.xor_assoc, BitVec.xor_self] at this
 exact absurd this (by decide)
def samesTail : XCode := sndC (sndC (sndC (sndC (sndC x5.body))))
theorem LtE.of {l : Lt} (h : SmallL l) : LtE l := ⟨h.docs.len, h.boxes.len, fun d hd => (h.docs.each d hd).len⟩
theorem sames_tail (P : Program) (hS : FnOk P 16 EqLtC) (hA : FnOk P 7 AwC) {K : AV → List Ent → Prop} (hK : K (.bl true) []) {B : List AV} {frm1 to1 : ByteArray} {number1 kind1 ack1 : Int} {deal1 text1 party1 : ByteArray} {index1 day1 : Int} {cur1 : ByteArray} {amt1 : Int} {docs1 : List Dc} {boxes1 : List ByteArray} {frm2 to2 : ByteArray} {number2 kind2 ack2 : Int} {deal2 text2 party2 : ByteArray} {index2 day2 : Int} {cur2 : ByteArray} {amt2 : Int} {docs2 : List Dc} {boxes2 : List ByteArray}
  (h1 : LtE ⟨frm1, to1, number1, kind1, ack1, deal1, text1, party1, index1, day1, cur1, amt1, docs1, boxes1⟩) (h2 : LtE ⟨frm2, to2, number2, kind2, ack2, deal2, text2, party2, index2, day2, cur2, amt2, docs2, boxes2⟩) (hne : ¬ (⟨frm1, to1, number1, kind1, ack1, deal1, text1, party1, index1, day1, cur1, amt1, docs1, boxes1⟩ : Lt) = ⟨frm2, to2, number2, kind2, ack2, deal2, text2, party2, index2, day2, cur2, amt2, docs2, boxes2⟩) :
  SemW P x5.n 0 samesTail (FinQ 0 x5.res (CutK [] K)) ⟨[(3, .ptr 0 0), (7, .ptr 2 0)], [.blk 27 [.str frm1, .str to1, .i number1, .i kind1, .i ack1, .str deal1, .str text1, .str party1, .i index1, .i day1, .str cur1, .i amt1, .sl 4 (mapA DcA docs1), .sl 1 (mapA .str boxes1)], .blk 27 B, .blk 27 [.str frm2, .str to2, .i number2, .i kind2, .i ack2, .str deal2, .str text2, .str party2, .i index2, .i day2, .str cur2, .i amt2, .sl 4 (mapA DcA docs2), .sl 1 (mapA .str boxes2)]]⟩ := by
 refine .of ?_
 cbv
 refine callG_spec0 hS (⟨frm1, to1, number1, kind1, ack1, deal1, text1, party1, index1, day1, cur1, amt1, docs1, boxes1⟩, ⟨frm2, to2, number2, kind2, ack2, deal2, text2, party2, index2, day2, cur2, amt2, docs2, boxes2⟩) ⟨h1, h2⟩ rfl rfl rfl ?_
 dsimp only
 rw [eqB_false hne]
 cbv
 refine callG_spec0 hA () trivial rfl rfl rfl ?_
 cbv
 exact FinK.mk ⟨_, Gh.refl _, .inl (CutK.val rfl (Le.refl _) hK)⟩
structure WfL (l : Lt) : Prop where
 small : SmallL l
 text : l.text.size ≤ reachBytes
 kind : -9223372036854775808 ≤ l.kind ∧ l.kind ≤ 9223372036854775807
 ack : -9223372036854775808 ≤ l.ack ∧ l.ack ≤ 9223372036854775807
 index : -9223372036854775808 ≤ l.index ∧ l.index ≤ 9223372036854775807
 amt : -9223372036854775808 ≤ l.amt ∧ l.amt ≤ 9223372036854775807
noncomputable def SamesC : Ctr := spec (fun q : Lt × Lt × Int => [LtA q.1, LtA q.2.1, .int .u8 q.2.2]) (fun _ => []) (fun q => WfL q.1 ∧ WfL q.2.1 ∧ 0 ≤ q.2.2 ∧ q.2.2 ≤ 255) (fun _ => .bl true) fun _ => []
theorem app_x (s : ByteArray) {u : ByteArray} (h : u = s ++ ⟨#[120]⟩) : ¬ s = u := fun e => by
 have := congrArg ByteArray.size (e.trans h)
 rw [ByteArray.size_append] at this
 have : (⟨#[120]⟩ : ByteArray).size = 1 := rfl
 omega
theorem app_one {α : Type} (l : List α) (x : α) : ¬ l = l ++ [x] := fun e => by
 have := congrArg List.length e
 simp at this
theorem LeL0.reflA : ∀ l, LeL0 l l
 | [] => .nil
 | x :: l => .cons (.one (.refl x)) (LeL0.reflA l)
theorem LeL0.app {a b : List AV} (h : LeL0 a b) {c d : List AV} (k : LeL0 c d) : LeL0 (a ++ c) (b ++ d) := by
 induction h with
 | nil => exact k
 | cons hx _ ih => exact .cons hx ih
theorem sames_law (P : Program) (hSh : FnOk P 6 ShortC) (hS : FnOk P 16 EqLtC) (hR : FnOk P 17 EqLtC) (hA : FnOk P 7 AwC) : BodyOkS P x5 SamesC := by
 intro args H K hc
 obtain ⟨⟨a, b, w⟩, rfl, rfl, ⟨hpa, hpb, hw0, hw1⟩, hK⟩ := hc
 refine ⟨Nat.le_of_ble_eq_true rfl, ?_⟩
 dsimp only at hK hpa hpb hw0 hw1 ⊢
 obtain ⟨frm1, to1, number1, kind1, ack1, deal1, text1, party1, index1, day1, cur1, amt1, docs1, boxes1⟩ := a
 obtain ⟨frm3, to3, number3, kind3, ack3, deal3, text3, party3, index3, day3, cur3, amt3, docs3, boxes3⟩ := b
 have ea := LtE.of hpa.small
 have eb := LtE.of hpb.small
 obtain ⟨B, hB⟩ : ∃ B, B = eqB (⟨frm1, to1, number1, kind1, ack1, deal1, text1, party1, index1, day1, cur1, amt1, docs1, boxes1⟩ : Lt) ⟨frm3, to3, number3, kind3, ack3, deal3, text3, party3, index3, day3, cur3, amt3, docs3, boxes3⟩ := ⟨_, rfl⟩
 have heq : eqB (⟨frm1, to1, number1, kind1, ack1, deal1, text1, party1, index1, day1, cur1, amt1, docs1, boxes1⟩ : Lt) ⟨frm1, to1, number1, kind1, ack1, deal1, text1, party1, index1, day1, cur1, amt1, docs1, boxes1⟩ = true := eqB_true rfl
 have ht : text1.size ≤ 140737488355328 := Nat.le_trans hpa.text (by decide)
 refine SemW.seq (.of ?_)
 cbv
 refine SemW.seq (.of ?_)
 cbv
 refine callG_boolC hSh ⟨frm1, to1, number1, kind1, ack1, deal1, text1, party1, index1, day1, cur1, amt1, docs1, boxes1⟩ hpa.small rfl rfl (fun ⟨hq1, hq2⟩ => ?_) ?_
 ·dsimp only at hq1 hq2
  cbv
  refine callG_boolC hSh ⟨frm3, to3, number3, kind3, ack3, deal3, text3, party3, index3, day3, cur3, amt3, docs3, boxes3⟩ hpb.small rfl rfl (fun _ => ?_) ?_
  ·cbv
   refine SemW.seq (.of ?_)
   cbv
   refine callG_spec0 hS (⟨frm1, to1, number1, kind1, ack1, deal1, text1, party1, index1, day1, cur1, amt1, docs1, boxes1⟩, ⟨frm3, to3, number3, kind3, ack3, deal3, text3, party3, index3, day3, cur3, amt3, docs3, boxes3⟩) ⟨ea, eb⟩ rfl rfl rfl ?_
   dsimp only
   rw [← hB]
   cbv
   refine callG_spec0 hR (⟨frm1, to1, number1, kind1, ack1, deal1, text1, party1, index1, day1, cur1, amt1, docs1, boxes1⟩, ⟨frm3, to3, number3, kind3, ack3, deal3, text3, party3, index3, day3, cur3, amt3, docs3, boxes3⟩) ⟨ea, eb⟩ rfl rfl rfl ?_
   dsimp only
   rw [← hB]
   cbv; repeat' ((first | refine .mk (fun h => ?_) fun h => ?_ | fail) <;> cbv)
   case' refine_2 => exact absurd rfl h
   refine callG_spec0 hS (⟨frm1, to1, number1, kind1, ack1, deal1, text1, party1, index1, day1, cur1, amt1, docs1, boxes1⟩, ⟨frm1, to1, number1, kind1, ack1, deal1, text1, party1, index1, day1, cur1, amt1, docs1, boxes1⟩) ⟨ea, ea⟩ rfl rfl rfl ?_
   dsimp only
   rw [heq]
   cbv
   refine SemW.seq (.of ?_)
   cbv
   refine SemW.seq (.of ?_)
   cbv; repeat' ((first | refine .q fun z hz hz0 hz1 => ?_ | refine .mk (fun h => ?_) fun h => ?_ | refine .k fun z hz => ?_ | refine .o ?_ | refine .zl fun zs hzs hzl => ?_ | fail) <;> cbv)
   ·exact SemW.gh (Gh.weak (by repeat' (first | exact trivial | refine ⟨.inl rfl, ?_⟩ | refine ⟨.inr rfl, ?_⟩)) (by rfl) (by rfl) (by rfl) (by exact Nat.le_of_ble_eq_true rfl)) (sames_tail P hS hA hK ea (⟨ea.docs, ea.boxes, ea.each⟩ : LtE ⟨frm1, to1, number1, kind1, z, deal1, text1, party1, index1, day1, cur1, amt1, docs1, boxes1⟩) fun e => xor_ne hpa.ack.1 hpa.ack.2 hz (congrArg Lt.ack e))
   ·refine CatK.u (fun u hu hul => ?_) (by unfold maxLen; show text1.size + 1 ≤ _; omega)
    cbv
    exact SemW.gh (Gh.weak (by repeat' (first | exact trivial | refine ⟨.inl rfl, ?_⟩ | refine ⟨.inr rfl, ?_⟩)) (by rfl) (by rfl) (by rfl) (by exact Nat.le_of_ble_eq_true rfl)) (sames_tail P hS hA hK ea (⟨ea.docs, ea.boxes, ea.each⟩ : LtE ⟨frm1, to1, number1, kind1, ack1, deal1, u, party1, index1, day1, cur1, amt1, docs1, boxes1⟩) fun e => app_x text1 hu (congrArg Lt.text e))
   ·exact SemW.gh (Gh.weak (by repeat' (first | exact trivial | refine ⟨.inl rfl, ?_⟩ | refine ⟨.inr rfl, ?_⟩)) (by rfl) (by rfl) (by rfl) (by exact Nat.le_of_ble_eq_true rfl)) (sames_tail P hS hA hK ea (⟨ea.docs, ea.boxes, ea.each⟩ : LtE ⟨frm1, to1, number1, kind1, ack1, deal1, text1, party1, z, day1, cur1, amt1, docs1, boxes1⟩) fun e => xor_ne hpa.index.1 hpa.index.2 hz (congrArg Lt.index e))
   ·exact SemW.gh (Gh.weak (by repeat' (first | exact trivial | refine ⟨.inl rfl, ?_⟩ | refine ⟨.inr rfl, ?_⟩)) (by rfl) (by rfl) (by rfl) (by exact Nat.le_of_ble_eq_true rfl)) (sames_tail P hS hA hK ea (⟨ea.docs, ea.boxes, ea.each⟩ : LtE ⟨frm1, to1, number1, kind1, ack1, deal1, text1, party1, index1, day1, cur1, z, docs1, boxes1⟩) fun e => xor_ne hpa.amt.1 hpa.amt.2 hz (congrArg Lt.amt e))
   ·refine SemW.gh (Gh.le [_, _, _, .row _ 4 (mapA DcA (docs1 ++ [⟨0, ⟨#[]⟩, ⟨#[]⟩, []⟩])), _] (.cons (.refl _) (.cons (.refl _) (.cons (.refl _) (.cons (.row ?_) (.cons (.refl _) .nil)))))) ?_
    ·rw [hzs, mapA_app]
     exact (LeL0.reflA _).app (by repeat' (first | exact LeL.nil | exact LeL0.nil | exact LeH.nil | exact LeE.refl _ | exact Le.refl _ | exact Le0.one (.refl _) | exact Le0.one (.nil _) | exact Le1.refl _ | exact Le1.nil _ | refine LeH.cons ?_ ?_ | refine LeE.row ?_ | refine LeE.blk ?_ | refine LeL0.cons ?_ ?_ | refine LeL.cons ?_ ?_ | refine Le0.agg ?_ | refine Le.tup ?_ | exact Le.one (.one (.nil _)) | refine Le.one (.agg ?_)))
    refine SemW.gh (Gh.plain 3 rfl) ?_
    exact SemW.gh (Gh.weak (by repeat' (first | exact trivial | refine ⟨.inl rfl, ?_⟩ | refine ⟨.inr rfl, ?_⟩)) (by rfl) (by rfl) (by rfl) (by exact Nat.le_of_ble_eq_true rfl)) (sames_tail P hS hA hK ea (⟨by simp only [List.length_append, List.length_cons, List.length_nil]; omega, ea.boxes, fun d hd => by rcases List.mem_append.1 hd with h | h; exact ea.each d h; (obtain rfl := List.mem_singleton.1 h; decide)⟩ : LtE ⟨frm1, to1, number1, kind1, ack1, deal1, text1, party1, index1, day1, cur1, amt1, (docs1 ++ [⟨0, ⟨#[]⟩, ⟨#[]⟩, []⟩]), boxes1⟩) fun e => app_one docs1 _ (congrArg Lt.docs e))
   ·obtain rfl : zs = mapA .str (boxes1 ++ [(⟨#[120]⟩ : ByteArray)]) := by (rw [mapA_app, mapA_one]; first | exact hzs | (subst_vars; rfl))
    refine SemW.gh (Gh.plain 3 rfl) ?_
    exact SemW.gh (Gh.weak (by repeat' (first | exact trivial | refine ⟨.inl rfl, ?_⟩ | refine ⟨.inr rfl, ?_⟩)) (by rfl) (by rfl) (by rfl) (by exact Nat.le_of_ble_eq_true rfl)) (sames_tail P hS hA hK ea (⟨ea.docs, by simp only [List.length_append, List.length_cons, List.length_nil]; omega, ea.each⟩ : LtE ⟨frm1, to1, number1, kind1, ack1, deal1, text1, party1, index1, day1, cur1, amt1, docs1, (boxes1 ++ [⟨#[120]⟩])⟩) fun e => app_one boxes1 _ (congrArg Lt.boxes e))
   ·exact SemW.gh (Gh.weak (by repeat' (first | exact trivial | refine ⟨.inl rfl, ?_⟩ | refine ⟨.inr rfl, ?_⟩)) (by rfl) (by rfl) (by rfl) (by exact Nat.le_of_ble_eq_true rfl)) (sames_tail P hS hA hK ea (⟨ea.docs, ea.boxes, ea.each⟩ : LtE ⟨frm1, to1, number1, z, ack1, deal1, text1, party1, index1, day1, cur1, amt1, docs1, boxes1⟩) fun e => xor_ne hpa.kind.1 hpa.kind.2 hz (congrArg Lt.kind e))
  ·cbv
   refine callG_spec0 hA () trivial rfl rfl rfl ?_
   cbv
   exact FinK.mk ⟨_, Gh.refl _, .inl (CutK.val rfl (Le.refl _) hK)⟩
 ·cbv
  refine callG_spec0 hA () trivial rfl rfl rfl ?_
  cbv
  exact FinK.mk ⟨_, Gh.refl _, .inl (CutK.val rfl (Le.refl _) hK)⟩
theorem fieldsL_names : ∀ l, ∀ f ∈ fieldsL itoS monS l, f.name.size ≤ maxLen := fun l f hf => by
 have key : ∀ (b : List UInt8), b.length ≤ 10 → (⟨b.toArray⟩ : ByteArray).size ≤ maxLen := fun b h => by
  have : (⟨b.toArray⟩ : ByteArray).size = b.length := by simp [ByteArray.size]
  unfold maxLen; omega
 unfold fieldsL at hf
 split at hf
 ·simp only [recB, List.cons_append, List.nil_append, List.mem_cons, List.mem_append, List.mem_map] at hf
  rcases hf with rfl | rfl | rfl | rfl | rfl | rfl | rfl | rfl | rfl | rfl | rfl | ⟨d, _, rfl⟩ | ⟨s, _, rfl⟩ <;> exact key _ (by decide)
 ·cases hf
end Go.Proofs.YtblkcnmecfppnaaDoor
/-
 Functions of the chapter, by their contracts, at the program itself (printed by gen_join.py).
-/
namespace Go.Proofs.YtblkcnmecfppnaaDoor
open Go.RowKit
set_option maxRecDepth 100000
theorem k_isName : FnOk Tryd.prog 19 (StrC shortS nameB) := body_ok (by kernel_rfl) (isName_body _ k_text)
theorem k_isNameOrNone : FnOk Tryd.prog 21 (StrC shortS fun s => decide (s.size = 0) || nameB s) := body_ok (by kernel_rfl) (isNameOrNone_body _ k_isName)
theorem k_isFrom : FnOk Tryd.prog 20 FromC := body_ok (by kernel_rfl) (isFrom_body _)
theorem k_name : FnOk Tryd.prog 15 NameC := body_ok (by kernel_rfl) (name_body _)
theorem k_kind : FnOk Tryd.prog 14 KindC := body_ok (by kernel_rfl) (kind_body _)
theorem k_doc : FnOk Tryd.prog 39 DocC := body_ok (by kernel_rfl) (doc_body _ k_text)
theorem k_isDoc : FnOk Tryd.prog 25 (DocP isDocB) := body_ok (by kernel_rfl) (isDoc_body _ k_doc)
theorem k_may1 : FnOk Tryd.prog 24 (DocP fun d => !isDocB d) := body_ok (by kernel_rfl) (may1_body _ k_isDoc)
theorem k_may2 : FnOk Tryd.prog 27 (StrC shortS fun s => !nameB s) := body_ok (by kernel_rfl) (may2_body _ k_isName)
theorem k_isCur : FnOk Tryd.prog 47 (StrC (fun _ => True) curB) := body_ok (by kernel_rfl) (isCur_body _)
theorem k_money : FnOk Tryd.prog 22 MoneyC := body_ok (by kernel_rfl) (money_body _ k_isCur)
theorem k_bare : FnOk Tryd.prog 28 (LtP bareB) := body_ok (by kernel_rfl) (bare_body _)
theorem k_idxD_1 : FnOk Tryd.prog 48 (IdxDC 24 fun d => !isDocB d) := body_ok (by kernel_rfl) (idxD_body _ 24 (fun d => !isDocB d) ⟨by kernel_rfl⟩ k_may1)
theorem k_conD_2 : FnOk Tryd.prog 23 (ConDC 24 fun d => !isDocB d) := body_ok (by kernel_rfl) (conD_body _ 24 (fun d => !isDocB d) k_idxD_1)
theorem k_idxS_3 : FnOk Tryd.prog 49 (IdxSC 27 fun s => !nameB s) := body_ok (by kernel_rfl) (idxS_body _ 27 (fun s => !nameB s) ⟨by kernel_rfl⟩ k_may2)
theorem k_conS_4 : FnOk Tryd.prog 26 (ConSC 27 fun s => !nameB s) := body_ok (by kernel_rfl) (conS_body _ 27 (fun s => !nameB s) k_idxS_3)
theorem k_may : FnOk Tryd.prog 8 (LtP mayB) := body_ok (by kernel_rfl) (may_body _ k_isName k_isNameOrNone k_name k_isFrom k_money k_conD_2 k_conS_4 k_bare)
theorem k_eqS : FnOk Tryd.prog 44 (EqLC 1 AV.str) := body_ok (by kernel_rfl) (eqS_body _)
theorem k_eqF : FnOk Tryd.prog 61 (EqLC 2 FdA) := body_ok (by kernel_rfl) (eqF_body _)
theorem k_refF : FnOk Tryd.prog 10 (EqLC 2 FdA) := body_ok (by kernel_rfl) (refF_body _)
theorem k_same : FnOk Tryd.prog 43 EqDC := body_ok (by kernel_rfl) (same_body _ k_eqF)
theorem k_alike : FnOk Tryd.prog 45 EqDC := body_ok (by kernel_rfl) (alike_body _ k_refF)
theorem k_eqDs_5 : FnOk Tryd.prog 42 (EqDsC 43) := body_ok (by kernel_rfl) (eqDs_body _ 43 ⟨by kernel_rfl⟩ k_same)
theorem k_sameL : FnOk Tryd.prog 16 EqLtC := body_ok (by kernel_rfl) (sameL_body _ k_eqDs_5 k_eqS)
theorem k_refL : FnOk Tryd.prog 17 EqLtC := body_ok (by kernel_rfl) (refL_body _ k_alike)
theorem k_between : FnOk Tryd.prog 30 FromC := body_ok (by kernel_rfl) (between_body _)
theorem k_some : FnOk Tryd.prog 31 (StrC shortS noneB) := body_ok (by kernel_rfl) (some_body _ k_refName)
theorem k_none : FnOk Tryd.prog 32 NoneC := body_ok (by kernel_rfl) (none_body _)
theorem k_rcur : FnOk Tryd.prog 50 (StrC (fun _ => True) curB) := body_ok (by kernel_rfl) (rcur_body _)
theorem k_rmoney : FnOk Tryd.prog 33 MoneyC := body_ok (by kernel_rfl) (rmoney_body _ k_rcur)
theorem k_names : FnOk Tryd.prog 13 NamesC := body_ok (by kernel_rfl) (names_body _)
theorem k_record : FnOk Tryd.prog 36 RecC := body_ok (by kernel_rfl) (record_body _ k_refKind)
theorem k_mul64 : FnOk Tryd.prog 79 MulC := body_ok (by kernel_rfl) (mul64_body _)
theorem k_mul : FnOk Tryd.prog 68 MulC := body_ok (by kernel_rfl) (mul_body _ k_mul64)
theorem k_hasIn : FnOk Tryd.prog 80 HasC := body_ok (by kernel_rfl) (hasIn_body _)
theorem k_has : FnOk Tryd.prog 69 HasC := body_ok (by kernel_rfl) (has_body _ k_hasIn)
theorem k_repeat : FnOk Tryd.prog 57 RepC := body_ok (by kernel_rfl) (repeat_body _ k_mul k_has)
theorem k_digits : FnOk Tryd.prog 54 DigC := body_ok (by kernel_rfl) (digits_body _)
theorem k_rdigits : FnOk Tryd.prog 58 DigC := body_ok (by kernel_rfl) (rdigits_body _)
theorem k_size : FnOk Tryd.prog 56 SizeC := body_ok (by kernel_rfl) (size_body _)
theorem k_montext : FnOk Tryd.prog 38 (MonC monS) := body_ok (by kernel_rfl) (montext_body _ k_money k_digits k_size k_fmtUint k_repeat)
theorem k_rwhole : FnOk Tryd.prog 59 WholeC := body_ok (by kernel_rfl) (rwhole_body _)
theorem k_rmontext : FnOk Tryd.prog 40 (MonC monS) := body_ok (by kernel_rfl) (rmontext_body _ k_rmoney k_rdigits k_rwhole)
theorem k_rfmay : FnOk Tryd.prog 51 FldC := body_ok (by kernel_rfl) (rfmay_body _ k_refName)
theorem k_paper : FnOk Tryd.prog 34 (DocP paperB) := body_ok (by kernel_rfl) (paper_body _ k_rfmay k_refKind)
theorem k_short : FnOk Tryd.prog 6 ShortC := body_ok (by kernel_rfl) (short_body _)
theorem k_number : FnOk Tryd.prog 41 NumFC := body_ok (by kernel_rfl) (number_body _ (k_rdig (by kernel_rfl)))
theorem k_rmay : FnOk Tryd.prog 9 (LtP mayB) := body_ok (by kernel_rfl) (rmay_body _ k_refName k_between k_some k_none k_rmoney k_paper k_refText k_record)
theorem k_rfields : FnOk Tryd.prog 12 (FieldsC (fieldsL itoS monS)) := body_ok (by kernel_rfl) (rfields_body _ k_rmay k_none k_rmontext k_number k_names k_record k_refText)
theorem k_fields_6 : FnOk Tryd.prog 11 (FieldsC (fieldsL itoS monS)) := body_ok (by kernel_rfl) (fields_body _ itoS monS k_may k_name k_itoa k_montext k_doc)
theorem k_text_7 : FnOk Tryd.prog 18 (TextLC (fieldsL itoS monS)) := body_ok (by kernel_rfl) (text_body _ (fieldsL itoS monS) fieldsL_names k_may k_fields_6 k_text)
theorem k_awake : FnOk Tryd.prog 7 AwC := body_ok (by kernel_rfl) (awake_body _ k_text_7 k_kind k_name)
end Go.Proofs.YtblkcnmecfppnaaDoor
/-
 Letters, papers and fields as they come in.
-/
namespace Go.Proofs.YtblkcnmecfppnaaDoor
open Go.RowKit
def fieldSh : Sh := .st [.str, .str]
def docSh : Sh := .st [.int .i64, .str, .str, .sl 2 fieldSh]
def letterSh : Sh := .st [.str, .str, .int .i64, .int .i64, .int .i64, .str, .str, .str, .int .i64, .int .i64, .st [.str, .int .i64], .sl 4 docSh, .sl 1 .str]
theorem op_field (cz : List AV) (h : Op reachBytes fieldSh cz) : ∃ x : Fd, elemAV 2 cz = FdA x ∧ x.name.size ≤ maxLen := by
 unfold fieldSh Op at h
 (unfold OpL at h; obtain ⟨_, _, rfl, h1, h⟩ := h; unfold Op at h1; obtain ⟨a0, rfl, w0⟩ := h1)
 (unfold OpL at h; obtain ⟨_, _, rfl, h1, h⟩ := h; unfold Op at h1; obtain ⟨a1, rfl, w1⟩ := h1)
 (unfold OpL at h; subst h)
 exact ⟨⟨a0, a1⟩, rfl, w0.1⟩
theorem op_doc (cz : List AV) (h : Op reachBytes docSh cz) : ∃ x : Dc, elemAV 4 cz = DcA x ∧ NamesS x.fields := by
 unfold docSh Op at h
 (unfold OpL at h; obtain ⟨_, _, rfl, h1, h⟩ := h; unfold Op at h1; obtain ⟨a0, rfl, w0⟩ := h1)
 (unfold OpL at h; obtain ⟨_, _, rfl, h1, h⟩ := h; unfold Op at h1; obtain ⟨a1, rfl, w1⟩ := h1)
 (unfold OpL at h; obtain ⟨_, _, rfl, h1, h⟩ := h; unfold Op at h1; obtain ⟨a2, rfl, w2⟩ := h1)
 unfold OpL at h
 obtain ⟨_, _, rfl, h1, h⟩ := h
 obtain ⟨L, rfl, hl, hL⟩ := op_list op_field h1
 (unfold OpL at h; subst h)
 exact ⟨⟨a0, a1, a2, L⟩, rfl, ⟨hl, hL⟩⟩
theorem op_letter (cz : List AV) (h : Op reachBytes letterSh cz) : ∃ x : Lt, .agg cz = LtA x ∧ WfL x := by
 unfold letterSh Op at h
 (unfold OpL at h; obtain ⟨_, _, rfl, h1, h⟩ := h; unfold Op at h1; obtain ⟨a0, rfl, w0⟩ := h1)
 (unfold OpL at h; obtain ⟨_, _, rfl, h1, h⟩ := h; unfold Op at h1; obtain ⟨a1, rfl, w1⟩ := h1)
 (unfold OpL at h; obtain ⟨_, _, rfl, h1, h⟩ := h; unfold Op at h1; obtain ⟨a2, rfl, w2⟩ := h1)
 (unfold OpL at h; obtain ⟨_, _, rfl, h1, h⟩ := h; unfold Op at h1; obtain ⟨a3, rfl, w3⟩ := h1)
 (unfold OpL at h; obtain ⟨_, _, rfl, h1, h⟩ := h; unfold Op at h1; obtain ⟨a4, rfl, w4⟩ := h1)
 (unfold OpL at h; obtain ⟨_, _, rfl, h1, h⟩ := h; unfold Op at h1; obtain ⟨a5, rfl, w5⟩ := h1)
 (unfold OpL at h; obtain ⟨_, _, rfl, h1, h⟩ := h; unfold Op at h1; obtain ⟨a6, rfl, w6⟩ := h1)
 (unfold OpL at h; obtain ⟨_, _, rfl, h1, h⟩ := h; unfold Op at h1; obtain ⟨a7, rfl, w7⟩ := h1)
 (unfold OpL at h; obtain ⟨_, _, rfl, h1, h⟩ := h; unfold Op at h1; obtain ⟨a8, rfl, w8⟩ := h1)
 (unfold OpL at h; obtain ⟨_, _, rfl, h1, h⟩ := h; unfold Op at h1; obtain ⟨a9, rfl, w9⟩ := h1)
 unfold OpL at h
 obtain ⟨_, _, rfl, hm, h'⟩ := h
 have h := hm
 unfold Op at h
 (unfold OpL at h; obtain ⟨_, _, rfl, h1, h⟩ := h; unfold Op at h1; obtain ⟨b0, rfl, v0⟩ := h1)
 (unfold OpL at h; obtain ⟨_, _, rfl, h1, h⟩ := h; unfold Op at h1; obtain ⟨b1, rfl, v1⟩ := h1)
 (unfold OpL at h; subst h)
 have h := h'
 unfold OpL at h
 obtain ⟨_, _, rfl, h1, h⟩ := h
 obtain ⟨L, rfl, hl, hL⟩ := op_list op_doc h1
 unfold OpL at h
 obtain ⟨_, _, rfl, h1, h⟩ := h
 obtain ⟨B, rfl, hb, hB⟩ := op_list (f := AV.str) (q := shortS) (fun cz h => by unfold Op at h; obtain ⟨s, rfl, h1, _⟩ := h; exact ⟨s, rfl, h1⟩) h1
 (unfold OpL at h; subst h)
 exact ⟨⟨a0, a1, a2, a3, a4, a5, a6, a7, a8, a9, b0, b1, L, B⟩, rfl, ⟨⟨⟨hl, hL⟩, ⟨hb, hB⟩, w0.1, w1.1, w5.1, w6.1, w7.1⟩, w6.2, wf_i64 w3, wf_i64 w4, wf_i64 w8, wf_i64 v1⟩⟩
theorem sh_letter : shOf Tryd.prog 9 27 = some letterSh := by kernel_rfl
end Go.Proofs.YtblkcnmecfppnaaDoor
/-
 The door's package variables: what a row lays is what the seat tells.
-/
namespace Go.Proofs.YtblkcnmecfppnaaDoor
open Go.RowKit Go.Lib

/-- A plain value as a row lists it. -/
def valD {H : Type} : Value → DataW H
 | .int k z => .lit (.int k z)
 | .string s => .lit (.string s.data.toList)
 | _ => .nil
theorem cells_of_arr {H : Type} {enc : TypeId × Value → H} {P : Program} {w : World} {base : Nat} {sp : Nat → Bool} {held : Bool} {fuel : Nat} {t e : TypeId} {n : Nat} {cs vs : List Value} {p : List MemPlace}
  (ht : P.underlying t = some (.array n e)) (he : (∃ k, P.underlying e = some (.int k)) ∨ P.underlying e = some .string) (hce : P.cellsOf e = 1) (hct : P.cellsOf t = n)
  (h : DataW.trod enc P w base sp held fuel t cs = some (.agg (vs.map valD), p)) : cs = vs := by
 cases fuel with
 | zero => simp [DataW.trod] at h
 | succ fuel =>
  simp only [DataW.trod, ht, hce, hct, Nat.mul_one] at h
  split at h
  ·rename_i hl
   obtain ⟨xs, hm, hx⟩ := Option.map_eq_some_iff.1 h
   have hxs : xs.map (·.1) = vs.map valD := by
    have := congrArg Prod.fst hx
    simpa using this
   have hxl : xs.length = n := by simpa using mapM_length hm
   have hzl : vs.length = n := by
    have := congrArg List.length hxs
    simp at this
    omega
   apply List.ext_getElem?
   intro i
   by_cases hi : i < n
   ·obtain ⟨b, hb, hf⟩ := mapM_at hm i i (by simp [hi])
    have hvi : vs[i]? = some vs[i] := List.getElem?_eq_getElem (by omega)
    have h2 : b.1 = valD vs[i] := by
     have e1 : (xs.map (·.1))[i]? = some b.1 := by simp [hb]
     rw [hxs, List.getElem?_map, hvi] at e1
     exact (Option.some.inj e1).symm
    rcases he with ⟨k, he⟩ | he
    ·obtain ⟨z, hc, rfl, _⟩ := DataW.trod_int he hf
     have h1 : cs[i]? = some (.int k z) := by
      have := congrArg (·[0]?) hc
      simpa [List.getElem?_take, List.getElem?_drop] using this
     rw [h1, hvi]
     dsimp only at h2
     cases hv : vs[i] with
     | int k' z' => rw [hv] at h2; simp only [valD, DataW.lit.injEq, Lit.int.injEq] at h2; obtain ⟨rfl, rfl⟩ := h2; rfl
     | string s => rw [hv] at h2; simp [valD] at h2
     | _ => rw [hv] at h2; simp [valD] at h2
    ·obtain ⟨s, hc, hs, _⟩ := DataW.trod_string he hf
     have h1 : cs[i]? = some (.string s) := by
      have := congrArg (·[0]?) hc
      simpa [List.getElem?_take, List.getElem?_drop] using this
     rw [h1, hvi]
     rw [hs] at h2
     dsimp only at h2
     cases hv : vs[i] with
     | int k' z' => rw [hv] at h2; simp [valD] at h2
     | string s' =>
      rw [hv] at h2
      simp only [valD, DataW.lit.injEq, Lit.string.injEq] at h2
      have : s = s' := ByteArray.ext (Array.toList_inj.1 h2)
      rw [this]
     | _ => rw [hv] at h2; simp [valD] at h2
   ·rw [List.getElem?_eq_none (by omega), List.getElem?_eq_none (by omega)]
  ·cases h
/-- The variable that stands first on a row's list holds what the row tells. -/
theorem var_of_head {P : Program} {W : World} {name : String} {vs : List Value} {d : DataW Unit} {rest : List (String × DataW Unit)} {g : Nat} {t e : TypeId} {n : Nat}
  (hg : P.globalNamed name = some g) (hty : (P.globals[g]?).map (·.type) = some t) (ht : P.underlying t = some (.array n e)) (he : (∃ k, P.underlying e = some (.int k)) ∨ P.underlying e = some .string) (hce : P.cellsOf e = 1) (hct : P.cellsOf t = n)
  (hd : d = .agg (vs.map valD)) (h : laidMet P ((name, d) :: rest) W) : ∃ t' f, W.heap[g]? = some (.cells vs.toArray t' f) := by
 obtain ⟨ps, ⟨g', t', cs, fuel, p, q, hg', ht', hvar, hdd, _, _⟩, _⟩ := h
 obtain rfl := Option.some.inj (hg.symm.trans hg')
 obtain rfl := Option.some.inj (hty.symm.trans ht')
 subst hd
 have hcs := cells_of_arr ht he hce hct hdd
 unfold World.var? at hvar
 rw [hg] at hvar
 simp only [Option.bind_some] at hvar
 split at hvar
 ·rename_i c t2 f hb
  refine ⟨t2, f, ?_⟩
  rw [hb]
  have e1 : c = cs := by simpa using hvar
  rw [e1, ← hcs]
 ·cases hvar
theorem globOk_at {w : World} {g : Nat} {vs : List Value} (h : ∃ t f, w.heap[g]? = some (.cells vs.toArray t f)) : ∀ i u, vs[i]? = some u → i < pubW w g ∧ w.cell? ⟨g, i, none⟩ = some u ∧ lenW w g = some vs.length := fun i u hu => by
 obtain ⟨t, f, hb⟩ := h
 have hi : i < vs.length := (List.getElem?_eq_some_iff.1 hu).1
 refine ⟨?_, ?_, ?_⟩
 ·unfold pubW; rw [hb]; simpa using hi
 ·unfold World.cell?; simp [hb, hu]
 ·unfold lenW; rw [hb]; simp
end Go.Proofs.YtblkcnmecfppnaaDoor
/-
 What the rows lay is what Glob tells (printed by gen_globof.py).
-/
namespace Go.Proofs.YtblkcnmecfppnaaDoor
open Go
theorem laid_tail {P : Program} {W : World} {x : String × DataW Unit} {rest : List (String × DataW Unit)} (h : laidMet P (x :: rest) W) : laidMet P rest W := by
 obtain ⟨ps, ⟨g, t, cs, fuel, p, q, _, _, _, _, hr, rfl⟩, hnd, hc⟩ := h
 exact ⟨q, hr, (List.nodup_append.1 hnd).2.1, fun b off hm => hc b off (List.mem_append_right _ hm)⟩
theorem glob_of {W : World} (h : laidMetH Tryd.prog [("math/bits.deBruijn32tab", Rows.laid_math_bits_deBruijn32tab), ("math/bits.deBruijn64tab", Rows.laid_math_bits_deBruijn64tab), ("internal/strconv.uint64pow10", Rows.laid_internal_strconv_uint64pow10), ("supercargo/field.kinds", Rows.laid_supercargo_field_kinds), ("supercargo/post.kinds", Rows.laid_supercargo_post_kinds)] W) : GlobOk (pubW W) W := by
 rw [MakeChecks.laidMetH_plain _ _ _ (by kernel_rfl)] at h
 have h0 := var_of_head (vs := glob 4) (g := 4) (t := 112) (e := 5) (n := 32) (by kernel_rfl) (by kernel_rfl) (by kernel_rfl) (.inl ⟨.u8, by kernel_rfl⟩) (by kernel_rfl) (by kernel_rfl) (by rfl) h
 replace h := laid_tail h
 have h1 := var_of_head (vs := glob 5) (g := 5) (t := 113) (e := 5) (n := 64) (by kernel_rfl) (by kernel_rfl) (by kernel_rfl) (.inl ⟨.u8, by kernel_rfl⟩) (by kernel_rfl) (by kernel_rfl) (by rfl) h
 replace h := laid_tail h
 have h2 := var_of_head (vs := glob 2) (g := 2) (t := 106) (e := 69) (n := 20) (by kernel_rfl) (by kernel_rfl) (by kernel_rfl) (.inl ⟨.u64, by kernel_rfl⟩) (by kernel_rfl) (by kernel_rfl) (by rfl) h
 replace h := laid_tail h
 have h3 := var_of_head (vs := glob 1) (g := 1) (t := 72) (e := 9) (n := 6) (by kernel_rfl) (by kernel_rfl) (by kernel_rfl) (.inr (by kernel_rfl)) (by kernel_rfl) (by kernel_rfl) (by rfl) h
 replace h := laid_tail h
 have h4 := var_of_head (vs := glob 0) (g := 0) (t := 59) (e := 9) (n := 29) (by kernel_rfl) (by kernel_rfl) (by kernel_rfl) (.inr (by kernel_rfl)) (by kernel_rfl) (by kernel_rfl) (by rfl) h
 intro g i u hu
 by_cases e0 : g = 4
 ·subst e0; exact globOk_at h0 i u hu
 by_cases e1 : g = 5
 ·subst e1; exact globOk_at h1 i u hu
 by_cases e2 : g = 2
 ·subst e2; exact globOk_at h2 i u hu
 by_cases e3 : g = 1
 ·subst e3; exact globOk_at h3 i u hu
 by_cases e4 : g = 0
 ·subst e4; exact globOk_at h4 i u hu
 have e : glob g = [] := by unfold glob; split <;> first | rfl | contradiction
 rw [e] at hu; cases hu
end Go.Proofs.YtblkcnmecfppnaaDoor
