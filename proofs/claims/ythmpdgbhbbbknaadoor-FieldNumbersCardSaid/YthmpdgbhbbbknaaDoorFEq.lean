/-
  Layer 5: two lists of fields, two papers: are they one. The walks.
-/
import Derived.Test.YthmpdgbhbbbknaaDoorFText
import Derived.Test.YthmpdgbhbbbknaaDoorPlan
namespace Go.Proofs.YthmpdgbhbbbknaaDoor
open Go.RowKit

def eqF (x y : Fd) : Bool := (x.name.toList == y.name.toList) && (x.value.toList == y.value.toList)
def sameL : List Fd → List Fd → Bool
  | [], [] => true
  | x :: r, y :: s => eqF x y && sameL r s
  | [], _ :: _ => false
  | _ :: _, [] => false
def eqTo (l l' : List Fd) (k : Nat) : Prop := ∀ j (h : j < l.length) (h' : j < l'.length), j < k → eqF l[j] l'[j] = true
theorem sameL_len : ∀ {l l' : List Fd}, l.length ≠ l'.length → sameL l l' = false
  | [], [], h => absurd rfl h
  | _ :: _, [], _ => rfl
  | [], _ :: _, _ => rfl
  | x :: r, y :: s, h => by
    have := sameL_len (l := r) (l' := s) (fun e => h (by simp [e]))
    simp [sameL, this]
theorem sameL_not : ∀ {l l' : List Fd} {k : Nat} (h : k < l.length) (h' : k < l'.length), eqF l[k] l'[k] = false → sameL l l' = false
  | x :: r, y :: s, 0, _, _, he => by
    have he' : eqF x y = false := he
    simp [sameL, he']
  | x :: r, y :: s, k + 1, h, h', he => by
    have := sameL_not (l := r) (l' := s) (k := k) (by simpa using h) (by simpa using h') (by simpa using he)
    simp [sameL, this]
theorem sameL_all : ∀ {l l' : List Fd}, l.length = l'.length → eqTo l l' l.length → sameL l l' = true
  | [], [], _, _ => rfl
  | [], _ :: _, h, _ => by simp at h
  | _ :: _, [], h, _ => by simp at h
  | x :: r, y :: s, h, he => by
    have h0 : eqF x y = true := he 0 (by simp) (by simp) (by simp)
    have h1 := sameL_all (l := r) (l' := s) (by simpa using h) (fun j hj hj' hk => by
      have := he (j + 1) (by simpa using hj) (by simpa using hj') (by simpa using hk)
      simpa using this)
    simp [sameL, h0, h1]
theorem eqTo_succ {l l' : List Fd} {k : Nat} (h : k < l.length) (h' : k < l'.length) (ht : eqTo l l' k) (he : eqF l[k] l'[k] = true) : eqTo l l' (k + 1) := fun j hj hj' hk => by
  by_cases e : j = k
  · subst e; exact he
  · exact ht j hj hj' (by omega)
theorem sameL_self (l : List Fd) : sameL l l = true := sameL_all rfl (fun j _ _ _ => by simp [eqF])

/-- A paper. -/
structure Dc where
  kind : Int
  number : ByteArray
  issuer : ByteArray
  fields : List Fd
structure DocIn (w : World) (A : Option Addr) (d : Dc) : Prop where
  lst : Lst Fd.cells 2 w A d.fields.length d.fields
  max : d.fields.length ≤ maxLen
theorem DocIn.below {w w' : World} {A : Option Addr} {d : Dc} (h : DocIn w A d) (hb : Below w.heap.size w w') : DocIn w' A d := ⟨h.lst.below hb, h.max⟩
def sameD (a b : Dc) : Bool := (a.kind == b.kind) && (a.number.toList == b.number.toList) && (a.issuer.toList == b.issuer.toList) && sameL a.fields b.fields
theorem sameD_self (a : Dc) : sameD a a = true := by simp [sameD, sameL_self]

set_option maxRecDepth 100000 in
set_option maxHeartbeats 4000000 in
theorem equal_any (l l' : List Fd) (A A' : Option Addr) (n c n' c' : Nat) (w : World) (h : Lst Fd.cells 2 w A n l) (h' : Lst Fd.cells 2 w A' n' l') (hnm : n ≤ maxLen) (hnm' : n' ≤ maxLen) :
    Calls Tryd.prog 25 #[.slice A n c, .slice A' n' c'] w fun e w' => e = .returned (.bool (sameL l l')) ∧ Below w.heap.size w w' := by
  have HL := Lib.hid h.len
  have HL' := Lib.hid h'.len
  unfold maxLen at hnm hnm'
  by_cases hnn : n = n'
  · subst hnn
    go_enter Tryd.func25, Tryd.ntmps25
    go_wp2
    go_loopw [13] (fun i wr => ∃ k : Nat, k ≤ n ∧ i = .int .i64 k ∧ Below w.heap.size w wr ∧ eqTo l l' k) (fun i _ => n - (intOf i).toNat)
    case atStart => exact ⟨0, by omega, rfl, Below.refl _ _, fun j _ _ hj => absurd hj (by omega)⟩
    case round =>
      obtain ⟨k, hk, rfl, hw, he⟩ := hrel
      have HE := Lib.hid he
      clear he
      by_cases hlt : k < n
      · have hlk : k < l.length := by rw [HL.out]; exact hlt
        have hlk' : k < l'.length := by rw [HL'.out]; exact hlt
        obtain ⟨ba, oa, rfl, hba, f0, f1⟩ := (h.below hw).fd k hlk
        obtain ⟨bb, ob, rfl, hbb, g0, g1⟩ := (h'.below hw).fd k hlk'
        have hs := eqTo_succ hlk hlk' HE.out
        have hf := sameL_not hlk hlk'
        generalize l[k] = x at *
        generalize l'[k] = y at *
        unfold eqF at hs hf
        cases e1 : (x.name.toList == y.name.toList)
        · rw [e1] at hf
          have HF := Lib.hid (hf (by simp))
          clear hf hs
          go_wp2
          refine wp_region_plan_still [(true, 0, none), (true, 1, none), (true, 2, none), (true, 3, none), (true, 4, none), (true, 5, none), (true, 6, none), (true, 7, none), (true, 8, none)] (by kernel_rfl) (by kernel_rfl) (fun _ _ d _ _ h => by cases d <;> exact h) rfl ?_
          repeat (first | (refine wpPlan_skip (by rfl) ?_; (try simp only [Act.put, List.setIfInBounds_toArray, List.set_cons_zero, List.set_cons_succ])) | (refine wpPlan_take (v := ?_) (by rfl) (by rfl) ?_ ?_; rotate_left; (focus (intro w hSw; (try dsimp only at hSw); go_simp; (try with_reducible rfl))); (try simp only [Act.put, List.setIfInBounds_toArray, List.set_cons_zero, List.set_cons_succ])))
          refine wpPlan_nil ?_
          go_wp2
          go_ret
          exact ⟨ret_bool HF.out.symm, hw.drew⟩
        · cases e2 : (x.value.toList == y.value.toList)
          · rw [e1, e2] at hf
            have HF := Lib.hid (hf (by simp))
            clear hf hs
            go_wp2
            refine wp_region_plan_still [(true, 0, none), (true, 1, none), (true, 2, none), (true, 3, none), (true, 4, none), (true, 5, none), (true, 6, none), (true, 7, none), (true, 8, none)] (by kernel_rfl) (by kernel_rfl) (fun _ _ d _ _ h => by cases d <;> exact h) rfl ?_
            repeat (first | (refine wpPlan_skip (by rfl) ?_; (try simp only [Act.put, List.setIfInBounds_toArray, List.set_cons_zero, List.set_cons_succ])) | (refine wpPlan_take (v := ?_) (by rfl) (by rfl) ?_ ?_; rotate_left; (focus (intro w hSw; (try dsimp only at hSw); go_simp; (try with_reducible rfl))); (try simp only [Act.put, List.setIfInBounds_toArray, List.set_cons_zero, List.set_cons_succ])))
            refine wpPlan_nil ?_
            go_wp2
            go_ret
            exact ⟨ret_bool HF.out.symm, hw.drew⟩
          · rw [e1, e2] at hs
            have HS := Lib.hid (hs (by simp))
            clear hf hs
            go_wp2
            refine wp_region_plan_still [(true, 0, none), (true, 1, none), (true, 2, none), (true, 3, none), (true, 4, none), (true, 5, none), (true, 6, none), (true, 7, none), (true, 8, none)] (by kernel_rfl) (by kernel_rfl) (fun _ _ d _ _ h => by cases d <;> exact h) rfl ?_
            repeat (first | (refine wpPlan_skip (by rfl) ?_; (try simp only [Act.put, List.setIfInBounds_toArray, List.set_cons_zero, List.set_cons_succ])) | (refine wpPlan_take (v := ?_) (by rfl) (by rfl) ?_ ?_; rotate_left; (focus (intro w hSw; (try dsimp only at hSw); go_simp; (try with_reducible rfl))); (try simp only [Act.put, List.setIfInBounds_toArray, List.set_cons_zero, List.set_cons_succ])))
            refine wpPlan_nil ?_
            go_wp2
            go_roundw
            case rel => exact ⟨k + 1, by omega, by go_num, hw.drew, HS.out⟩
            case measure => simp [intOf]; omega
      · obtain rfl : k = n := by omega
        have hall := sameL_all (HL.out.trans HL'.out.symm) (by rw [HL.out]; exact HE.out)
        have HA := Lib.hid hall
        clear hall
        go_wp2
        go_ret
        exact ⟨ret_bool HA.out.symm, hw⟩
  · have hf : sameL l l' = false := sameL_len (by rw [HL.out, HL'.out]; exact hnn)
    rw [hf]
    clear hf
    have hnz : ((n : Int) != (n' : Int)) = true := by rw [bne_iff_ne]; omega
    go_enter Tryd.func25, Tryd.ntmps25
    go_wp2
    go_ret
    exact ⟨rfl, Below.refl _ _⟩

set_option maxRecDepth 100000 in
set_option maxHeartbeats 4000000 in
theorem refEq_any (l l' : List Fd) (A A' : Option Addr) (n c n' c' : Nat) (w : World) (h : Lst Fd.cells 2 w A n l) (h' : Lst Fd.cells 2 w A' n' l') (hnm : n ≤ maxLen) (hnm' : n' ≤ maxLen) :
    Calls Tryd.prog 24 #[.slice A n c, .slice A' n' c'] w fun e w' => e = .returned (.bool (sameL l l')) ∧ Below w.heap.size w w' := by
  have HL := Lib.hid h.len
  have HL' := Lib.hid h'.len
  unfold maxLen at hnm hnm'
  by_cases hnn : n = n'
  · subst hnn
    go_enter Tryd.func24, Tryd.ntmps24
    go_wp2
    go_loopw [5] (fun i wr => ∃ k : Nat, k ≤ n ∧ i = .int .i64 k ∧ Below w.heap.size w wr ∧ eqTo l l' k) (fun i _ => n - (intOf i).toNat)
    case atStart => exact ⟨0, by omega, rfl, Below.refl _ _, fun j _ _ hj => absurd hj (by omega)⟩
    case round =>
      obtain ⟨k, hk, rfl, hw, he⟩ := hrel
      have HE := Lib.hid he
      clear he
      by_cases hlt : k < n
      · have hlk : k < l.length := by rw [HL.out]; exact hlt
        have hlk' : k < l'.length := by rw [HL'.out]; exact hlt
        obtain ⟨ba, oa, rfl, hba, f0, f1⟩ := (h.below hw).fd k hlk
        obtain ⟨bb, ob, rfl, hbb, g0, g1⟩ := (h'.below hw).fd k hlk'
        have hs := eqTo_succ hlk hlk' HE.out
        have hf := sameL_not hlk hlk'
        generalize l[k] = x at *
        generalize l'[k] = y at *
        unfold eqF at hs hf
        cases e1 : (x.name.toList == y.name.toList)
        · rw [e1] at hf
          have HF := Lib.hid (hf (by simp))
          clear hf hs
          go_wp2
          refine wp_region_plan_still [(true, 0, none), (true, 1, none), (true, 2, none), (true, 3, none), (true, 4, none), (true, 5, none), (true, 6, none), (true, 7, none), (true, 8, none)] (by kernel_rfl) (by kernel_rfl) (fun _ _ d _ _ h => by cases d <;> exact h) rfl ?_
          repeat (first | (refine wpPlan_skip (by rfl) ?_; (try simp only [Act.put, List.setIfInBounds_toArray, List.set_cons_zero, List.set_cons_succ])) | (refine wpPlan_take (v := ?_) (by rfl) (by rfl) ?_ ?_; rotate_left; (focus (intro w hSw; (try dsimp only at hSw); go_simp; (try with_reducible rfl))); (try simp only [Act.put, List.setIfInBounds_toArray, List.set_cons_zero, List.set_cons_succ])))
          refine wpPlan_nil ?_
          go_wp2
          go_ret
          exact ⟨ret_bool HF.out.symm, hw.drew⟩
        · cases e2 : (x.value.toList == y.value.toList)
          · rw [e1, e2] at hf
            have HF := Lib.hid (hf (by simp))
            clear hf hs
            go_wp2
            refine wp_region_plan_still [(true, 0, none), (true, 1, none), (true, 2, none), (true, 3, none), (true, 4, none), (true, 5, none), (true, 6, none), (true, 7, none), (true, 8, none)] (by kernel_rfl) (by kernel_rfl) (fun _ _ d _ _ h => by cases d <;> exact h) rfl ?_
            repeat (first | (refine wpPlan_skip (by rfl) ?_; (try simp only [Act.put, List.setIfInBounds_toArray, List.set_cons_zero, List.set_cons_succ])) | (refine wpPlan_take (v := ?_) (by rfl) (by rfl) ?_ ?_; rotate_left; (focus (intro w hSw; (try dsimp only at hSw); go_simp; (try with_reducible rfl))); (try simp only [Act.put, List.setIfInBounds_toArray, List.set_cons_zero, List.set_cons_succ])))
            refine wpPlan_nil ?_
            go_wp2
            go_ret
            exact ⟨ret_bool HF.out.symm, hw.drew⟩
          · rw [e1, e2] at hs
            have HS := Lib.hid (hs (by simp))
            clear hf hs
            go_wp2
            refine wp_region_plan_still [(true, 0, none), (true, 1, none), (true, 2, none), (true, 3, none), (true, 4, none), (true, 5, none), (true, 6, none), (true, 7, none), (true, 8, none)] (by kernel_rfl) (by kernel_rfl) (fun _ _ d _ _ h => by cases d <;> exact h) rfl ?_
            repeat (first | (refine wpPlan_skip (by rfl) ?_; (try simp only [Act.put, List.setIfInBounds_toArray, List.set_cons_zero, List.set_cons_succ])) | (refine wpPlan_take (v := ?_) (by rfl) (by rfl) ?_ ?_; rotate_left; (focus (intro w hSw; (try dsimp only at hSw); go_simp; (try with_reducible rfl))); (try simp only [Act.put, List.setIfInBounds_toArray, List.set_cons_zero, List.set_cons_succ])))
            refine wpPlan_nil ?_
            go_wp2
            go_roundw
            case rel => exact ⟨k + 1, by omega, by go_num, hw.drew, HS.out⟩
            case measure => simp [intOf]; omega
      · obtain rfl : k = n := by omega
        have hall := sameL_all (HL.out.trans HL'.out.symm) (by rw [HL.out]; exact HE.out)
        have HA := Lib.hid hall
        clear hall
        go_wp2
        go_ret
        exact ⟨ret_bool HA.out.symm, hw⟩
  · have hf : sameL l l' = false := sameL_len (by rw [HL.out, HL'.out]; exact hnn)
    rw [hf]
    clear hf
    have hnz : ((n : Int) != (n' : Int)) = true := by rw [bne_iff_ne]; omega
    go_enter Tryd.func24, Tryd.ntmps24
    go_wp2
    go_ret
    exact ⟨rfl, Below.refl _ _⟩

set_option maxRecDepth 100000 in
set_option maxHeartbeats 4000000 in
theorem docSame_any (a b : Dc) (A A' : Option Addr) (c c' : Nat) (w : World) (h : DocIn w A a) (h' : DocIn w A' b) :
    Calls Tryd.prog 13 #[.agg #[.int .i64 a.kind, .string a.number, .string a.issuer, .slice A a.fields.length c], .agg #[.int .i64 b.kind, .string b.number, .string b.issuer, .slice A' b.fields.length c']] w fun e w' => e = .returned (.bool (sameD a b)) ∧ Below w.heap.size w w' := by
  have hw0 : Below w.heap.size w ((w.alloc (.cells #[.int .i64 a.kind, .string a.number, .string a.issuer, .slice A a.fields.length c] 24)).alloc (.cells #[.int .i64 b.kind, .string b.number, .string b.issuer, .slice A' b.fields.length c'] 24)) := ((Below.refl _ _).alloc (Nat.le_refl _) _).alloc (by simp) _
  unfold sameD
  cases e0 : (a.kind == b.kind)
  · go_enter Tryd.func13, Tryd.ntmps13
    go_wp2
    go_ret
    exact ⟨ret_bool (by simp), hw0⟩
  · cases e1 : (a.number.toList == b.number.toList)
    · go_enter Tryd.func13, Tryd.ntmps13
      go_wp2
      go_ret
      exact ⟨ret_bool (by simp), hw0⟩
    · cases e2 : (a.issuer.toList == b.issuer.toList)
      · go_enter Tryd.func13, Tryd.ntmps13
        go_wp2
        go_ret
        exact ⟨ret_bool (by simp), hw0⟩
      · go_enter Tryd.func13, Tryd.ntmps13
        go_wp2_with (go_at_call 25; refine (equal_any a.fields b.fields A A' _ c _ c' _ (h.lst.below hw0) (h'.lst.below hw0) h.max h'.max).mono ?_; rintro e w1 ⟨rfl, hb⟩; have hw1 := Below.go hw0 hb)
        go_ret
        exact ⟨ret_bool (by simp), hw1⟩

set_option maxRecDepth 100000 in
set_option maxHeartbeats 4000000 in
theorem alike_any (a b : Dc) (A A' : Option Addr) (c c' : Nat) (w : World) (h : DocIn w A a) (h' : DocIn w A' b) :
    Calls Tryd.prog 12 #[.agg #[.int .i64 a.kind, .string a.number, .string a.issuer, .slice A a.fields.length c], .agg #[.int .i64 b.kind, .string b.number, .string b.issuer, .slice A' b.fields.length c']] w fun e w' => e = .returned (.bool (sameD a b)) ∧ Below w.heap.size w w' := by
  have hw0 : Below w.heap.size w ((w.alloc (.cells #[.int .i64 a.kind, .string a.number, .string a.issuer, .slice A a.fields.length c] 24)).alloc (.cells #[.int .i64 b.kind, .string b.number, .string b.issuer, .slice A' b.fields.length c'] 24)) := ((Below.refl _ _).alloc (Nat.le_refl _) _).alloc (by simp) _
  unfold sameD
  cases e0 : (a.kind == b.kind)
  · go_enter Tryd.func12, Tryd.ntmps12
    go_wp2
    go_ret
    exact ⟨ret_bool (by simp), hw0⟩
  · cases e1 : (a.number.toList == b.number.toList)
    · go_enter Tryd.func12, Tryd.ntmps12
      go_wp2
      go_ret
      exact ⟨ret_bool (by simp), hw0⟩
    · cases e2 : (a.issuer.toList == b.issuer.toList)
      · go_enter Tryd.func12, Tryd.ntmps12
        go_wp2
        go_ret
        exact ⟨ret_bool (by simp), hw0⟩
      · go_enter Tryd.func12, Tryd.ntmps12
        go_wp2_with (go_at_call 24; refine (refEq_any a.fields b.fields A A' _ c _ c' _ (h.lst.below hw0) (h'.lst.below hw0) h.max h'.max).mono ?_; rintro e w1 ⟨rfl, hb⟩; have hw1 := Below.go hw0 hb)
        go_ret
        exact ⟨ret_bool (by simp), hw1⟩

end Go.Proofs.YthmpdgbhbbbknaaDoor
