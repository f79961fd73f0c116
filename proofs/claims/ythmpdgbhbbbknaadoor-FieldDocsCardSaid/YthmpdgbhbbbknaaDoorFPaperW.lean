/-
  The reference's Paper: the walk.
-/
import Derived.Test.YthmpdgbhbbbknaaDoorFPaper
namespace Go.Proofs.YthmpdgbhbbbknaaDoor
open Go.RowKit

set_option maxRecDepth 100000 in
set_option maxHeartbeats 4000000 in
theorem paper_any (a : Dc) (A : Option Addr) (c : Nat) (w : World) (h : DocIn w A a) (hs : ∀ f ∈ a.fields, f.name.size ≤ maxLen) :
    Calls Tryd.prog 8 #[.agg #[.int .i64 a.kind, .string a.number, .string a.issuer, .slice A a.fields.length c]] w (PaperPost a w) := by
  have hmx := h.max
  unfold maxLen at hmx
  have hw0 : Below w.heap.size w (w.alloc (.cells #[.int .i64 a.kind, .string a.number, .string a.issuer, .slice A a.fields.length c] 24)) := (Below.refl _ _).alloc (Nat.le_refl _) _
  have B0 := Blk.new' w 24 #[.int .i64 a.kind, .string a.number, .string a.issuer, .slice A a.fields.length c] _ rfl
  go_enter Tryd.func8, Tryd.ntmps8
  go_wp2
  go_loopw [3] (fun i wr => ∃ k : Nat, k ≤ a.fields.length ∧ i = .int .i64 k ∧ (∀ j (hj : j < a.fields.length), j < k → mayF a.fields[j] = true) ∧ Below w.heap.size w wr ∧ Blk wr w.heap.size 24 #[.int .i64 a.kind, .string a.number, .string a.issuer, .slice A a.fields.length c]) (fun i _ => a.fields.length - (intOf i).toNat)
  case atStart => exact ⟨0, by omega, rfl, fun _ _ h => absurd h (by omega), hw0, B0⟩
  case round =>
    obtain ⟨k, hk, rfl, hall, hw, B⟩ := hrel
    have BC := B.all
    have HA := Lib.hid hall
    clear hall
    by_cases hlt : k < a.fields.length
    · obtain ⟨ba, oa, rfl, hba, f0, f1⟩ := (h.lst.below hw).fd k hlt
      have hn := hs _ (List.getElem_mem hlt)
      cases hm : mayF a.fields[k]
      all_goals
        go_wp2_with (go_at_call 20; refine (refMay_any a.fields[k] _ hn).mono ?_; rw [hm]; rintro e w1 ⟨rfl, hb1⟩; have hw1 := Below.go hw hb1)
      · go_ret
        exact ⟨false, rfl, ⟨by simp, fun x => by have := x.1 _ (List.getElem_mem hlt); rw [hm] at this; cases this⟩, hw1⟩
      · go_roundw
        case rel => exact ⟨k + 1, by omega, by go_num, fun j hj hjk => by (by_cases e : j = k; (subst e; exact hm); exact HA.out j hj (by omega)), hw1, B.below hb1 B.lt⟩
        case measure => simp [intOf]; omega
    · have hk' : k = a.fields.length := by omega
      have hnm : ∀ f ∈ a.fields, mayF f = true := fun f hf => by
        obtain ⟨j, hj, rfl⟩ := List.getElem_of_mem hf
        exact HA.out j hj (by omega)
      have HNM := Lib.hid hnm
      clear hnm
      have hqt : (a.kind < 0 ∨ 6 ≤ a.kind) → (kindS a.kind).toList = [] := kindS_none.2
      have hqf : ¬ (a.kind < 0 ∨ 6 ≤ a.kind) → (kindS a.kind).toList ≠ [] := fun h e => h (kindS_none.1 e)
      have HQT := Lib.hid hqt
      have HQF := Lib.hid hqf
      clear hqt hqf
      by_cases h1 : a.kind < 0 ∨ 6 ≤ a.kind
      · have q1 := HQT.out h1
        have H1 := Lib.hid h1
        clear h1
        go_wp2_with (go_at_call 21; refine (refKind_any a.kind _).mono ?_; rintro e w1 ⟨rfl, hb1⟩; have hw1 := Below.go hw hb1; have BC1 := (B.below hb1 B.lt).all)
        go_ret
        refine ⟨false, rfl, ⟨fun hx => by (cases hx), fun hx => by have := H1.out; omega⟩, hw1⟩
      · have q1 := HQF.out h1
        have q2 : ((kindS a.kind).toList.isEmpty) = false := by simpa using q1
        have q3 : (!(kindS a.kind).toList.isEmpty) = true := by simp [q2]
        have H1 := Lib.hid h1
        clear h1
        by_cases h2 : a.number.size ≤ 4096
        all_goals by_cases h3 : a.issuer.size ≤ 4096
        all_goals by_cases h4 : a.fields.length ≤ 61
        all_goals
          go_wp2_with (go_at_call 21; refine (refKind_any a.kind _).mono ?_; rintro e w1 ⟨rfl, hb1⟩; have hw1 := Below.go hw hb1; have BC1 := (B.below hb1 B.lt).all)
        · go_ret
          exact ⟨_, rfl, ⟨fun _ => ⟨HNM.out, by have := H1.out; omega, by have := H1.out; omega, h2, h3, h4⟩, fun _ => by first | rfl | (simp; omega)⟩, hw1⟩
        all_goals
          go_ret
          refine ⟨_, rfl, ⟨fun hx => ?_, fun hx => absurd hx.2 (by omega)⟩, hw1⟩
          first | (exact absurd hx (by decide)) | (simp at hx; done) | (simp at hx; exfalso; omega)
end Go.Proofs.YthmpdgbhbbbknaaDoor
