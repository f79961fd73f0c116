/-
  Layer 5: the reference's Set.
-/
import Derived.Test.YthmpdgbhbbbknaaFSet
namespace Go.Proofs.Ythmpdgbhbbbknaa
open Go.RowKit

theorem fd_two (x : Fd) : ∀ u ∈ [Value.string x.name, Value.string x.value], u.oneCell' = true := by
  intro u hu; simp at hu; rcases hu with rfl | rfl <;> rfl

set_option maxRecDepth 100000 in
set_option maxHeartbeats 4000000 in
theorem refSet_any (l : List Fd) (nm v : ByteArray) (A : Option Addr) (n c : Nat) (w : World) (h : Lst Fd.cells 2 w A n l) (hl : n ≤ 4000) :
    Calls Try.prog 18 #[.slice A n c, .string nm, .string v] w (SetPost (setM l nm v) w) := by
  obtain ⟨i1, hj, hy0, hy1, hy2⟩ := info_parts Try.infoFd
  have HL := Lib.hid h.len
  go_enter Try.func18, Try.ntmps18
  go_wp2
  go_loopw [7, 8, 9] (fun o d i wr => ∃ (k : Nat) (A2 : Option Addr) (c2 : Nat), k ≤ n ∧ i = .int .i64 k ∧ o = .slice A2 k c2 ∧ d = .bool (decide (ixF l nm < k)) ∧ Own wr 42 2 A2 k c2 ((outK l nm v k).flatMap Fd.cells) ∧ (∀ b ∈ fpo A2, w.heap.size ≤ b) ∧ Below w.heap.size w wr) (fun _ _ i _ => n - (intOf i).toNat)
  case atStart => exact ⟨0, _, _, by omega, rfl, rfl, by simp, Own.lit _ 42 2 #[] 0 (by simp [maxLen]) rfl _ (by simp), by simp, (Below.refl _ _).alloc (Nat.le_refl _) _⟩
  case round =>
    obtain ⟨k, A2, c2, hk, rfl, rfl, rfl, ho, hn, hw⟩ := hrel
    have HN := Lib.hid hn
    clear hn
    by_cases hlt : k < n
    · have hlk : k < l.length := by rw [HL.out]; exact hlt
      have hsz := hw.size
      rcases Nat.lt_trichotomy (ixF l nm) k with hd | hd | hd
      · have HO := Lib.hid (outK_done (v := v) hlk hd)
        obtain ⟨ba, oa, rfl, hba, f0, f1⟩ := (h.below hw).fd k hlk
        generalize l[k] = x at *
        rw [show decide (ixF l nm < k) = true from by simpa using hd]
        cases hm : isF nm x
        all_goals
          unfold isF at hm
          go_wp2_with (at_builtin; go_loud (refine wpList_app _ rfl _ _ 22 rfl 42 i1 _ 2 32 Try.underlying22 hj hy0 hy1 hy2 rfl (by decide) rfl rfl (ho.below (by repeat (first | with_reducible exact Below.refl _ _ | (with_reducible refine Below.setCell ?_ (by first | omega | (simp <;> omega)) _) | (with_reducible refine Below.alloc ?_ (by first | omega | (simp <;> omega)) _) | (with_reducible refine Below.drew ?_) | (with_reducible refine belowN ?_ _)))) (Rd.lit _ 42 2 _ 1 (by simp [maxLen]) rfl _ (by simp)) (fd_two x) (k + 1) rfl ((outK l nm v (k + 1)).flatMap Fd.cells) (by rw [HO.out]; simp [Fd.cells]) (by unfold maxLen; omega) (by omega) ?_; intro A4 c4 w4 hown2 hfr2 hfp2))
          go_roundw
          case rel =>
            refine ⟨k + 1, A4, c4, by omega, by go_num, rfl, by simp; omega, hown2, fun b hb => ?_, Below.frm (by (repeat (first | with_reducible exact Below.refl _ _ | (with_reducible refine Below.setCell ?_ (by first | omega | (simp <;> omega)) _) | (with_reducible refine Below.alloc ?_ (by first | omega | (simp <;> omega)) _) | (with_reducible refine Below.drew ?_) | (with_reducible refine belowN ?_ _))); exact hw) hfr2 HN.out⟩
            rcases hfp2 b hb with h | h
            · exact HN.out b h
            · simp at h
              omega
          case measure => simp [intOf]; omega
      · have HO := Lib.hid (outK_here (v := v) hlk hd)
        have hm : isF nm l[k] = true := by
          have := ixF_at l nm (by omega)
          simp only [hd] at this
          exact this
        obtain ⟨ba, oa, rfl, hba, f0, f1⟩ := (h.below hw).fd k hlk
        generalize l[k] = x at *
        rw [show decide (ixF l nm < k) = false from by simp; omega]
        unfold isF at hm
        go_wp2_with (at_builtin; go_loud (refine wpList_app _ rfl _ _ 22 rfl 42 i1 _ 2 32 Try.underlying22 hj hy0 hy1 hy2 rfl (by decide) rfl rfl (ho.below (by repeat (first | with_reducible exact Below.refl _ _ | (with_reducible refine Below.setCell ?_ (by first | omega | (simp <;> omega)) _) | (with_reducible refine Below.alloc ?_ (by first | omega | (simp <;> omega)) _) | (with_reducible refine Below.drew ?_) | (with_reducible refine belowN ?_ _)))) (Rd.lit _ 42 2 _ 1 (by simp [maxLen]) rfl _ (by simp)) (fd_two ⟨x.name, v⟩) (k + 1) rfl ((outK l nm v (k + 1)).flatMap Fd.cells) (by rw [HO.out]; simp [Fd.cells]) (by unfold maxLen; omega) (by omega) ?_; intro A4 c4 w4 hown2 hfr2 hfp2))
        go_roundw
        case rel =>
          refine ⟨k + 1, A4, c4, by omega, by go_num, rfl, by simp; omega, hown2, fun b hb => ?_, Below.frm (by (repeat (first | with_reducible exact Below.refl _ _ | (with_reducible refine Below.setCell ?_ (by first | omega | (simp <;> omega)) _) | (with_reducible refine Below.alloc ?_ (by first | omega | (simp <;> omega)) _) | (with_reducible refine Below.drew ?_) | (with_reducible refine belowN ?_ _))); exact hw) hfr2 HN.out⟩
          rcases hfp2 b hb with h | h
          · exact HN.out b h
          · simp at h
            omega
        case measure => simp [intOf]; omega
      · have HO := Lib.hid (outK_later (v := v) hlk hd)
        have hm : isF nm l[k] = false := ixF_before l nm k hlk hd
        obtain ⟨ba, oa, rfl, hba, f0, f1⟩ := (h.below hw).fd k hlk
        generalize l[k] = x at *
        rw [show decide (ixF l nm < k) = false from by simp; omega]
        unfold isF at hm
        go_wp2_with (at_builtin; go_loud (refine wpList_app _ rfl _ _ 22 rfl 42 i1 _ 2 32 Try.underlying22 hj hy0 hy1 hy2 rfl (by decide) rfl rfl (ho.below (by repeat (first | with_reducible exact Below.refl _ _ | (with_reducible refine Below.setCell ?_ (by first | omega | (simp <;> omega)) _) | (with_reducible refine Below.alloc ?_ (by first | omega | (simp <;> omega)) _) | (with_reducible refine Below.drew ?_) | (with_reducible refine belowN ?_ _)))) (Rd.lit _ 42 2 _ 1 (by simp [maxLen]) rfl _ (by simp)) (fd_two x) (k + 1) rfl ((outK l nm v (k + 1)).flatMap Fd.cells) (by rw [HO.out]; simp [Fd.cells]) (by unfold maxLen; omega) (by omega) ?_; intro A4 c4 w4 hown2 hfr2 hfp2))
        go_roundw
        case rel =>
          refine ⟨k + 1, A4, c4, by omega, by go_num, rfl, by simp; omega, hown2, fun b hb => ?_, Below.frm (by (repeat (first | with_reducible exact Below.refl _ _ | (with_reducible refine Below.setCell ?_ (by first | omega | (simp <;> omega)) _) | (with_reducible refine Below.alloc ?_ (by first | omega | (simp <;> omega)) _) | (with_reducible refine Below.drew ?_) | (with_reducible refine belowN ?_ _))); exact hw) hfr2 HN.out⟩
          rcases hfp2 b hb with h | h
          · exact HN.out b h
          · simp at h
            omega
        case measure => simp [intOf]; omega
    · obtain rfl : k = n := by omega
      have hsz := hw.size
      rcases outK_end l nm v with ⟨hi, he⟩ | ⟨hi, he⟩
      · have hlen : (setM l nm v).length = k := by rw [he, outK_len _ _ _ _ (Nat.le_refl _)]; exact HL.out
        rw [show decide (ixF l nm < k) = true from by rw [HL.out] at hi; simpa using hi]
        have HE := Lib.hid he
        have HLE := Lib.hid hlen
        clear he hlen
        go_wp2
        go_ret
        refine ⟨A2, c2, by rw [HLE.out]; rfl, ?_, HN.out, hw⟩
        rw [HLE.out, HE.out, HL.out]
        exact ho
      · have hlen : (setM l nm v).length = k + 1 := by rw [he, List.length_append, outK_len _ _ _ _ (Nat.le_refl _), HL.out]; rfl
        rw [show decide (ixF l nm < k) = false from by rw [HL.out] at hi; simp; omega]
        have HE := Lib.hid he
        have HLE := Lib.hid hlen
        clear he hlen
        go_wp2_with (at_builtin; go_loud (refine wpList_app _ rfl _ _ 22 rfl 42 i1 _ 2 32 Try.underlying22 hj hy0 hy1 hy2 rfl (by decide) rfl rfl (ho.below (by repeat (first | with_reducible exact Below.refl _ _ | (with_reducible refine Below.setCell ?_ (by first | omega | (simp <;> omega)) _) | (with_reducible refine Below.alloc ?_ (by first | omega | (simp <;> omega)) _) | (with_reducible refine Below.drew ?_) | (with_reducible refine belowN ?_ _)))) (Rd.lit _ 42 2 _ 1 (by simp [maxLen]) rfl _ (by simp)) (fd_two ⟨nm, v⟩) (k + 1) rfl ((setM l nm v).flatMap Fd.cells) (by rw [HE.out, HL.out]; simp [Fd.cells]) (by unfold maxLen; omega) (by omega) ?_; intro A4 c4 w4 hown2 hfr2 hfp2))
        go_ret
        refine ⟨A4, c4, by rw [HLE.out]; rfl, by rw [HLE.out]; exact hown2, fun b hb => ?_, Below.frm (by (repeat (first | with_reducible exact Below.refl _ _ | (with_reducible refine Below.setCell ?_ (by first | omega | (simp <;> omega)) _) | (with_reducible refine Below.alloc ?_ (by first | omega | (simp <;> omega)) _) | (with_reducible refine Below.drew ?_) | (with_reducible refine belowN ?_ _))); exact hw) hfr2 HN.out⟩
        rcases hfp2 b hb with h | h
        · exact HN.out b h
        · simp at h
          omega
end Go.Proofs.Ythmpdgbhbbbknaa
