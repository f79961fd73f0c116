/-
  The program's surety: Reduce.
-/
import Derived.Test.YtcjheabcnipnlaaSurC
namespace Go.Proofs.Ytcjheabcnipnlaa
open Go.RowKit

set_option maxRecDepth 100000 in
set_option maxHeartbeats 2000000 in
theorem reduce_any (g : Nat) (s : Sty) (A1 A2 : Option Addr) (c1 c2 : Nat) (sum day : Int) (w : World) (h : SurAt w g s A1 c1 A2 c2) (hl : s.cuts.length < 3900) :
    Calls Try.prog 24 #[.pointer (some ⟨g, 0, none⟩), .int .i64 sum, .int .i64 day] w fun e w' =>
      e = .returned (.int .i64 (reduce s sum day).2) ∧ SurPost w g (g :: (fpo A1 ++ fpo A2)) (reduce s sum day).1 w' := by
  have C0 := h.blk.all
  have F0 := h.blk.frees
  have hg := h.blk.lt
  by_cases g2 : rightB sum day = false
  · have hask : reduce s sum day = (s, 3) := by simp [reduce, g2]
    rw [hask]
    clear hask
    dsimp only
    have g3 : (sumB sum = false) ∨ (sumB sum = true ∧ dayB day = false) := by
      unfold rightB at g2
      revert g2
      cases sumB sum <;> cases dayB day <;> simp
    clear g2
    rcases g3 with g3 | ⟨g3, g4⟩
    all_goals
      go_enter Try.func24, Try.ntmps24
      go_wp2_with (first | (go_at_call 28; refine (isSum_any _ _).mono ?_; rintro e w' ⟨rfl, rfl⟩) | (go_at_call 29; refine (isDay_any _ _).mono ?_; rintro e w' ⟨rfl, rfl⟩))
      go_ret
      exact ⟨rfl, SurPost.same h.sur (Below.refl _ _)⟩
  have g2' : sumB sum = true ∧ dayB day = true := by
    unfold rightB at g2
    revert g2
    cases sumB sum <;> cases dayB day <;> simp
  obtain ⟨g2a, g2b⟩ := g2'
  have hr : 1 ≤ sum ∧ sum ≤ 1099511627776 ∧ 0 ≤ day ∧ day ≤ 1048576 := by
    have x1 := g2a
    have x2 := g2b
    simp [sumB] at x1
    simp [dayB] at x2
    omega
  have hno : s.b.amt < sum + allSum s.cuts → reduce s sum day = (s, 10) := fun g => by simp [reduce, g2, g]
  have hyes : ¬ s.b.amt < sum + allSum s.cuts → reduce s sum day = (({ s with cuts := s.cuts ++ [Dw.mk day sum] }, 0) : Sty × Int) := fun g => by simp [reduce, g2, g]
  have HNO := Lib.hid hno
  have HYES := Lib.hid hyes
  clear hno hyes g2
  have ha2 := h.ok.a2
  have ha1 := h.ok.a1
  obtain ⟨i1, hj, hy0, hy1, hy2⟩ := info_parts Try.infoDraw
  have h4 : (s.cuts.length : Int) < 4096 := by omega
  have hgn : ∀ b ∈ fpo A1, b ≠ g := fun b hb e => h.cuts.ne_ h.blk (by decide) (e ▸ hb)
  have HGN := Lib.hid hgn
  clear hgn
  go_enter Try.func24, Try.ntmps24
  go_wp2_with (first | (go_at_call 28; refine (isSum_any _ _).mono ?_; rintro e w' ⟨rfl, rfl⟩) | (go_at_call 29; refine (isDay_any _ _).mono ?_; rintro e w' ⟨rfl, rfl⟩))
  go_loopw [7, 24] (fun l i wr => ∃ k : Nat, k ≤ s.cuts.length ∧ i = .int .i64 k ∧ l = .int .i64 (sum + allSum (s.cuts.take k)) ∧ Below w.heap.size w wr)
    (fun _ i _ => s.cuts.length - (intOf i).toNat)
  case atStart => exact ⟨0, by omega, rfl, by simp [allSum], Below.refl _ _⟩
  case round =>
    obtain ⟨k, hk, rfl, rfl, hb⟩ := hrel
    have hcs := allSum_bd _ (take_ok h.ok.c1 k)
    have hcl : (s.cuts.take k).length ≤ k := List.length_take_le _ _
    by_cases hlt : k < s.cuts.length
    · obtain ⟨b, o, hA, hbl, f0, f1⟩ := (h.cuts.rd.below hb).draw k hlt
      have ho := h.ok.c1 s.cuts[k] (List.getElem_mem hlt)
      unfold Dw.ok at ho
      have hs := Lib.hid (sum_snoc Dw.amount s.cuts k hlt)
      go_wp2
      go_roundw
      case rel =>
        refine ⟨k + 1, by omega, by go_num, ?_, hb.alloc hb.size _⟩
        unfold allSum
        rw [hs.out]
        go_num
      case measure => simp [intOf]; omega
    · have D0 := (h.blk.below hb hg).all
      have hgz : g < wr.heap.size := by have := hb.size; omega
      obtain rfl : k = s.cuts.length := by omega
      rw [List.take_length] at hcs ⊢
      by_cases hx : s.b.amt < sum + allSum s.cuts
      · go_wp2
        go_ret
        rw [HNO.out (by omega)]
        exact ⟨rfl, SurPost.same h.sur hb⟩
      · go_wp2_with (at_builtin; go_loud (refine wpList_app _ rfl (.tmp 51) (.tmp 55) 32 rfl 55 i1 _ 2 16 Try.underlying32 hj hy0 hy1 hy2 rfl (by decide) rfl rfl ((h.cuts.below hb).alloc _) (Rd.lit _ 55 2 _ 1 (by simp [maxLen]) rfl _ (by simp)) (by intro u hu; simp at hu; rcases hu with rfl | rfl <;> rfl) (s.cuts.length + 1) (by simp) ((s.cuts ++ [Dw.mk day sum]).flatMap Dw.cells) (by simp [Dw.cells]) (by unfold maxLen; omega) (by omega) ?_; intro A4 c4 w3 hown2 hfr2 hfp2; have d0 := ((h.blk.below hb hg).alloc _).frm hfr2 (fun hx => HGN.out _ hx rfl); clear D0; have C3 := d0.all; have F3 := d0.frees))
        go_ret
        rw [HYES.out (by omega)]
        refine ⟨rfl, ?_⟩
        have hw : Below w.heap.size w (wr.alloc (.cells #[.int .i64 day, .int .i64 sum] 55)) := hb.alloc hb.size _
        have hp := sur_cuts h hw hfr2 (l := s.cuts ++ [Dw.mk day sum]) (by simpa using hown2) hfp2 (Sty.ok_cut h.ok ⟨day, sum⟩ ⟨hr.2.2.1, hr.2.2.2, hr.1, hr.2.1⟩ (by omega))
        simpa using hp
end Go.Proofs.Ytcjheabcnipnlaa
