/-
  The program's surety: Demands.
-/
import Derived.Test.YtcjheabcnipnlaaSurG
namespace Go.Proofs.Ytcjheabcnipnlaa
open Go.RowKit

theorem part_store (l : List Dm) (k : Nat) (hk : k < l.length) : (((part l k).flatMap Dw.cells).set (k * 2) (.int .i64 l[k].day)).set (k * 2 + 1) (.int .i64 l[k].amount) = (part l (k + 1)).flatMap Dw.cells := by
  have hp : k < (part l k).length := by rw [part_len l k (by omega)]; exact hk
  have e0 := flat_set Dw.cells 2 Dw.cells_len (part l k) k 0 ⟨l[k].day, ((part l k)[k]'hp).amount⟩ (.int .i64 l[k].day) hp (by omega) rfl
  rw [Nat.add_zero] at e0
  rw [e0, flat_set Dw.cells 2 Dw.cells_len _ k 1 (drawOf l[k]) (.int .i64 l[k].amount) (by simpa using hp) (by omega) (by simp [Dw.cells, drawOf]), List.set_set, part_succ l k hk]
theorem part_cells (l : List Dm) (k : Nat) (hk : k < l.length) : ∃ u v, ((part l k).flatMap Dw.cells)[k * 2]? = some u ∧ ((part l k).flatMap Dw.cells)[k * 2 + 1]? = some v := by
  have hp : k < (part l k).length := by rw [part_len l k (by omega)]; exact hk
  have e0 := flat_get Dw.cells 2 Dw.cells_len (part l k) k 0 hp (by omega)
  have e1 := flat_get Dw.cells 2 Dw.cells_len (part l k) k 1 hp (by omega)
  exact ⟨_, _, e0, e1⟩

set_option maxRecDepth 100000 in
set_option maxHeartbeats 2000000 in
theorem demands_any (g : Nat) (s : Sty) (A1 A2 : Option Addr) (c1 c2 : Nat) (w : World) (h : SurAt w g s A1 c1 A2 c2) :
    Calls Try.prog 13 #[.pointer (some ⟨g, 0, none⟩)] w (DemPost s.dems w) := by
  have hd2 := h.ok.d2
  have C0 := h.blk.all
  have hg := h.blk.lt
  obtain ⟨i1, hj, hy0, hy1, hy2⟩ := info_parts Try.infoDraw
  go_enter Try.func13, Try.ntmps13
  go_wp2_with (at_make; go_loud (refine wpList_make_full _ rfl _ _ 32 rfl 0 55 i1 _ 2 Try.underlying32 hj hy0 hy1 .i64 .i64 _ _ s.dems.length rfl rfl rfl rfl (by rw [hy2]; omega) (by unfold maxLen; omega) (Nat.zero_le _) ?_; intro w1 hown hgr; have hb1 : Below w.heap.size w w1 := (Below.refl _ _).grown hgr (Nat.le_refl _) (by simp); have D0 := (h.blk.below hb1 hg).all; clear C0))
  have hown' : Own w1 55 2 (some ⟨w.heap.size, 0, none⟩) s.dems.length s.dems.length ((part s.dems 0).flatMap Dw.cells) := by
    have := hown
    rw [part_zero]
    simp only [Value.cells] at this
    rw [zero_cells] at this
    exact this
  clear hown hgr D0
  go_loopw [4, 17] (fun _ i wr => ∃ k : Nat, k ≤ s.dems.length ∧ i = .int .i64 k ∧ Own wr 55 2 (some ⟨w.heap.size, 0, none⟩) s.dems.length s.dems.length ((part s.dems k).flatMap Dw.cells) ∧ Below w.heap.size w wr)
    (fun _ i _ => s.dems.length - (intOf i).toNat)
  case atStart => exact ⟨0, by omega, rfl, hown', hb1⟩
  case round =>
    obtain ⟨k, hk, rfl, ho, hb⟩ := hrel
    by_cases hlt : k < s.dems.length
    · obtain ⟨b, o, rfl, hbl, f0, f1, f2⟩ := (h.dems.rd.below hb).dem k hlt
      obtain ⟨u0, v0, hu, hv⟩ := part_cells s.dems k hlt
      obtain ⟨b1, o1, e1, d0⟩ := ho.rd.get _ _ hu
      obtain ⟨b2, o2, e2, d1⟩ := ho.rd.get _ _ hv
      simp only [Option.some.injEq, Addr.mk.injEq, and_true] at e1 e2
      obtain ⟨rfl, rfl⟩ := e1
      obtain ⟨rfl, rfl⟩ := e2
      rw [Nat.zero_add] at d0 d1
      have hfr : ∀ j, wr.frozen? ⟨w.heap.size, j, none⟩ = false := fun j => ho.free j
      have hz : w.heap.size < wr.heap.size := ho.lt _ (by simp)
      clear hu hv
      go_wp2
      go_roundw
      case rel =>
        refine ⟨k + 1, by omega, by go_num, ?_, ?_⟩
        · have hx := (ho.set_ (k * 2) (.int .i64 s.dems[k].day)).set_ (k * 2 + 1) (.int .i64 s.dems[k].amount)
          rw [part_store s.dems k hlt] at hx
          exact hx.alloc _
        · have := hb.size
          repeat (first | with_reducible exact hb | (with_reducible refine Below.setCell ?_ (by first | omega | (simp <;> omega)) _) | (with_reducible refine Below.alloc ?_ (by first | omega | (simp <;> omega)) _) | (with_reducible refine Below.drew ?_) | (with_reducible refine belowN ?_ _))
      case measure => simp [intOf]; omega
    · obtain rfl : k = s.dems.length := by omega
      go_wp2
      go_ret
      rw [part_all] at ho
      exact ⟨_, _, rfl, ho, by simp, hb⟩
end Go.Proofs.Ytcjheabcnipnlaa
