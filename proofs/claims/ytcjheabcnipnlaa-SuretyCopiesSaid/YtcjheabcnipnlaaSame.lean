/-
  same: is a surety the document's, as far as it tells, on some days.
-/
import Derived.Test.YtcjheabcnipnlaaSurH
import Derived.Test.YtcjheabcnipnlaaSurB
import Derived.Test.YtcjheabcnipnlaaPlan
namespace Go.Proofs.Ytcjheabcnipnlaa
open Go.RowKit

set_option maxRecDepth 100000 in
set_option maxHeartbeats 4000000 in
theorem same_any (g : Nat) (s : Sty) (A1 A2 A3 A4 : Option Addr) (c1 c2 c3 c4 : Nat) (day : Int) (w : World) (h : SurAt w g s A1 c1 A2 c2) (h1 : Rd w 3 A3 s.dems.length c3 (s.dems.flatMap Dm.cells)) (h2 : Rd w 2 A4 s.cuts.length c4 (s.cuts.flatMap Dw.cells)) :
    Calls Try.prog 21 #[.pointer (some ⟨g, 0, none⟩), .agg #[.string s.b.num, .string s.b.gua, .string s.b.fro, .string s.b.to, .string s.b.cur, .int .i64 s.b.amt, .int .i64 s.b.exp, .int .i64 s.expiry, .slice A3 s.dems.length c3, .slice A4 s.cuts.length c4], .int .i64 day] w fun e w' => e = .returned (.bool true) ∧ Below w.heap.size w w' := by
  have hd2 := h.ok.d2
  have he1 := h.ok.e1
  have he2 := h.ok.e2
  have hw0 : Below w.heap.size w (w.alloc (.cells #[.string s.b.num, .string s.b.gua, .string s.b.fro, .string s.b.to, .string s.b.cur, .int .i64 s.b.amt, .int .i64 s.b.exp, .int .i64 s.expiry, .slice A3 s.dems.length c3, .slice A4 s.cuts.length c4] 38)) := by repeat (first | with_reducible exact Below.refl _ _ | (with_reducible refine Below.setCell ?_ (by first | omega | (simp <;> omega)) _) | (with_reducible refine Below.alloc ?_ (by first | omega | (simp <;> omega)) _) | (with_reducible refine Below.drew ?_) | (with_reducible refine belowN ?_ _))
  go_enter Try.func21, Try.ntmps21
  go_wp2_with (go_at_call 13; refine (demands_any g s A1 A2 c1 c2 _ (h.frm (Frm.of_below hw0 []) (by simp) (by simp) (by simp))).mono ?_; rintro e w1 ⟨A5, c5, rfl, ho, ho2, hb1⟩; have B0 := (Blk.new' _ _ _ w.heap.size rfl).below hb1 (by simp); have C0 := B0.all; have hw1 := Below.go hw0 hb1; have hz1 := B0.lt; clear hb1 ho2)
  clear C0
  go_loopw [22] (fun i wr => ∃ k : Nat, k ≤ s.dems.length ∧ i = .int .i64 k ∧ Below w1.heap.size w1 wr) (fun i _ => s.dems.length - (intOf i).toNat)
  case atStart => exact ⟨0, by omega, rfl, Below.refl _ _⟩
  case round =>
    obtain ⟨k, hk, rfl, hb⟩ := hrel
    have C1 := (B0.below hb hz1).all
    have hz2 := hb.size
    have hz3 : w.heap.size < wr.heap.size := by omega
    by_cases hlt : k < s.dems.length
    · obtain ⟨b, o, rfl, hbl, f0, f1⟩ := (ho.rd.below hb).draw k (by simpa using hlt)
      obtain ⟨b3, o3, rfl, hbl3, e0, e1, _⟩ := (h1.below (Below.go hw1 hb)).dem k hlt
      simp [drawOf] at f0 f1
      go_wp2
      refine wp_region_plan_still [(true, 0, none), (true, 1, none), (true, 2, none), (true, 3, none), (true, 4, none), (true, 5, none), (true, 6, none), (true, 7, none), (true, 8, none), (true, 9, none), (true, 10, some (36, false)), (true, 11, some (36, false)), (true, 12, some (36, false)), (true, 13, some (36, false)), (true, 14, some (36, false)), (true, 15, some (36, false)), (true, 16, some (36, false)), (true, 17, some (36, false)), (true, 18, some (36, false)), (true, 19, none)] (by kernel_rfl) (by kernel_rfl) (fun _ _ d _ _ h => by cases d <;> exact h) rfl ?_
      repeat (first | (refine wpPlan_skip (by rfl) ?_; (try simp only [Act.put, List.setIfInBounds_toArray, List.set_cons_zero, List.set_cons_succ])) | (refine wpPlan_take (v := ?_) (by rfl) (by rfl) ?_ ?_; rotate_left; (focus (intro w hSw; (try dsimp only at hSw); go_simp; (try with_reducible rfl))); (try simp only [Act.put, List.setIfInBounds_toArray, List.set_cons_zero, List.set_cons_succ])))
      refine wpPlan_nil ?_
      go_wp2
      go_roundw
      case rel =>
        exact ⟨k + 1, by omega, by go_num, (hb.alloc hb.size _).drew⟩
      case measure => simp [intOf]; omega
    · obtain rfl : k = s.dems.length := by omega
      rename World => u
      go_wp2
      have hb2 : Below w1.heap.size w1 (u.alloc (.cells #[.int .i64 day, .int .i64 0, .int .i64 9, .int .i64 s.expiry, .int .i64 (s.expiry + 1)] 3)) := hb.alloc hb.size _
      have hC := (Blk.new' u 3 #[.int .i64 day, .int .i64 0, .int .i64 9, .int .i64 s.expiry, .int .i64 (s.expiry + 1)] u.heap.size rfl).all
      clear C1
      go_loopw [56] (fun i wq => ∃ k : Nat, k ≤ 5 ∧ i = .int .i64 k ∧ Below w1.heap.size w1 wq ∧ ∀ i, wq.cell? ⟨u.heap.size, i, none⟩ = (#[.int .i64 day, .int .i64 0, .int .i64 9, .int .i64 s.expiry, .int .i64 (s.expiry + 1)] : Array Value)[i]?) (fun i _ => 5 - (intOf i).toNat)
      case atStart => exact ⟨0, by omega, rfl, hb2, fun i => hC i⟩
      case round =>
        clear hC hlt
        obtain ⟨k, hk, rfl, hb3, hC3⟩ := hrel
        by_cases hlt : k < 5
        · obtain ⟨d, hd⟩ : ∃ d, (#[.int .i64 day, .int .i64 0, .int .i64 9, .int .i64 s.expiry, .int .i64 (s.expiry + 1)] : Array Value)[k]? = some (.int .i64 d) := by
            have : k = 0 ∨ k = 1 ∨ k = 2 ∨ k = 3 ∨ k = 4 := by omega
            rcases this with rfl | rfl | rfl | rfl | rfl <;> exact ⟨_, rfl⟩
          have hc := hC3 k
          rw [hd] at hc
          clear hd
          have C1 := (B0.below hb3 hz1).all
          have q0 := hb3.drew
          have p0 := (Below.refl wr.heap.size wr).drew
          have H := fun {x : World} (hx : Below w1.heap.size w1 x) => h.frm (Frm.of_below (Below.go hw1 hx) []) (by simp) (by simp) (by simp)
          have H1 := fun {x : World} (hx : Below w1.heap.size w1 x) => h1.below (Below.go hw1 hx)
          have H2 := fun {x : World} (hx : Below w1.heap.size w1 x) => h2.below (Below.go hw1 hx)
          have HH := Lib.hid hC3
          clear hC3
          go_wp2
          refine wp_region_plan [(true, 0, none), (true, 1, none), (true, 3, none), (true, 4, none), (false, 2, none), (false, 5, none), (true, 6, none), (true, 7, none), (true, 8, some (67, false)), (true, 9, some (67, false)), (true, 11, some (67, false)), (true, 12, some (67, false)), (false, 10, some (67, false)), (false, 13, some (67, false)), (true, 14, some (67, false)), (true, 15, none)] (fun w' => ∀ i, w'.cell? ⟨w.heap.size, i, none⟩ = (#[.string s.b.num, .string s.b.gua, .string s.b.fro, .string s.b.to, .string s.b.cur, .int .i64 s.b.amt, .int .i64 s.b.exp, .int .i64 s.expiry, .slice A3 s.dems.length c3, .slice A4 s.cuts.length c4] : Array Value)[i]?) (by kernel_rfl) (by kernel_rfl) (fun _ _ d _ _ h => by cases d <;> exact h) rfl (fun i => C1 i) (fun hHeld => ?_)
          repeat (first | (refine wpPlan_skip (by rfl) ?_; (try simp only [Act.put, List.setIfInBounds_toArray, List.set_cons_zero, List.set_cons_succ])) | (refine wpPlan_take (v := ?_) (by rfl) (by rfl) ?_ ?_; rotate_left; (focus (intro w hSw; (try dsimp only at hSw); go_simp; (try with_reducible rfl))); (try simp only [Act.put, List.setIfInBounds_toArray, List.set_cons_zero, List.set_cons_succ])))
          refine wpPlan_do (by rfl) (by rfl) (fun K hK => ?_); (try dsimp only)
          go_simp
          refine (left_any g s A1 A2 c1 c2 d _ (H q0)).mono ?_
          rintro e v1 ⟨rfl, hv⟩
          have q1 := Below.go q0 hv
          have p1 := Below.go p0 hv
          have D1 := (B0.below q1 hz1).all
          dsimp only
          refine hK.out _ _ ?_ (fun hHeld => ?_)
          · exact fun i => D1 i
          clear hK K
          try simp only [Act.put, List.setIfInBounds_toArray, List.set_cons_zero, List.set_cons_succ]
          repeat (first | (refine wpPlan_skip (by rfl) ?_; (try simp only [Act.put, List.setIfInBounds_toArray, List.set_cons_zero, List.set_cons_succ])) | (refine wpPlan_take (v := ?_) (by rfl) (by rfl) ?_ ?_; rotate_left; (focus (intro w hSw; (try dsimp only at hSw); go_simp; (try with_reducible rfl))); (try simp only [Act.put, List.setIfInBounds_toArray, List.set_cons_zero, List.set_cons_succ])))
          refine wpPlan_do (by rfl) (by rfl) (fun K hK => ?_); (try dsimp only)
          go_simp
          refine (leftRef_any s A3 A4 c3 c4 d _ (H1 q1) (H2 q1) h.ok).mono ?_
          rintro e v2 ⟨rfl, hv⟩
          have q2 := Below.go q1 hv
          have p2 := Below.go p1 hv
          have D2 := (B0.below q2 hz1).all
          dsimp only
          refine hK.out _ _ ?_ (fun hHeld => ?_)
          · exact fun i => D2 i
          clear hK K
          try simp only [Act.put, List.setIfInBounds_toArray, List.set_cons_zero, List.set_cons_succ]
          repeat (first | (refine wpPlan_skip (by rfl) ?_; (try simp only [Act.put, List.setIfInBounds_toArray, List.set_cons_zero, List.set_cons_succ])) | (refine wpPlan_take (v := ?_) (by rfl) (by rfl) ?_ ?_; rotate_left; (focus (intro w hSw; (try dsimp only at hSw); go_simp; (try with_reducible rfl))); (try simp only [Act.put, List.setIfInBounds_toArray, List.set_cons_zero, List.set_cons_succ])))
          refine wpPlan_do (by rfl) (by rfl) (fun K hK => ?_); (try dsimp only)
          go_simp
          refine (expired_any g s A1 A2 c1 c2 d _ (H q2)).mono ?_
          rintro e v3 ⟨rfl, hv⟩
          have q3 := Below.go q2 hv
          have p3 := Below.go p2 hv
          have D3 := (B0.below q3 hz1).all
          dsimp only
          refine hK.out _ _ ?_ (fun hHeld => ?_)
          · exact fun i => D3 i
          clear hK K
          try simp only [Act.put, List.setIfInBounds_toArray, List.set_cons_zero, List.set_cons_succ]
          repeat (first | (refine wpPlan_skip (by rfl) ?_; (try simp only [Act.put, List.setIfInBounds_toArray, List.set_cons_zero, List.set_cons_succ])) | (refine wpPlan_take (v := ?_) (by rfl) (by rfl) ?_ ?_; rotate_left; (focus (intro w hSw; (try dsimp only at hSw); go_simp; (try with_reducible rfl))); (try simp only [Act.put, List.setIfInBounds_toArray, List.set_cons_zero, List.set_cons_succ])))
          refine wpPlan_do (by rfl) (by rfl) (fun K hK => ?_); (try dsimp only)
          go_simp
          refine (expiredRef_any s A3 A4 c3 c4 d _ (H1 q3) h.ok).mono ?_
          rintro e v4 ⟨rfl, hv⟩
          have q4 := Below.go q3 hv
          have p4 := Below.go p3 hv
          have D4 := (B0.below q4 hz1).all
          dsimp only
          refine hK.out _ _ ?_ (fun hHeld => ?_)
          · exact fun i => D4 i
          clear hK K
          try simp only [Act.put, List.setIfInBounds_toArray, List.set_cons_zero, List.set_cons_succ]
          repeat (first | (refine wpPlan_skip (by rfl) ?_; (try simp only [Act.put, List.setIfInBounds_toArray, List.set_cons_zero, List.set_cons_succ])) | (refine wpPlan_take (v := ?_) (by rfl) (by rfl) ?_ ?_; rotate_left; (focus (intro w hSw; (try dsimp only at hSw); go_simp; (try with_reducible rfl))); (try simp only [Act.put, List.setIfInBounds_toArray, List.set_cons_zero, List.set_cons_succ])))
          refine wpPlan_nil ?_
          go_wp2
          go_roundw
          case rel =>
            refine ⟨k + 1, by omega, by go_num, q4, fun i => ?_⟩
            have hz5 : u.heap.size < wr.heap.size := World.block_lt_of_cell? wr _ hc
            rw [← HH.out i]
            exact World.cell?_of_block (p4.block u.heap.size hz5)
          case measure => simp [intOf]; omega
        · go_wp2
          go_ret
          exact ⟨rfl, Below.go hw1 hb3⟩
end Go.Proofs.Ytcjheabcnipnlaa
