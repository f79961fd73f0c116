/-
  The reference's surety, by value: Left, Expired, open.
-/
import Derived.Test.YtcjheabcnipnlaaRefA
import Derived.Deep.RegionHeld3
import Derived.Deep.RegionLaw
namespace Go.Proofs.Ytcjheabcnipnlaa
open Go.RowKit

theorem anyOpen_no {l : List Dm} (h : ∀ j (hj : j < l.length), l[j].st ≠ 0) : anyOpen l = false := by
  unfold anyOpen
  rw [← Bool.not_eq_true, List.any_eq_true]
  rintro ⟨x, hx, hs⟩
  obtain ⟨j, hj, rfl⟩ := List.getElem_of_mem hx
  exact h j hj (by simpa using hs)
theorem anyOpen_yes {l : List Dm} {j : Nat} (hj : j < l.length) (h : l[j].st = 0) : anyOpen l = true := by
  unfold anyOpen
  rw [List.any_eq_true]
  exact ⟨l[j], List.getElem_mem hj, by simp [h]⟩

set_option maxHeartbeats 2000000 in
theorem leftRef_any (s : Sty) (A1 A2 : Option Addr) (c1 c2 : Nat) (day : Int) (w : World) (h1 : Rd w 3 A1 s.dems.length c1 (s.dems.flatMap Dm.cells)) (h2 : Rd w 2 A2 s.cuts.length c2 (s.cuts.flatMap Dw.cells)) (hok : s.ok) :
    Calls Try.prog 39 #[.agg #[.string s.b.num, .string s.b.gua, .string s.b.fro, .string s.b.to, .string s.b.cur, .int .i64 s.b.amt, .int .i64 s.b.exp, .int .i64 s.expiry, .slice A1 s.dems.length c1, .slice A2 s.cuts.length c2], .int .i64 day] w fun e w' => e = .returned (.int .i64 (left s day)) ∧ Below w.heap.size w w' := by
  have hd2 := hok.d2
  have hc2 := hok.c2
  have ha1 := hok.a1
  have ha2 := hok.a2
  have hds := askSum_bd _ hok.d1
  have hw : IntKind.i64.wrap (s.b.amt - askSum s.dems) = s.b.amt - askSum s.dems := IntWalk.i64_in _ (by omega)
  go_enter Try.func39, Try.ntmps39
  go_wp2
  go_region_held3 (fun w' => w'.cell? ⟨w.heap.size, 0, none⟩ = some (.string s.b.num) ∧ w'.cell? ⟨w.heap.size, 1, none⟩ = some (.string s.b.gua) ∧ w'.cell? ⟨w.heap.size, 2, none⟩ = some (.string s.b.fro) ∧ w'.cell? ⟨w.heap.size, 3, none⟩ = some (.string s.b.to) ∧ w'.cell? ⟨w.heap.size, 4, none⟩ = some (.string s.b.cur) ∧ w'.cell? ⟨w.heap.size, 5, none⟩ = some (.int .i64 s.b.amt) ∧ w'.cell? ⟨w.heap.size, 6, none⟩ = some (.int .i64 s.b.exp) ∧ w'.cell? ⟨w.heap.size, 7, none⟩ = some (.int .i64 s.expiry) ∧ w'.cell? ⟨w.heap.size, 8, none⟩ = some (.slice A1 s.dems.length c1) ∧ w'.cell? ⟨w.heap.size, 9, none⟩ = some (.slice A2 s.cuts.length c2))
    (first
      | (simp [go_sem]; done)
      | (refine ⟨?_, ?_, ?_, ?_, ?_, ?_, ?_, ?_, ?_, ?_⟩ <;> (refine (hb.cell (by simp)).trans ?_; simp [go_sem])))
    (first | (go_at_call 52; refine (asked_any s A1 A2 c1 c2 _ ((h1.alloc _).drew) hok).mono ?_; rintro e w1 ⟨rfl, hb⟩))
  have hz : w.heap.size + 1 ≤ w1.heap.size := by simpa using hb.size
  have h2' := Lib.hid (((h2.alloc _).drew).below hb)
  have hb0 := Lib.hid (((Below.refl _ w).alloc (Nat.le_refl _) _).drew.trans (hb.mono (by simp)))
  clear hb hw h1 h2
  go_wp2
  go_loop [5, 6] (fun n i => ∃ k : Nat, k ≤ s.cuts.length ∧ i = .int .i64 k ∧ n = .int .i64 (s.b.amt - askSum s.dems - cutSum day (s.cuts.take k))) (fun _ i => s.cuts.length - (intOf i).toNat)
  case atStart => exact ⟨0, by omega, rfl, by simp [cutSum]⟩
  case round =>
    obtain ⟨k, hk, rfl, rfl⟩ := hrel
    have hcs := cutSum_bd day _ (take_ok hok.c1 k)
    have hcl : (s.cuts.take k).length ≤ k := List.length_take_le _ _
    by_cases hlt : k < s.cuts.length
    · obtain ⟨b, o, hA, hbl, f0, f1⟩ := h2'.out.draw k hlt
      have ho := hok.c1 s.cuts[k] (List.getElem_mem hlt)
      unfold Dw.ok at ho
      have hs := Lib.hid (sum_snoc (cutAt day) s.cuts k hlt)
      by_cases hst : s.cuts[k].day ≤ day
      all_goals
        go_wp2
        go_round
        case rel =>
          refine ⟨k + 1, by omega, by go_num, ?_⟩
          unfold cutSum
          rw [hs.out]
          unfold cutAt
          first | (rw [if_pos hst]; go_num) | (rw [if_neg (by omega)]; go_num)
        case measure => simp [intOf]; omega
    · obtain rfl : k = s.cuts.length := by omega
      rw [List.take_length] at hcs ⊢
      by_cases hneg : s.b.amt - askSum s.dems - cutSum day s.cuts < 0
      all_goals
        go_wp2
        go_ret
        exact ⟨ret_int (by unfold left; omega), hb0.out⟩

set_option maxHeartbeats 2000000 in
theorem expiredRef_any (s : Sty) (A1 A2 : Option Addr) (c1 c2 : Nat) (day : Int) (w : World) (h1 : Rd w 3 A1 s.dems.length c1 (s.dems.flatMap Dm.cells)) (hok : s.ok) :
    Calls Try.prog 40 #[.agg #[.string s.b.num, .string s.b.gua, .string s.b.fro, .string s.b.to, .string s.b.cur, .int .i64 s.b.amt, .int .i64 s.b.exp, .int .i64 s.expiry, .slice A1 s.dems.length c1, .slice A2 s.cuts.length c2], .int .i64 day] w fun e w' => e = .returned (.bool (expired s day)) ∧ Below w.heap.size w w' := by
  have hd2 := hok.d2
  go_enter Try.func40, Try.ntmps40
  go_wp2
  go_loop [5] (fun i => ∃ k : Nat, k ≤ s.dems.length ∧ i = .int .i64 k ∧ ∀ j (hj : j < s.dems.length), j < k → s.dems[j].st ≠ 0) (fun i => s.dems.length - (intOf i).toNat)
  case atStart => exact ⟨0, by omega, rfl, fun _ _ h => absurd h (by omega)⟩
  case round =>
    obtain ⟨k, hk, rfl, hall⟩ := hrel
    have HA := Lib.hid hall
    clear hall
    by_cases hlt : k < s.dems.length
    · obtain ⟨b, o, hA, hb, f0, f1, f2⟩ := h1.dem k hlt
      by_cases hst : s.dems[k].st = 0
      all_goals
        have HS := Lib.hid hst
        first | (have hst' : (s.dems[k].st == 0) = true := by rw [hst]; rfl) | (have hst' : (s.dems[k].st == 0) = false := by simpa using hst)
        clear hst
        go_wp2
      · go_ret
        exact ⟨ret_bool (by simp [expired, anyOpen_yes hlt HS.out]), (Below.refl _ _).alloc (Nat.le_refl _) _⟩
      · go_round
        case rel =>
          refine ⟨k + 1, by omega, by go_num, fun j hj hjk => ?_⟩
          by_cases e : j = k
          · subst e; exact HS.out
          · exact HA.out j hj (by omega)
        case measure => simp [intOf]; omega
    · obtain rfl : k = s.dems.length := by omega
      go_wp2
      go_ret
      exact ⟨ret_bool (by simp [expired, anyOpen_no (fun j hj => HA.out j hj hj)]), (Below.refl _ _).alloc (Nat.le_refl _) _⟩

set_option maxHeartbeats 2000000 in
theorem open_any (s : Sty) (A1 A2 : Option Addr) (c1 c2 : Nat) (n : Int) (w : World) (h1 : Rd w 3 A1 s.dems.length c1 (s.dems.flatMap Dm.cells)) (hok : s.ok) :
    Calls Try.prog 48 #[.agg #[.string s.b.num, .string s.b.gua, .string s.b.fro, .string s.b.to, .string s.b.cur, .int .i64 s.b.amt, .int .i64 s.b.exp, .int .i64 s.expiry, .slice A1 s.dems.length c1, .slice A2 s.cuts.length c2], .int .i64 n] w fun e w' => e = .returned (.int .i64 (openE s n)) ∧ Below w.heap.size w w' := by
  have hd2 := hok.d2
  by_cases hn : n < 0
  · have he : openE s n = 4 := by unfold openE; rw [if_pos (.inl hn)]
    rw [he]
    clear he
    go_enter Try.func48, Try.ntmps48
    go_wp2
    go_ret
    exact ⟨rfl, (Below.refl _ _).alloc (Nat.le_refl _) _⟩
  by_cases hm : (s.dems.length : Int) ≤ n
  · have he : openE s n = 4 := by unfold openE; rw [if_pos (.inr hm)]
    rw [he]
    clear he
    go_enter Try.func48, Try.ntmps48
    go_wp2
    go_ret
    exact ⟨rfl, (Below.refl _ _).alloc (Nat.le_refl _) _⟩
  obtain ⟨k, rfl⟩ := Int.eq_ofNat_of_zero_le (show 0 ≤ n by omega)
  have hlt : k < s.dems.length := by omega
  obtain ⟨b, o, hA, hb, f0, f1, f2⟩ := h1.dem k hlt
  have he : openE s k = if s.dems[k].st = 0 then 0 else 9 := by unfold openE; rw [if_neg (by omega)]; simp [hlt]
  by_cases hst : s.dems[k].st = 0
  all_goals
    have HS := Lib.hid hst
    have HE := Lib.hid he
    first | (have hst' : (s.dems[k].st != 0) = false := by rw [hst]; rfl) | (have hst' : (s.dems[k].st != 0) = true := by simpa using hst)
    clear hst he
    go_enter Try.func48, Try.ntmps48
    go_wp2
    go_ret
    exact ⟨ret_int (by rw [HE.out]; simp [HS.out]), (Below.refl _ _).alloc (Nat.le_refl _) _⟩
end Go.Proofs.Ytcjheabcnipnlaa
