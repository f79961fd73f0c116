/-
  The reference's surety, by value: Asked, Left, Expired, open: they read alone.
-/
import Derived.Test.YtcjheabcnipnlaaSmall
import Derived.Deep.DeepFit
import Derived.StillTailTactics
namespace Go.Proofs.Ytcjheabcnipnlaa
open Go.RowKit

/-- Element i of a row of demands, of draws. -/
theorem Rd.dem {w : World} {A : Option Addr} {n c : Nat} {l : List Dm} (h : Rd w 3 A n c (l.flatMap Dm.cells)) (i : Nat) (hi : i < l.length) :
    ∃ b o, A = some ⟨b, o, none⟩ ∧ b < w.heap.size ∧ w.cell? ⟨b, o + i * 3, none⟩ = some (.int .i64 l[i].day) ∧ w.cell? ⟨b, o + i * 3 + 1, none⟩ = some (.int .i64 l[i].amount) ∧ w.cell? ⟨b, o + i * 3 + 2, none⟩ = some (.int .i64 l[i].st) := by
  obtain ⟨b, o, hA, hb, hc⟩ := h.elem Dm.cells_len (by omega) i hi
  exact ⟨b, o, hA, hb, hc 0 _ rfl, hc 1 _ rfl, hc 2 _ rfl⟩
theorem Rd.draw {w : World} {A : Option Addr} {n c : Nat} {l : List Dw} (h : Rd w 2 A n c (l.flatMap Dw.cells)) (i : Nat) (hi : i < l.length) :
    ∃ b o, A = some ⟨b, o, none⟩ ∧ b < w.heap.size ∧ w.cell? ⟨b, o + i * 2, none⟩ = some (.int .i64 l[i].day) ∧ w.cell? ⟨b, o + i * 2 + 1, none⟩ = some (.int .i64 l[i].amount) := by
  obtain ⟨b, o, hA, hb, hc⟩ := h.elem Dw.cells_len (by omega) i hi
  exact ⟨b, o, hA, hb, hc 0 _ rfl, hc 1 _ rfl⟩

set_option maxHeartbeats 2000000 in
theorem asked_any (s : Sty) (A1 A2 : Option Addr) (c1 c2 : Nat) (w : World) (h1 : Rd w 3 A1 s.dems.length c1 (s.dems.flatMap Dm.cells)) (hok : s.ok) :
    Calls Try.prog 52 #[.agg #[.string s.b.num, .string s.b.gua, .string s.b.fro, .string s.b.to, .string s.b.cur, .int .i64 s.b.amt, .int .i64 s.b.exp, .int .i64 s.expiry, .slice A1 s.dems.length c1, .slice A2 s.cuts.length c2]] w fun e w' => e = .returned (.int .i64 (askSum s.dems)) ∧ Below w.heap.size w w' := by
  have hd2 := hok.d2
  go_enter Try.func52, Try.ntmps52
  go_wp2
  go_loop [3, 4] (fun n i => ∃ k : Nat, k ≤ s.dems.length ∧ i = .int .i64 k ∧ n = .int .i64 (askSum (s.dems.take k))) (fun _ i => s.dems.length - (intOf i).toNat)
  case atStart => exact ⟨0, by omega, rfl, rfl⟩
  case round =>
    obtain ⟨k, hk, rfl, rfl⟩ := hrel
    have hcs := askSum_bd _ (take_ok hok.d1 k)
    have hcl : (s.dems.take k).length ≤ k := List.length_take_le _ _
    by_cases hlt : k < s.dems.length
    · obtain ⟨b, o, hA, hb, f0, f1, f2⟩ := h1.dem k hlt
      have ho := hok.d1 s.dems[k] (List.getElem_mem hlt)
      unfold Dm.ok at ho
      have hs := Lib.hid (sum_snoc askAt s.dems k hlt)
      by_cases hst : s.dems[k].st = 2
      all_goals
        have HS := Lib.hid hst
        first | (have hst' : (s.dems[k].st != 2) = false := by rw [hst]; rfl) | (have hst' : (s.dems[k].st != 2) = true := by simpa using hst)
        clear hst
        go_wp2
        go_round
        case rel =>
          refine ⟨k + 1, by omega, by go_num, ?_⟩
          unfold askSum
          rw [hs.out]
          unfold askAt
          first | (rw [if_pos HS.out]; simp) | (rw [if_neg HS.out])
        case measure => simp [intOf]; omega
    · obtain rfl : k = s.dems.length := by omega
      rw [List.take_length] at hcs ⊢
      go_wp2
      go_ret
      exact ⟨rfl, (Below.refl _ _).alloc (Nat.le_refl _) _⟩
end Go.Proofs.Ytcjheabcnipnlaa
