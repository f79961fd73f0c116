/-
  The reference's Pay.
-/
import Derived.Test.YtcjheabcnipnlaaRefH
namespace Go.Proofs.Ytcjheabcnipnlaa
open Go.RowKit
set_option maxHeartbeats 4000000 in
theorem payRef_any (s : Sty) (A1 A2 : Option Addr) (c1 c2 : Nat) (n : Int) (w : World) (h1 : Rd w 3 A1 s.dems.length c1 (s.dems.flatMap Dm.cells)) (h2 : Rd w 2 A2 s.cuts.length c2 (s.cuts.flatMap Dw.cells)) (hok : s.ok) :
    Calls Try.prog 32 #[.agg #[.string s.b.num, .string s.b.gua, .string s.b.fro, .string s.b.to, .string s.b.cur, .int .i64 s.b.amt, .int .i64 s.b.exp, .int .i64 s.expiry, .slice A1 s.dems.length c1, .slice A2 s.cuts.length c2], .int .i64 n] w
      (RefPost w (fpo A1) (fpo A2) (pay s n).1 [.int .i64 (pay s n).2.1, .int .i64 (pay s n).2.2]) := by
  have hd2 := hok.d2
  by_cases g1 : openE s n = 0
  case neg =>
    have hx : pay s n = (s, 0, openE s n) := by simp [pay, g1]
    rw [hx]
    clear hx
    dsimp only
    have g1' : (openE s n != 0) = true := by simpa using g1
    clear g1
    go_enter Try.func32, Try.ntmps32
    go_wp2_with (go_at_call 48; refine (open_any s A1 A2 c1 c2 n _ ((h1.alloc _).alloc _) hok).mono ?_; rintro e w1 ⟨rfl, hb⟩; have B0 := ((Blk.new' _ _ _ w.heap.size rfl).alloc _).below hb (by simp; omega); have B1 := (Blk.new' _ _ _ (w.heap.size + 1) (by simp)).below hb (by simp); have C0 := B0.all; have F0 := B0.frees; have C1 := B1.all; have F1 := B1.frees)
    refine bodyPost_ret (v := .tuple #[.agg #[.string s.b.num, .string s.b.gua, .string s.b.fro, .string s.b.to, .string s.b.cur, .int .i64 s.b.amt, .int .i64 s.b.exp, .int .i64 s.expiry, .slice A1 s.dems.length c1, .slice A2 s.cuts.length c2], .int .i64 0, .int .i64 (openE s n)]) (by simp [results, Try.results32, go_sem, C1]) rfl (RefPost.same h1 h2 ?_)
    have hb' : Below w.heap.size w w1 := Below.go (by repeat (first | with_reducible exact Below.refl _ _ | (with_reducible refine Below.setCell ?_ (by first | omega | (simp <;> omega)) _) | (with_reducible refine Below.alloc ?_ (by first | omega | (simp <;> omega)) _) | (with_reducible refine Below.drew ?_) | (with_reducible refine belowN ?_ _))) hb
    repeat (first | with_reducible exact hb' | (with_reducible refine Below.setCell ?_ (by first | omega | (simp <;> omega)) _) | (with_reducible refine Below.alloc ?_ (by first | omega | (simp <;> omega)) _) | (with_reducible refine Below.drew ?_) | (with_reducible refine belowN ?_ _))
  have g1' : (openE s n != 0) = false := by simpa using g1
  obtain ⟨n0, nl, nst⟩ := openE_yes g1
  have hx : pay s n = (stand s n.toNat 1, (s.dems.getD n.toNat ⟨0, 0, 0⟩).amount, 0) := by simp [pay, g1]
  rw [hx]
  dsimp only
  have HG := Lib.hid g1
  clear hx g1 nst
  obtain ⟨k, rfl⟩ := Int.eq_ofNat_of_zero_le n0
  rw [Int.toNat_natCast] at nl ⊢
  have hgd : (s.dems.getD k ⟨0, 0, 0⟩) = s.dems[k] := by simp [nl]
  rw [hgd]
  clear hgd
  obtain ⟨b, o, rfl, hbl, f0, f1, f2⟩ := h1.dem k nl
  have nl' : (k : Int) < (s.dems.length : Int) := by omega
  go_enter Try.func32, Try.ntmps32
  go_wp2_with (first | (go_at_call 48; refine (open_any s (some ⟨b, o, none⟩) A2 c1 c2 k _ ((h1.alloc _).alloc _) hok).mono ?_; rintro e w1 ⟨rfl, hb⟩; have B0 := ((Blk.new' _ _ _ w.heap.size rfl).alloc _).below hb (by simp; omega); have B1 := (Blk.new' _ _ _ (w.heap.size + 1) (by simp)).below hb (by simp); have C0 := B0.all; have F0 := B0.frees; have hz := hb.size; simp at hz; have hb' : Below w.heap.size w w1 := Below.go (by repeat (first | with_reducible exact Below.refl _ _ | (with_reducible refine Below.setCell ?_ (by first | omega | (simp <;> omega)) _) | (with_reducible refine Below.alloc ?_ (by first | omega | (simp <;> omega)) _) | (with_reducible refine Below.drew ?_) | (with_reducible refine belowN ?_ _))) hb; clear hb))
  have f1' : w1.cell? ⟨b, o + k * 3 + 1, none⟩ = some (.int .i64 s.dems[k].amount) := (hb'.cell (p := ⟨b, o + k * 3 + 1, none⟩) hbl).trans f1
  have hz1 : w.heap.size < w1.heap.size := by omega
  have hz2 : w.heap.size + 1 < w1.heap.size := by omega
  have hz3 : b < w1.heap.size := by omega
  have hne : ¬ b = w.heap.size + 1 := by omega
  clear f0 f1 f2
  go_region_held3 (fun w' => (w'.cell? ⟨w.heap.size, 0, none⟩ = some (.string s.b.num) ∧ w'.cell? ⟨w.heap.size, 1, none⟩ = some (.string s.b.gua) ∧ w'.cell? ⟨w.heap.size, 2, none⟩ = some (.string s.b.fro) ∧ w'.cell? ⟨w.heap.size, 3, none⟩ = some (.string s.b.to) ∧ w'.cell? ⟨w.heap.size, 4, none⟩ = some (.string s.b.cur) ∧ w'.cell? ⟨w.heap.size, 5, none⟩ = some (.int .i64 s.b.amt) ∧ w'.cell? ⟨w.heap.size, 6, none⟩ = some (.int .i64 s.b.exp) ∧ w'.cell? ⟨w.heap.size, 7, none⟩ = some (.int .i64 s.expiry) ∧ w'.cell? ⟨w.heap.size, 8, none⟩ = some (.slice (some ⟨b, o, none⟩) s.dems.length c1) ∧ w'.cell? ⟨w.heap.size, 9, none⟩ = some (.slice A2 s.cuts.length c2)) ∧ w'.cell? ⟨b, o + k * 3 + 1, none⟩ = some (.int .i64 s.dems[k].amount))
    (first
      | (simp [C0, f1']; done)
      | (simp only [D0, f2']; simp; done)
      | (simp [go_sem, D0, f2', hne]; done))
    (first | (go_at_call 49; refine (stand_any s (some ⟨b, o, none⟩) A2 c1 c2 k 1 _ ((h1.below hb').drew) ((h2.below hb').drew) hok nl).mono ?_; rintro e w2 ⟨A3, c3, rfl, hr⟩; have b0 := B0.drew.below hr.below (by simp; omega); have D0 := b0.all; have f2' : w2.cell? ⟨b, o + k * 3 + 1, none⟩ = some (.int .i64 s.dems[k].amount) := (hr.below.cell (p := ⟨b, o + k * 3 + 1, none⟩) (by simp; omega)).trans f1'; have b1 := B1.drew.below hr.below (by simp; omega); have C1 := b1.all; have F1 := b1.frees))
  clear D0 f2' hne f1'
  go_wp2
  have hw2 : Below w.heap.size w w2 := Below.go hb'.drew hr.below
  have hr2 : w1.heap.size ≤ w2.heap.size := by have := hr.below.size; simpa using this
  refine bodyPost_ret (v := .tuple #[.agg #[.string (stand s k 1).b.num, .string (stand s k 1).b.gua, .string (stand s k 1).b.fro, .string (stand s k 1).b.to, .string (stand s k 1).b.cur, .int .i64 (stand s k 1).b.amt, .int .i64 (stand s k 1).b.exp, .int .i64 (stand s k 1).expiry, .slice A3 (stand s k 1).dems.length c3, .slice A2 (stand s k 1).cuts.length c2], .int .i64 s.dems[k].amount, .int .i64 0]) (by simp [results, Try.results32, go_sem, C1]) rfl ⟨A3, c3, A2, c2, rfl, ?_⟩
  have hn3 : ∀ b ∈ fpo A3, w1.heap.size ≤ b := fun b hb => by
    rcases hr.fp1 b hb with h | h
    · cases h
    · simpa using h
  refine ⟨?_, ?_, ?_, fun b hb => .inl hb, ?_⟩
  · iterate 10 with_reducible refine Rd.setCell ?_ (fun hb => by have := hn3 _ hb; simp at this; omega) _
    exact hr.r1
  · refine h2.below ?_
    repeat (first | with_reducible exact hw2 | (with_reducible refine Below.setCell ?_ (by first | omega | (simp <;> omega)) _) | (with_reducible refine Below.alloc ?_ (by first | omega | (simp <;> omega)) _) | (with_reducible refine Below.drew ?_) | (with_reducible refine belowN ?_ _))
  · intro b hb
    have := hn3 b hb
    exact .inr (by omega)
  · repeat (first | with_reducible exact hw2 | (with_reducible refine Below.setCell ?_ (by first | omega | (simp <;> omega)) _) | (with_reducible refine Below.alloc ?_ (by first | omega | (simp <;> omega)) _) | (with_reducible refine Below.drew ?_) | (with_reducible refine belowN ?_ _))
end Go.Proofs.Ytcjheabcnipnlaa
