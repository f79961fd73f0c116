/-
  awake: the document's example comes out.
-/
import Derived.Test.YtcjheabcnipnlaaSurB
import Derived.Test.YtcjheabcnipnlaaSurH
import Derived.Test.YtcjheabcnipnlaaSurI
import Derived.LaidEqlPtr
namespace Go.Proofs.Ytcjheabcnipnlaa
open Go.RowKit

/-- A surety that the call itself has made since w0. -/
def Mine (w0 w : World) (g : Nat) (s : Sty) : Prop := ∃ fp, Sur w g s fp ∧ (∀ b ∈ fp, w0.heap.size ≤ b) ∧ Below w0.heap.size w0 w
theorem Mine.below {w0 w w' : World} {g : Nat} {s : Sty} (h : Mine w0 w g s) (hb : Below w.heap.size w w') : Mine w0 w' g s := by
  obtain ⟨fp, h1, h2, h3⟩ := h
  exact ⟨fp, h1.below hb, h2, Below.go h3 hb⟩
theorem Mine.post {w0 w w' : World} {g : Nat} {s s' : Sty} {fp : List Nat} (hS : Sur w g s fp) (h2 : ∀ b ∈ fp, w0.heap.size ≤ b) (h3 : Below w0.heap.size w0 w) (hp : SurPost w g fp s' w') : Mine w0 w' g s' := by
  obtain ⟨fp', q1, q2, q3⟩ := hp
  refine ⟨fp', q1, fun b hb => ?_, Below.frm h3 q2 h2⟩
  rcases q3 b hb with h | h
  · exact h2 b h
  · have := h3.size; omega

theorem left_mine {w0 w : World} {g : Nat} {s : Sty} (h : Mine w0 w g s) (day : Int) : Calls Try.prog 14 #[.pointer (some ⟨g, 0, none⟩), .int .i64 day] w fun e w' => e = .returned (.int .i64 (left s day)) ∧ Mine w0 w' g s := by
  have h0 := h
  obtain ⟨fp, ⟨A1, c1, A2, c2, hS, rfl⟩, h2, h3⟩ := h
  exact (left_any g s A1 A2 c1 c2 day w hS).mono fun e w' ⟨he, hb⟩ => ⟨he, h0.below hb⟩
theorem expired_mine {w0 w : World} {g : Nat} {s : Sty} (h : Mine w0 w g s) (day : Int) : Calls Try.prog 18 #[.pointer (some ⟨g, 0, none⟩), .int .i64 day] w fun e w' => e = .returned (.bool (expired s day)) ∧ Mine w0 w' g s := by
  have h0 := h
  obtain ⟨fp, ⟨A1, c1, A2, c2, hS, rfl⟩, h2, h3⟩ := h
  exact (expired_any g s A1 A2 c1 c2 day w hS).mono fun e w' ⟨he, hb⟩ => ⟨he, h0.below hb⟩
theorem reduce_mine {w0 w : World} {g : Nat} {s : Sty} (h : Mine w0 w g s) (sum day : Int) (hl : s.cuts.length < 3900) : Calls Try.prog 24 #[.pointer (some ⟨g, 0, none⟩), .int .i64 sum, .int .i64 day] w fun e w' => e = .returned (.int .i64 (reduce s sum day).2) ∧ Mine w0 w' g (reduce s sum day).1 := by
  obtain ⟨fp, ⟨A1, c1, A2, c2, hS, rfl⟩, h2, h3⟩ := h
  exact (reduce_any g s A1 A2 c1 c2 sum day w hS hl).mono fun e w' ⟨he, hb⟩ => ⟨he, Mine.post hS.sur h2 h3 hb⟩
theorem demand_mine {w0 w : World} {g : Nat} {s : Sty} (h : Mine w0 w g s) (by_ : ByteArray) (sum day : Int) (hl : s.dems.length < 3900) : Calls Try.prog 17 #[.pointer (some ⟨g, 0, none⟩), .string by_, .int .i64 sum, .int .i64 day] w fun e w' => e = .returned (.tuple #[.int .i64 (ask s by_ sum day).2.1, .int .i64 (ask s by_ sum day).2.2]) ∧ Mine w0 w' g (ask s by_ sum day).1 := by
  obtain ⟨fp, ⟨A1, c1, A2, c2, hS, rfl⟩, h2, h3⟩ := h
  exact (demand_any g s A1 A2 c1 c2 by_ sum day w hS hl).mono fun e w' ⟨he, hb⟩ => ⟨he, Mine.post hS.sur h2 h3 hb⟩
theorem extend_mine {w0 w : World} {g : Nat} {s : Sty} (h : Mine w0 w g s) (n day : Int) : Calls Try.prog 20 #[.pointer (some ⟨g, 0, none⟩), .int .i64 n, .int .i64 day] w fun e w' => e = .returned (.int .i64 (extend s n day).2) ∧ Mine w0 w' g (extend s n day).1 := by
  obtain ⟨fp, ⟨A1, c1, A2, c2, hS, rfl⟩, h2, h3⟩ := h
  exact (extend_any g s A1 A2 c1 c2 n day w hS).mono fun e w' ⟨he, hb⟩ => ⟨he, Mine.post hS.sur h2 h3 hb⟩

def exB : Bd := ⟨⟨#[110]⟩, ⟨#[103]⟩, ⟨#[102]⟩, ⟨#[98]⟩, ⟨#[69, 85, 82]⟩, 100, 9⟩
def ex0 : Sty := start exB
def ex1 : Sty := { ex0 with cuts := [⟨5, 30⟩] }
def ex2 : Sty := { ex1 with dems := [⟨4, 80, 0⟩] }
def ex3 : Sty := { ex1 with expiry := 20, dems := [⟨4, 80, 2⟩] }
theorem ex_may : mayB exB = true := by decide +kernel
theorem ex_fits : exB.fits := by unfold Bd.fits maxLen; decide +kernel
theorem ex_red : reduce ex0 30 5 = (ex1, 0) := by kernel_rfl
theorem ex_l4 : left ex1 4 = 100 := by kernel_rfl
theorem ex_l5 : left ex1 5 = 70 := by kernel_rfl
theorem ex_ask : ask ex1 ⟨#[98]⟩ 80 4 = (ex2, 0, 0) := by kernel_rfl
theorem ex_l0 : left ex2 5 = 0 := by kernel_rfl
theorem ex_ext : extend ex2 0 20 = (ex3, 0) := by kernel_rfl
theorem ex_l7 : left ex3 5 = 70 := by kernel_rfl
theorem ex_exp : expired ex3 10 = false := by kernel_rfl

theorem bond_any (w : World) : Calls Try.prog 23 #[] w fun e w' => e = .returned (.agg #[.string exB.num, .string exB.gua, .string exB.fro, .string exB.to, .string exB.cur, .int .i64 exB.amt, .int .i64 exB.exp]) ∧ Below w.heap.size w w' := by
  go_enter Try.func23, Try.ntmps23
  go_wp2
  refine bodyPost_ret (v := .agg #[.string exB.num, .string exB.gua, .string exB.fro, .string exB.to, .string exB.cur, .int .i64 exB.amt, .int .i64 exB.exp]) (by simp [results, Try.results23, go_sem, exB]) rfl ⟨rfl, ?_⟩
  repeat (first | with_reducible exact Below.refl _ _ | (with_reducible refine Below.setCell ?_ (by first | omega | (simp <;> omega)) _) | (with_reducible refine Below.alloc ?_ (by first | omega | (simp <;> omega)) _) | (with_reducible refine Below.drew ?_) | (with_reducible refine belowN ?_ _))
end Go.Proofs.Ytcjheabcnipnlaa
