/-
  Texts of this proof, joined: RH, RI, RJ, RK, RL, RM, RN, RO, RP, RQ, RR, RS, SA, SB, SC, SD, SE, SF, SG, SGZ, SH, SI, TA, CPA, CPB.
-/
import Derived.Test.YtigdiekbiphhmaaGreatDoorB4
import Derived.Shelf.Sort.Plain
import Derived.Shelf.Slices.In.SortNone
import Derived.Sort.OwnSorted
import Derived.Test.YtigdiekbiphhmaaGreatDoorChecked
set_option linter.unusedVariables false
set_option linter.unusedSimpArgs false
noncomputable section
namespace Go.Proofs.YtigdiekbiphhmaaGreatDoor
open Go.RowKit
set_option maxHeartbeats 2000000
set_option maxRecDepth 100000
def dayB (n : Int) : Bool := decide (0 ≤ n) && decide (n ≤ 1048576)
def DayC : Ctr := spec (fun z : Int => [.i z]) (fun _ => []) (fun _ => True) (fun z => .bl (dayB z)) fun _ => []
theorem isDay_body (P : Program) : BodyOk P x109 DayC := by
 intro args H K hc; obtain ⟨z, rfl, rfl, hp, hK⟩ := hc; refine ⟨nb9, ?_⟩; dsimp only at hp hK ⊢
 cbv; repeat' ((first | refine .mk (fun h => ?_) fun h => ?_ | fail) <;> cbv)
 all_goals exact FinK.mk ⟨_, Gh.refl _, .inl (.v9 (K_bl hK (by (unfold dayB; simp; omega))))⟩
def k1 (a : Ak) : Bool := decide (a.index < a.least) || decide (3 ≤ a.index)
def k2 (a : Ak) : Bool := a.wrong || (a.dated && !dayB a.day)
def k3 (b : Br) (a : Ak) : Bool := !decide (b.st = 0) || some3 a.index b (pState a)
def k4 (b : Br) (a : Ak) : Bool := some3 a.index b (pHolder a)
def k5 (b : Br) (a : Ak) : Bool := a.dated && some3 a.index b (pDay b a)
def askE (b : Br) (a : Ak) : Int := if k1 a then 3 else if k2 a then 1 else if k3 b a then 9 else if k4 b a then 8 else if k5 b a then 6 else 0
def KActC (p : Ak → Bool) : Ctr := spec (fun _ : Ak => [.ptr 0 0]) (fun i => [.blk 186 (AkL i)]) (fun _ => True) (fun i => .bl (p i)) fun i => [.blk 186 (AkL i)]
def KEntC (args : List AV) (p : Br → Ak → Bool) : Ctr := spec (fun _ : Br × Ak => args) (fun i => AskH i.1 i.2) (fun i => chOk i.1) (fun i => .bl (p i.1 i.2)) fun i => AskH i.1 i.2
theorem ask1_body (P : Program) : BodyOk P x106 (KEntC [.ptr 1 0] fun _ _ => false) := by
 intro args H K hc; obtain ⟨⟨y, ⟨bill, index, least, by_, state, day, dated, wrong⟩⟩, rfl, rfl, hp, hK⟩ := hc; refine ⟨nb9, ?_⟩; dsimp only at hp hK ⊢
 obtain ⟨⟨nq1, cq1, sq1, frm1, to1, bq1, pq1, iq1, lq1⟩, st1, ⟨sa1, ha1, ca1⟩, ⟨sb1, hb1, cb1⟩, ⟨sc1, hc1, cc1⟩⟩ := y
 cbv
 (refine .r9 (Gh.refl _) ?_; cbv; exact .inl (.f9 hK))
theorem ask2_body (P : Program) : BodyOk P x107 (KActC k1) := by
 intro args H K hc; obtain ⟨⟨bill, index, least, by_, state, day, dated, wrong⟩, rfl, rfl, hp, hK⟩ := hc; refine ⟨nb9, ?_⟩; dsimp only at hp hK ⊢
 unfold k1 at hK
 dsimp only at hK
 cbv; repeat' ((first | refine .mk (fun h => ?_) fun h => ?_ | fail) <;> cbv)
 all_goals (refine .r9 (Gh.refl _) ?_; cbv; exact .inl (.f9 (K_bl hK (by simp; omega))))
theorem ask3_body (P : Program) (hd : FnOk P 109 DayC) : BodyOk P x108 (KActC k2) := by
 intro args H K hc; obtain ⟨⟨bill, index, least, by_, state, day, dated, wrong⟩, rfl, rfl, hp, hK⟩ := hc; refine ⟨nb9, ?_⟩; dsimp only at hp hK ⊢
 unfold k2 at hK
 dsimp only at hK
 obtain ⟨q, hq⟩ : ∃ x, x = (dayB day) := ⟨_, rfl⟩
 rw [← hq] at hK
 cases wrong with
 | true =>
  cbv
  (refine .r9 (Gh.refl _) ?_; cbv; exact .inl (.f9 hK))
 | false =>
  cases dated with
  | false =>
   cbv
   (refine .r9 (Gh.refl _) ?_; cbv; exact .inl (.f9 hK))
  | true =>
   cbv
   (refine c09 hd day trivial ?_; try dsimp only)
   rw [← hq]
   cases q with
   | true =>
    cbv
    (refine .r9 (Gh.refl _) ?_; cbv; exact .inl (.f9 hK))
   | false =>
    cbv
    (refine .r9 (Gh.refl _) ?_; cbv; exact .inl (.f9 hK))
theorem ask4_body (P : Program) (hs : FnOk P 111 (SomeA 112 pState)) : BodyOk P x110 (KEntC [.ptr 1 0, .ptr 0 0] k3) := by
 intro args H K hc; obtain ⟨⟨y, ⟨bill, index, least, by_, state, day, dated, wrong⟩⟩, rfl, rfl, hp, hK⟩ := hc; refine ⟨nb9, ?_⟩; dsimp only at hp hK ⊢
 obtain ⟨q, hq⟩ : ∃ x, x = (some3 index y (pState ⟨bill, index, least, by_, state, day, dated, wrong⟩)) := ⟨_, rfl⟩
 unfold k3 at hK
 dsimp only at hK
 rw [← hq] at hK
 obtain ⟨⟨nq1, cq1, sq1, frm1, to1, bq1, pq1, iq1, lq1⟩, st1, ⟨sa1, ha1, ca1⟩, ⟨sb1, hb1, cb1⟩, ⟨sc1, hc1, cc1⟩⟩ := y
 dsimp only at hK
 by_cases h0 : st1 = 0
 ·cbv; repeat' ((first | refine .y fun h => ?_ | fail) <;> cbv)
  (refine cs9 hs (⟨⟨nq1, cq1, sq1, frm1, to1, bq1, pq1, iq1, lq1⟩, st1, ⟨sa1, ha1, ca1⟩, ⟨sb1, hb1, cb1⟩, ⟨sc1, hc1, cc1⟩⟩, index, ⟨bill, index, least, by_, state, day, dated, wrong⟩) [2, 3, 4, 5, 0] hp ?_; try dsimp only)
  rw [← hq]
  cbv
  (refine .r9 (Gh.refl _) ?_; cbv; exact .inl (.f9 (K_bl hK (by simp [h0]))))
 ·cbv; repeat' ((first | refine .n fun h => ?_ | fail) <;> cbv)
  (refine .r9 (Gh.refl _) ?_; cbv; exact .inl (.f9 (K_bl hK (by simp [h0]))))
theorem ask5_body (P : Program) (hs : FnOk P 111 (SomeA 114 pHolder)) : BodyOk P x113 (KEntC [.ptr 1 0, .ptr 0 0] k4) := by
 intro args H K hc; obtain ⟨⟨y, ⟨bill, index, least, by_, state, day, dated, wrong⟩⟩, rfl, rfl, hp, hK⟩ := hc; refine ⟨nb9, ?_⟩; dsimp only at hp hK ⊢
 obtain ⟨q, hq⟩ : ∃ x, x = (some3 index y (pHolder ⟨bill, index, least, by_, state, day, dated, wrong⟩)) := ⟨_, rfl⟩
 unfold k4 at hK
 dsimp only at hK
 rw [← hq] at hK
 obtain ⟨⟨nq1, cq1, sq1, frm1, to1, bq1, pq1, iq1, lq1⟩, st1, ⟨sa1, ha1, ca1⟩, ⟨sb1, hb1, cb1⟩, ⟨sc1, hc1, cc1⟩⟩ := y
 cbv
 (refine cs9 hs (⟨⟨nq1, cq1, sq1, frm1, to1, bq1, pq1, iq1, lq1⟩, st1, ⟨sa1, ha1, ca1⟩, ⟨sb1, hb1, cb1⟩, ⟨sc1, hc1, cc1⟩⟩, index, ⟨bill, index, least, by_, state, day, dated, wrong⟩) [2, 3, 4, 5, 0] hp ?_; try dsimp only)
 rw [← hq]
 cbv
 (refine .r9 (Gh.refl _) ?_; cbv; exact .inl (.f9 hK))
theorem ask6_body (P : Program) (hs : FnOk P 111 (SomeE 116)) : BodyOk P x115 (KEntC [.ptr 0 0, .ptr 1 0] k5) := by
 intro args H K hc; obtain ⟨⟨y, ⟨bill, index, least, by_, state, day, dated, wrong⟩⟩, rfl, rfl, hp, hK⟩ := hc; refine ⟨nb9, ?_⟩; dsimp only at hp hK ⊢
 obtain ⟨q, hq⟩ : ∃ x, x = (some3 index y (pDay y ⟨bill, index, least, by_, state, day, dated, wrong⟩)) := ⟨_, rfl⟩
 unfold k5 at hK
 dsimp only at hK
 rw [← hq] at hK
 obtain ⟨⟨nq1, cq1, sq1, frm1, to1, bq1, pq1, iq1, lq1⟩, st1, ⟨sa1, ha1, ca1⟩, ⟨sb1, hb1, cb1⟩, ⟨sc1, hc1, cc1⟩⟩ := y
 cases dated with
 | false =>
  cbv
  (refine .r9 (Gh.refl _) ?_; cbv; exact .inl (.f9 hK))
 | true =>
  cbv
  (refine cs9 hs (⟨⟨nq1, cq1, sq1, frm1, to1, bq1, pq1, iq1, lq1⟩, st1, ⟨sa1, ha1, ca1⟩, ⟨sb1, hb1, cb1⟩, ⟨sc1, hc1, cc1⟩⟩, index, ⟨bill, index, least, by_, state, day, true, wrong⟩) [2, 3, 4, 5, 0, 1] hp ?_; try dsimp only)
  rw [← hq]
  cbv
  (refine .r9 (Gh.refl _) ?_; cbv; exact .inl (.f9 hK))
def ChkL : List AV := [.i 4, .clo 106 [.ptr 2 0], .i 3, .clo 107 [.ptr 1 0], .i 1, .clo 108 [.ptr 1 0], .i 9, .clo 110 [.ptr 2 0, .ptr 1 0], .i 8, .clo 113 [.ptr 2 0, .ptr 1 0], .i 6, .clo 115 [.ptr 1 0, .ptr 2 0]]
def FirH (b : Br) (a : Ak) : List Ent := .hrow 210 2 6 ChkL :: renH [] 1 (AskH b a)
def FirC : Ctr := spec (fun _ : Br × Ak => [.hd 0]) (fun i => FirH i.1 i.2) (fun i => chOk i.1) (fun i => .i (askE i.1 i.2)) fun i => FirH i.1 i.2
def FirN : Ctr := spec (fun _ : Ak => [.hd 0]) (fun i => [.hrow 210 2 6 ChkL, .blk 186 (AkL i), .blk 119 [.v (.pointer none)]]) (fun _ => True) (fun _ => .i 4) fun i => [.hrow 210 2 6 ChkL, .blk 186 (AkL i), .blk 119 [.v (.pointer none)]]
structure AskF (P : Program) : Prop where
 m1 : MayCall P 106
 m2 : MayCall P 107
 m3 : MayCall P 108
 m4 : MayCall P 110
 m5 : MayCall P 113
 m6 : MayCall P 115
 f1 : FnOk P 106 (KEntC [.ptr 1 0] fun _ _ => false)
 f2 : FnOk P 107 (KActC k1)
 f3 : FnOk P 108 (KActC k2)
 f4 : FnOk P 110 (KEntC [.ptr 1 0, .ptr 0 0] k3)
 f5 : FnOk P 113 (KEntC [.ptr 1 0, .ptr 0 0] k4)
 f6 : FnOk P 115 (KEntC [.ptr 0 0, .ptr 1 0] k5)
theorem first_body (P : Program) (F : AskF P) : BodyOk P x105 FirC := by
 intro args H K hc; obtain ⟨⟨y, ⟨bill, index, least, by_, state, day, dated, wrong⟩⟩, rfl, rfl, hp, hK⟩ := hc; refine ⟨nb9, ?_⟩; dsimp only at hp hK ⊢
 have he : askE y ⟨bill, index, least, by_, state, day, dated, wrong⟩ = if k1 ⟨bill, index, least, by_, state, day, dated, wrong⟩ then 3 else if k2 ⟨bill, index, least, by_, state, day, dated, wrong⟩ then 1 else if k3 y ⟨bill, index, least, by_, state, day, dated, wrong⟩ then 9 else if k4 y ⟨bill, index, least, by_, state, day, dated, wrong⟩ then 8 else if k5 y ⟨bill, index, least, by_, state, day, dated, wrong⟩ then 6 else 0 := rfl
 obtain ⟨e, hee⟩ : ∃ e, e = askE y ⟨bill, index, least, by_, state, day, dated, wrong⟩ := ⟨_, rfl⟩
 rw [← hee] at hK he
 obtain ⟨q1, hq1⟩ : ∃ q, q = k1 ⟨bill, index, least, by_, state, day, dated, wrong⟩ := ⟨_, rfl⟩
 obtain ⟨q2, hq2⟩ : ∃ q, q = k2 ⟨bill, index, least, by_, state, day, dated, wrong⟩ := ⟨_, rfl⟩
 obtain ⟨q3, hq3⟩ : ∃ q, q = k3 y ⟨bill, index, least, by_, state, day, dated, wrong⟩ := ⟨_, rfl⟩
 obtain ⟨q4, hq4⟩ : ∃ q, q = k4 y ⟨bill, index, least, by_, state, day, dated, wrong⟩ := ⟨_, rfl⟩
 obtain ⟨q5, hq5⟩ : ∃ q, q = k5 y ⟨bill, index, least, by_, state, day, dated, wrong⟩ := ⟨_, rfl⟩
 rw [← hq1, ← hq2, ← hq3, ← hq4, ← hq5] at he
 obtain ⟨⟨nq1, cq1, sq1, frm1, to1, bq1, pq1, iq1, lq1⟩, st1, ⟨sa1, ha1, ca1⟩, ⟨sb1, hb1, cb1⟩, ⟨sc1, hc1, cc1⟩⟩ := y
 cbv
 refine xloopV [] (fun p : { k : Nat // k ≤ 6 ∧ (2 ≤ k → q1 = false) ∧ (3 ≤ k → q2 = false) ∧ (4 ≤ k → q3 = false) ∧ (5 ≤ k → q4 = false) ∧ (6 ≤ k → q5 = false) } => [(7, .i (nI p.1))]) (fun _ => FirH ⟨⟨nq1, cq1, sq1, frm1, to1, bq1, pq1, iq1, lq1⟩, st1, ⟨sa1, ha1, ca1⟩, ⟨sb1, hb1, cb1⟩, ⟨sc1, hc1, cc1⟩⟩ ⟨bill, index, least, by_, state, day, dated, wrong⟩) (fun p => lft 6 p.1) ⟨0, by decide, fun h => absurd h (by decide), fun h => absurd h (by decide), fun h => absurd h (by decide), fun h => absurd h (by decide), fun h => absurd h (by decide)⟩ ?_
 rintro ⟨k, hk, g1, g2, g3, g4, g5⟩
 dsimp only at hk g1 g2 g3 g4 g5 ⊢
 have hk4 : k = 0 ∨ k = 1 ∨ k = 2 ∨ k = 3 ∨ k = 4 ∨ k = 5 ∨ k = 6 := by omega
 rcases hk4 with rfl | rfl | rfl | rfl | rfl | rfl | rfl
 ·cbv; repeat' ((first | refine .y fun h => ?_ | refine .o ?_ | refine And.intro ?_ ?_ | fail) <;> cbv)
  ·exact F.m1
  ·(refine cs9 F.f1 (⟨⟨nq1, cq1, sq1, frm1, to1, bq1, pq1, iq1, lq1⟩, st1, ⟨sa1, ha1, ca1⟩, ⟨sb1, hb1, cb1⟩, ⟨sc1, hc1, cc1⟩⟩, ⟨bill, index, least, by_, state, day, dated, wrong⟩) [1, 2, 3, 4, 5, 6] hp ?_; try dsimp only)
   cbv; repeat' ((first | refine .k fun z hz => ?_ | fail) <;> cbv)
   obtain rfl : z = nI 1 := om9
   exact roundV ⟨1, by decide, fun h => absurd h (by decide), fun h => absurd h (by decide), fun h => absurd h (by decide), fun h => absurd h (by decide), fun h => absurd h (by decide)⟩ (lft_lt (by decide))
 ·cbv; repeat' ((first | refine .y fun h => ?_ | refine .o ?_ | refine And.intro ?_ ?_ | fail) <;> cbv)
  ·exact F.m2
  (refine cs9 F.f2 ⟨bill, index, least, by_, state, day, dated, wrong⟩ [1] trivial ?_; try dsimp only)
  rw [← hq1]
  cases q1 with
  | true =>
   cbv
   (refine .r9 (Gh.refl _) ?_; cbv; exact .inl (.f9 (K_i hK (by rw [he]; rfl))))
  | false =>
   cbv; repeat' ((first | refine .k fun z hz => ?_ | fail) <;> cbv)
   obtain rfl : z = nI 2 := om9
   exact roundV ⟨2, by decide, fun _ => rfl, fun h => absurd h (by decide), fun h => absurd h (by decide), fun h => absurd h (by decide), fun h => absurd h (by decide)⟩ (lft_lt (by decide))
 ·cbv; repeat' ((first | refine .y fun h => ?_ | refine .o ?_ | refine And.intro ?_ ?_ | fail) <;> cbv)
  ·exact F.m3
  have e1 := g1 (by decide)
  (refine cs9 F.f3 ⟨bill, index, least, by_, state, day, dated, wrong⟩ [1] trivial ?_; try dsimp only)
  rw [← hq2]
  cases q2 with
  | true =>
   cbv
   (refine .r9 (Gh.refl _) ?_; cbv; exact .inl (.f9 (K_i hK (by rw [he, e1]; rfl))))
  | false =>
   cbv; repeat' ((first | refine .k fun z hz => ?_ | fail) <;> cbv)
   obtain rfl : z = nI 3 := om9
   exact roundV ⟨3, by decide, fun _ => g1 (by decide), fun _ => rfl, fun h => absurd h (by decide), fun h => absurd h (by decide), fun h => absurd h (by decide)⟩ (lft_lt (by decide))
 ·cbv; repeat' ((first | refine .y fun h => ?_ | refine .o ?_ | refine And.intro ?_ ?_ | fail) <;> cbv)
  ·exact F.m4
  have e1 := g1 (by decide)
  have e2 := g2 (by decide)
  (refine cs9 F.f4 (⟨⟨nq1, cq1, sq1, frm1, to1, bq1, pq1, iq1, lq1⟩, st1, ⟨sa1, ha1, ca1⟩, ⟨sb1, hb1, cb1⟩, ⟨sc1, hc1, cc1⟩⟩, ⟨bill, index, least, by_, state, day, dated, wrong⟩) [1, 2, 3, 4, 5, 6] hp ?_; try dsimp only)
  rw [← hq3]
  cases q3 with
  | true =>
   cbv
   (refine .r9 (Gh.refl _) ?_; cbv; exact .inl (.f9 (K_i hK (by rw [he, e1, e2]; rfl))))
  | false =>
   cbv; repeat' ((first | refine .k fun z hz => ?_ | fail) <;> cbv)
   obtain rfl : z = nI 4 := om9
   exact roundV ⟨4, by decide, fun _ => g1 (by decide), fun _ => g2 (by decide), fun _ => rfl, fun h => absurd h (by decide), fun h => absurd h (by decide)⟩ (lft_lt (by decide))
 ·cbv; repeat' ((first | refine .y fun h => ?_ | refine .o ?_ | refine And.intro ?_ ?_ | fail) <;> cbv)
  ·exact F.m5
  have e1 := g1 (by decide)
  have e2 := g2 (by decide)
  have e3 := g3 (by decide)
  (refine cs9 F.f5 (⟨⟨nq1, cq1, sq1, frm1, to1, bq1, pq1, iq1, lq1⟩, st1, ⟨sa1, ha1, ca1⟩, ⟨sb1, hb1, cb1⟩, ⟨sc1, hc1, cc1⟩⟩, ⟨bill, index, least, by_, state, day, dated, wrong⟩) [1, 2, 3, 4, 5, 6] hp ?_; try dsimp only)
  rw [← hq4]
  cases q4 with
  | true =>
   cbv
   (refine .r9 (Gh.refl _) ?_; cbv; exact .inl (.f9 (K_i hK (by rw [he, e1, e2, e3]; rfl))))
  | false =>
   cbv; repeat' ((first | refine .k fun z hz => ?_ | fail) <;> cbv)
   obtain rfl : z = nI 5 := om9
   exact roundV ⟨5, by decide, fun _ => g1 (by decide), fun _ => g2 (by decide), fun _ => g3 (by decide), fun _ => rfl, fun h => absurd h (by decide)⟩ (lft_lt (by decide))
 ·cbv; repeat' ((first | refine .y fun h => ?_ | refine .o ?_ | refine And.intro ?_ ?_ | fail) <;> cbv)
  ·exact F.m6
  have e1 := g1 (by decide)
  have e2 := g2 (by decide)
  have e3 := g3 (by decide)
  have e4 := g4 (by decide)
  (refine cs9 F.f6 (⟨⟨nq1, cq1, sq1, frm1, to1, bq1, pq1, iq1, lq1⟩, st1, ⟨sa1, ha1, ca1⟩, ⟨sb1, hb1, cb1⟩, ⟨sc1, hc1, cc1⟩⟩, ⟨bill, index, least, by_, state, day, dated, wrong⟩) [1, 2, 3, 4, 5, 6] hp ?_; try dsimp only)
  rw [← hq5]
  cases q5 with
  | true =>
   cbv
   (refine .r9 (Gh.refl _) ?_; cbv; exact .inl (.f9 (K_i hK (by rw [he, e1, e2, e3, e4]; rfl))))
  | false =>
   cbv; repeat' ((first | refine .k fun z hz => ?_ | fail) <;> cbv)
   obtain rfl : z = nI 6 := om9
   exact roundV ⟨6, by decide, fun _ => g1 (by decide), fun _ => g2 (by decide), fun _ => g3 (by decide), fun _ => g4 (by decide), fun _ => rfl⟩ (lft_lt (by decide))
 ·have e1 := g1 (by decide)
  have e2 := g2 (by decide)
  have e3 := g3 (by decide)
  have e4 := g4 (by decide)
  have e5 := g5 (by decide)
  cbv; repeat' ((first | refine .n fun h => ?_ | fail) <;> cbv)
  (refine .r9 (Gh.refl _) ?_; cbv; exact .inl (.f9 (K_i hK (by rw [he, e1, e2, e3, e4, e5]; rfl))))
theorem firstN_body (P : Program) (hm : MayCall P 106) (hf : FnOk P 106 (spec (fun _ : Unit => [.ptr 0 0]) (fun _ => [.blk 119 [.v (.pointer none)]]) (fun _ => True) (fun _ => .bl true) fun _ => [.blk 119 [.v (.pointer none)]])) : BodyOk P x105 FirN := by
 intro args H K hc; obtain ⟨⟨bill, index, least, by_, state, day, dated, wrong⟩, rfl, rfl, hp, hK⟩ := hc; refine ⟨nb9, ?_⟩; dsimp only at hp hK ⊢
 cbv
 refine xloopV [] (fun p : Unit => [(7, .i 0)]) (fun _ => [.hrow 210 2 6 ChkL, .blk 186 (AkL ⟨bill, index, least, by_, state, day, dated, wrong⟩), .blk 119 [.v (.pointer none)]]) (fun p => lft 6 0) () ?_
 rintro ⟨⟩
 cbv; repeat' ((first | refine .y fun h => ?_ | refine .o ?_ | refine And.intro ?_ ?_ | fail) <;> cbv)
 ·exact hm
 ·(refine cs9 hf () [2] trivial ?_; try dsimp only)
  cbv
  (refine .r9 (Gh.refl _) ?_; cbv; exact .inl (.f9 hK))
theorem ask1n_body (P : Program) : BodyOk P x106 (spec (fun _ : Unit => [.ptr 0 0]) (fun _ => [.blk 119 [.v (.pointer none)]]) (fun _ => True) (fun _ => .bl true) fun _ => [.blk 119 [.v (.pointer none)]]) := by
 intro args H K hc; obtain ⟨⟨⟩, rfl, rfl, hp, hK⟩ := hc; refine ⟨nb9, ?_⟩; dsimp only at hp hK ⊢
 cbv
 (refine .r9 (Gh.refl _) ?_; cbv; exact .inl (.f9 hK))
def askM (L : List Br) (a : Ak) : Int := match bAt L a.bill with
 | some i => match L[i]? with
  | some b => askE b a
  | none => 4
 | none => 4
def AskC : Ctr := spec (fun i : Rg × Ak => [.ptr 0 0, .agg (AkL i.2)]) (fun i => RegH i.1) (fun i => ∀ b ∈ i.1.bills, chOk b) (fun i => .i (askM i.1.bills i.2)) fun i => RegH i.1
theorem ask_body (P : Program) (hf : FnOk P 105 FirC) (hn : FnOk P 105 FirN) : BodyOk P x78 AskC := by
 intro args H K hc; obtain ⟨⟨⟨carrier, L⟩, ⟨bill, index, least, by_, state, day, dated, wrong⟩⟩, rfl, rfl, hp, hK⟩ := hc; refine ⟨nb9, ?_⟩; dsimp only at hp hK ⊢
 obtain ⟨e, he⟩ : ∃ e, e = askM L ⟨bill, index, least, by_, state, day, dated, wrong⟩ := ⟨_, rfl⟩
 rw [← he] at hK
 cbv; repeat' ((first | refine And.intro ?_ ?_ | fail) <;> cbv)
 all_goals
  refine poolK_in (fun b : Br => b.b.number) (fun _ => rfl) (fun i y hai hy hky => ?_) (fun hai => ?_) <;> dsimp only at *
  ·have hch := hp y (List.mem_of_getElem? hy)
   have hee : e = askE y ⟨bill, index, least, by_, state, day, dated, wrong⟩ := by rw [he]; unfold askM bAt; dsimp only; rw [hai]; dsimp only; rw [hy]
   obtain ⟨q, hq⟩ : ∃ q, q = askE y ⟨bill, index, least, by_, state, day, dated, wrong⟩ := ⟨_, rfl⟩
   rw [← hq] at hee
   obtain ⟨⟨nq1, cq1, sq1, frm1, to1, bq1, pq1, iq1, lq1⟩, st1, ⟨sa1, ha1, ca1⟩, ⟨sb1, hb1, cb1⟩, ⟨sc1, hc1, cc1⟩⟩ := y
   cbv
   (refine cs9 hf (⟨⟨nq1, cq1, sq1, frm1, to1, bq1, pq1, iq1, lq1⟩, st1, ⟨sa1, ha1, ca1⟩, ⟨sb1, hb1, cb1⟩, ⟨sc1, hc1, cc1⟩⟩, ⟨bill, index, least, by_, state, day, dated, wrong⟩) [8, 2, 3, 4, 5, 6, 7] hch ?_; try dsimp only)
   rw [← hq]
   cbv
   (refine .r9 (Gh.back0 1 [4, 5, 6, 7] PelA rfl hy) ?_; cbv; exact .inl (.f9 (K_i hK hee.symm)))
  ·have hee : e = 4 := by rw [he]; unfold askM bAt; dsimp only; rw [hai]
   cbv
   (refine cs9 hn ⟨bill, index, least, by_, state, day, dated, wrong⟩ [4, 2, 3] trivial ?_; try dsimp only)
   cbv
   (refine .r9 (Gh.refl _) ?_; cbv; exact .inl (.f9 (K_i hK hee.symm)))
def kindB (l : List Edm) (k : Int) : Bool := match l.getLast? with
 | some e => decide (e.kind = k)
 | none => false
def lateB (l : List Edm) (d : Int) : Bool := match l.getLast? with
 | some e => decide (d < e.day)
 | none => false
theorem last_nil {l : List Edm} (h : l.length = 0) : l.getLast? = none := by rw [List.eq_nil_of_length_eq_zero h]; rfl
theorem last_at {l : List Edm} {i : Nat} {e : Edm} (h : i + 1 = l.length) (hl : l[i]? = some e) : l.getLast? = some e := by
 rw [List.getLast?_eq_getElem?, show l.length - 1 = i by omega]
 exact hl
def KindC (k : Int) : Ctr := spec (fun l : List Edm => [.sl 4 (mapA EdA l)]) (fun _ => []) (fun l => l.length ≤ 5000) (fun l => .bl (kindB l k)) fun _ => []
theorem blank_body (P : Program) : BodyOk P x214 (KindC 1) := by
 intro args H K hc; obtain ⟨c, rfl, rfl, hp, hK⟩ := hc; refine ⟨nb9, ?_⟩; dsimp only at hp hK ⊢
 have hd : kindB c 1 = match c.getLast? with
  | some e => decide (e.kind = 1)
  | none => false := rfl
 obtain ⟨q, hq⟩ : ∃ x, x = (kindB c 1) := ⟨_, rfl⟩
 rw [← hq] at hK hd
 cbv; repeat' ((first | refine .mk (fun h => ?_) fun h => ?_ | refine .k fun z hz => ?_ | fail) <;> cbv)
 ·refine askEl_int om9 om9 fun i l hi hl => ?_
  obtain ⟨f, t, k, d⟩ := l
  rw [last_at om9 hl] at hd
  cbv; repeat' ((first | refine .mk (fun h => ?_) fun h => ?_ | fail) <;> cbv)
  exact FinK.mk ⟨_, Gh.refl _, .inl (.v9 (K_bl hK (by (rw [hd]; simp [*]))))⟩
  exact FinK.mk ⟨_, Gh.refl _, .inl (.v9 (K_bl hK (by (rw [hd]; simp [*]))))⟩
 ·rw [last_nil om9] at hd
  exact FinK.mk ⟨_, Gh.refl _, .inl (.v9 (K_bl hK (by (rw [hd]))))⟩
theorem closed_body (P : Program) : BodyOk P x213 (KindC 2) := by
 intro args H K hc; obtain ⟨c, rfl, rfl, hp, hK⟩ := hc; refine ⟨nb9, ?_⟩; dsimp only at hp hK ⊢
 have hd : kindB c 2 = match c.getLast? with
  | some e => decide (e.kind = 2)
  | none => false := rfl
 obtain ⟨q, hq⟩ : ∃ x, x = (kindB c 2) := ⟨_, rfl⟩
 rw [← hq] at hK hd
 cbv; repeat' ((first | refine .mk (fun h => ?_) fun h => ?_ | refine .k fun z hz => ?_ | fail) <;> cbv)
 ·refine askEl_int om9 om9 fun i l hi hl => ?_
  obtain ⟨f, t, k, d⟩ := l
  rw [last_at om9 hl] at hd
  cbv; repeat' ((first | refine .mk (fun h => ?_) fun h => ?_ | fail) <;> cbv)
  exact FinK.mk ⟨_, Gh.refl _, .inl (.v9 (K_bl hK (by (rw [hd]; simp [*]))))⟩
  exact FinK.mk ⟨_, Gh.refl _, .inl (.v9 (K_bl hK (by (rw [hd]; simp [*]))))⟩
 ·rw [last_nil om9] at hd
  exact FinK.mk ⟨_, Gh.refl _, .inl (.v9 (K_bl hK (by (rw [hd]))))⟩
def edMay : Edm → Bool
 | ⟨f, t, k, d⟩ => nameB f && (decide (0 ≤ d) && decide (d ≤ 1048576)) && (if k = 1 then decide (t = ⟨⟨[]⟩⟩) else if k = 0 ∨ k = 2 then nameB t && !decide (t = f) else false)
def EdMayC : Ctr := spec (fun e : Edm => [EdA e]) (fun _ => []) (fun _ => True) (fun e => .bl (edMay e)) fun _ => []
theorem edmay_body (P : Program) (hn : FnOk P 144 (StrC (fun _ => True) nameB)) : BodyOk P x212 EdMayC := by
 intro args H K hc; obtain ⟨⟨f, t, k, d⟩, rfl, rfl, hp, hK⟩ := hc; refine ⟨nb9, ?_⟩; dsimp only at hp hK ⊢
 have hd : edMay ⟨f, t, k, d⟩ = (nameB f && (decide (0 ≤ d) && decide (d ≤ 1048576)) && (if k = 1 then decide (t = ⟨⟨[]⟩⟩) else if k = 0 ∨ k = 2 then nameB t && !decide (t = f) else false)) := rfl
 obtain ⟨q, hq⟩ : ∃ x, x = (edMay ⟨f, t, k, d⟩) := ⟨_, rfl⟩
 obtain ⟨n, hn1⟩ : ∃ x, x = nameB f := ⟨_, rfl⟩
 obtain ⟨m, hm⟩ : ∃ x, x = (nameB t) := ⟨_, rfl⟩
 rw [← hq] at hK hd
 rw [← hn1, ← hm] at hd
 cbv
 (refine c09 hn f trivial ?_; try dsimp only)
 rw [← hn1]
 cases n with
 | false =>
  cbv
  exact FinK.mk ⟨_, Gh.refl _, .inl (.v9 (K_bl hK (by (rw [hd]; rfl))))⟩
 | true =>
  cbv; repeat' ((first | refine .mk (fun h => ?_) fun h => ?_ | fail) <;> cbv)
  ·exact FinK.mk ⟨_, Gh.refl _, .inl (.v9 (K_bl hK (by (rw [hd]; simp; omega))))⟩
  ·exact FinK.mk ⟨_, Gh.refl _, .inl (.v9 (K_bl hK (by (rw [hd]; simp; omega))))⟩
  ·exact FinK.mk ⟨_, Gh.refl _, .inl (.v9 (K_bl hK (by (rw [hd]; simp [*]))))⟩
  ·exact FinK.mk ⟨_, Gh.refl _, .inl (.v9 (K_bl hK (by (rw [hd]; simp [*]))))⟩
  all_goals first | exact FinK.mk ⟨_, Gh.refl _, .inl (.v9 (K_bl hK (by (rw [hd]; simp [*]))))⟩ | skip
  all_goals
   (refine c09 hn t trivial ?_; try dsimp only)
   rw [← hm]
   cases m with
   | false =>
    cbv
    exact FinK.mk ⟨_, Gh.refl _, .inl (.v9 (K_bl hK (by (rw [hd]; clear hn1 hm hq; simp [*]))))⟩
   | true =>
    cbv; repeat' ((first | refine .mk (fun h => ?_) fun h => ?_ | fail) <;> cbv)
    ·exact FinK.mk ⟨_, Gh.refl _, .inl (.v9 (K_bl hK (by (rw [hd]; clear hn1 hm hq; simp [*]))))⟩
    ·exact FinK.mk ⟨_, Gh.refl _, .inl (.v9 (K_bl hK (by (rw [hd]; clear hn1 hm hq; simp [*]))))⟩
def wrongM (holder : ByteArray) (c : List Edm) (e : Edm) : Int := if edMay e = false then 2 else if kindB c 2 then 9 else if kindB c 1 = false ∧ ¬ e.frm = holder then 8 else if lateB c e.day then 6 else 0
def WrongC : Ctr := spec (fun i : ByteArray × List Edm × Edm => [.str i.1, .sl 4 (mapA EdA i.2.1), EdA i.2.2]) (fun _ => []) (fun i => i.2.1.length ≤ 5000) (fun i => .i (wrongM i.1 i.2.1 i.2.2)) fun _ => []
theorem wrong_body (P : Program) (hm : FnOk P 212 EdMayC) (hb : FnOk P 214 (KindC 1)) (hc : FnOk P 213 (KindC 2)) : BodyOk P x205 WrongC := by
 intro args H K hc; obtain ⟨⟨holder, c, ⟨f, t, k, d⟩⟩, rfl, rfl, hp, hK⟩ := hc; refine ⟨nb9, ?_⟩; dsimp only at hp hK ⊢
 have hd : wrongM holder c ⟨f, t, k, d⟩ = if edMay ⟨f, t, k, d⟩ = false then 2 else if kindB c 2 then 9 else if kindB c 1 = false ∧ ¬ f = holder then 8 else if lateB c d then 6 else 0 := rfl
 have hl : lateB c d = match c.getLast? with
  | some e => decide (d < e.day)
  | none => false := rfl
 obtain ⟨q, hq⟩ : ∃ q, q = wrongM holder c ⟨f, t, k, d⟩ := ⟨_, rfl⟩
 obtain ⟨q1, hq1⟩ : ∃ q, q = edMay ⟨f, t, k, d⟩ := ⟨_, rfl⟩
 obtain ⟨q2, hq2⟩ : ∃ q, q = kindB c 2 := ⟨_, rfl⟩
 obtain ⟨q3, hq3⟩ : ∃ q, q = kindB c 1 := ⟨_, rfl⟩
 obtain ⟨q4, hq4⟩ : ∃ q, q = lateB c d := ⟨_, rfl⟩
 rw [← hq] at hK hd
 rw [← hq1, ← hq2, ← hq3, ← hq4] at hd
 rw [← hq4] at hl
 cbv
 (refine c09 hm (⟨f, t, k, d⟩ : Edm) trivial ?_; try dsimp only)
 rw [← hq1]
 cases q1 with
 | false =>
  cbv
  exact FinK.mk ⟨_, Gh.refl _, .inl (.v9 (K_i hK (by (rw [hd]; rfl))))⟩
 | true =>
  cbv
  (refine c09 hc c hp ?_; try dsimp only)
  rw [← hq2]
  cases q2 with
  | true =>
   cbv
   exact FinK.mk ⟨_, Gh.refl _, .inl (.v9 (K_i hK (by (rw [hd]; rfl))))⟩
  | false =>
   cbv
   (refine c09 hb c hp ?_; try dsimp only)
   rw [← hq3]
   cases q3 with
   | true =>
    cbv; repeat' ((first | refine .mk (fun h => ?_) fun h => ?_ | refine .k fun z hz => ?_ | fail) <;> cbv)
    ·refine askEl_int om9 om9 fun i l hi hli => ?_
     obtain ⟨f', t', k', d'⟩ := l
     rw [last_at om9 hli] at hl
     dsimp only at hl
     cbv; repeat' ((first | refine .mk (fun h => ?_) fun h => ?_ | fail) <;> cbv)
     ·rw [decide_eq_true h] at hl
      exact FinK.mk ⟨_, Gh.refl _, .inl (.v9 (K_i hK (by (rw [hd, hl]; clear hd hq hq1 hq2 hq3 hq4; simp [*]))))⟩
     ·rw [decide_eq_false (by omega)] at hl
      exact FinK.mk ⟨_, Gh.refl _, .inl (.v9 (K_i hK (by (rw [hd, hl]; clear hd hq hq1 hq2 hq3 hq4; simp [*]))))⟩
    ·rw [last_nil om9] at hl
     dsimp only at hl
     exact FinK.mk ⟨_, Gh.refl _, .inl (.v9 (K_i hK (by (rw [hd, hl]; clear hd hq hq1 hq2 hq3 hq4; simp [*]))))⟩
   | false =>
    cbv; repeat' ((first | refine .mk (fun h => ?_) fun h => ?_ | refine .k fun z hz => ?_ | fail) <;> cbv)
    ·refine askEl_int om9 om9 fun i l hi hli => ?_
     obtain ⟨f', t', k', d'⟩ := l
     rw [last_at om9 hli] at hl
     dsimp only at hl
     cbv; repeat' ((first | refine .mk (fun h => ?_) fun h => ?_ | fail) <;> cbv)
     ·rw [decide_eq_true h] at hl
      exact FinK.mk ⟨_, Gh.refl _, .inl (.v9 (K_i hK (by (rw [hd, hl]; clear hd hq hq1 hq2 hq3 hq4; simp [*]))))⟩
     ·rw [decide_eq_false (by omega)] at hl
      exact FinK.mk ⟨_, Gh.refl _, .inl (.v9 (K_i hK (by (rw [hd, hl]; clear hd hq hq1 hq2 hq3 hq4; simp [*]))))⟩
    ·rw [last_nil om9] at hl
     dsimp only at hl
     exact FinK.mk ⟨_, Gh.refl _, .inl (.v9 (K_i hK (by (rw [hd, hl]; clear hd hq hq1 hq2 hq3 hq4; simp [*]))))⟩
    ·exact FinK.mk ⟨_, Gh.refl _, .inl (.v9 (K_i hK (by (rw [hd]; clear hd hq hq1 hq2 hq3 hq4; simp [*]))))⟩
def chkFrom (h : ByteArray) (ahead : List Edm) : List Edm → ByteArray × Int × Int
 | [] => (h, Int.ofNat ahead.length, 0)
 | e :: r => if wrongM h ahead e = 0 then chkFrom e.to (ahead ++ [e]) r else (⟨⟨[]⟩⟩, Int.ofNat ahead.length, wrongM h ahead e)
def checkM (first : ByteArray) (l : List Edm) : ByteArray × Int × Int := if nameB first = false then (⟨⟨[]⟩⟩, 0, 1) else chkFrom first [] l
theorem chkFrom_ok {c : List Edm} {h : ByteArray} {k : Nat} {e : Edm} (he : c[k]? = some e) (hw : wrongM h (c.take k) e = 0) : chkFrom h (c.take k) (c.drop k) = chkFrom e.to (c.take (k + 1)) (c.drop (k + 1)) := by
 obtain ⟨hk, rfl⟩ := List.getElem?_eq_some_iff.1 he
 rw [List.drop_eq_getElem_cons hk, chkFrom, if_pos hw, List.take_succ_eq_append_getElem hk]
theorem chkFrom_bad {c : List Edm} {h : ByteArray} {k : Nat} {e : Edm} (he : c[k]? = some e) (hw : ¬ wrongM h (c.take k) e = 0) : chkFrom h (c.take k) (c.drop k) = (⟨⟨[]⟩⟩, Int.ofNat k, wrongM h (c.take k) e) := by
 obtain ⟨hk, rfl⟩ := List.getElem?_eq_some_iff.1 he
 rw [List.drop_eq_getElem_cons hk, chkFrom, if_neg hw, List.length_take, Nat.min_eq_left (Nat.le_of_lt hk)]
theorem chkFrom_end {c : List Edm} {h : ByteArray} {k : Nat} (hk : k = c.length) : chkFrom h (c.take k) (c.drop k) = (h, Int.ofNat k, 0) := by
 rw [List.drop_eq_nil_of_le (by omega), chkFrom, List.length_take, hk, Nat.min_self]
def TriA : ByteArray × Int × Int → AV
 | (s, i, e) => .tup [.str s, .i i, .i e]
def CheckC : Ctr := spec (fun i : ByteArray × List Edm => [.str i.1, .sl 4 (mapA EdA i.2)]) (fun _ => []) (fun i => i.2.length ≤ 5000) (fun i => TriA (checkM i.1 i.2)) fun _ => []
theorem check_body (P : Program) (hn : FnOk P 144 (StrC (fun _ => True) nameB)) (hw : FnOk P 205 WrongC) : BodyOk P x186 CheckC := by
 intro args H K hc; obtain ⟨⟨first, c⟩, rfl, rfl, hp, hK⟩ := hc; refine ⟨nb9, ?_⟩; dsimp only at hp hK ⊢
 have hd : checkM first c = if nameB first = false then (⟨⟨[]⟩⟩, 0, 1) else chkFrom first (c.take 0) (c.drop 0) := rfl
 obtain ⟨q, hq⟩ : ∃ q, q = checkM first c := ⟨_, rfl⟩
 obtain ⟨n, hn1⟩ : ∃ q, q = nameB first := ⟨_, rfl⟩
 rw [← hq] at hK hd
 rw [← hn1] at hd
 cbv
 refine xscope (ι := Empty) 0 (fun e => nomatch e) (fun e => nomatch e) rfl ?_ (fun e => nomatch e)
 cbv
 (refine c09 hn first trivial ?_; try dsimp only)
 rw [← hn1]
 cases n with
 | false =>
  rw [if_pos rfl] at hd
  subst hd
  cbv
  exact FinK.mk ⟨_, Gh.refl _, .inl (.v9 hK)⟩
 | true =>
  rw [if_neg (by decide)] at hd
  cbv; repeat' ((first | refine .k fun z hz => ?_ | fail) <;> cbv)
  refine xloopV [] (fun p : { p : Nat × ByteArray // p.1 ≤ c.length ∧ q = chkFrom p.2 (c.take p.1) (c.drop p.1) } => [(14, .i (nI p.1.1)), (4, .str p.1.2), (5, .i 0), (6, .i 0)]) (fun _ => []) (fun p => lft 5001 p.1.1) ⟨(0, first), Nat.zero_le _, hd⟩ ?_
  rintro ⟨⟨k, hh⟩, hk, hd⟩
  dsimp only at hk hd ⊢
  cbv; repeat' ((first | refine .y fun h => ?_ | refine .mk (fun h => ?_) fun h => ?_ | refine .k fun z hz => ?_ | refine .l fun ys hys hyl => ?_ | fail) <;> cbv)
  ·obtain rfl : ys = c.take k := by rw [hys]; simp
   refine askEl_int om9 om9 fun i l hi hl => ?_
   obtain rfl : k = i := om9
   obtain ⟨f', t', k', d'⟩ := l
   have e1 := chkFrom_ok (h := hh) hl
   have e2 := chkFrom_bad (h := hh) hl
   cbv
   obtain ⟨w, hw1⟩ : ∃ w, w = wrongM hh (c.take k) ⟨f', t', k', d'⟩ := ⟨_, rfl⟩
   rw [← hw1] at e1 e2
   (refine c09 hw (hh, c.take k, (⟨f', t', k', d'⟩ : Edm)) (by dsimp only; rw [List.length_take]; omega) ?_; try dsimp only)
   rw [← hw1]
   cbv; repeat' ((first | refine .e ?_ | refine .n fun h => ?_ | refine .mk (fun h => ?_) fun h => ?_ | refine .k fun z hz => ?_ | fail) <;> cbv)
   ·subst h
    obtain rfl : z = nI (k + 1) := om9
    exact roundV ⟨(k + 1, t'), by exact om9, hd.trans (e1 rfl)⟩ (lft_lt om9)
   ·obtain rfl := hd.trans (e2 h)
    exact FinK.mk ⟨_, Gh.refl _, .inl (.v9 hK)⟩
  ·obtain rfl : k = c.length := om9
   obtain rfl : z = nI c.length := om9
   rw [chkFrom_end rfl] at hd
   subst hd
   exact FinK.mk ⟨_, Gh.refl _, .inl (.v9 hK)⟩
def HolderC : Ctr := spec (fun i : ByteArray × List Edm => [.str i.1, .sl 4 (mapA EdA i.2)]) (fun _ => []) (fun i => i.2.length ≤ 5000) (fun i => .str (checkM i.1 i.2).1) fun _ => []
theorem holderE_body (P : Program) (hc : FnOk P 186 CheckC) : BodyOk P x145 HolderC := by
 intro args H K hc; obtain ⟨⟨first, c⟩, rfl, rfl, hp, hK⟩ := hc; refine ⟨nb9, ?_⟩; dsimp only at hp hK ⊢
 obtain ⟨⟨h, i, e⟩, hq⟩ : ∃ q, q = checkM first c := ⟨_, rfl⟩
 rw [← hq] at hK
 dsimp only at hK
 cbv
 (refine c09 hc (first, c) hp ?_; try dsimp only)
 rw [← hq]
 cbv
 exact FinK.mk ⟨_, Gh.refl _, .inl (.v9 (K_of hK (by rfl)))⟩
def stO (s : Int) : Og → Og
 | ⟨_, h, c⟩ => ⟨s, h, c⟩
def onO (idx : Int) (f : Og → Og) : Br → Br
 | ⟨b, st, o0, o1, o2⟩ => ⟨b, st, bif hitB idx 0 then f o0 else o0, bif hitB idx 1 then f o1 else o1, bif hitB idx 2 then f o2 else o2⟩
def endM (st : Int) : Br → Br
 | ⟨b, _, o0, o1, o2⟩ => ⟨b, st, stO 2 o0, stO 2 o1, stO 2 o2⟩
def endK (st : Int) : Nat → Br → Br
 | 0, ⟨b, _, o0, o1, o2⟩ => ⟨b, st, o0, o1, o2⟩
 | 1, ⟨b, _, o0, o1, o2⟩ => ⟨b, st, stO 2 o0, o1, o2⟩
 | 2, ⟨b, _, o0, o1, o2⟩ => ⟨b, st, stO 2 o0, stO 2 o1, o2⟩
 | _, ⟨b, _, o0, o1, o2⟩ => ⟨b, st, stO 2 o0, stO 2 o1, stO 2 o2⟩
def EndC : Ctr := spec (fun i : Br × Int => [.ptr 0 0, .i i.2]) (fun i => EntC i.1) (fun _ => True) (fun _ => .tup []) fun i => EntC (endM i.2 i.1)
theorem end_body (P : Program) : BodyOk P x147 EndC := by
 intro args H K hc; obtain ⟨⟨y, st⟩, rfl, rfl, hp, hK⟩ := hc; refine ⟨nb9, ?_⟩; dsimp only at hp hK ⊢
 obtain ⟨⟨nq1, cq1, sq1, frm1, to1, bq1, pq1, iq1, lq1⟩, st1, ⟨sa1, ha1, ca1⟩, ⟨sb1, hb1, cb1⟩, ⟨sc1, hc1, cc1⟩⟩ := y
 cbv
 refine xloopV [] (fun p : { k : Nat // k ≤ 3 } => [(9, .i (nI p.1))]) (fun p => EntC (endK st p.1 ⟨⟨nq1, cq1, sq1, frm1, to1, bq1, pq1, iq1, lq1⟩, st1, ⟨sa1, ha1, ca1⟩, ⟨sb1, hb1, cb1⟩, ⟨sc1, hc1, cc1⟩⟩)) (fun p => lft 3 p.1) ⟨0, by decide⟩ ?_
 rintro ⟨k, hk⟩
 dsimp only at hk ⊢
 have hk4 : k = 0 ∨ k = 1 ∨ k = 2 ∨ k = 3 := by omega
 rcases hk4 with rfl | rfl | rfl | rfl
 ·cbv; repeat' ((first | refine .n fun h => ?_ | refine .y fun h => ?_ | refine .k fun z hz => ?_ | refine .o ?_ | fail) <;> cbv)
  obtain rfl : z = nI 1 := om9
  exact roundV ⟨1, by decide⟩ (lft_lt (by decide))
 ·cbv; repeat' ((first | refine .n fun h => ?_ | refine .y fun h => ?_ | refine .k fun z hz => ?_ | refine .o ?_ | fail) <;> cbv)
  obtain rfl : z = nI 2 := om9
  exact roundV ⟨2, by decide⟩ (lft_lt (by decide))
 ·cbv; repeat' ((first | refine .y fun h => ?_ | refine .k fun z hz => ?_ | refine .o ?_ | fail) <;> cbv)
  obtain rfl : z = nI 3 := om9
  exact roundV ⟨3, by decide⟩ (lft_lt (by decide))
 ·cbv; repeat' ((first | refine .n fun h => ?_ | fail) <;> cbv)
  (refine .r9 (Gh.refl _) ?_; cbv; exact .inl (.f9 hK))
def updM (L : List Br) (s : ByteArray) (f : Br → Br) : List Br := match bAt L s with
 | some i => match L[i]? with
  | some b => L.set i (f b)
  | none => L
 | none => L
theorem updM_some {L : List Br} {s : ByteArray} {i : Nat} {b : Br} (f : Br → Br) (h : bAt L s = some i) (hb : L[i]? = some b) : updM L s f = L.set i (f b) := by unfold updM; rw [h]; dsimp only; rw [hb]
def actM (L : List Br) (a : Ak) (f : Br → Br) : List Br := if askM L a = 0 then updM L a.bill f else L
theorem ask_zero {L : List Br} {a : Ak} {i : Nat} {b : Br} (h : askM L a = 0) (hi : bAt L a.bill = some i) (hb : L[i]? = some b) : askE b a = 0 := by
 unfold askM at h
 rw [hi] at h
 dsimp only at h
 rw [hb] at h
 exact h
theorem ask_none {L : List Br} {a : Ak} (h : askM L a = 0) (hi : bAt L a.bill = none) : False := by
 unfold askM at h
 rw [hi] at h
 exact absurd h (show ¬ (4:Int) = 0 by decide)
theorem askE_k1 {b : Br} {a : Ak} (h : askE b a = 0) : a.least ≤ a.index ∧ a.index < 3 := by
 unfold askE at h
 split at h
 ·exact absurd h (by decide)
 ·next hk => unfold k1 at hk; simp at hk; omega
def actC (args : Ak → List AV) (f : Ak → Br → Br) (p : Ak → Prop) : Ctr := spec (fun i : Rg × Ak => args i.2) (fun i => RegH i.1) (fun i => (∀ b ∈ i.1.bills, chOk b) ∧ p i.2) (fun i => .i (askM i.1.bills i.2)) fun i => RegH ⟨i.1.carrier, actM i.1.bills i.2 (f i.2)⟩
def loseF (a : Ak) : Br → Br := onO a.index (stO 3)
def LoseC : Ctr := actC (fun a => [.ptr 0 0, .str a.bill, .i a.index, .str a.by_]) loseF fun a => a.least = 0 ∧ a.state = 0 ∧ a.day = 0 ∧ a.dated = false ∧ a.wrong = false
theorem lose_body (P : Program) (ha : FnOk P 78 AskC) : BodyOk P x46 LoseC := by
 intro args H K hc; obtain ⟨⟨⟨carrier, L⟩, ⟨bill, index, least, by_, state, day, dated, wrong⟩⟩, rfl, rfl, hp, hK⟩ := hc; refine ⟨nb9, ?_⟩; dsimp only at hp hK ⊢
 obtain ⟨hp, rfl, rfl, rfl, rfl, rfl⟩ := hp
 obtain ⟨e, he⟩ : ∃ e, e = askM L ⟨bill, index, 0, by_, 0, 0, false, false⟩ := ⟨_, rfl⟩
 obtain ⟨L', hL'⟩ : ∃ L', L' = actM L ⟨bill, index, 0, by_, 0, 0, false, false⟩ (loseF ⟨bill, index, 0, by_, 0, 0, false, false⟩) := ⟨_, rfl⟩
 rw [← he, ← hL'] at hK
 unfold actM at hL'
 dsimp only at hL'
 rw [← he] at hL'
 cbv
 (refine cs9 ha (⟨carrier, L⟩, ⟨bill, index, 0, by_, 0, 0, false, false⟩) [0, 1] hp ?_; try dsimp only)
 rw [← he]
 cbv; repeat' ((first | refine .mk (fun h => ?_) fun h => ?_ | fail) <;> cbv)
 ·rw [if_pos h] at hL'
  refine poolK_in (fun b : Br => b.b.number) (fun _ => rfl) (fun i y hai hy hky => ?_) (fun hai => ?_) <;> dsimp only at *
  ·have hz := ask_zero (he.symm.trans h) hai hy
   have hk := askE_k1 hz
   clear hz
   rw [updM_some _ hai hy] at hL'
   dsimp only at hk
   have hk3 : index = 0 ∨ index = 1 ∨ index = 2 := by omega
   obtain ⟨⟨nq1, cq1, sq1, frm1, to1, bq1, pq1, iq1, lq1⟩, st1, ⟨sa1, ha1, ca1⟩, ⟨sb1, hb1, cb1⟩, ⟨sc1, hc1, cc1⟩⟩ := y
   rcases hk3 with rfl | rfl | rfl
   ·obtain rfl : L' = L.set i ⟨⟨nq1, cq1, sq1, frm1, to1, bq1, pq1, iq1, lq1⟩, st1, ⟨3, ha1, ca1⟩, ⟨sb1, hb1, cb1⟩, ⟨sc1, hc1, cc1⟩⟩ := hL'
    cbv; repeat' ((first | refine .n fun h => ?_ | refine .o ?_ | fail) <;> cbv)
    (refine .r9 (Gh.back 1 ([2, 3, 4, 5]) PelA ⟨⟨nq1, cq1, sq1, frm1, to1, bq1, pq1, iq1, lq1⟩, st1, ⟨3, ha1, ca1⟩, ⟨sb1, hb1, cb1⟩, ⟨sc1, hc1, cc1⟩⟩ rfl hy) ?_; cbv; exact .inl (.f9 hK))
   ·obtain rfl : L' = L.set i ⟨⟨nq1, cq1, sq1, frm1, to1, bq1, pq1, iq1, lq1⟩, st1, ⟨sa1, ha1, ca1⟩, ⟨3, hb1, cb1⟩, ⟨sc1, hc1, cc1⟩⟩ := hL'
    cbv; repeat' ((first | refine .n fun h => ?_ | refine .y fun h => ?_ | refine .o ?_ | fail) <;> cbv)
    (refine .r9 (Gh.back 1 ([2, 3, 4, 5]) PelA ⟨⟨nq1, cq1, sq1, frm1, to1, bq1, pq1, iq1, lq1⟩, st1, ⟨sa1, ha1, ca1⟩, ⟨3, hb1, cb1⟩, ⟨sc1, hc1, cc1⟩⟩ rfl hy) ?_; cbv; exact .inl (.f9 hK))
   ·obtain rfl : L' = L.set i ⟨⟨nq1, cq1, sq1, frm1, to1, bq1, pq1, iq1, lq1⟩, st1, ⟨sa1, ha1, ca1⟩, ⟨sb1, hb1, cb1⟩, ⟨3, hc1, cc1⟩⟩ := hL'
    cbv; repeat' ((first | refine .y fun h => ?_ | refine .o ?_ | fail) <;> cbv)
    (refine .r9 (Gh.back 1 ([2, 3, 4, 5]) PelA ⟨⟨nq1, cq1, sq1, frm1, to1, bq1, pq1, iq1, lq1⟩, st1, ⟨sa1, ha1, ca1⟩, ⟨sb1, hb1, cb1⟩, ⟨3, hc1, cc1⟩⟩ rfl hy) ?_; cbv; exact .inl (.f9 hK))
  ·exact (ask_none (he.symm.trans h) hai).elim
 ·rw [if_neg h] at hL'
  subst hL'
  (refine .r9 (Gh.refl _) ?_; cbv; exact .inl (.f9 hK))
def repF (a : Ak) : Br → Br := onO a.index (stO 0)
def ReplaceC : Ctr := actC (fun a => [.ptr 0 0, .str a.bill, .i a.index, .str a.by_, .i a.day]) repF fun a => a.least = 0 ∧ a.state = 3 ∧ a.dated = true ∧ a.wrong = false
theorem replace_body (P : Program) (ha : FnOk P 78 AskC) : BodyOk P x123 ReplaceC := by
 intro args H K hc; obtain ⟨⟨⟨carrier, L⟩, ⟨bill, index, least, by_, state, day, dated, wrong⟩⟩, rfl, rfl, hp, hK⟩ := hc; refine ⟨nb9, ?_⟩; dsimp only at hp hK ⊢
 obtain ⟨hp, rfl, rfl, rfl, rfl⟩ := hp
 obtain ⟨e, he⟩ : ∃ e, e = askM L ⟨bill, index, 0, by_, 3, day, true, false⟩ := ⟨_, rfl⟩
 obtain ⟨L', hL'⟩ : ∃ L', L' = actM L ⟨bill, index, 0, by_, 3, day, true, false⟩ (repF ⟨bill, index, 0, by_, 3, day, true, false⟩) := ⟨_, rfl⟩
 rw [← he, ← hL'] at hK
 unfold actM at hL'
 dsimp only at hL'
 rw [← he] at hL'
 cbv
 (refine cs9 ha (⟨carrier, L⟩, ⟨bill, index, 0, by_, 3, day, true, false⟩) [0, 1] hp ?_; try dsimp only)
 rw [← he]
 cbv; repeat' ((first | refine .mk (fun h => ?_) fun h => ?_ | fail) <;> cbv)
 ·rw [if_pos h] at hL'
  refine poolK_in (fun b : Br => b.b.number) (fun _ => rfl) (fun i y hai hy hky => ?_) (fun hai => ?_) <;> dsimp only at *
  ·have hz := ask_zero (he.symm.trans h) hai hy
   have hk := askE_k1 hz
   clear hz
   rw [updM_some _ hai hy] at hL'
   dsimp only at hk
   have hk3 : index = 0 ∨ index = 1 ∨ index = 2 := by omega
   obtain ⟨⟨nq1, cq1, sq1, frm1, to1, bq1, pq1, iq1, lq1⟩, st1, ⟨sa1, ha1, ca1⟩, ⟨sb1, hb1, cb1⟩, ⟨sc1, hc1, cc1⟩⟩ := y
   rcases hk3 with rfl | rfl | rfl
   ·obtain rfl : L' = L.set i ⟨⟨nq1, cq1, sq1, frm1, to1, bq1, pq1, iq1, lq1⟩, st1, ⟨0, ha1, ca1⟩, ⟨sb1, hb1, cb1⟩, ⟨sc1, hc1, cc1⟩⟩ := hL'
    cbv; repeat' ((first | refine .n fun h => ?_ | refine .o ?_ | fail) <;> cbv)
    (refine .r9 (Gh.back 1 ([2, 3, 4, 5]) PelA ⟨⟨nq1, cq1, sq1, frm1, to1, bq1, pq1, iq1, lq1⟩, st1, ⟨0, ha1, ca1⟩, ⟨sb1, hb1, cb1⟩, ⟨sc1, hc1, cc1⟩⟩ rfl hy) ?_; cbv; exact .inl (.f9 hK))
   ·obtain rfl : L' = L.set i ⟨⟨nq1, cq1, sq1, frm1, to1, bq1, pq1, iq1, lq1⟩, st1, ⟨sa1, ha1, ca1⟩, ⟨0, hb1, cb1⟩, ⟨sc1, hc1, cc1⟩⟩ := hL'
    cbv; repeat' ((first | refine .n fun h => ?_ | refine .y fun h => ?_ | refine .o ?_ | fail) <;> cbv)
    (refine .r9 (Gh.back 1 ([2, 3, 4, 5]) PelA ⟨⟨nq1, cq1, sq1, frm1, to1, bq1, pq1, iq1, lq1⟩, st1, ⟨sa1, ha1, ca1⟩, ⟨0, hb1, cb1⟩, ⟨sc1, hc1, cc1⟩⟩ rfl hy) ?_; cbv; exact .inl (.f9 hK))
   ·obtain rfl : L' = L.set i ⟨⟨nq1, cq1, sq1, frm1, to1, bq1, pq1, iq1, lq1⟩, st1, ⟨sa1, ha1, ca1⟩, ⟨sb1, hb1, cb1⟩, ⟨0, hc1, cc1⟩⟩ := hL'
    cbv; repeat' ((first | refine .y fun h => ?_ | refine .o ?_ | fail) <;> cbv)
    (refine .r9 (Gh.back 1 ([2, 3, 4, 5]) PelA ⟨⟨nq1, cq1, sq1, frm1, to1, bq1, pq1, iq1, lq1⟩, st1, ⟨sa1, ha1, ca1⟩, ⟨sb1, hb1, cb1⟩, ⟨0, hc1, cc1⟩⟩ rfl hy) ?_; cbv; exact .inl (.f9 hK))
  ·exact (ask_none (he.symm.trans h) hai).elim
 ·rw [if_neg h] at hL'
  subst hL'
  (refine .r9 (Gh.refl _) ?_; cbv; exact .inl (.f9 hK))
def surF (a : Ak) : Br → Br := fun b => onO a.index (stO 1) (endM 1 b)
def boxM (L : List Br) (a : Ak) : List ByteArray := if askM L a = 0 then (getM L a.bill).1.boxes else []
def SurrenderC : Ctr := spec (fun i : Rg × Ak => [.ptr 0 0, .str i.2.bill, .i i.2.index, .str i.2.by_, .i i.2.day]) (fun i => RegH i.1) (fun i => (∀ b ∈ i.1.bills, chOk b ∧ okB b.b) ∧ i.2.least = 0 ∧ i.2.state = 0 ∧ i.2.dated = true ∧ i.2.wrong = false) (fun i => .tup [.sl 1 (mapA .str (boxM i.1.bills i.2)), .i (askM i.1.bills i.2)]) fun i => RegH ⟨i.1.carrier, actM i.1.bills i.2 (surF i.2)⟩
theorem surrender_body (P : Program) (hend : FnOk P 147 EndC) (hcl : FnOk P 87 (CloneC 1 16)) (ha : FnOk P 78 AskC) : BodyOk P x122 SurrenderC := by
 intro args H K hc; obtain ⟨⟨⟨carrier, L⟩, ⟨bill, index, least, by_, state, day, dated, wrong⟩⟩, rfl, rfl, hp, hK⟩ := hc; refine ⟨nb9, ?_⟩; dsimp only at hp hK ⊢
 obtain ⟨hp, rfl, rfl, rfl, rfl⟩ := hp
 obtain ⟨e, he⟩ : ∃ e, e = askM L ⟨bill, index, 0, by_, 0, day, true, false⟩ := ⟨_, rfl⟩
 obtain ⟨L', hL'⟩ : ∃ L', L' = actM L ⟨bill, index, 0, by_, 0, day, true, false⟩ (surF ⟨bill, index, 0, by_, 0, day, true, false⟩) := ⟨_, rfl⟩
 obtain ⟨l, hl⟩ : ∃ l, l = boxM L ⟨bill, index, 0, by_, 0, day, true, false⟩ := ⟨_, rfl⟩
 rw [← he, ← hL', ← hl] at hK
 unfold boxM at hl
 dsimp only at hl
 rw [← he] at hl
 unfold actM at hL'
 dsimp only at hL'
 rw [← he] at hL'
 cbv
 (refine cs9 ha (⟨carrier, L⟩, ⟨bill, index, 0, by_, 0, day, true, false⟩) [0, 1] (fun b hb => (hp b hb).1) ?_; try dsimp only)
 rw [← he]
 cbv; repeat' ((first | refine .mk (fun h => ?_) fun h => ?_ | fail) <;> cbv)
 ·rw [if_pos h] at hL' hl
  rw [h] at hK
  refine poolK_in (fun b : Br => b.b.number) (fun _ => rfl) (fun i y hai hy hky => ?_) (fun hai => ?_) <;> dsimp only at *
  ·have hz := ask_zero (he.symm.trans h) hai hy
   have hk := askE_k1 hz
   clear hz
   rw [updM_some _ hai hy] at hL'
   dsimp only at hk
   have hk3 : index = 0 ∨ index = 1 ∨ index = 2 := by omega
   rw [getM_some hai hy] at hl
   have hob := (hp y (List.mem_of_getElem? hy)).2
   unfold okB at hob
   obtain ⟨⟨nq1, cq1, sq1, frm1, to1, bq1, pq1, iq1, lq1⟩, st1, ⟨sa1, ha1, ca1⟩, ⟨sb1, hb1, cb1⟩, ⟨sc1, hc1, cc1⟩⟩ := y
   dsimp only at hl hob
   subst l
   rcases hk3 with rfl | rfl | rfl
   ·obtain rfl : L' = L.set i ⟨⟨nq1, cq1, sq1, frm1, to1, bq1, pq1, iq1, lq1⟩, 1, ⟨1, ha1, ca1⟩, ⟨2, hb1, cb1⟩, ⟨2, hc1, cc1⟩⟩ := hL'
    cbv
    (refine cs9 hend (⟨⟨nq1, cq1, sq1, frm1, to1, bq1, pq1, iq1, lq1⟩, st1, ⟨sa1, ha1, ca1⟩, ⟨sb1, hb1, cb1⟩, ⟨sc1, hc1, cc1⟩⟩, 1) [2, 3, 4, 5] trivial ?_; try dsimp only)
    cbv; repeat' ((first | refine .n fun h => ?_ | refine .o ?_ | fail) <;> cbv)
    (refine c09 hcl _ ⟨by rw [mapA_len]; unfold maxLen; omega, by rw [mapA_len]; omega⟩ ?_; try dsimp only)
    cbv
    (refine .r9 (Gh.back 1 ([2, 3, 4, 5]) PelA ⟨⟨nq1, cq1, sq1, frm1, to1, bq1, pq1, iq1, lq1⟩, 1, ⟨1, ha1, ca1⟩, ⟨2, hb1, cb1⟩, ⟨2, hc1, cc1⟩⟩ rfl hy) ?_; cbv; exact .inl (.f9 hK))
   ·obtain rfl : L' = L.set i ⟨⟨nq1, cq1, sq1, frm1, to1, bq1, pq1, iq1, lq1⟩, 1, ⟨2, ha1, ca1⟩, ⟨1, hb1, cb1⟩, ⟨2, hc1, cc1⟩⟩ := hL'
    cbv
    (refine cs9 hend (⟨⟨nq1, cq1, sq1, frm1, to1, bq1, pq1, iq1, lq1⟩, st1, ⟨sa1, ha1, ca1⟩, ⟨sb1, hb1, cb1⟩, ⟨sc1, hc1, cc1⟩⟩, 1) [2, 3, 4, 5] trivial ?_; try dsimp only)
    cbv; repeat' ((first | refine .n fun h => ?_ | refine .y fun h => ?_ | refine .o ?_ | fail) <;> cbv)
    (refine c09 hcl _ ⟨by rw [mapA_len]; unfold maxLen; omega, by rw [mapA_len]; omega⟩ ?_; try dsimp only)
    cbv
    (refine .r9 (Gh.back 1 ([2, 3, 4, 5]) PelA ⟨⟨nq1, cq1, sq1, frm1, to1, bq1, pq1, iq1, lq1⟩, 1, ⟨2, ha1, ca1⟩, ⟨1, hb1, cb1⟩, ⟨2, hc1, cc1⟩⟩ rfl hy) ?_; cbv; exact .inl (.f9 hK))
   ·obtain rfl : L' = L.set i ⟨⟨nq1, cq1, sq1, frm1, to1, bq1, pq1, iq1, lq1⟩, 1, ⟨2, ha1, ca1⟩, ⟨2, hb1, cb1⟩, ⟨1, hc1, cc1⟩⟩ := hL'
    cbv
    (refine cs9 hend (⟨⟨nq1, cq1, sq1, frm1, to1, bq1, pq1, iq1, lq1⟩, st1, ⟨sa1, ha1, ca1⟩, ⟨sb1, hb1, cb1⟩, ⟨sc1, hc1, cc1⟩⟩, 1) [2, 3, 4, 5] trivial ?_; try dsimp only)
    cbv; repeat' ((first | refine .y fun h => ?_ | refine .o ?_ | fail) <;> cbv)
    (refine c09 hcl _ ⟨by rw [mapA_len]; unfold maxLen; omega, by rw [mapA_len]; omega⟩ ?_; try dsimp only)
    cbv
    (refine .r9 (Gh.back 1 ([2, 3, 4, 5]) PelA ⟨⟨nq1, cq1, sq1, frm1, to1, bq1, pq1, iq1, lq1⟩, 1, ⟨2, ha1, ca1⟩, ⟨2, hb1, cb1⟩, ⟨1, hc1, cc1⟩⟩ rfl hy) ?_; cbv; exact .inl (.f9 hK))
  ·exact (ask_none (he.symm.trans h) hai).elim
 ·rw [if_neg h] at hL' hl
  subst hL'
  subst hl
  (refine .r9 (Gh.refl _) ?_; cbv; exact .inl (.g9 hK))
def endF (f t : ByteArray) (d : Int) : Og → Og
 | ⟨s, h, c⟩ => ⟨s, (checkM h [⟨f, t, 0, d⟩]).1, c ++ [⟨f, t, 0, d⟩]⟩
def wrongE (by_ to : ByteArray) : Bool := !nameB to || decide (to = by_)
def EndorseC : Ctr := spec (fun i : Rg × Ak × ByteArray => [.ptr 0 0, .str i.2.1.bill, .i i.2.1.index, .str i.2.1.by_, .str i.2.2, .i i.2.1.day]) (fun i => RegH i.1) (fun i => (∀ b ∈ i.1.bills, chOk b) ∧ i.2.1.least = -1 ∧ i.2.1.state = 0 ∧ i.2.1.dated = true ∧ i.2.1.wrong = wrongE i.2.1.by_ i.2.2) (fun i => .i (askM i.1.bills i.2.1)) fun i => RegH ⟨i.1.carrier, actM i.1.bills i.2.1 (onO i.2.1.index (endF i.2.1.by_ i.2.2 i.2.1.day))⟩
def pick4 {α : Type} : Nat → α → α → α → α → α
 | 0, a, _, _, _ => a
 | 1, _, b, _, _ => b
 | 2, _, _, c, _ => c
 | _, _, _, _, d => d
theorem hitB_yes {idx k : Int} (h : idx = -1 ∨ idx = k) : hitB idx k = true := by unfold hitB; rcases h with h | h <;> rw [decide_eq_true h] <;> simp
theorem ask_wrong {L : List Br} {a : Ak} (hw : a.wrong = true) : askM L a ≠ 0 := by
 unfold askM
 split
 ·split
  ·unfold askE
   have h2 : k2 a = true := by unfold k2; rw [hw]; rfl
   rw [h2, if_pos rfl]
   split
   ·exact (by decide : (3 : Int) ≠ 0)
   ·exact (by decide : (1 : Int) ≠ 0)
  ·exact (by decide : (4 : Int) ≠ 0)
 ·exact (by decide : (4 : Int) ≠ 0)
theorem endorse_body (P : Program) (hn : FnOk P 144 (StrC (fun _ => True) nameB)) (ha : FnOk P 78 AskC) (hh : FnOk P 145 HolderC) : BodyOk P x119 EndorseC := by
 intro args H K hc; obtain ⟨⟨⟨carrier, L⟩, ⟨bill, index, least, by_, state, day, dated, wrong⟩, to⟩, rfl, rfl, hp, hK⟩ := hc; refine ⟨nb9, ?_⟩; dsimp only at hp hK ⊢
 obtain ⟨hp, rfl, rfl, rfl, hwr⟩ := hp
 unfold wrongE at hwr
 obtain ⟨e, he⟩ : ∃ e, e = askM L ⟨bill, index, -1, by_, 0, day, true, wrong⟩ := ⟨_, rfl⟩
 obtain ⟨L', hL'⟩ : ∃ L', L' = actM L ⟨bill, index, -1, by_, 0, day, true, wrong⟩ (onO index (endF by_ to day)) := ⟨_, rfl⟩
 obtain ⟨n, hn1⟩ : ∃ n, n = nameB to := ⟨_, rfl⟩
 rw [← he, ← hL'] at hK
 rw [← hn1] at hwr
 unfold actM at hL'
 dsimp only at hL'
 rw [← he] at hL'
 cbv
 (refine c09 hn to trivial ?_; try dsimp only)
 rw [← hn1]
 have hw3 : (n = false ∧ wrong = true) ∨ (n = true ∧ to = by_ ∧ wrong = true) ∨ (n = true ∧ ¬ to = by_ ∧ wrong = false) := by
  rw [hwr]
  cases n <;> by_cases ht : to = by_ <;> simp [ht]
 clear hwr
 obtain ⟨q0, hq0⟩ : ∃ q, q = hitB index 0 := ⟨_, rfl⟩
 obtain ⟨q1, hq1⟩ : ∃ q, q = hitB index 1 := ⟨_, rfl⟩
 obtain ⟨q2, hq2⟩ : ∃ q, q = hitB index 2 := ⟨_, rfl⟩
 rcases hw3 with ⟨rfl, rfl⟩ | ⟨rfl, ht, rfl⟩ | ⟨rfl, ht, rfl⟩
 ·have hne := ask_wrong (L := L) (a := ⟨bill, index, -1, by_, 0, day, true, true⟩) rfl
  rw [← he] at hne
  rw [if_neg hne] at hL'
  rw [hL'] at hK
  cbv
  (refine cs9 ha (⟨carrier, L⟩, ⟨bill, index, -1, by_, 0, day, true, true⟩) [0, 1] hp ?_; try dsimp only)
  rw [← he]
  cbv; repeat' ((first | refine .n fun h => ?_ | fail) <;> cbv)
  (refine .r9 (Gh.refl _) ?_; cbv; exact .inl (.f9 hK))
 ·have hne := ask_wrong (L := L) (a := ⟨bill, index, -1, by_, 0, day, true, true⟩) rfl
  rw [← he] at hne
  rw [if_neg hne] at hL'
  rw [hL'] at hK
  cbv; repeat' ((first | refine .mk (fun h => ?_) fun h => ?_ | fail) <;> cbv)
  ·(refine cs9 ha (⟨carrier, L⟩, ⟨bill, index, -1, by_, 0, day, true, true⟩) [0, 1] hp ?_; try dsimp only)
   rw [← he]
   cbv; repeat' ((first | refine .n fun h => ?_ | fail) <;> cbv)
   (refine .r9 (Gh.refl _) ?_; cbv; exact .inl (.f9 hK))
  ·exact (h ht).elim
 ·cbv; repeat' ((first | refine .mk (fun h => ?_) fun h => ?_ | fail) <;> cbv)
  ·exact (ht h).elim
  ·(refine cs9 ha (⟨carrier, L⟩, ⟨bill, index, -1, by_, 0, day, true, false⟩) [0, 1] hp ?_; try dsimp only)
   rw [← he]
   cbv; repeat' ((first | refine .mk (fun h => ?_) fun h => ?_ | fail) <;> cbv)
   ·rw [if_pos ‹e = 0›] at hL'
    rw [‹e = 0›] at hK
    refine poolK_in (fun b : Br => b.b.number) (fun _ => rfl) (fun i y hai hy hky => ?_) (fun hai => ?_) <;> dsimp only at *
    ·rw [updM_some _ hai hy] at hL'
     have hch := hp y (List.mem_of_getElem? hy)
     obtain ⟨⟨nq1, cq1, sq1, frm1, to1, bq1, pq1, iq1, lq1⟩, st1, ⟨sa1, ha1, ca1⟩, ⟨sb1, hb1, cb1⟩, ⟨sc1, hc1, cc1⟩⟩ := y
     unfold chOk at hch
     dsimp only at hch
     obtain ⟨hch0, hch1, hch2⟩ := hch
     obtain ⟨⟨ux, xh, xc⟩, hx⟩ : ∃ o, o = bif q0 then endF by_ to day ⟨sa1, ha1, ca1⟩ else ⟨sa1, ha1, ca1⟩ := ⟨_, rfl⟩
     obtain ⟨⟨uy, yh, yc⟩, hyy⟩ : ∃ o, o = bif q1 then endF by_ to day ⟨sb1, hb1, cb1⟩ else ⟨sb1, hb1, cb1⟩ := ⟨_, rfl⟩
     obtain ⟨⟨uz, zh, zc⟩, hzz⟩ : ∃ o, o = bif q2 then endF by_ to day ⟨sc1, hc1, cc1⟩ else ⟨sc1, hc1, cc1⟩ := ⟨_, rfl⟩
     obtain ⟨⟨m0, mi0, me0⟩, hm0⟩ : ∃ m, m = checkM ha1 [⟨by_, to, 0, day⟩] := ⟨_, rfl⟩
     obtain ⟨⟨m1, mi1, me1⟩, hm1⟩ : ∃ m, m = checkM hb1 [⟨by_, to, 0, day⟩] := ⟨_, rfl⟩
     obtain ⟨⟨m2, mi2, me2⟩, hm2⟩ : ∃ m, m = checkM hc1 [⟨by_, to, 0, day⟩] := ⟨_, rfl⟩
     unfold onO at hL'
     dsimp only at hL'
     rw [← hq0, ← hq1, ← hq2, ← hx, ← hyy, ← hzz] at hL'
     subst hL'
     cbv
     refine xloopV [] (fun p : { k : Nat // k ≤ 3 } => [(42, .i (nI p.1))]) (fun p => [.blk 122 [.str carrier, .ph 1], .pool 120 (mapA PelA L) [(i, .ptr 2 0)]] ++ renH [] 2 (EntC (pick4 p.1 ⟨⟨nq1, cq1, sq1, frm1, to1, bq1, pq1, iq1, lq1⟩, st1, ⟨sa1, ha1, ca1⟩, ⟨sb1, hb1, cb1⟩, ⟨sc1, hc1, cc1⟩⟩ ⟨⟨nq1, cq1, sq1, frm1, to1, bq1, pq1, iq1, lq1⟩, st1, ⟨ux, xh, xc⟩, ⟨sb1, hb1, cb1⟩, ⟨sc1, hc1, cc1⟩⟩ ⟨⟨nq1, cq1, sq1, frm1, to1, bq1, pq1, iq1, lq1⟩, st1, ⟨ux, xh, xc⟩, ⟨uy, yh, yc⟩, ⟨sc1, hc1, cc1⟩⟩ ⟨⟨nq1, cq1, sq1, frm1, to1, bq1, pq1, iq1, lq1⟩, st1, ⟨ux, xh, xc⟩, ⟨uy, yh, yc⟩, ⟨uz, zh, zc⟩⟩))) (fun p => lft 3 p.1) ⟨0, by decide⟩ ?_
     rintro ⟨k, hk⟩
     dsimp only at hk ⊢
     have hk4 : k = 0 ∨ k = 1 ∨ k = 2 ∨ k = 3 := by omega
     rcases hk4 with rfl | rfl | rfl | rfl
     ·cases q0 with
      | true =>
       obtain ⟨rfl, rfl, rfl⟩ : ux = sa1 ∧ xh = m0 ∧ xc = ca1 ++ [⟨by_, to, 0, day⟩] := by
        unfold endF at hx
        dsimp only at hx
        rw [← hm0] at hx
        injection hx with h1 h2 h3
        exact ⟨h1, h2, h3⟩
       cbv; repeat' ((first | refine .n fun h => ?_ | refine .y fun h => ?_ | refine .mk (fun h => ?_) fun h => ?_ | refine .k fun z hz => ?_ | refine .o ?_ | refine .zl fun zs hzs hzl => ?_ | fail) <;> cbv)
       ·refine callG_publish 9 rfl ?_
        cbv
        (refine c09 hh (ha1, [⟨by_, to, 0, day⟩]) (Nat.le_add_left 1 4999) ?_; try dsimp only)
        rw [← hm0]
        dsimp only
        obtain rfl : zs = mapA EdA (ca1 ++ [(⟨by_, to, 0, day⟩ : Edm)]) := by (rw [mapA_app, mapA_one]; first | exact hzs | (subst_vars; rfl))
        cbv; repeat' ((first | refine .k fun z hz => ?_ | fail) <;> cbv)
        obtain rfl : z = nI 1 := om9
        exact roundV ⟨1, by decide⟩ (lft_lt (by decide))
       ·refine callG_publish 9 rfl ?_
        cbv
        (refine c09 hh (ha1, [⟨by_, to, 0, day⟩]) (Nat.le_add_left 1 4999) ?_; try dsimp only)
        rw [← hm0]
        dsimp only
        obtain rfl : zs = mapA EdA (ca1 ++ [(⟨by_, to, 0, day⟩ : Edm)]) := by (rw [mapA_app, mapA_one]; first | exact hzs | (subst_vars; rfl))
        cbv; repeat' ((first | refine .k fun z hz => ?_ | fail) <;> cbv)
        obtain rfl : z = nI 1 := om9
        exact roundV ⟨1, by decide⟩ (lft_lt (by decide))
       ·exact absurd (hq0.trans (hitB_not ‹¬ index = -1› ‹¬ index = Int.ofNat 0›)) (by decide)
      | false =>
       obtain ⟨rfl, rfl, rfl⟩ : ux = sa1 ∧ xh = ha1 ∧ xc = ca1 := by
        injection hx with h1 h2 h3
        exact ⟨h1, h2, h3⟩
       cbv; repeat' ((first | refine .n fun h => ?_ | refine .y fun h => ?_ | refine .mk (fun h => ?_) fun h => ?_ | refine .k fun z hz => ?_ | refine .o ?_ | refine .zl fun zs hzs hzl => ?_ | fail) <;> cbv)
       ·exact absurd (hq0.trans (hitB_yes (.inl ‹index = -1›))) (by decide)
       ·exact absurd (hq0.trans (hitB_yes (.inr ‹index = Int.ofNat 0›))) (by decide)
       ·obtain rfl : z = nI 1 := om9
        exact roundV ⟨1, by decide⟩ (lft_lt (by decide))
     ·cases q1 with
      | true =>
       obtain ⟨rfl, rfl, rfl⟩ : uy = sb1 ∧ yh = m1 ∧ yc = cb1 ++ [⟨by_, to, 0, day⟩] := by
        unfold endF at hyy
        dsimp only at hyy
        rw [← hm1] at hyy
        injection hyy with h1 h2 h3
        exact ⟨h1, h2, h3⟩
       cbv; repeat' ((first | refine .n fun h => ?_ | refine .y fun h => ?_ | refine .mk (fun h => ?_) fun h => ?_ | refine .k fun z hz => ?_ | refine .o ?_ | refine .zl fun zs hzs hzl => ?_ | fail) <;> cbv)
       ·refine callG_publish 9 rfl ?_
        cbv
        (refine c09 hh (hb1, [⟨by_, to, 0, day⟩]) (Nat.le_add_left 1 4999) ?_; try dsimp only)
        rw [← hm1]
        dsimp only
        obtain rfl : zs = mapA EdA (cb1 ++ [(⟨by_, to, 0, day⟩ : Edm)]) := by (rw [mapA_app, mapA_one]; first | exact hzs | (subst_vars; rfl))
        cbv; repeat' ((first | refine .k fun z hz => ?_ | fail) <;> cbv)
        obtain rfl : z = nI 2 := om9
        exact roundV ⟨2, by decide⟩ (lft_lt (by decide))
       ·refine callG_publish 9 rfl ?_
        cbv
        (refine c09 hh (hb1, [⟨by_, to, 0, day⟩]) (Nat.le_add_left 1 4999) ?_; try dsimp only)
        rw [← hm1]
        dsimp only
        obtain rfl : zs = mapA EdA (cb1 ++ [(⟨by_, to, 0, day⟩ : Edm)]) := by (rw [mapA_app, mapA_one]; first | exact hzs | (subst_vars; rfl))
        cbv; repeat' ((first | refine .k fun z hz => ?_ | fail) <;> cbv)
        obtain rfl : z = nI 2 := om9
        exact roundV ⟨2, by decide⟩ (lft_lt (by decide))
       ·exact absurd (hq1.trans (hitB_not ‹¬ index = -1› ‹¬ index = Int.ofNat 1›)) (by decide)
      | false =>
       obtain ⟨rfl, rfl, rfl⟩ : uy = sb1 ∧ yh = hb1 ∧ yc = cb1 := by
        injection hyy with h1 h2 h3
        exact ⟨h1, h2, h3⟩
       cbv; repeat' ((first | refine .n fun h => ?_ | refine .y fun h => ?_ | refine .mk (fun h => ?_) fun h => ?_ | refine .k fun z hz => ?_ | refine .o ?_ | refine .zl fun zs hzs hzl => ?_ | fail) <;> cbv)
       ·exact absurd (hq1.trans (hitB_yes (.inl ‹index = -1›))) (by decide)
       ·exact absurd (hq1.trans (hitB_yes (.inr ‹index = Int.ofNat 1›))) (by decide)
       ·obtain rfl : z = nI 2 := om9
        exact roundV ⟨2, by decide⟩ (lft_lt (by decide))
     ·cases q2 with
      | true =>
       obtain ⟨rfl, rfl, rfl⟩ : uz = sc1 ∧ zh = m2 ∧ zc = cc1 ++ [⟨by_, to, 0, day⟩] := by
        unfold endF at hzz
        dsimp only at hzz
        rw [← hm2] at hzz
        injection hzz with h1 h2 h3
        exact ⟨h1, h2, h3⟩
       cbv; repeat' ((first | refine .y fun h => ?_ | refine .mk (fun h => ?_) fun h => ?_ | refine .k fun z hz => ?_ | refine .o ?_ | refine .zl fun zs hzs hzl => ?_ | fail) <;> cbv)
       ·refine callG_publish 9 rfl ?_
        cbv
        (refine c09 hh (hc1, [⟨by_, to, 0, day⟩]) (Nat.le_add_left 1 4999) ?_; try dsimp only)
        rw [← hm2]
        dsimp only
        obtain rfl : zs = mapA EdA (cc1 ++ [(⟨by_, to, 0, day⟩ : Edm)]) := by (rw [mapA_app, mapA_one]; first | exact hzs | (subst_vars; rfl))
        cbv; repeat' ((first | refine .k fun z hz => ?_ | fail) <;> cbv)
        obtain rfl : z = nI 3 := om9
        exact roundV ⟨3, by decide⟩ (lft_lt (by decide))
       ·refine callG_publish 9 rfl ?_
        cbv
        (refine c09 hh (hc1, [⟨by_, to, 0, day⟩]) (Nat.le_add_left 1 4999) ?_; try dsimp only)
        rw [← hm2]
        dsimp only
        obtain rfl : zs = mapA EdA (cc1 ++ [(⟨by_, to, 0, day⟩ : Edm)]) := by (rw [mapA_app, mapA_one]; first | exact hzs | (subst_vars; rfl))
        cbv; repeat' ((first | refine .k fun z hz => ?_ | fail) <;> cbv)
        obtain rfl : z = nI 3 := om9
        exact roundV ⟨3, by decide⟩ (lft_lt (by decide))
       ·exact absurd (hq2.trans (hitB_not ‹¬ index = -1› ‹¬ index = Int.ofNat 2›)) (by decide)
      | false =>
       obtain ⟨rfl, rfl, rfl⟩ : uz = sc1 ∧ zh = hc1 ∧ zc = cc1 := by
        injection hzz with h1 h2 h3
        exact ⟨h1, h2, h3⟩
       cbv; repeat' ((first | refine .y fun h => ?_ | refine .mk (fun h => ?_) fun h => ?_ | refine .k fun z hz => ?_ | refine .o ?_ | refine .zl fun zs hzs hzl => ?_ | fail) <;> cbv)
       ·exact absurd (hq2.trans (hitB_yes (.inl ‹index = -1›))) (by decide)
       ·exact absurd (hq2.trans (hitB_yes (.inr ‹index = Int.ofNat 2›))) (by decide)
       ·obtain rfl : z = nI 3 := om9
        exact roundV ⟨3, by decide⟩ (lft_lt (by decide))
     ·cbv; repeat' ((first | refine .n fun h => ?_ | fail) <;> cbv)
      (refine .r9 (Gh.back 1 ([2, 3, 4, 5]) PelA ⟨⟨nq1, cq1, sq1, frm1, to1, bq1, pq1, iq1, lq1⟩, st1, ⟨ux, xh, xc⟩, ⟨uy, yh, yc⟩, ⟨uz, zh, zc⟩⟩ rfl hy) ?_; cbv; exact .inl (.f9 hK))
    ·exact (ask_none (he.symm.trans ‹e = 0›) hai).elim
   ·rw [if_neg h] at hL'
    subst hL'
    (refine .r9 (Gh.refl _) ?_; cbv; exact .inl (.f9 hK))
def SbA : ByteArray × Bool → AV
 | (s, b) => .tup [.str s, .bl b]
def idxP (p : ByteArray → Bool) (l : List ByteArray) : Int := match l.findIdx? p with
 | some i => Int.ofNat i
 | none => -1
def NoneTo (p : ByteArray → Bool) (l : List ByteArray) (k : Nat) : Prop := ∀ j y, j < k → l[j]? = some y → p y = false
theorem NoneTo.zero {p : ByteArray → Bool} {l : List ByteArray} : NoneTo p l 0 := fun j y h => absurd h (Nat.not_lt_zero j)
theorem NoneTo.succ {p : ByteArray → Bool} {l : List ByteArray} {k : Nat} {x : ByteArray} (h : NoneTo p l k) (hx : l[k]? = some x) (hp : p x = false) : NoneTo p l (k + 1) := fun j y hj hy => by
 rcases Nat.lt_or_ge j k with h1 | h1
 ·exact h j y h1 hy
 ·obtain rfl : j = k := by omega
  rw [hx] at hy
  cases hy
  exact hp
theorem idxP_at {p : ByteArray → Bool} {l : List ByteArray} {k : Nat} {x : ByteArray} (h : NoneTo p l k) (hx : l[k]? = some x) (hp : p x = true) : idxP p l = Int.ofNat k := by
 obtain ⟨hk, rfl⟩ := List.getElem?_eq_some_iff.1 hx
 have e : l.findIdx? p = some k := List.findIdx?_eq_some_iff_getElem.2 ⟨hk, hp, fun j hj => by rw [h j _ hj (List.getElem?_eq_getElem (by omega))]; decide⟩
 unfold idxP
 rw [e]
theorem idxP_none {p : ByteArray → Bool} {l : List ByteArray} (h : NoneTo p l l.length) : idxP p l = -1 := by
 have e : l.findIdx? p = none := List.findIdx?_eq_none_iff.2 fun x hx => by
  obtain ⟨j, hj, rfl⟩ := List.mem_iff_getElem.1 hx
  exact h j _ hj (List.getElem?_eq_getElem hj)
 unfold idxP
 rw [e]
theorem idxP_any (p : ByteArray → Bool) (l : List ByteArray) : decide (0 ≤ idxP p l) = l.any p := by
 unfold idxP
 cases e : l.findIdx? p with
 | none =>
  rw [List.findIdx?_eq_none_iff] at e
  have : l.any p = false := by
   rw [List.any_eq_false]
   intro x hx
   rw [e x hx]
   decide
  rw [this]
  rfl
 | some i =>
  rw [List.findIdx?_eq_some_iff_getElem] at e
  obtain ⟨hi, h1, _⟩ := e
  have : l.any p = true := List.any_eq_true.2 ⟨_, List.getElem_mem hi, h1⟩
  rw [this]
  exact decide_eq_true (Int.natCast_nonneg i)
def IndexC : Ctr := spec (fun i : List ByteArray × ByteArray => [.sl 1 (mapA .str i.1), .str i.2]) (fun _ => []) (fun i => i.1.length ≤ 5000) (fun i => .i (idxP (fun x => decide (i.2 = x)) i.1)) fun _ => []
theorem index_body (P : Program) : BodyOk P x208 IndexC := by
 intro args H K hc; obtain ⟨⟨l, s⟩, rfl, rfl, hp, hK⟩ := hc; refine ⟨nb9, ?_⟩; dsimp only at hp hK ⊢
 obtain ⟨p, hpp⟩ : ∃ p : ByteArray → Bool, p = fun x => decide (s = x) := ⟨_, rfl⟩
 rw [← hpp] at hK
 have hpx : ∀ x, p x = decide (s = x) := fun x => by rw [hpp]
 clear hpp
 cbv; repeat' ((first | refine .k fun z hz => ?_ | fail) <;> cbv)
 refine xloopV [] (fun q : { k : Nat // k ≤ l.length ∧ NoneTo p l k } => [(8, .i (nI q.1))]) (fun _ => []) (fun q => lft 5001 q.1) ⟨0, Nat.zero_le _, .zero⟩ ?_
 rintro ⟨k, hk, hn⟩
 dsimp only at hk hn ⊢
 cbv; repeat' ((first | refine .mk (fun h => ?_) fun h => ?_ | fail) <;> cbv)
 ·refine askEl_int om9 om9 fun i x hi hx => ?_
  obtain rfl : k = i := om9
  cbv; repeat' ((first | refine .mk (fun h => ?_) fun h => ?_ | refine .k fun z hz => ?_ | fail) <;> cbv)
  ·exact FinK.mk ⟨_, Gh.refl _, .inl (.v9 (K_i hK (by (rw [idxP_at hn hx ((hpx x).trans (decide_eq_true h))]))))⟩
  ·obtain rfl : z = nI (k + 1) := om9
   exact roundV ⟨k + 1, by exact om9, hn.succ hx ((hpx x).trans (decide_eq_false h))⟩ (lft_lt om9)
 ·obtain rfl : k = l.length := om9
  exact FinK.mk ⟨_, Gh.refl _, .inl (.v9 (K_i hK (by (rw [idxP_none hn]))))⟩
def ContainsC : Ctr := spec (fun i : List ByteArray × ByteArray => [.sl 1 (mapA .str i.1), .str i.2]) (fun _ => []) (fun i => i.1.length ≤ 5000) (fun i => .bl (i.1.any fun x => decide (i.2 = x))) fun _ => []
theorem contains_body (P : Program) (hi : FnOk P 208 IndexC) : BodyOk P x191 ContainsC := by
 intro args H K hc; obtain ⟨⟨l, s⟩, rfl, rfl, hp, hK⟩ := hc; refine ⟨nb9, ?_⟩; dsimp only at hp hK ⊢
 obtain ⟨p, hpp⟩ : ∃ p : ByteArray → Bool, p = fun x => decide (s = x) := ⟨_, rfl⟩
 rw [← hpp, ← idxP_any] at hK
 obtain ⟨e, he⟩ : ∃ e, e = idxP p l := ⟨_, rfl⟩
 rw [← he] at hK
 cbv
 (refine c09 hi (l, s) hp ?_; try dsimp only)
 rw [← hpp, ← he]
 cbv; repeat' ((first | refine .mk (fun h => ?_) fun h => ?_ | fail) <;> cbv)
 ·exact FinK.mk ⟨_, Gh.refl _, .inl (.v9 (K_bl hK (by (rw [decide_eq_true h]))))⟩
 ·exact FinK.mk ⟨_, Gh.refl _, .inl (.v9 (K_bl hK (by (rw [decide_eq_false (by omega)]))))⟩
def CloN (p : ByteArray → Bool) : Ctr := spec (fun s : ByteArray => [.str s]) (fun _ => []) (fun _ => True) (fun s => .bl (p s)) fun _ => []
def IdxFC (f : Nat) (p : ByteArray → Bool) : Ctr := spec (fun l : List ByteArray => [.sl 1 (mapA .str l), .clo f []]) (fun _ => []) (fun l => l.length ≤ 5000) (fun l => .i (idxP p l)) fun _ => []
theorem idxF_body (P : Program) (f : Nat) (p : ByteArray → Bool) (hm : MayCall P f) (hf : FnOk P f (CloN p)) : BodyOk P x189 (IdxFC f p) := by
 intro args H K hc; obtain ⟨l, rfl, rfl, hp, hK⟩ := hc; refine ⟨nb9, ?_⟩; dsimp only at hp hK ⊢
 cbv; repeat' ((first | refine .k fun z hz => ?_ | fail) <;> cbv)
 refine xloopV [] (fun q : { k : Nat // k ≤ l.length ∧ NoneTo p l k } => [(8, .i (nI q.1))]) (fun _ => []) (fun q => lft 5001 q.1) ⟨0, Nat.zero_le _, .zero⟩ ?_
 rintro ⟨k, hk, hn⟩
 dsimp only at hk hn ⊢
 cbv; repeat' ((first | refine .mk (fun h => ?_) fun h => ?_ | fail) <;> cbv)
 ·refine askEl_int om9 om9 fun i x hi hx => ?_
  obtain rfl : k = i := om9
  cbv; repeat' ((first | refine And.intro ?_ ?_ | fail) <;> cbv)
  ·exact hm
  ·obtain ⟨b, hb⟩ : ∃ b, b = p x := ⟨_, rfl⟩
   (refine c09 hf x trivial ?_; try dsimp only)
   rw [← hb]
   cases b with
   | true =>
    cbv
    exact FinK.mk ⟨_, Gh.refl _, .inl (.v9 (K_i hK (by (rw [idxP_at hn hx hb.symm]))))⟩
   | false =>
    cbv; repeat' ((first | refine .k fun z hz => ?_ | fail) <;> cbv)
    obtain rfl : z = nI (k + 1) := om9
    exact roundV ⟨k + 1, by exact om9, hn.succ hx hb.symm⟩ (lft_lt om9)
 ·obtain rfl : k = l.length := om9
  exact FinK.mk ⟨_, Gh.refl _, .inl (.v9 (K_i hK (by (rw [idxP_none hn]))))⟩
def ConFC (f : Nat) (p : ByteArray → Bool) : Ctr := spec (fun l : List ByteArray => [.sl 1 (mapA .str l), .clo f []]) (fun _ => []) (fun l => l.length ≤ 5000) (fun l => .bl (l.any p)) fun _ => []
theorem conF_body (P : Program) (f : Nat) (p : ByteArray → Bool) (hi : FnOk P 189 (IdxFC f p)) : BodyOk P x152 (ConFC f p) := by
 intro args H K hc; obtain ⟨l, rfl, rfl, hp, hK⟩ := hc; refine ⟨nb9, ?_⟩; dsimp only at hp hK ⊢
 rw [← idxP_any] at hK
 obtain ⟨e, he⟩ : ∃ e, e = idxP p l := ⟨_, rfl⟩
 rw [← he] at hK
 cbv
 (refine c09 hi l hp ?_; try dsimp only)
 rw [← he]
 cbv; repeat' ((first | refine .mk (fun h => ?_) fun h => ?_ | fail) <;> cbv)
 ·exact FinK.mk ⟨_, Gh.refl _, .inl (.v9 (K_bl hK (by (rw [decide_eq_true h]))))⟩
 ·exact FinK.mk ⟨_, Gh.refl _, .inl (.v9 (K_bl hK (by (rw [decide_eq_false (by omega)]))))⟩
theorem may1_body (P : Program) (hn : FnOk P 144 (StrC (fun _ => True) nameB)) : BodyOk P x188 (CloN fun s => !nameB s) := by
 intro args H K hc; obtain ⟨s, rfl, rfl, hp, hK⟩ := hc; refine ⟨nb9, ?_⟩; dsimp only at hp hK ⊢
 obtain ⟨b, hb⟩ : ∃ b, b = nameB s := ⟨_, rfl⟩
 rw [← hb] at hK
 cbv
 (refine c09 hn s trivial ?_; try dsimp only)
 rw [← hb]
 cases b with
 | true =>
  cbv
  exact FinK.mk ⟨_, Gh.refl _, .inl (.v9 (K_of hK (by rfl)))⟩
 | false =>
  cbv
  exact FinK.mk ⟨_, Gh.refl _, .inl (.v9 (K_of hK (by rfl)))⟩
def lays190_ren : Go.Shelf.Ren := ⟨fun | 190 => 91 | 125 => 130 | 258 => 129 | 128 => 168 | 129 => 169 | 302 => 159 | 303 => 160 | 304 => 161 | 305 => 162 | 306 => 163 | 307 => 164 | 308 => 165 | 309 => 166 | 310 => 167 | 333 => 192 | 329 => 193 | 330 => 194 | 334 => 195 | 335 => 196 | 336 => 197 | 344 => 209 | n => n, fun | 31 => 56 | 9 => 9 | 3 => 3 | 46 => 226 | 0 => 0 | 51 => 258 | 53 => 260 | 4 => 4 | 183 => 250 | 182 => 249 | 131 => 255 | 5 => 5 | 218 => 274 | 222 => 278 | 228 => 286 | 229 => 287 | n => n, fun | n => n⟩
theorem lays190 : Go.Proofs.Lays.n190 Tryz.prog lays190_ren := {
 mixed := by kernel_rfl
 f125 := Tryz.func130.trans (congrArg some (by kernel_rfl))
 f128 := Tryz.func168.trans (congrArg some (by kernel_rfl))
 f129 := Tryz.func169.trans (congrArg some (by kernel_rfl))
 f190 := Tryz.func91.trans (congrArg some (by kernel_rfl))
 f258 := Tryz.func129.trans (congrArg some (by kernel_rfl))
 f302 := Tryz.func159.trans (congrArg some (by kernel_rfl))
 f303 := Tryz.func160.trans (congrArg some (by kernel_rfl))
 f304 := Tryz.func161.trans (congrArg some (by kernel_rfl))
 f305 := Tryz.func162.trans (congrArg some (by kernel_rfl))
 f306 := Tryz.func163.trans (congrArg some (by kernel_rfl))
 f307 := Tryz.func164.trans (congrArg some (by kernel_rfl))
 f308 := Tryz.func165.trans (congrArg some (by kernel_rfl))
 f309 := Tryz.func166.trans (congrArg some (by kernel_rfl))
 f310 := Tryz.func167.trans (congrArg some (by kernel_rfl))
 f329 := Tryz.func193.trans (congrArg some (by kernel_rfl))
 f330 := Tryz.func194.trans (congrArg some (by kernel_rfl))
 f333 := Tryz.func192.trans (congrArg some (by kernel_rfl))
 f334 := Tryz.func195.trans (congrArg some (by kernel_rfl))
 f335 := Tryz.func196.trans (congrArg some (by kernel_rfl))
 f336 := Tryz.func197.trans (congrArg some (by kernel_rfl))
 f344 := Tryz.func209.trans (congrArg some (by kernel_rfl))
 t0 := Tryz.underlying0
 a0 := Tryz.isAgg0
 z0 := Tryz.sizeOf0
 v0 := Tryz.zeroValue0
 t3 := Tryz.underlying3
 a3 := Tryz.isAgg3
 z3 := Tryz.sizeOf3
 v3 := Tryz.zeroValue3
 t4 := Tryz.underlying4
 a4 := Tryz.isAgg4
 z4 := Tryz.sizeOf4
 v4 := Tryz.zeroValue4
 t5 := Tryz.underlying5
 a5 := Tryz.isAgg5
 z5 := Tryz.sizeOf5
 v5 := Tryz.zeroValue5
 t9 := Tryz.underlying9
 a9 := Tryz.isAgg9
 z9 := Tryz.sizeOf9
 v9 := Tryz.zeroValue9
 t31 := Tryz.underlying56
 a31 := Tryz.isAgg56
 z31 := Tryz.sizeOf56
 v31 := Tryz.zeroValue56
 t46 := Tryz.underlying226
 a46 := Tryz.isAgg226
 z46 := Tryz.sizeOf226
 v46 := Tryz.zeroValue226
 t51 := Tryz.underlying258
 a51 := Tryz.isAgg258
 z51 := Tryz.sizeOf258
 v51 := Tryz.zeroValue258
 t53 := Tryz.underlying260
 a53 := Tryz.isAgg260
 z53 := Tryz.sizeOf260
 v53 := Tryz.zeroValue260
 t131 := Tryz.underlying255
 a131 := Tryz.isAgg255
 z131 := Tryz.sizeOf255
 v131 := Tryz.zeroValue255
 t182 := Tryz.underlying249
 a182 := Tryz.isAgg249
 z182 := Tryz.sizeOf249
 v182 := Tryz.zeroValue249
 t183 := Tryz.underlying250
 a183 := Tryz.isAgg250
 z183 := Tryz.sizeOf250
 v183 := Tryz.zeroValue250
 t218 := Tryz.underlying274
 a218 := Tryz.isAgg274
 z218 := Tryz.sizeOf274
 v218 := Tryz.zeroValue274
 t222 := Tryz.underlying278
 a222 := Tryz.isAgg278
 z222 := Tryz.sizeOf278
 v222 := Tryz.zeroValue278
 t228 := Tryz.underlying286
 a228 := Tryz.isAgg286
 z228 := Tryz.sizeOf286
 v228 := Tryz.zeroValue286
 t229 := Tryz.underlying287
 a229 := Tryz.isAgg287
 z229 := Tryz.sizeOf287
 v229 := Tryz.zeroValue287 }
def toL (s : ByteArray) : List UInt8 := s.data.toList
def ofL (l : List UInt8) : ByteArray := ⟨l.toArray⟩
def sortB (L : List ByteArray) : List ByteArray := ((L.map toL).mergeSort fun x y => decide (x ≤ y)).map ofL
theorem ofL_toL (s : ByteArray) : ofL (toL s) = s := by
 obtain ⟨⟨l⟩⟩ := s
 rfl
theorem str_us {pub : Pub} {w : World} {r : Rho} : ∀ {L : List ByteArray} {us : List Value}, VRels pub w r ((mapA .str L).flatMap AV.cells) us → us = L.map .string
 | [], us, h => h.nil_inv
 | s :: L, us, h => by
  have h' : VRels pub w r (.str s :: (mapA .str L).flatMap AV.cells) us := h
  obtain ⟨us', rfl, h2⟩ := h'.str_inv
  rw [str_us h2]
  rfl
theorem us_str {pub : Pub} {w : World} {r : Rho} : ∀ (L : List ByteArray), VRels pub w r ((mapA .str L).flatMap AV.cells) (L.map .string)
 | [] => ⟨rfl, fun i x u hx _ => by cases hx⟩
 | s :: L => by
  have ih := us_str (pub := pub) (w := w) (r := r) L
  show VRels pub w r (.str s :: (mapA .str L).flatMap AV.cells) (.string s :: L.map .string)
  refine ⟨by rw [List.length_cons, List.length_cons, ih.len], fun i x u hx hu => ?_⟩
  cases i with
  | zero => cases hx; cases hu; exact .str s
  | succ i => exact ih.at_ i x u hx hu
structure SortOk (P : Program) (f : Nat) : Prop where
 out : ∀ (A : Option Addr) (L : List ByteArray) (c : Nat) (w : World) (pub : Pub), L.length ≤ 2000000 → Own w 9 1 A L.length c (L.map .string) → (∀ b ∈ fpo A, pub b = 0) → (∀ b, w.heap.size ≤ b → pub b = 0) →
  Calls P f #[.slice A L.length c] w fun e w' => e = .returned (.tuple #[]) ∧ Fr (fun b => b ∈ fpo A) pub w pub w' ∧ Own w' 9 1 A L.length c ((sortB L).map .string)
theorem sortB_len (L : List ByteArray) : (sortB L).length = L.length := by simp [sortB]
theorem sort_ok : SortOk Tryz.prog 91 := ⟨fun A L c w pub hp ho hpb hfresh => by
 rcases ho.cases_ with ⟨rfl, hl0, rfl, _⟩ | ⟨g, cur, rfl, hb, h1, h2, h3, h4⟩
 ·obtain rfl : L = [] := List.eq_nil_of_length_eq_zero hl0
  refine (Any.slices_Sort_string_none lays190 none 0 w).mono fun e w' h => ?_
  obtain ⟨rfl, rfl⟩ := h
  refine ⟨rfl, .refl _ _ _, ?_⟩
  rw [show sortB [] = [] by simp [sortB]]
  exact ho
 ·have hgp : pub g = 0 := hpb g (by simp)
  have hss : cur.toList.take (L.map toL).length = (L.map toL).map encStr := by
   rw [List.length_map, ← Nat.mul_one L.length, h4, List.map_map]
   refine List.map_congr_left fun s _ => ?_
   show Value.string s = Value.string (ofL (toL s))
   rw [ofL_toL]
  have hblk : g < w.heap.size := hb.lt
  have hlen : L.length = (L.map toL).length := by rw [List.length_map]
  rw [hlen]
  refine (Any.slices_Sort_string lays190 g 0 c (L.map toL) w (holds_of_block hb hss) hblk (by rw [List.length_map]; omega)).mono fun e w' h => ?_
  obtain ⟨rfl, n, os, rfl⟩ := h
  obtain ⟨ts, hts⟩ : ∃ ts, ts = (L.map toL).mergeSort fun x y => decide (x ≤ y) := ⟨_, rfl⟩
  have htl : ts.length = (L.map toL).length := by rw [hts]; simp
  have hso : sortB L = ts.map ofL := by rw [hts]; rfl
  rw [hso, ← hts]
  have hgb := grownBy_sorted (w := w) (g := g) (n := n) (os := os) ts.toArray
  have hh := heap_sorted (n := n) (os := os) ts.toArray hb
  obtain ⟨w', hw'⟩ : ∃ w', w' = Sort.grow (Sort.putRow encStr (Sort.ahead w n) g 0 ts.toArray) os := ⟨_, rfl⟩
  rw [← hw'] at hgb hh ⊢
  obtain ⟨g1, g2, g3, g4, g5⟩ := hgb
  have hkeep : ∀ b, b < w.heap.size → ¬ b = g → w'.heap[b]? = w.heap[b]? := fun b hb hn => g5 b hb fun e => hn (Option.some.inj e)
  have hcell : ∀ b i v, i < pub b → w.cell? ⟨b, i, none⟩ = some v → w'.cell? ⟨b, i, none⟩ = some v := fun b i v hi hv => by
   have hbs : b < w.heap.size := by
    rcases Nat.lt_or_ge b w.heap.size with h | h
    ·exact h
    ·rw [hfresh b h] at hi
     exact absurd hi (Nat.not_lt_zero _)
   have hbg : ¬ b = g := fun e => by
    subst e
    rw [hgp] at hi
    exact absurd hi (Nat.not_lt_zero _)
   have e := hkeep b hbs hbg
   unfold World.cell? at hv ⊢
   dsimp only at hv ⊢
   rw [e]
   exact hv
  refine ⟨rfl, ⟨g1, g2, g3, g4, fun b hb hn => ⟨hkeep b hb fun e => hn (by subst e; simp), rfl⟩, fun _ => Nat.le_refl _, hcell, fun b n hp hn => lenW_of (hkeep b (lenW_lt hn) fun e => by subst e; rw [hgp] at hp; exact absurd hp (Nat.lt_irrefl 0)) hn⟩, ?_⟩
  refine Own.of_blk (cur := Sort.putCells encStr 0 ts.toArray cur) hh (by rw [← hlen]; exact h1) h2 (by simp [Sort.putCells, h3]) ?_
  rw [Nat.mul_one, ← htl, take_putCells _ _ (by rw [htl, List.length_map, h3]; omega), List.map_map]
  rfl⟩
theorem callG_sort {P : Program} {f : Nat} (hs : SortOk P f) (k : Nat) (L : List ByteArray) {keep : List Nat} {st : St} {K : AV → St → Prop} (hk : st.H[k]? = some (.row 9 1 (mapA .str L))) (hl : L.length ≤ 2000000) (hkeep : (keep.all fun j => j != k) = true)
  (hK : K (.tup []) ⟨st.T, st.H.set k (.row 9 1 (mapA .str (sortB L)))⟩) : CallG P keep f [.hd k] st K := by
 refine ⟨fun C a w r pub vals h hv => ?_⟩
 obtain ⟨u, us', hvals, hu, hnil⟩ := hv.cons_inv
 have hn0 := hnil.nil_inv
 subst hn0
 obtain rfl : vals = #[u] := Array.toList_inj.1 (by simpa using hvals)
 have hr : r k = some u := by cases hu with | hd h _ => exact h
 obtain ⟨A, c, us, hrk, ho, hcs, hst, hpb⟩ := h.ent_row hk
 rw [hr] at hrk
 cases hrk
 have hus := str_us hcs
 subst hus
 rw [mapA_len] at ho hr ⊢
 refine (hs.out A L c w pub hl ho hpb h.mod.fresh).mono fun e w' hw => ?_
 obtain ⟨rfl, hf, ho'⟩ := hw
 have hE : ERel pub w' r (some (.slice A (mapA AV.str (sortB L)).length c)) (.row 9 1 (mapA .str (sortB L))) := by
  refine .row (us := (sortB L).map .string) (by rw [mapA_len, sortB_len]; exact ho') (us_str _) (fun x hx => ?_) hpb
  rw [mapA_eq] at hx
  obtain ⟨s, _, rfl⟩ := List.mem_map.1 hx
  exact ⟨rfl, rfl⟩
 rw [mapA_len, sortB_len] at hE
 refine ⟨_, _, _, r, pub, rfl, .tup rfl (fun i x v hx _ => by cases hx), hK, ⟨h.mod.set hr hf (fun b hb => hb) (fun b hb => h.mod.fresh b (Nat.le_trans hf.size hb)) (fun b i hi => ?_) hE, h.own, h.fr.trans hf (fun b hb => h.own k _ hr b hb), h.slots.ext hf.ext, h.defers, h.size, h.stab, ⟨h.low.1, by simpa using h.low.2⟩⟩, hf.ext, fun j hj => ⟨rfl, fun y hy b hb => ?_⟩⟩
 ·obtain ⟨v, hv⟩ := h.mod.there b i hi
  exact ⟨v, hf.ext.cell b i v hi hv⟩
 ·have hjk : j ≠ k := by
   have := List.all_eq_true.1 hkeep j hj
   simpa using this
  exact (hf.keep b (h.mod.foot_lt hy b hb) fun hbA => h.mod.disj j k y _ hjk hy hr b hb hbA).1
theorem sortB_perm {l1 l2 : List ByteArray} (h : l1.Perm l2) : sortB l1 = sortB l2 := by
 unfold sortB
 congr 1
 have ht : ∀ a b c : List UInt8, decide (a ≤ b) = true → decide (b ≤ c) = true → decide (a ≤ c) = true := fun a b c h1 h2 => decide_eq_true (List.le_trans (of_decide_eq_true h1) (of_decide_eq_true h2))
 have hs : ∀ a b : List UInt8, (decide (a ≤ b) || decide (b ≤ a)) = true := fun a b => by
  rcases List.le_total a b with h | h
  ·rw [decide_eq_true h]; rfl
  ·rw [decide_eq_true h]; exact Bool.or_true _
 refine List.Perm.eq_of_pairwise (le := fun a b => decide (a ≤ b) = true) (fun a b _ _ h1 h2 => List.le_antisymm (of_decide_eq_true h1) (of_decide_eq_true h2)) (List.pairwise_mergeSort ht hs _) (List.pairwise_mergeSort ht hs _) ?_
 exact (List.mergeSort_perm _ _).trans ((h.map toL).trans (List.mergeSort_perm _ _).symm)
def gN (p : Br → Bool) (b : Br) : Option ByteArray := bif p b then some b.b.number else none
def numsM (L : List Br) (p : Br → Bool) : List ByteArray := sortB (L.filterMap (gN p))
def seenN (L : List Br) (p : Br → Bool) (seen : List Nat) : List ByteArray := seen.filterMap fun i => L[i]?.bind (gN p)
theorem range_bind {α β : Type} (g : α → Option β) : ∀ L : List α, (List.range L.length).filterMap (fun i => L[i]?.bind g) = L.filterMap g
 | [] => rfl
 | x :: L => by
  rw [List.length_cons, List.range_succ_eq_map, List.filterMap_cons, List.filterMap_map]
  have ih := range_bind g L
  have e : ((fun i => (x :: L)[i]?.bind g) ∘ Nat.succ) = fun i => L[i]?.bind g := by funext i; rfl
  rw [e, ih, List.filterMap_cons]
  rfl
structure SeenOk (L : List Br) (seen : List Nat) : Prop where
 nd : seen.Nodup
 lt : ∀ i ∈ seen, i < L.length
theorem SeenOk.nil {L : List Br} : SeenOk L [] := ⟨.nil, fun i h => by cases h⟩
theorem SeenOk.snoc {L : List Br} {seen : List Nat} {i : Nat} {y : Br} (h : SeenOk L seen) (hy : L[i]? = some y) (hn : i ∉ seen) : SeenOk L (seen ++ [i]) := by
 refine ⟨List.nodup_append.2 ⟨h.nd, List.nodup_cons.2 ⟨by simp, .nil⟩, fun a ha b hb e => ?_⟩, fun j hj => ?_⟩
 ·obtain rfl := List.mem_singleton.1 hb
  subst e
  exact hn ha
 ·rcases List.mem_append.1 hj with h1 | h1
  ·exact h.lt j h1
  ·obtain rfl := List.mem_singleton.1 h1
   exact (List.getElem?_eq_some_iff.1 hy).1
theorem SeenOk.len {L : List Br} {seen : List Nat} (h : SeenOk L seen) : seen.length ≤ L.length := by
 have := h.nd.length_le_of_subset (l₂ := List.range L.length) fun i hi => List.mem_range.2 (h.lt i hi)
 rwa [List.length_range] at this
theorem seenN_len {L : List Br} {p : Br → Bool} {seen : List Nat} (h : SeenOk L seen) : (seenN L p seen).length ≤ L.length := Nat.le_trans (List.length_filterMap_le _ _) h.len
theorem seenN_all {L : List Br} {p : Br → Bool} {seen : List Nat} (h : SeenOk L seen) (hall : ∀ i, i < L.length → i ∈ seen) : sortB (seenN L p seen) = numsM L p := by
 have hp : seen.Perm (List.range L.length) := (List.perm_ext_iff_of_nodup h.nd List.nodup_range).2 fun i => ⟨fun hi => List.mem_range.2 (h.lt i hi), fun hi => hall i (List.mem_range.1 hi)⟩
 unfold numsM
 rw [← range_bind]
 exact sortB_perm (hp.filterMap _)
theorem seenN_yes {L : List Br} {p : Br → Bool} {seen : List Nat} {i : Nat} {y : Br} (hy : L[i]? = some y) (hp : p y = true) : seenN L p (seen ++ [i]) = seenN L p seen ++ [y.b.number] := by
 unfold seenN
 rw [List.filterMap_append]
 congr 1
 rw [List.filterMap_cons, hy]
 unfold gN
 rw [Option.bind_some, hp]
 rfl
theorem seenN_no {L : List Br} {p : Br → Bool} {seen : List Nat} {i : Nat} {y : Br} (hy : L[i]? = some y) (hp : p y = false) : seenN L p (seen ++ [i]) = seenN L p seen := by
 unfold seenN
 rw [List.filterMap_append, List.filterMap_cons, hy]
 unfold gN
 rw [Option.bind_some, hp]
 exact List.append_nil _
theorem entK_in2 {α : Type} {f : α → PEl} {L : List α} {since i : Nat} {seen s : List Nat} {x : AV} {y : α} {K : AV → AV → Prop} (e : s = seen ++ [i]) (hs : since = L.length) (hy : L[i]? = some y) (h : K (f y).1 x) : EntK (mapA f L) [(i, x)] since s K := by
 subst e
 exact entK_in hs hy h
def inB (b : Br) : Prop := chOk b ∧ okB b.b
def CloBW (p : ByteArray → Br → Bool) : Ctr := spec (fun _ : Br × ByteArray => [.ptr 0 0, .ptr 4 0]) (fun i => EntC i.1 ++ [.blk 9 [.str i.2]]) (fun i => inB i.1) (fun i => .bl (p i.2 i.1)) fun i => EntC i.1 ++ [.blk 9 [.str i.2]]
def RegW (i : Rg × ByteArray) : List Ent := RegH i.1 ++ [.blk 9 [.str i.2]]
def NumW (f : Nat) (p : ByteArray → Br → Bool) : Ctr := spec (fun _ : Rg × ByteArray => [.ptr 0 0, .clo f [.ptr 2 0]]) RegW (fun i => i.1.bills.length ≤ 256 ∧ ∀ b ∈ i.1.bills, inB b) (fun i => .sl 1 (mapA .str (numsM i.1.bills (p i.2)))) RegW
theorem numbersW_body (P : Program) (f : Nat) (p : ByteArray → Br → Bool) (hm : MayCall P f) (hf : FnOk P f (CloBW p)) (hs : SortOk P 91) : BodyOk P x69 (NumW f p) := by
 intro args H K hc; obtain ⟨⟨⟨carrier, L⟩, who⟩, rfl, rfl, hp, hK⟩ := hc; refine ⟨nb9, ?_⟩; dsimp only at hp hK ⊢
 obtain ⟨hp, hpb⟩ := hp
 cbv; repeat' ((first | refine .k fun z hz => ?_ | fail) <;> cbv)
 obtain ⟨n, hn⟩ : ∃ n : Nat, n = L.length := ⟨_, rfl⟩
 obtain rfl : z = nI n := om9
 refine xloopG (Gh.adopt 5 9 1 rfl) ?_
 cbv
 refine xloopV [4] (fun q : { q : List Nat × Nat // SeenOk L q.1 ∧ q.2 = q.1.length } => [(5, .hd 4)]) (fun q => [.blk 122 [.str carrier, .ph 1], .pool 120 (mapA PelA L) [], .blk 9 [.str who], .iter (.ph 1) n q.1.1, .row 9 1 (mapA .str (seenN L (p who) q.1.1))]) (fun q => lft 257 q.1.2) ⟨([], 0), .nil, rfl⟩ ?_
 rintro ⟨⟨seen, k⟩, hse, hk⟩
 dsimp only at hse hk ⊢
 have hsl := hse.len
 obtain ⟨rw_, hrw⟩ : ∃ l, l = seenN L (p who) seen := ⟨_, rfl⟩
 have hrl : rw_.length ≤ L.length := by rw [hrw]; exact seenN_len hse
 rw [← hrw]
 cbv
 refine nxtK_in hn (fun i y hy hni => ?_) (fun hall => ?_) <;> dsimp only at *
 ·have hin := hpb y (List.mem_of_getElem? hy)
  have hse2 := hse.snoc hy hni
  obtain ⟨s2, hs2⟩ : ∃ s, s = seen ++ [i] := ⟨_, rfl⟩
  rw [← hs2] at hse2 ⊢
  obtain ⟨b, hb⟩ : ∃ b, b = p who y := ⟨_, rfl⟩
  have hlt : k < 257 := by omega
  have hsk : s2.length = k + 1 := by rw [hs2, hk]; simp
  have hyes := seenN_yes (seen := seen) hy (p := p who)
  have hno := seenN_no (seen := seen) hy (p := p who)
  rw [← hs2, ← hrw, ← hb] at hyes hno
  obtain ⟨⟨nq1, cq1, sq1, frm1, to1, bq1, pq1, iq1, lq1⟩, st1, ⟨sa1, ha1, ca1⟩, ⟨sb1, hb1, cb1⟩, ⟨sc1, hc1, cc1⟩⟩ := y
  dsimp only at hyes hno
  cbv
  refine entK_in2 hs2 hn hy ?_
  cbv; repeat' ((first | refine And.intro ?_ ?_ | fail) <;> cbv)
  ·exact hm
  ·(refine cs9 hf (⟨⟨nq1, cq1, sq1, frm1, to1, bq1, pq1, iq1, lq1⟩, st1, ⟨sa1, ha1, ca1⟩, ⟨sb1, hb1, cb1⟩, ⟨sc1, hc1, cc1⟩⟩, who) [5, 6, 7, 8, 2] hin ?_; try dsimp only)
   rw [← hb]
   cases b with
   | true =>
    have hyes := hyes rfl
    cbv; repeat' ((first | refine .zl fun zs hzs hzl => ?_ | fail) <;> cbv)
    obtain rfl : zs = mapA .str (seenN L (p who) s2) := by (rw [hyes, mapA_app, mapA_one]; exact hzs)
    refine roundG (Gh.back0 1 [5, 6, 7, 8] PelA rfl hy) ?_
    cbv
    exact roundV ⟨(s2, k + 1), hse2, hsk.symm⟩ (lft_lt hlt)
   | false =>
    have hno := hno rfl
    rw [← hno]
    cbv
    refine roundG (Gh.back0 1 [5, 6, 7, 8] PelA rfl hy) ?_
    cbv
    exact roundV ⟨(s2, k + 1), hse2, hsk.symm⟩ (lft_lt hlt)
 ·have hsort := seenN_all (p := p who) hse hall
  rw [← hrw] at hsort
  obtain ⟨l, hl⟩ : ∃ l, l = numsM L (p who) := ⟨_, rfl⟩
  rw [← hl] at hsort hK
  cbv
  refine callG_sort hs 4 rw_ rfl (by omega) (by decide) ?_
  rw [hsort]
  cbv
  (refine .r9 (Gh.plain 4 rfl) ?_; cbv; exact .inl (.g9 hK))
def pBox (box : ByteArray) (b : Br) : Bool := decide (b.st = 0) && b.b.boxes.any fun x => decide (box = x)
theorem box1_body (P : Program) (hc : FnOk P 191 ContainsC) : BodyOk P x190 (CloBW pBox) := by
 intro args H K hc; obtain ⟨⟨y, who⟩, rfl, rfl, hp, hK⟩ := hc; refine ⟨nb9, ?_⟩; dsimp only at hp hK ⊢
 unfold inB at hp
 obtain ⟨hp, hob⟩ := hp
 unfold okB at hob
 unfold pBox at hK
 obtain ⟨q3, hq3⟩ : ∃ q, q = y.b.boxes.any fun x => decide (who = x) := ⟨_, rfl⟩
 rw [← hq3] at hK
 obtain ⟨⟨nq1, cq1, sq1, frm1, to1, bq1, pq1, iq1, lq1⟩, st1, ⟨sa1, ha1, ca1⟩, ⟨sb1, hb1, cb1⟩, ⟨sc1, hc1, cc1⟩⟩ := y
 dsimp only at hK hob hq3
 cbv; repeat' ((first | refine .mk (fun h => ?_) fun h => ?_ | fail) <;> cbv)
 ·(refine c09 hc (bq1, who) (by dsimp only; omega) ?_; try dsimp only)
  rw [← hq3]
  cbv
  (refine .r9 (Gh.refl _) ?_; cbv; exact .inl (.f9 (K_bl hK (by rw [decide_eq_true h]; rfl))))
 ·(refine .r9 (Gh.refl _) ?_; cbv; exact .inl (.f9 (K_bl hK (by rw [decide_eq_false h]; rfl))))
def boxN (L : List Br) (box : ByteArray) : ByteArray × Bool := match numsM L (pBox box) with
 | [] => (⟨⟨[]⟩⟩, false)
 | n :: _ => (n, true)
def BoxC : Ctr := spec (fun i : Rg × ByteArray => [.ptr 0 0, .str i.2]) (fun i => RegH i.1) (fun i => i.1.bills.length ≤ 256 ∧ ∀ b ∈ i.1.bills, inB b) (fun i => SbA (boxN i.1.bills i.2)) fun i => RegH i.1
theorem box_body (P : Program) (hn : FnOk P 69 (NumW 190 pBox)) : BodyOk P x154 BoxC := by
 intro args H K hc; obtain ⟨⟨⟨carrier, L⟩, who⟩, rfl, rfl, hp, hK⟩ := hc; refine ⟨nb9, ?_⟩; dsimp only at hp hK ⊢
 have hd : boxN L who = match numsM L (pBox who) with
  | [] => (⟨⟨[]⟩⟩, false)
  | n :: _ => (n, true) := rfl
 obtain ⟨d, hdd⟩ : ∃ d, d = boxN L who := ⟨_, rfl⟩
 obtain ⟨l, hl⟩ : ∃ l, l = numsM L (pBox who) := ⟨_, rfl⟩
 rw [← hdd] at hK hd
 rw [← hl] at hd
 cbv
 (refine cs9 hn ((⟨carrier, L⟩ : Rg), who) [0, 1, 2] hp ?_; try dsimp only)
 rw [← hl]
 cases l with
 | nil =>
  cbv; repeat' ((first | refine .y fun h => ?_ | refine .k fun z hz => ?_ | fail) <;> cbv)
  obtain rfl := hd
  (refine .r9 (Gh.refl _) ?_; cbv; exact .inl (.f9 hK))
 | cons x l =>
  dsimp only at hd
  obtain rfl := hd
  cbv; repeat' ((first | refine .n fun h => ?_ | refine .k fun z hz => ?_ | fail) <;> cbv)
  refine askEl_some (f := AV.str) (L := x :: l) (i := 0) rfl ?_
  cbv
  (refine .r9 (Gh.refl _) ?_; cbv; exact .inl (.f9 hK))
def setF (s : ByteArray) : AV × AV := (.str s, .bl true)
theorem findA_set (s : ByteArray) : ∀ (L : List ByteArray) (i : Nat), findA (.str s) (mapA setF L) i = some ((atS id L s).map (· + i))
 | [], i => rfl
 | x :: L, i => by
  have e : mapA setF (x :: L) = (.str x, .bl true) :: mapA setF L := rfl
  rw [e]
  unfold findA atS
  rw [List.findIdx?_cons]
  by_cases h : x = s
  ·have h2 : keyIs (.str s) (.str x) = some true := congrArg some ((MapKept.bytes_beq _ _).2 h.symm)
   simp only [h2]
   simp [h]
  ·have h3 : ¬ s = x := fun e => h e.symm
   have h2 : keyIs (.str s) (.str x) = some false := congrArg some (Bool.eq_false_iff.2 fun hb => h3 ((MapKept.bytes_beq _ _).1 hb))
   simp only [h2, findA_set s L (i + 1), h, id, decide_false, Bool.false_eq_true, if_false, Option.map_map, atS]
   congr 1
   cases (L.findIdx? fun a => decide (a = s)) with
   | none => rfl
   | some n => simp; omega
theorem find_set {s : ByteArray} {L : List ByteArray} {K : Option (Nat × AV) → Prop} (hs : ∀ i, atS id L s = some i → K (some (i, .bl true))) (hn : atS id L s = none → K none) : FindK (.str s) (mapA setF L) K := by
 refine ⟨?_⟩
 have hf := findA_set s L 0
 cases h : atS id L s with
 | some i =>
  obtain ⟨y, hy, _⟩ := atS_some h
  exact .inl ⟨i, _, _, by rw [hf, h]; rfl, by rw [mapA_eq, List.getElem?_map, hy]; rfl, hs i h⟩
 | none => exact .inr ⟨by rw [hf, h]; rfl, hn h⟩
def hasB (L : List ByteArray) (s : ByteArray) : Bool := (atS id L s).isSome
def boxGo (ahead : List ByteArray) : List ByteArray → Bool
 | [] => true
 | b :: r => (markB b && !hasB ahead b) && boxGo (ahead ++ [b]) r
theorem boxGo_at {c : List ByteArray} {k : Nat} {b : ByteArray} (hb : c[k]? = some b) : boxGo (c.take k) (c.drop k) = ((markB b && !hasB (c.take k) b) && boxGo (c.take (k + 1)) (c.drop (k + 1))) := by
 obtain ⟨hk, rfl⟩ := List.getElem?_eq_some_iff.1 hb
 rw [List.drop_eq_getElem_cons hk, boxGo, List.take_succ_eq_append_getElem hk]
theorem boxGo_end {c : List ByteArray} {k : Nat} (hk : k = c.length) : boxGo (c.take k) (c.drop k) = true := by
 rw [List.drop_eq_nil_of_le (by omega), boxGo]
def mayB (carrier : ByteArray) : Bl → Bool
 | ⟨number, car, shipper, frm, to, boxes, parents, issued, _⟩ =>
  ((nameB number && nameB shipper) && (nameB frm && nameB to)) && ((decide (car = carrier) && dayB issued) && ((decide (1 ≤ boxes.length ∧ boxes.length ≤ 64 ∧ parents.length ≤ 64)) && (boxGo [] boxes && !(parents.any fun s => !nameB s))))
def MayC : Ctr := spec (fun i : Rg × Bl => [.ptr 0 0, BlA i.2]) (fun i => RegH i.1) (fun i => okB i.2) (fun i => .bl (mayB i.1.carrier i.2)) fun i => RegH i.1
theorem may_body (P : Program) (hn : FnOk P 144 (StrC (fun _ => True) nameB)) (hr : FnOk P 187 (StrC (fun _ => True) markB)) (hd : FnOk P 109 DayC) (hc : FnOk P 152 (ConFC 188 fun s => !nameB s)) : BodyOk P x149 MayC := by
 intro args H K hc; obtain ⟨⟨⟨carrier, L⟩, b⟩, rfl, rfl, hp, hK⟩ := hc; refine ⟨nb9, ?_⟩; dsimp only at hp hK ⊢
 unfold okB at hp
 obtain ⟨nq1, cq1, sq1, frm1, to1, bq1, pq1, iq1, lq1⟩ := b
 obtain ⟨q, hq⟩ : ∃ q, q = mayB carrier ⟨nq1, cq1, sq1, frm1, to1, bq1, pq1, iq1, lq1⟩ := ⟨_, rfl⟩
 rw [← hq] at hK
 unfold mayB at hq
 dsimp only at hq hp
 obtain ⟨n1, hn1⟩ : ∃ q, q = nameB nq1 := ⟨_, rfl⟩
 obtain ⟨n2, hn2⟩ : ∃ q, q = nameB sq1 := ⟨_, rfl⟩
 obtain ⟨n3, hn3⟩ : ∃ q, q = nameB frm1 := ⟨_, rfl⟩
 obtain ⟨n4, hn4⟩ : ∃ q, q = nameB to1 := ⟨_, rfl⟩
 obtain ⟨n5, hn5⟩ : ∃ q, q = dayB iq1 := ⟨_, rfl⟩
 obtain ⟨n6, hn6⟩ : ∃ q, q = (pq1.any fun s => !nameB s) := ⟨_, rfl⟩
 obtain ⟨n7, hn7⟩ : ∃ q, q = boxGo (bq1.take 0) (bq1.drop 0) := ⟨_, rfl⟩
 have hn7' : boxGo [] bq1 = n7 := hn7.symm
 rw [← hn1, ← hn2, ← hn3, ← hn4, ← hn5, ← hn6, hn7'] at hq
 clear hn7'
 cbv
 (refine c09 hn nq1 trivial ?_; try dsimp only)
 rw [← hn1]
 cases n1 with
 | false =>
  cbv
  (refine .r9 (Gh.refl _) ?_; cbv; exact .inl (.f9 (K_bl hK (by rw [hq]; rfl))))
 | true =>
 cbv
 (refine c09 hn sq1 trivial ?_; try dsimp only)
 rw [← hn2]
 cases n2 with
 | false =>
  cbv
  (refine .r9 (Gh.refl _) ?_; cbv; exact .inl (.f9 (K_bl hK (by rw [hq]; rfl))))
 | true =>
 cbv
 (refine c09 hn frm1 trivial ?_; try dsimp only)
 rw [← hn3]
 cases n3 with
 | false =>
  cbv
  (refine .r9 (Gh.refl _) ?_; cbv; exact .inl (.f9 (K_bl hK (by rw [hq]; rfl))))
 | true =>
 cbv
 (refine c09 hn to1 trivial ?_; try dsimp only)
 rw [← hn4]
 cases n4 with
 | false =>
  cbv
  (refine .r9 (Gh.refl _) ?_; cbv; exact .inl (.f9 (K_bl hK (by rw [hq]; rfl))))
 | true =>
 cbv; repeat' ((first | refine .mk (fun h => ?_) fun h => ?_ | fail) <;> cbv)
 rotate_left
 ·(refine .r9 (Gh.refl _) ?_; cbv; exact .inl (.f9 (K_bl hK (by rw [hq, decide_eq_false h]; rfl))))
 ·rw [decide_eq_true h] at hq
  (refine c09 hd iq1 trivial ?_; try dsimp only)
  rw [← hn5]
  cases n5 with
  | false =>
   cbv
   (refine .r9 (Gh.refl _) ?_; cbv; exact .inl (.f9 (K_bl hK (by rw [hq]; rfl))))
  | true =>
  cbv; repeat' ((first | refine .mk (fun h => ?_) fun h => ?_ | refine .k fun z hz => ?_ | fail) <;> cbv)
  ·(refine .r9 (Gh.refl _) ?_; cbv; exact .inl (.f9 (K_bl hK (by rw [hq, decide_eq_false om9]; rfl))))
  ·(refine .r9 (Gh.refl _) ?_; cbv; exact .inl (.f9 (K_bl hK (by rw [hq, decide_eq_false om9]; rfl))))
  ·(refine .r9 (Gh.refl _) ?_; cbv; exact .inl (.f9 (K_bl hK (by rw [hq, decide_eq_false om9]; rfl))))
  ·rw [decide_eq_true om9] at hq
   refine xloopV [] (fun q : { k : Nat // k ≤ bq1.length ∧ n7 = boxGo (bq1.take k) (bq1.drop k) } => [(66, .i (nI q.1))]) (fun q => [.blk 122 [.str carrier, .ph 1], .pool 120 (mapA PelA L) [], .blk 79 [.str nq1, .str cq1, .str sq1, .str frm1, .str to1, .sl 1 (mapA .str bq1), .sl 1 (mapA .str pq1), .i iq1, .bl lq1], .map 70 (mapA setF (bq1.take q.1))]) (fun q => lft 5001 q.1) ⟨0, Nat.zero_le _, hn7⟩ ?_
   rintro ⟨k, hk, hb7⟩
   dsimp only at hk hb7 ⊢
   cbv; repeat' ((first | refine .mk (fun h => ?_) fun h => ?_ | fail) <;> cbv)
   ·refine askEl_int om9 om9 fun i x hi hx => ?_
    obtain rfl : k = i := om9
    have hg := boxGo_at hx
    obtain ⟨m, hm⟩ : ∃ m, m = markB x := ⟨_, rfl⟩
    rw [← hm] at hg
    cbv
    (refine c09 hr x trivial ?_; try dsimp only)
    rw [← hm]
    cases m with
    | false =>
     rw [hb7, hg] at hq
     cbv
     (refine .r9 (Gh.refl _) ?_; cbv; exact .inl (.f9 (K_bl hK (by rw [hq]; rfl))))
    | true =>
     cbv
     refine find_set (fun j hj => ?_) (fun hj => ?_)
     ·have hh : hasB (bq1.take k) x = true := by unfold hasB; rw [hj]; rfl
      rw [hb7, hg, hh] at hq
      cbv
      (refine .r9 (Gh.refl _) ?_; cbv; exact .inl (.f9 (K_bl hK (by rw [hq]; rfl))))
     ·have hh : hasB (bq1.take k) x = false := by unfold hasB; rw [hj]; rfl
      rw [hh] at hg
      cbv
      refine find_set (fun j hj2 => ?_) (fun _ => ?_)
      ·rw [hj] at hj2
       cases hj2
      cbv; repeat' ((first | refine .k fun z hz => ?_ | refine .ms fun ms hms => ?_ | fail) <;> cbv)
      obtain rfl : ms = mapA setF (bq1.take (k + 1)) := by
       rw [take_some hx, mapA_app, mapA_one]
       exact hms
      obtain rfl : z = nI (k + 1) := om9
      exact roundV ⟨k + 1, by exact om9, hb7.trans hg⟩ (lft_lt om9)
   ·obtain rfl : k = bq1.length := om9
    rw [boxGo_end rfl] at hb7
    subst hb7
    (refine c09 hc pq1 om9 ?_; try dsimp only)
    rw [← hn6]
    cases n6 with
    | false =>
     cbv
     (refine .r9 (Gh.refl _) ?_; cbv; exact .inl (.f9 (K_bl hK (by rw [hq]; rfl))))
    | true =>
     cbv
     (refine .r9 (Gh.refl _) ?_; cbv; exact .inl (.f9 (K_bl hK (by rw [hq]; rfl))))
structure Iss where
 R : Rg
 b : Bl
 holder : ByteArray
def IssH (i : Iss) : List Ent := RegH i.R ++ [.blk 45 [.ptr 0 0], .blk 79 (BlL i.b), .blk 9 [.str i.holder]]
structure IssP (i : Iss) : Prop where
 few : i.R.bills.length ≤ 256
 all : ∀ b ∈ i.R.bills, inB b
 ok : okB i.b
def IssC (args : List AV) (p : Iss → Bool) : Ctr := spec (fun _ : Iss => args) IssH IssP (fun i => .bl (p i)) IssH
def i1 (i : Iss) : Bool := !mayB i.R.carrier i.b || !nameB i.holder
def i2 (i : Iss) : Bool := (bAt i.R.bills i.b.number).isSome
def iBox (i : Iss) (box : ByteArray) : Bool := (boxN i.R.bills box).2
def i3 (i : Iss) : Bool := i.b.boxes.any (iBox i)
def i4 (i : Iss) : Bool := decide (256 ≤ i.R.bills.length)
theorem iss1_body (P : Program) (hm : FnOk P 149 MayC) (hn : FnOk P 144 (StrC (fun _ => True) nameB)) : BodyOk P x148 (IssC [.ptr 2 0, .ptr 3 0, .ptr 4 0] i1) := by
 intro args H K hc; obtain ⟨⟨⟨carrier, L⟩, b, holder⟩, rfl, rfl, hp, hK⟩ := hc; refine ⟨nb9, ?_⟩; dsimp only at hp hK ⊢
 obtain ⟨_, _, hok⟩ := hp
 unfold i1 at hK
 dsimp only at hK hok
 obtain ⟨n1, hn1⟩ : ∃ q, q = mayB carrier b := ⟨_, rfl⟩
 obtain ⟨n2, hn2⟩ : ∃ q, q = nameB holder := ⟨_, rfl⟩
 rw [← hn1, ← hn2] at hK
 obtain ⟨nq1, cq1, sq1, frm1, to1, bq1, pq1, iq1, lq1⟩ := b
 cbv
 (refine cs9 hm ((⟨carrier, L⟩ : Rg), ⟨nq1, cq1, sq1, frm1, to1, bq1, pq1, iq1, lq1⟩) [0, 1] hok ?_; try dsimp only)
 rw [← hn1]
 cases n1 with
 | false =>
  cbv
  (refine .r9 (Gh.refl _) ?_; cbv; exact .inl (.f9 hK))
 | true =>
  cbv
  (refine c09 hn holder trivial ?_; try dsimp only)
  rw [← hn2]
  cases n2 with
  | false =>
   cbv
   (refine .r9 (Gh.refl _) ?_; cbv; exact .inl (.f9 hK))
  | true =>
   cbv
   (refine .r9 (Gh.refl _) ?_; cbv; exact .inl (.f9 hK))
theorem iss2_body (P : Program) : BodyOk P x150 (IssC [.ptr 2 0, .ptr 3 0] i2) := by
 intro args H K hc; obtain ⟨⟨⟨carrier, L⟩, b, holder⟩, rfl, rfl, hp, hK⟩ := hc; refine ⟨nb9, ?_⟩; dsimp only at hp hK ⊢
 unfold i2 at hK
 dsimp only at hK
 obtain ⟨n1, hn1⟩ : ∃ q, q = (bAt L b.number).isSome := ⟨_, rfl⟩
 rw [← hn1] at hK
 obtain ⟨nq1, cq1, sq1, frm1, to1, bq1, pq1, iq1, lq1⟩ := b
 cbv
 refine poolK_in (fun b : Br => b.b.number) (fun _ => rfl) (fun i y hai hy hky => ?_) (fun hai => ?_) <;> dsimp only at *
 ·have hn2 : n1 = true := by rw [hn1]; unfold bAt; rw [hai]; rfl
  obtain ⟨⟨nq2, cq2, sq2, frm2, to2, bq2, pq2, iq2, lq2⟩, st2, ⟨sa2, ha2, ca2⟩, ⟨sb2, hb2, cb2⟩, ⟨sc2, hc2, cc2⟩⟩ := y
  cbv
  (refine .r9 (Gh.back0 1 [5, 6, 7, 8] PelA rfl hy) ?_; cbv; exact .inl (.f9 (K_bl hK hn2.symm)))
 ·have hn2 : n1 = false := by rw [hn1]; unfold bAt; rw [hai]; rfl
  cbv
  (refine .r9 (Gh.refl _) ?_; cbv; exact .inl (.f9 (K_bl hK hn2.symm)))
theorem iss31_body (P : Program) (hb : FnOk P 154 BoxC) : BodyOk P x153 (spec (fun i : Iss × ByteArray => [.str i.2, .ptr 2 0]) (fun i => IssH i.1) (fun i => IssP i.1) (fun i => .bl (iBox i.1 i.2)) fun i => IssH i.1) := by
 intro args H K hc; obtain ⟨⟨⟨⟨carrier, L⟩, b, holder⟩, box⟩, rfl, rfl, hp, hK⟩ := hc; refine ⟨nb9, ?_⟩; dsimp only at hp hK ⊢
 obtain ⟨hfew, hall, hok⟩ := hp
 dsimp only at hfew hall
 unfold iBox at hK
 dsimp only at hK
 obtain ⟨⟨s, f⟩, hn1⟩ : ∃ q, q = boxN L box := ⟨_, rfl⟩
 rw [← hn1] at hK
 obtain ⟨nq1, cq1, sq1, frm1, to1, bq1, pq1, iq1, lq1⟩ := b
 cbv
 (refine cs9 hb ((⟨carrier, L⟩ : Rg), box) [0, 1] ⟨hfew, hall⟩ ?_; try dsimp only)
 rw [← hn1]
 cbv
 (refine .r9 (Gh.refl _) ?_; cbv; exact .inl (.f9 hK))
theorem iss4_body (P : Program) : BodyOk P x155 (IssC [.ptr 2 0] i4) := by
 intro args H K hc; obtain ⟨⟨⟨carrier, L⟩, b, holder⟩, rfl, rfl, hp, hK⟩ := hc; refine ⟨nb9, ?_⟩; dsimp only at hp hK ⊢
 unfold i4 at hK
 dsimp only at hK
 obtain ⟨n, hn⟩ : ∃ n : Nat, n = L.length := ⟨_, rfl⟩
 rw [← hn] at hK
 obtain ⟨nq1, cq1, sq1, frm1, to1, bq1, pq1, iq1, lq1⟩ := b
 cbv; repeat' ((first | refine .mk (fun h => ?_) fun h => ?_ | refine .k fun z hz => ?_ | fail) <;> cbv)
 ·(refine .r9 (Gh.refl _) ?_; cbv; exact .inl (.f9 (K_bl hK (decide_eq_true om9).symm)))
 ·(refine .r9 (Gh.refl _) ?_; cbv; exact .inl (.f9 (K_bl hK (decide_eq_false om9).symm)))
def BoxF : Ctr := spec (fun i : Iss × ByteArray => [.str i.2, .ptr 2 0]) (fun i => IssH i.1) (fun i => IssP i.1) (fun i => .bl (iBox i.1 i.2)) fun i => IssH i.1
def IdxIC : Ctr := spec (fun i : Iss => [.sl 1 (mapA .str i.b.boxes), .clo 153 [.ptr 2 0]]) IssH IssP (fun i => .i (idxP (iBox i) i.b.boxes)) IssH
theorem idxI_body (P : Program) (hm : MayCall P 153) (hf : FnOk P 153 BoxF) : BodyOk P x189 IdxIC := by
 intro args H K hc
 obtain ⟨i, rfl, rfl, hp, hK⟩ := hc
 obtain ⟨p, hpp⟩ : ∃ p, p = iBox i := ⟨_, rfl⟩
 have hok := hp.ok
 dsimp only at hK
 rw [← hpp] at hK
 obtain ⟨⟨carrier, L⟩, b, holder⟩ := i
 unfold okB at hok
 obtain ⟨nq1, cq1, sq1, frm1, to1, bq1, pq1, iq1, lq1⟩ := b
 refine ⟨nb9, ?_⟩
 dsimp only at hok hK ⊢
 cbv; repeat' ((first | refine .k fun z hz => ?_ | fail) <;> cbv)
 refine xloopV [] (fun q : { k : Nat // k ≤ bq1.length ∧ NoneTo p bq1 k } => [(8, .i (nI q.1))]) (fun _ => IssH ⟨⟨carrier, L⟩, ⟨nq1, cq1, sq1, frm1, to1, bq1, pq1, iq1, lq1⟩, holder⟩) (fun q => lft 5001 q.1) ⟨0, Nat.zero_le _, .zero⟩ ?_
 rintro ⟨k, hk, hn⟩
 dsimp only at hk hn ⊢
 cbv; repeat' ((first | refine .mk (fun h => ?_) fun h => ?_ | fail) <;> cbv)
 ·refine askEl_int om9 om9 fun j x hi hx => ?_
  obtain rfl : k = j := om9
  cbv; repeat' ((first | refine And.intro ?_ ?_ | fail) <;> cbv)
  ·exact hm
  ·obtain ⟨b, hb⟩ : ∃ b, b = p x := ⟨_, rfl⟩
   (refine cs9 hf ((⟨⟨carrier, L⟩, ⟨nq1, cq1, sq1, frm1, to1, bq1, pq1, iq1, lq1⟩, holder⟩ : Iss), x) [0, 1, 2, 3, 4] hp ?_; try dsimp only)
   rw [← hpp, ← hb]
   cases b with
   | true =>
    cbv
    (refine .r9 (Gh.refl _) ?_; cbv; exact .inl (.f9 (K_i hK (by rw [idxP_at hn hx hb.symm]))))
   | false =>
    cbv; repeat' ((first | refine .k fun z hz => ?_ | fail) <;> cbv)
    obtain rfl : z = nI (k + 1) := om9
    exact roundV ⟨k + 1, by exact om9, hn.succ hx hb.symm⟩ (lft_lt om9)
 ·obtain rfl : k = bq1.length := om9
  (refine .r9 (Gh.refl _) ?_; cbv; exact .inl (.f9 (K_i hK (by rw [idxP_none hn]))))
def ConIC : Ctr := spec (fun i : Iss => [.sl 1 (mapA .str i.b.boxes), .clo 153 [.ptr 2 0]]) IssH IssP (fun i => .bl (i3 i)) IssH
theorem conI_body (P : Program) (hi : FnOk P 189 IdxIC) : BodyOk P x152 ConIC := by
 intro args H K hc
 obtain ⟨i, rfl, rfl, hp, hK⟩ := hc
 unfold i3 at hK
 dsimp only at hK
 rw [← idxP_any] at hK
 obtain ⟨e, he⟩ : ∃ e, e = idxP (iBox i) i.b.boxes := ⟨_, rfl⟩
 rw [← he] at hK
 obtain ⟨⟨carrier, L⟩, b, holder⟩ := i
 obtain ⟨nq1, cq1, sq1, frm1, to1, bq1, pq1, iq1, lq1⟩ := b
 refine ⟨nb9, ?_⟩
 dsimp only at hK ⊢
 cbv
 (refine cs9 hi (⟨⟨carrier, L⟩, ⟨nq1, cq1, sq1, frm1, to1, bq1, pq1, iq1, lq1⟩, holder⟩ : Iss) [0, 1, 2, 3, 4] hp ?_; try dsimp only)
 rw [← he]
 cbv; repeat' ((first | refine .mk (fun h => ?_) fun h => ?_ | fail) <;> cbv)
 ·(refine .r9 (Gh.refl _) ?_; cbv; exact .inl (.f9 (K_bl hK (by rw [decide_eq_true h]))))
 ·(refine .r9 (Gh.refl _) ?_; cbv; exact .inl (.f9 (K_bl hK (by rw [decide_eq_false (by omega)]))))
theorem iss3_body (P : Program) (hc : FnOk P 152 ConIC) : BodyOk P x151 (IssC [.ptr 3 0, .ptr 2 0] i3) := by
 intro args H K hk
 obtain ⟨i, rfl, rfl, hp, hK⟩ := hk
 obtain ⟨q, hq⟩ : ∃ q, q = i3 i := ⟨_, rfl⟩
 dsimp only at hK
 rw [← hq] at hK
 obtain ⟨⟨carrier, L⟩, b, holder⟩ := i
 obtain ⟨nq1, cq1, sq1, frm1, to1, bq1, pq1, iq1, lq1⟩ := b
 refine ⟨nb9, ?_⟩
 dsimp only at hK ⊢
 cbv
 (refine cs9 hc (⟨⟨carrier, L⟩, ⟨nq1, cq1, sq1, frm1, to1, bq1, pq1, iq1, lq1⟩, holder⟩ : Iss) [0, 1, 2, 3, 4] hp ?_; try dsimp only)
 rw [← hq]
 cbv
 (refine .r9 (Gh.refl _) ?_; cbv; exact .inl (.f9 hK))
def issE (i : Iss) : Int := if i1 i then 1 else if i2 i then 5 else if i3 i then 9 else if i4 i then 7 else 0
def IssL : List AV := [.i 1, .clo 148 [.ptr 2 0, .ptr 3 0, .ptr 4 0], .i 5, .clo 150 [.ptr 2 0, .ptr 3 0], .i 9, .clo 151 [.ptr 3 0, .ptr 2 0], .i 7, .clo 155 [.ptr 2 0]]
def FirIH (i : Iss) : List Ent := IssH i ++ [.hrow 210 2 4 IssL]
def FirIC : Ctr := spec (fun _ : Iss => [.hd 5]) FirIH IssP (fun i => .i (issE i)) FirIH
structure IssF (P : Program) : Prop where
 m1 : MayCall P 148
 m2 : MayCall P 150
 m3 : MayCall P 151
 m4 : MayCall P 155
 f1 : FnOk P 148 (IssC [.ptr 2 0, .ptr 3 0, .ptr 4 0] i1)
 f2 : FnOk P 150 (IssC [.ptr 2 0, .ptr 3 0] i2)
 f3 : FnOk P 151 (IssC [.ptr 3 0, .ptr 2 0] i3)
 f4 : FnOk P 155 (IssC [.ptr 2 0] i4)
theorem firstI_body (P : Program) (F : IssF P) : BodyOk P x105 FirIC := by
 intro args H K hc
 obtain ⟨i, rfl, rfl, hp, hK⟩ := hc
 dsimp only at hK
 have he : issE i = if i1 i then 1 else if i2 i then 5 else if i3 i then 9 else if i4 i then 7 else 0 := rfl
 obtain ⟨e, hee⟩ : ∃ e, e = issE i := ⟨_, rfl⟩
 rw [← hee] at hK he
 obtain ⟨q1, hq1⟩ : ∃ q, q = i1 i := ⟨_, rfl⟩
 obtain ⟨q2, hq2⟩ : ∃ q, q = i2 i := ⟨_, rfl⟩
 obtain ⟨q3, hq3⟩ : ∃ q, q = i3 i := ⟨_, rfl⟩
 obtain ⟨q4, hq4⟩ : ∃ q, q = i4 i := ⟨_, rfl⟩
 rw [← hq1, ← hq2, ← hq3, ← hq4] at he
 obtain ⟨⟨carrier, L⟩, b, holder⟩ := i
 obtain ⟨nq1, cq1, sq1, frm1, to1, bq1, pq1, iq1, lq1⟩ := b
 refine ⟨nb9, ?_⟩
 dsimp only at hK ⊢
 cbv
 refine xloopV [] (fun p : { k : Nat // k ≤ 4 ∧ (1 ≤ k → q1 = false) ∧ (2 ≤ k → q2 = false) ∧ (3 ≤ k → q3 = false) ∧ (4 ≤ k → q4 = false) } => [(7, .i (nI p.1))]) (fun _ => FirIH ⟨⟨carrier, L⟩, ⟨nq1, cq1, sq1, frm1, to1, bq1, pq1, iq1, lq1⟩, holder⟩) (fun p => lft 4 p.1) ⟨0, by decide, fun h => absurd h (by decide), fun h => absurd h (by decide), fun h => absurd h (by decide), fun h => absurd h (by decide)⟩ ?_
 rintro ⟨k, hk, g1, g2, g3, g4⟩
 dsimp only at hk g1 g2 g3 g4 ⊢
 have hk4 : k = 0 ∨ k = 1 ∨ k = 2 ∨ k = 3 ∨ k = 4 := by omega
 rcases hk4 with rfl | rfl | rfl | rfl | rfl
 ·cbv; repeat' ((first | refine .y fun h => ?_ | refine .o ?_ | refine And.intro ?_ ?_ | fail) <;> cbv)
  ·exact F.m1
  ·have e0 : True := trivial
   (refine cs9 F.f1 (⟨⟨carrier, L⟩, ⟨nq1, cq1, sq1, frm1, to1, bq1, pq1, iq1, lq1⟩, holder⟩ : Iss) [0, 1, 2, 3, 4] hp ?_; try dsimp only)
   rw [← hq1]
   cases q1 with
   | true =>
    cbv
    (refine .r9 (Gh.refl _) ?_; cbv; exact .inl (.f9 (K_i hK (by rw [he]; rfl))))
   | false =>
    cbv; repeat' ((first | refine .k fun z hz => ?_ | fail) <;> cbv)
    obtain rfl : z = nI 1 := om9
    exact roundV ⟨1, by decide, fun _ => rfl, fun h => absurd h (by decide), fun h => absurd h (by decide), fun h => absurd h (by decide)⟩ (lft_lt (by decide))
 ·cbv; repeat' ((first | refine .y fun h => ?_ | refine .o ?_ | refine And.intro ?_ ?_ | fail) <;> cbv)
  ·exact F.m2
  ·have e0 : True := trivial
   have e1 := g1 (by decide)
   (refine cs9 F.f2 (⟨⟨carrier, L⟩, ⟨nq1, cq1, sq1, frm1, to1, bq1, pq1, iq1, lq1⟩, holder⟩ : Iss) [0, 1, 2, 3, 4] hp ?_; try dsimp only)
   rw [← hq2]
   cases q2 with
   | true =>
    cbv
    (refine .r9 (Gh.refl _) ?_; cbv; exact .inl (.f9 (K_i hK (by rw [he, e1]; rfl))))
   | false =>
    cbv; repeat' ((first | refine .k fun z hz => ?_ | fail) <;> cbv)
    obtain rfl : z = nI 2 := om9
    exact roundV ⟨2, by decide, fun _ => g1 (by decide), fun _ => rfl, fun h => absurd h (by decide), fun h => absurd h (by decide)⟩ (lft_lt (by decide))
 ·cbv; repeat' ((first | refine .y fun h => ?_ | refine .o ?_ | refine And.intro ?_ ?_ | fail) <;> cbv)
  ·exact F.m3
  ·have e0 : True := trivial
   have e1 := g1 (by decide)
   have e2 := g2 (by decide)
   (refine cs9 F.f3 (⟨⟨carrier, L⟩, ⟨nq1, cq1, sq1, frm1, to1, bq1, pq1, iq1, lq1⟩, holder⟩ : Iss) [0, 1, 2, 3, 4] hp ?_; try dsimp only)
   rw [← hq3]
   cases q3 with
   | true =>
    cbv
    (refine .r9 (Gh.refl _) ?_; cbv; exact .inl (.f9 (K_i hK (by rw [he, e1, e2]; rfl))))
   | false =>
    cbv; repeat' ((first | refine .k fun z hz => ?_ | fail) <;> cbv)
    obtain rfl : z = nI 3 := om9
    exact roundV ⟨3, by decide, fun _ => g1 (by decide), fun _ => g2 (by decide), fun _ => rfl, fun h => absurd h (by decide)⟩ (lft_lt (by decide))
 ·cbv; repeat' ((first | refine .y fun h => ?_ | refine .o ?_ | refine And.intro ?_ ?_ | fail) <;> cbv)
  ·exact F.m4
  ·have e0 : True := trivial
   have e1 := g1 (by decide)
   have e2 := g2 (by decide)
   have e3 := g3 (by decide)
   (refine cs9 F.f4 (⟨⟨carrier, L⟩, ⟨nq1, cq1, sq1, frm1, to1, bq1, pq1, iq1, lq1⟩, holder⟩ : Iss) [0, 1, 2, 3, 4] hp ?_; try dsimp only)
   rw [← hq4]
   cases q4 with
   | true =>
    cbv
    (refine .r9 (Gh.refl _) ?_; cbv; exact .inl (.f9 (K_i hK (by rw [he, e1, e2, e3]; rfl))))
   | false =>
    cbv; repeat' ((first | refine .k fun z hz => ?_ | fail) <;> cbv)
    obtain rfl : z = nI 4 := om9
    exact roundV ⟨4, by decide, fun _ => g1 (by decide), fun _ => g2 (by decide), fun _ => g3 (by decide), fun _ => rfl⟩ (lft_lt (by decide))
 ·have e1 := g1 (by decide)
  have e2 := g2 (by decide)
  have e3 := g3 (by decide)
  have e4 := g4 (by decide)
  cbv; repeat' ((first | refine .n fun h => ?_ | fail) <;> cbv)
  (refine .r9 (Gh.refl _) ?_; cbv; exact .inl (.f9 (K_i hK (by rw [he, e1, e2, e3, e4]; rfl))))
theorem finG {M : Nat} {res : List XRes} {K : AV → List Ent → Prop} {st st1 : St} (hg : Gh M st st1) (h : FinK M res K st1) : FinK M res K st := by
 obtain ⟨st', h1, h2⟩ := h
 exact ⟨⟨st', hg.trans h1, h2⟩⟩
theorem pupK_new2 {α : Type} {f : α → PEl} {L : List α} (key : α → ByteArray) (hf : ∀ a, (f a).1 = .str (key a)) {s : ByteArray} {outs : List (Nat × AV)} {v : AV} {K : List PEl → List (Nat × AV) → Prop} (ha : atS key L s = none) (h : ∀ es n, es = mapA f L ++ [(.str s, .any, [])] → n = L.length → K es ((n, v) :: outs)) : PupK (.str s) (mapA f L) outs v K :=
 pupK_new key hf ha (h _ _ rfl rfl)
theorem Gh.backN2 {α : Type} {M : Nat} {st : St} (k : Nat) (sel : List Nat) (f : α → PEl) {L L' : List α} (y : α) {es : List PEl} {n : Nat} {t : TypeId} {x : AV} (hes : es = mapA f L ++ [((f y).1, .any, [])]) (hn : n = L.length) (hL' : L' = L ++ [y]) (hk : st.H[k]? = some (.pool t es [(n, x)]) := by rfl)
  (hx : x = (f y).2.1.ren sel 0 := by rfl) (hH : sel.map (fun q => st.H[q]?) = (renH sel 0 (f y).2.2).map some := by rfl) (hnd : sel.Nodup := by decide) (hsel : sel.all (fun q => Nat.ble M q && q != k) = true := by decide) (hb : (f y).2.1.bnd sel.length = true := by rfl) (hbH : bndH sel.length (f y).2.2 = true := by rfl) (hpl : (f y).2.2.all plainE = true := by rfl) :
  Gh M st ⟨killTs st.T sel, dieH (killHs (st.H.set k (.pool t (mapA f L') [])) sel) sel⟩ := by
 subst hes hn hL'
 exact Gh.backN k sel f y hk rfl hx hH hnd hsel hb hbH hpl
def newM (b : Bl) (holder : ByteArray) : Br := ⟨b, 0, ⟨0, holder, []⟩, ⟨0, holder, []⟩, ⟨0, holder, []⟩⟩
def issM (i : Iss) : Rg := if issE i = 0 then ⟨i.R.carrier, i.R.bills ++ [newM i.b i.holder]⟩ else i.R
def IssueC : Ctr := spec (fun i : Iss => [.ptr 0 0, BlA i.b, .str i.holder]) (fun i => RegH i.R) IssP (fun i => .i (issE i)) fun i => RegH (issM i)
theorem issue_body (P : Program) (hf : FnOk P 105 FirIC) (hcp : FnOk P 54 CopyBC) : BodyOk P x124 IssueC := by
 intro args H K hc
 obtain ⟨i, rfl, rfl, hp, hK⟩ := hc
 dsimp only at hK
 have hok := hp.ok
 obtain ⟨e, he⟩ : ∃ e, e = issE i := ⟨_, rfl⟩
 obtain ⟨R', hR'⟩ : ∃ R', R' = issM i := ⟨_, rfl⟩
 rw [← he, ← hR'] at hK
 unfold issM at hR'
 rw [← he] at hR'
 have hi2 : e = 0 → i2 i = false := fun h => by
  rw [h] at he
  unfold issE at he
  cases h2 : i2 i with
  | false => rfl
  | true =>
   rw [h2] at he
   cases h1 : i1 i with
   | false => rw [h1] at he; simp at he
   | true => rw [h1] at he; simp at he
 obtain ⟨⟨carrier, L⟩, b, holder⟩ := i
 dsimp only at hR' hok
 obtain ⟨nq1, cq1, sq1, frm1, to1, bq1, pq1, iq1, lq1⟩ := b
 refine ⟨nb9, ?_⟩
 dsimp only at hK ⊢
 cbv
 (refine cs9 hf (⟨⟨carrier, L⟩, ⟨nq1, cq1, sq1, frm1, to1, bq1, pq1, iq1, lq1⟩, holder⟩ : Iss) [0, 1, 2, 3, 4, 5] hp ?_; try dsimp only)
 rw [← he]
 cbv; repeat' ((first | refine .mk (fun h => ?_) fun h => ?_ | fail) <;> cbv)
 ·rw [if_pos h] at hR'
  rw [h] at hK
  have hn2 := hi2 h
  unfold i2 at hn2
  dsimp only at hn2
  (refine c09 hcp ⟨nq1, cq1, sq1, frm1, to1, bq1, pq1, iq1, lq1⟩ hok ?_; try dsimp only)
  cbv
  refine xloopV [] (fun p : { k : Nat // k ≤ 3 } => [(27, .i (nI p.1))]) (fun p => [.blk 122 [.str carrier, .ph 1], .pool 120 (mapA PelA L) [], .blk 45 [.ptr 0 0], .blk 79 [.str nq1, .str cq1, .str sq1, .str frm1, .str to1, .sl 1 (mapA .str bq1), .sl 1 (mapA .str pq1), .i iq1, .bl lq1], .blk 9 [.str holder], .hrow 210 2 4 IssL, .blk 127 (pick4 p.1 [.str nq1, .str cq1, .str sq1, .str frm1, .str to1, .sl 1 (mapA .str bq1), .sl 1 (mapA .str pq1), .i iq1, .bl lq1, .i 0, .i 0, .str ⟨⟨[]⟩⟩, .v (.slice none 0 0), .i 0, .str ⟨⟨[]⟩⟩, .v (.slice none 0 0), .i 0, .str ⟨⟨[]⟩⟩, .v (.slice none 0 0)] [.str nq1, .str cq1, .str sq1, .str frm1, .str to1, .sl 1 (mapA .str bq1), .sl 1 (mapA .str pq1), .i iq1, .bl lq1, .i 0, .i 0, .str holder, .v (.slice none 0 0), .i 0, .str ⟨⟨[]⟩⟩, .v (.slice none 0 0), .i 0, .str ⟨⟨[]⟩⟩, .v (.slice none 0 0)] [.str nq1, .str cq1, .str sq1, .str frm1, .str to1, .sl 1 (mapA .str bq1), .sl 1 (mapA .str pq1), .i iq1, .bl lq1, .i 0, .i 0, .str holder, .v (.slice none 0 0), .i 0, .str holder, .v (.slice none 0 0), .i 0, .str ⟨⟨[]⟩⟩, .v (.slice none 0 0)] [.str nq1, .str cq1, .str sq1, .str frm1, .str to1, .sl 1 (mapA .str bq1), .sl 1 (mapA .str pq1), .i iq1, .bl lq1, .i 0, .i 0, .str holder, .v (.slice none 0 0), .i 0, .str holder, .v (.slice none 0 0), .i 0, .str holder, .v (.slice none 0 0)])]) (fun p => lft 3 p.1) ⟨0, by decide⟩ ?_
  rintro ⟨k, hk⟩
  dsimp only at hk ⊢
  have hk4 : k = 0 ∨ k = 1 ∨ k = 2 ∨ k = 3 := by omega
  rcases hk4 with rfl | rfl | rfl | rfl
  ·cbv; repeat' ((first | refine .n fun h => ?_ | refine .y fun h => ?_ | refine .k fun z hz => ?_ | refine .o ?_ | fail) <;> cbv)
   obtain rfl : z = nI 1 := om9
   exact roundV ⟨1, by decide⟩ (lft_lt (by decide))
  ·cbv; repeat' ((first | refine .n fun h => ?_ | refine .y fun h => ?_ | refine .k fun z hz => ?_ | refine .o ?_ | fail) <;> cbv)
   obtain rfl : z = nI 2 := om9
   exact roundV ⟨2, by decide⟩ (lft_lt (by decide))
  ·cbv; repeat' ((first | refine .y fun h => ?_ | refine .k fun z hz => ?_ | refine .o ?_ | fail) <;> cbv)
   obtain rfl : z = nI 3 := om9
   exact roundV ⟨3, by decide⟩ (lft_lt (by decide))
  ·cbv; repeat' ((first | refine .n fun h => ?_ | fail) <;> cbv)
   have hat : atS (fun b : Br => b.b.number) L nq1 = none := by
    cases hx : atS (fun b : Br => b.b.number) L nq1 with
    | none => rfl
    | some j =>
     unfold bAt at hn2
     rw [hx] at hn2
     cases hn2
   refine pupK_new2 (fun b : Br => b.b.number) (fun _ => rfl) hat (fun es n hes hn => ?_)
   cbv
   obtain ⟨L', hL'⟩ : ∃ L', L' = L ++ [(⟨⟨nq1, cq1, sq1, frm1, to1, bq1, pq1, iq1, lq1⟩, 0, ⟨0, holder, []⟩, ⟨0, holder, []⟩, ⟨0, holder, []⟩⟩ : Br)] := ⟨_, rfl⟩
   obtain rfl : R' = ⟨carrier, L'⟩ := by rw [hR', hL']; rfl
   refine finG (Gh.adoptC 6 12 180 4 rfl rfl) ?_
   cbv
   refine finG (Gh.adoptC 6 15 180 4 rfl rfl) ?_
   cbv
   refine finG (Gh.adoptC 6 18 180 4 rfl rfl) ?_
   cbv
   refine finG (Gh.publish 7 rfl) ?_
   cbv
   refine finG (Gh.publish 8 rfl) ?_
   cbv
   refine finG (Gh.publish 9 rfl) ?_
   cbv
   refine finG (Gh.backN2 1 [6, 7, 8, 9] PelA ⟨⟨nq1, cq1, sq1, frm1, to1, bq1, pq1, iq1, lq1⟩, 0, ⟨0, holder, []⟩, ⟨0, holder, []⟩, ⟨0, holder, []⟩⟩ hes hn hL') ?_
   cbv
   (refine .r9 (Gh.refl _) ?_; cbv; exact .inl (.f9 hK))
 ·rw [if_neg h] at hR'
  subst hR'
  (refine .r9 (Gh.refl _) ?_; cbv; exact .inl (.f9 hK))
set_option maxHeartbeats 4000000
def specN {ι κ : Type} (a : ι → List AV) (h : ι → List Ent) (p : ι → Prop) (q : ι → κ → Prop) (r : ι → κ → AV) (h' : ι → κ → List Ent) : Ctr := fun args H K => ∃ i, args = a i ∧ H = h i ∧ p i ∧ ∀ k, q i k → K (r i k) (h' i k)
theorem callG_specN {P : Program} {f : Nat} {ι κ : Type} {a : ι → List AV} {h : ι → List Ent} {p : ι → Prop} {q : ι → κ → Prop} {r : ι → κ → AV} {h' : ι → κ → List Ent} (hf : FnOk P f (specN a h p q r h')) (i : ι) (sel : List Nat) {keep : List Nat} {args : List AV} {st : St} {K : AV → St → Prop}
  (hp : p i) (ha : args = AV.renL sel st.H.length (a i)) (hlen : sel.length = (h i).length) (hnd : sel.Nodup) (hlt : (sel.all fun k => Nat.blt k st.H.length) = true) (hH : sel.map (fun k => st.H[k]?) = (renH sel st.H.length (h i)).map some)
  (hb : AV.bndL (h i).length (a i) = true) (hbH : bndH (h i).length (h i) = true) (hkeep : (keep.all fun k => !sel.contains k && Nat.blt k st.H.length) = true)
  (hK : ∀ k, q i k → K ((r i k).ren sel st.H.length) ⟨killTs st.T (rowIds sel (h i)), putE (killHs st.H (rowIds sel (h i))) sel (renH sel st.H.length (h' i k))⟩) : CallG P keep f args st K :=
 callG_of hf sel ha hlen hnd (fun k hk => by simpa [Nat.blt_eq] using List.all_eq_true.1 hlt k hk) hH hb hbH (fun k hk => by
  have := List.all_eq_true.1 hkeep k hk
  simp only [Bool.and_eq_true, Bool.not_eq_true', Nat.blt_eq] at this
  exact ⟨fun h => by rw [List.contains_eq_mem] at this; simp [h] at this, this.2⟩) ⟨i, rfl, rfl, hp, hK⟩
def NodupN (L : List Br) : Prop := (L.map fun b => b.b.number).Nodup
def seenB (L : List Br) (seen : List Nat) : List Br := seen.filterMap fun i => L[i]?
theorem seenB_snoc {L : List Br} {seen : List Nat} {i : Nat} {y : Br} (hy : L[i]? = some y) : seenB L (seen ++ [i]) = seenB L seen ++ [y] := by
 unfold seenB
 rw [List.filterMap_append, List.filterMap_cons, hy]
 rfl
theorem seenB_all {L : List Br} {seen : List Nat} (h : SeenOk L seen) (hall : ∀ i, i < L.length → i ∈ seen) : (seenB L seen).Perm L := by
 have hp : seen.Perm (List.range L.length) := (List.perm_ext_iff_of_nodup h.nd List.nodup_range).2 fun i => ⟨fun hi => List.mem_range.2 (h.lt i hi), fun hi => hall i (List.mem_range.1 hi)⟩
 have e := range_bind (some : Br → Option Br) L
 have e2 : (fun i : Nat => L[i]?.bind (some : Br → Option Br)) = fun i => L[i]? := by funext i; cases L[i]? <;> rfl
 rw [e2, List.filterMap_some] at e
 have h2 := hp.filterMap fun i => L[i]?
 rw [e] at h2
 exact h2
theorem nodup_inj2 {α : Type} {l : List α} (h : l.Nodup) {i j : Nat} {hi : i < l.length} {hj : j < l.length} (e : l[i] = l[j]) : i = j := by
 rcases Nat.lt_trichotomy i j with h1 | h1 | h1
 ·exact absurd e (List.pairwise_iff_getElem.1 h i j hi hj h1)
 ·exact h1
 ·exact absurd e.symm (List.pairwise_iff_getElem.1 h j i hj hi h1)
theorem seenB_new {L : List Br} {seen : List Nat} {i : Nat} {y : Br} (hn : NodupN L) (hy : L[i]? = some y) (hni : i ∉ seen) : atS (fun b : Br => b.b.number) (seenB L seen) y.b.number = none := by
 cases hx : atS (fun b : Br => b.b.number) (seenB L seen) y.b.number with
 | none => rfl
 | some j =>
  obtain ⟨z, hz, hk⟩ := atS_some hx
  have hm := List.mem_of_getElem? hz
  unfold seenB at hm
  obtain ⟨n, hns, hnz⟩ := List.mem_filterMap.1 hm
  exfalso
  unfold NodupN at hn
  obtain ⟨hi, rfl⟩ := List.getElem?_eq_some_iff.1 hy
  obtain ⟨hj, rfl⟩ := List.getElem?_eq_some_iff.1 hnz
  have e := nodup_inj2 (l := L.map fun b => b.b.number) (i := n) (j := i) (hi := by rw [List.length_map]; exact hj) (hj := by rw [List.length_map]; exact hi) hn (by rw [List.getElem_map, List.getElem_map]; exact hk)
  subst e
  exact hni hns
def RegH2 (R : Rg) (L' : List Br) : List Ent := RegH R ++ [.blk 122 [.str R.carrier, .ph 3], .pool 120 (mapA PelA L') []]
def CopyC : Ctr := specN (fun _ : Rg => [.ptr 0 0]) RegH (fun R => R.bills.length ≤ 256 ∧ (∀ b ∈ R.bills, inB b) ∧ NodupN R.bills) (fun R L' => L'.Perm R.bills) (fun _ _ => .ptr 2 0) RegH2
theorem copy_body (P : Program) (hnew : FnOk P 50 NewC) (hcp : FnOk P 54 CopyBC) (hcl : FnOk P 77 (CloneR 180 4 48)) : BodyOk P x47 CopyC := by
 intro args H K hc; obtain ⟨⟨carrier, L⟩, rfl, rfl, hp, hK⟩ := hc; refine ⟨nb9, ?_⟩; dsimp only at hp hK ⊢
 obtain ⟨hfew, hall, hnd⟩ := hp
 cbv
 (refine cn9 hnew carrier trivial ?_; try dsimp only)
 cbv; repeat' ((first | refine .k fun z hz => ?_ | fail) <;> cbv)
 obtain ⟨n, hn⟩ : ∃ n : Nat, n = L.length := ⟨_, rfl⟩
 obtain rfl : z = nI n := om9
 refine xloopV [] (fun q : { q : List Nat × Nat // SeenOk L q.1 ∧ q.2 = q.1.length } => []) (fun q => [.blk 122 [.str carrier, .ph 1], .pool 120 (mapA PelA L) [], .blk 122 [.str carrier, .ph 3], .pool 120 (mapA PelA (seenB L q.1.1)) [], .iter (.ph 1) n q.1.1]) (fun q => lft 257 q.1.2) ⟨([], 0), .nil, rfl⟩ ?_
 rintro ⟨⟨seen, k⟩, hse, hk⟩
 dsimp only at hse hk ⊢
 have hsl := hse.len
 obtain ⟨L1, hL1⟩ : ∃ l, l = seenB L seen := ⟨_, rfl⟩
 rw [← hL1]
 cbv
 refine nxtK_in hn (fun i y hy hni => ?_) (fun hall => ?_) <;> try dsimp only at *
 ·have hin := hall y (List.mem_of_getElem? hy)
  have hse2 := hse.snoc hy hni
  have hnew1 := seenB_new hnd hy hni
  have hsn := seenB_snoc (seen := seen) hy
  obtain ⟨s2, hs2⟩ : ∃ s, s = seen ++ [i] := ⟨_, rfl⟩
  rw [← hs2] at hse2 hsn ⊢
  rw [← hL1] at hnew1 hsn
  have hlt : k < 257 := by omega
  have hsk : s2.length = k + 1 := by rw [hs2, hk]; simp
  unfold inB okB chOk at hin
  obtain ⟨⟨nq1, cq1, sq1, frm1, to1, bq1, pq1, iq1, lq1⟩, st1, ⟨sa1, ha1, ca1⟩, ⟨sb1, hb1, cb1⟩, ⟨sc1, hc1, cc1⟩⟩ := y
  dsimp only at hin hnew1 hsn
  obtain ⟨⟨hl0, hl1, hl2⟩, hob⟩ := hin
  cbv
  refine entK_in2 hs2 hn hy ?_
  cbv
  (refine c09 hcp ⟨nq1, cq1, sq1, frm1, to1, bq1, pq1, iq1, lq1⟩ hob ?_; try dsimp only)
  cbv
  refine xloopG (Gh.viewE 9 rfl) ?_
  cbv
  refine xloopV [] (fun p : { k : Nat // k ≤ 3 } => [(38, .i (nI p.1))]) (fun p => [.blk 122 [.str carrier, .ph 1], .pool 120 (mapA PelA L) [(i, .ptr 5 0)], .blk 122 [.str carrier, .ph 3], .pool 120 (mapA PelA L1) [], .iter (.ph 1) n s2] ++ renH [] 5 (EntC ⟨⟨nq1, cq1, sq1, frm1, to1, bq1, pq1, iq1, lq1⟩, st1, ⟨sa1, ha1, ca1⟩, ⟨sb1, hb1, cb1⟩, ⟨sc1, hc1, cc1⟩⟩) ++ (pick4 p.1 [.blk 127 [.str nq1, .str cq1, .str sq1, .str frm1, .str to1, .sl 1 (mapA .str bq1), .sl 1 (mapA .str pq1), .i iq1, .bl lq1, .i st1, .i sa1, .str ha1, .sl 4 (mapA EdA ca1), .i sb1, .str hb1, .sl 4 (mapA EdA cb1), .i sc1, .str hc1, .sl 4 (mapA EdA cc1)]] [.blk 127 [.str nq1, .str cq1, .str sq1, .str frm1, .str to1, .sl 1 (mapA .str bq1), .sl 1 (mapA .str pq1), .i iq1, .bl lq1, .i st1, .i sa1, .str ha1, .hd 10, .i sb1, .str hb1, .sl 4 (mapA EdA cb1), .i sc1, .str hc1, .sl 4 (mapA EdA cc1)], .row 180 4 (mapA EdA ca1)] [.blk 127 [.str nq1, .str cq1, .str sq1, .str frm1, .str to1, .sl 1 (mapA .str bq1), .sl 1 (mapA .str pq1), .i iq1, .bl lq1, .i st1, .i sa1, .str ha1, .hd 10, .i sb1, .str hb1, .hd 11, .i sc1, .str hc1, .sl 4 (mapA EdA cc1)], .row 180 4 (mapA EdA ca1), .row 180 4 (mapA EdA cb1)] [.blk 127 [.str nq1, .str cq1, .str sq1, .str frm1, .str to1, .sl 1 (mapA .str bq1), .sl 1 (mapA .str pq1), .i iq1, .bl lq1, .i st1, .i sa1, .str ha1, .hd 10, .i sb1, .str hb1, .hd 11, .i sc1, .str hc1, .hd 12], .row 180 4 (mapA EdA ca1), .row 180 4 (mapA EdA cb1), .row 180 4 (mapA EdA cc1)])) (fun p => lft 3 p.1) ⟨0, by decide⟩ ?_
  rintro ⟨j, hj⟩
  dsimp only at hj ⊢
  have hk4 : j = 0 ∨ j = 1 ∨ j = 2 ∨ j = 3 := by omega
  rcases hk4 with rfl | rfl | rfl | rfl
  ·cbv; repeat' ((first | refine .n fun h => ?_ | refine .y fun h => ?_ | refine .o ?_ | fail) <;> cbv)
   (refine cn9 hcl _ ⟨by rw [mapA_len]; unfold maxLen; omega, by rw [mapA_len]; omega⟩ ?_; try dsimp only)
   cbv; repeat' ((first | refine .n fun h => ?_ | refine .k fun z hz => ?_ | refine .o ?_ | fail) <;> cbv)
   obtain rfl : z = nI 1 := om9
   exact roundV ⟨1, by decide⟩ (lft_lt (by decide))
  ·cbv; repeat' ((first | refine .n fun h => ?_ | refine .y fun h => ?_ | refine .o ?_ | fail) <;> cbv)
   (refine cn9 hcl _ ⟨by rw [mapA_len]; unfold maxLen; omega, by rw [mapA_len]; omega⟩ ?_; try dsimp only)
   cbv; repeat' ((first | refine .n fun h => ?_ | refine .y fun h => ?_ | refine .k fun z hz => ?_ | refine .o ?_ | fail) <;> cbv)
   obtain rfl : z = nI 2 := om9
   exact roundV ⟨2, by decide⟩ (lft_lt (by decide))
  ·cbv; repeat' ((first | refine .y fun h => ?_ | refine .o ?_ | fail) <;> cbv)
   (refine cn9 hcl _ ⟨by rw [mapA_len]; unfold maxLen; omega, by rw [mapA_len]; omega⟩ ?_; try dsimp only)
   cbv; repeat' ((first | refine .y fun h => ?_ | refine .k fun z hz => ?_ | refine .o ?_ | fail) <;> cbv)
   obtain rfl : z = nI 3 := om9
   exact roundV ⟨3, by decide⟩ (lft_lt (by decide))
  ·cbv; repeat' ((first | refine .n fun h => ?_ | fail) <;> cbv)
   refine pupK_new2 (fun b : Br => b.b.number) (fun _ => rfl) hnew1 (fun es n2 hes hn2 => ?_)
   cbv
   refine roundG (Gh.publish 10 rfl) ?_
   cbv
   refine roundG (Gh.publish 11 rfl) ?_
   cbv
   refine roundG (Gh.publish 12 rfl) ?_
   cbv
   refine roundG (Gh.back0 1 [5, 6, 7, 8] PelA rfl hy) ?_
   cbv
   refine roundG (Gh.backN2 3 [9, 10, 11, 12] PelA ⟨⟨nq1, cq1, sq1, frm1, to1, bq1, pq1, iq1, lq1⟩, st1, ⟨sa1, ha1, ca1⟩, ⟨sb1, hb1, cb1⟩, ⟨sc1, hc1, cc1⟩⟩ hes hn2 hsn) ?_
   cbv
   exact roundV ⟨(s2, k + 1), hse2, hsk.symm⟩ (lft_lt hlt)
 ·have hperm : L1.Perm L := by rw [hL1]; exact seenB_all hse ‹∀ i, i < L.length → i ∈ seen›
  cbv
  (refine .r9 (Gh.refl _) ?_; cbv; exact .inl (.f9 (hK L1 hperm)))
set_option maxHeartbeats 2000000
structure At where
 kind : Int
 index : Int
 day : Int
 bill : ByteArray
 by_ : ByteArray
 to : ByteArray
 b : Bl
set_option maxHeartbeats 4000000
def lessB (a b : ByteArray) : Bool := decide (toL a < toL b)
theorem boxN_any (L : List Br) (box : ByteArray) : (boxN L box).2 = L.any (pBox box) := by
 have hl : (numsM L (pBox box)).length = (L.filterMap (gN (pBox box))).length := by unfold numsM; rw [sortB_len]
 have ha : ∀ L : List Br, ((L.filterMap (gN (pBox box))).length = 0) ↔ L.any (pBox box) = false := by
  intro L
  induction L with
  | nil => simp
  | cons x L ih =>
   rw [List.filterMap_cons, List.any_cons]
   unfold gN
   cases hx : pBox box x with
   | true => simp
   | false =>
    unfold gN at ih
    simpa using ih
 unfold boxN
 cases hn : numsM L (pBox box) with
 | nil =>
  rw [hn] at hl
  exact ((ha L).1 hl.symm).symm
 | cons n l =>
  rw [hn] at hl
  cases hb : L.any (pBox box) with
  | true => rfl
  | false =>
   rw [(ha L).2 hb] at hl
   cases hl
def akOf (a : At) : Ak := ⟨a.bill, if a.kind = 5 then -1 else a.index, if a.kind = 1 ∨ a.kind = 5 then -1 else 0, a.by_, if a.kind = 4 then 3 else 0, if a.kind = 3 then 0 else a.day, !decide (a.kind = 3), decide (a.kind = 1) && wrongE a.by_ a.to⟩
open Classical in
open Classical in
open Classical in
def endR (f t : ByteArray) (d : Int) : Og → Og
 | ⟨s, _, c⟩ => ⟨s, t, c ++ [⟨f, t, 0, d⟩]⟩
def actR (a : At) : Br → Br := fun b =>
 if a.kind = 1 then onO a.index (endR a.by_ a.to a.day) b
 else if a.kind = 2 then onO a.index (stO 1) (endM 1 b)
 else if a.kind = 3 then onO a.index (stO 3) b
 else if a.kind = 4 then onO a.index (stO 0) b
 else endM 4 b
def issOf (R : Rg) (a : At) : Iss := ⟨R, a.b, a.to⟩
def doR (R : Rg) (a : At) : Rg × Int :=
 if a.kind = 0 then (issM (issOf R a), issE (issOf R a)) else (⟨R.carrier, actM R.bills (akOf a) (actR a)⟩, askM R.bills (akOf a))
set_option maxHeartbeats 1000000
def lkN (L : List Br) (s : ByteArray) : Option Br := L.find? fun b => decide (b.b.number = s)
theorem bAt_lk (L : List Br) (s : ByteArray) : lkN L s = (bAt L s).bind fun i => L[i]? := by
 unfold lkN bAt atS
 exact List.find?_eq_bind_findIdx?_getElem?
theorem lk_cases (L : List Br) (s : ByteArray) : (∃ i y, bAt L s = some i ∧ L[i]? = some y ∧ lkN L s = some y ∧ y.b.number = s) ∨ (bAt L s = none ∧ lkN L s = none) := by
 have h := bAt_lk L s
 cases hb : bAt L s with
 | none => rw [hb] at h; exact .inr ⟨rfl, h⟩
 | some i =>
  obtain ⟨y, hy, hk⟩ := atS_some hb
  rw [hb] at h
  exact .inl ⟨i, y, rfl, hy, h.trans hy, hk⟩
theorem lk_mem {L : List Br} {s : ByteArray} {y : Br} (h : lkN L s = some y) : y ∈ L ∧ y.b.number = s := ⟨List.mem_of_find?_eq_some h, by unfold lkN at h; have h2 := List.find?_some h; simpa using h2⟩
theorem nodup_eq {L : List Br} (h : NodupN L) {x y : Br} (hx : x ∈ L) (hy : y ∈ L) (e : x.b.number = y.b.number) : x = y := by
 obtain ⟨i, hi, rfl⟩ := List.mem_iff_getElem.1 hx
 obtain ⟨j, hj, rfl⟩ := List.mem_iff_getElem.1 hy
 unfold NodupN at h
 have := nodup_inj2 (l := L.map fun b => b.b.number) (i := i) (j := j) (hi := by rw [List.length_map]; exact hi) (hj := by rw [List.length_map]; exact hj) h (by rw [List.getElem_map, List.getElem_map]; exact e)
 subst this
 rfl
theorem lk_of {L : List Br} (h : NodupN L) {y : Br} {s : ByteArray} (hy : y ∈ L) (hs : y.b.number = s) : lkN L s = some y := by
 cases hl : lkN L s with
 | none =>
  unfold lkN at hl
  rw [List.find?_eq_none] at hl
  exact absurd (decide_eq_true hs) (hl y hy)
 | some x =>
  obtain ⟨h1, h2⟩ := lk_mem hl
  rw [nodup_eq h h1 hy (h2.trans hs.symm)]
theorem nodupN_perm {L L' : List Br} (p : L.Perm L') (h : NodupN L) : NodupN L' := (p.map _).nodup_iff.1 h
theorem lk_perm {L L' : List Br} (p : L.Perm L') (h : NodupN L) (s : ByteArray) : lkN L s = lkN L' s := by
 cases hl : lkN L' s with
 | none =>
  cases hk : lkN L s with
  | none => rfl
  | some y =>
   obtain ⟨h1, h2⟩ := lk_mem hk
   rw [lk_of (nodupN_perm p h) (p.mem_iff.1 h1) h2] at hl
   cases hl
 | some y =>
  obtain ⟨h1, h2⟩ := lk_mem hl
  exact lk_of h (p.mem_iff.2 h1) h2
theorem stateM_lk (L : List Br) (s : ByteArray) : stateM L s = match lkN L s with
  | some b => b.st
  | none => -1 := by
 unfold stateM
 rcases lk_cases L s with ⟨i, y, h1, h2, h3, _⟩ | ⟨h1, h3⟩
 ·rw [h1, h3]; dsimp only; rw [h2]
 ·rw [h1, h3]
theorem getM_lk (L : List Br) (s : ByteArray) : getM L s = match lkN L s with
  | some b => (b.b, true)
  | none => (zeroB, false) := by
 unfold getM
 rcases lk_cases L s with ⟨i, y, h1, h2, h3, _⟩ | ⟨h1, h3⟩
 ·rw [h1, h3]; dsimp only; rw [h2]
 ·rw [h1, h3]
theorem askM_lk (L : List Br) (a : Ak) : askM L a = match lkN L a.bill with
  | some b => askE b a
  | none => 4 := by
 unfold askM
 rcases lk_cases L a.bill with ⟨i, y, h1, h2, h3, _⟩ | ⟨h1, h3⟩
 ·rw [h1, h3]; dsimp only; rw [h2]
 ·rw [h1, h3]
theorem updM_map {L : List Br} (hn : NodupN L) (s : ByteArray) (f : Br → Br) : updM L s f = L.map fun b => if b.b.number = s then f b else b := by
 rcases lk_cases L s with ⟨i, y, h1, h2, h3, h4⟩ | ⟨h1, h3⟩
 ·rw [updM_some f h1 h2]
  refine List.ext_getElem? fun j => ?_
  rw [List.getElem?_set, List.getElem?_map]
  have hi := (List.getElem?_eq_some_iff.1 h2).1
  by_cases hij : i = j
  ·subst hij
   rw [if_pos rfl, if_pos hi, h2, Option.map_some, if_pos h4]
  ·rw [if_neg hij]
   cases hj : L[j]? with
   | none => rfl
   | some z =>
    rw [Option.map_some]
    have : ¬ z.b.number = s := fun e => by
     obtain ⟨hj1, rfl⟩ := List.getElem?_eq_some_iff.1 hj
     obtain ⟨hi1, rfl⟩ := List.getElem?_eq_some_iff.1 h2
     unfold NodupN at hn
     exact hij (nodup_inj2 (l := L.map fun b => b.b.number) (i := i) (j := j) (hi := by rw [List.length_map]; exact hi1) (hj := by rw [List.length_map]; exact hj1) hn (by rw [List.getElem_map, List.getElem_map]; exact h4.trans e.symm))
    rw [if_neg this]
 ·unfold updM
  rw [h1]
  have hne := atS_none h1
  symm
  have : (L.map fun b => if b.b.number = s then f b else b) = L.map id := List.map_congr_left fun b hb => by rw [if_neg (hne b hb)]; rfl
  dsimp only
  rw [this, List.map_id]
structure OgOk (n : Nat) (o : Og) : Prop where
 name : nameB o.holder = true
 len : o.chain.length ≤ n
 kinds : ∀ e ∈ o.chain, e.kind = 0
def liveS (s : Int) : Prop := s = 0 ∨ s = 3
def stOk (st a b c : Int) : Prop := (st = 0 ∧ liveS a ∧ liveS b ∧ liveS c) ∨ (st = 1 ∧ ((a = 1 ∧ b = 2 ∧ c = 2) ∨ (a = 2 ∧ b = 1 ∧ c = 2) ∨ (a = 2 ∧ b = 2 ∧ c = 1))) ∨ (st = 4 ∧ a = 2 ∧ b = 2 ∧ c = 2)
structure BrOk (n : Nat) (c : ByteArray) (b : Br) : Prop where
 may : mayB c b.b = true
 ok : okB b.b
 h0 : OgOk n b.o0
 h1 : OgOk n b.o1
 h2 : OgOk n b.o2
 st : stOk b.st b.o0.state b.o1.state b.o2.state
structure Inv (n : Nat) (R : Rg) : Prop where
 nd : NodupN R.bills
 few : R.bills.length ≤ 256
 all : ∀ b ∈ R.bills, BrOk n R.carrier b
 dis : ∀ b1 ∈ R.bills, ∀ b2 ∈ R.bills, b1.st = 0 → b2.st = 0 → ∀ x ∈ b1.b.boxes, x ∈ b2.b.boxes → b1.b.number = b2.b.number
theorem OgOk.mono {n m : Nat} {o : Og} (h : OgOk n o) (hm : n ≤ m) : OgOk m o := ⟨h.name, Nat.le_trans h.len hm, h.kinds⟩
theorem BrOk.mono {n m : Nat} {c : ByteArray} {b : Br} (h : BrOk n c b) (hm : n ≤ m) : BrOk m c b := ⟨h.may, h.ok, h.h0.mono hm, h.h1.mono hm, h.h2.mono hm, h.st⟩
theorem Inv.mono {n m : Nat} {R : Rg} (h : Inv n R) (hm : n ≤ m) : Inv m R := ⟨h.nd, h.few, fun b hb => (h.all b hb).mono hm, h.dis⟩
theorem Inv.inB {n : Nat} {R : Rg} (h : Inv n R) (hn : n ≤ 4500) : ∀ b ∈ R.bills, inB b := fun b hb => by
 have := h.all b hb
 exact ⟨⟨Nat.le_trans this.h0.len hn, Nat.le_trans this.h1.len hn, Nat.le_trans this.h2.len hn⟩, this.ok⟩
theorem inv_nil (n : Nat) (c : ByteArray) : Inv n ⟨c, []⟩ := ⟨.nil, by simp, fun b hb => (by cases hb), fun b hb => (by cases hb)⟩
structure Done (b : Br) (a : Ak) : Prop where
 ix : a.least ≤ a.index ∧ a.index < 3
 right : a.wrong = false
 day : a.dated = true → dayB a.day = true
 live : b.st = 0
 s3 : some3 a.index b (pState a) = false
 h3 : some3 a.index b (pHolder a) = false
 d3 : a.dated = true → some3 a.index b (pDay b a) = false
theorem done_of {b : Br} {a : Ak} (h : askE b a = 0) : Done b a := by
 have hx := askE_k1 h
 unfold askE at h
 split at h
 ·exact absurd h (by decide)
 split at h
 ·exact absurd h (by decide)
 rename_i h2
 split at h
 ·exact absurd h (by decide)
 rename_i h3
 split at h
 ·exact absurd h (by decide)
 rename_i h4
 split at h
 ·exact absurd h (by decide)
 rename_i h5
 unfold k2 at h2
 unfold k3 at h3
 unfold k4 at h4
 unfold k5 at h5
 simp only [Bool.or_eq_true, not_or, Bool.not_eq_true, Bool.and_eq_true, Bool.not_eq_true', decide_eq_false_iff_not, Decidable.not_not, not_and, Bool.not_eq_false] at h2 h3 h4 h5
 exact ⟨hx, h2.1, fun h => by simpa using h2.2 h, by simpa using h3.1, h3.2, h4, fun h => by simpa using h5 h⟩
theorem some3_hit {idx : Int} {b : Br} {p : Og → Bool} (h : some3 idx b p = false) : (hitB idx 0 = true → p b.o0 = false) ∧ (hitB idx 1 = true → p b.o1 = false) ∧ (hitB idx 2 = true → p b.o2 = false) := by
 unfold some3 at h
 cases h0 : hitB idx 0 <;> cases h1 : hitB idx 1 <;> cases h2 : hitB idx 2 <;> simp [h0, h1, h2] at h ⊢ <;> simp [h]
theorem onO_b (idx : Int) (f : Og → Og) (b : Br) : (onO idx f b).b = b.b ∧ (onO idx f b).st = b.st := by obtain ⟨_, _, _, _, _⟩ := b; exact ⟨rfl, rfl⟩
theorem endM_b (s : Int) (b : Br) : (endM s b).b = b.b ∧ (endM s b).st = s := by obtain ⟨_, _, _, _, _⟩ := b; exact ⟨rfl, rfl⟩
theorem actR_b (a : At) (b : Br) : (actR a b).b = b.b := by
 unfold actR
 split
 ·exact (onO_b _ _ _).1
 split
 ·rw [(onO_b _ _ _).1, (endM_b _ _).1]
 split
 ·exact (onO_b _ _ _).1
 split
 ·exact (onO_b _ _ _).1
 ·exact (endM_b _ _).1
theorem actR_live (a : At) (b : Br) (h : (actR a b).st = 0) : b.st = 0 := by
 unfold actR at h
 split at h
 ·rwa [(onO_b _ _ _).2] at h
 split at h
 ·rw [(onO_b _ _ _).2, (endM_b _ _).2] at h; cases h
 split at h
 ·rwa [(onO_b _ _ _).2] at h
 split at h
 ·rwa [(onO_b _ _ _).2] at h
 ·rw [(endM_b _ _).2] at h; cases h
theorem stO_ok {n : Nat} {s : Int} {o : Og} (h : OgOk n o) : OgOk (n + 1) (stO s o) := by
 obtain ⟨a, b, c⟩ := o
 exact ⟨h.name, Nat.le_succ_of_le h.len, h.kinds⟩
theorem endR_ok {n : Nat} {f t : ByteArray} {d : Int} {o : Og} (h : OgOk n o) (ht : nameB t = true) : OgOk (n + 1) (endR f t d o) := by
 obtain ⟨a, b, c⟩ := o
 refine ⟨ht, ?_, fun e he => ?_⟩
 ·show (c ++ [_]).length ≤ n + 1
  have h1 : c.length ≤ n := h.len
  rw [List.length_append, List.length_singleton]
  omega
 ·rcases List.mem_append.1 he with h1 | h1
  ·exact h.kinds e h1
  ·obtain rfl := List.mem_singleton.1 h1; rfl
theorem wrongE_no {f t : ByteArray} (h : wrongE f t = false) : nameB t = true ∧ ¬ t = f := by
 unfold wrongE at h
 simp only [Bool.or_eq_false_iff, Bool.not_eq_false', decide_eq_false_iff_not] at h
 exact h
theorem actR_ok {n : Nat} {c : ByteArray} {b : Br} {a : At} (h : BrOk n c b) (hk : 1 ≤ a.kind ∧ a.kind ≤ 5) (he : askE b (akOf a) = 0) : BrOk (n + 1) c (actR a b) := by
 have hd := done_of he
 obtain ⟨kind, index, day, bill, by_, to, bb⟩ := a
 obtain ⟨b, st, ⟨s0, y0, c0⟩, ⟨s1, y1, c1⟩, ⟨s2, y2, c2⟩⟩ := b
 obtain ⟨hmay, hok, h0, h1, h2, hst⟩ := h
 obtain ⟨hix, hright, hday, hlive, hs3, hh3, hd3⟩ := hd
 unfold akOf at *
 dsimp only at *
 subst hlive
 have hst : liveS s0 ∧ liveS s1 ∧ liveS s2 := by
  rcases hst with ⟨_, h⟩ | ⟨h, _⟩ | ⟨h, _⟩
  ·exact h
  ·exact absurd h (by decide)
  ·exact absurd h (by decide)
 obtain ⟨t0, t1, t2⟩ := hst
 have g0 := h0.mono (Nat.le_succ n)
 have g1 := h1.mono (Nat.le_succ n)
 have g2 := h2.mono (Nat.le_succ n)
 have hk5 : kind = 1 ∨ kind = 2 ∨ kind = 3 ∨ kind = 4 ∨ kind = 5 := by omega
 rcases hk5 with rfl | rfl | rfl | rfl | rfl
 ·have hw : wrongE by_ to = false := hright
  have hto := (wrongE_no hw).1
  show BrOk (n + 1) c (onO index (endR by_ to day) ⟨b, 0, ⟨s0, y0, c0⟩, ⟨s1, y1, c1⟩, ⟨s2, y2, c2⟩⟩)
  unfold onO
  dsimp only
  cases hitB index 0 <;> cases hitB index 1 <;> cases hitB index 2 <;> exact ⟨hmay, hok, by first | exact g0 | exact endR_ok h0 hto, by first | exact g1 | exact endR_ok h1 hto, by first | exact g2 | exact endR_ok h2 hto, .inl ⟨rfl, t0, t1, t2⟩⟩
 ·have hix : (0 : Int) ≤ index ∧ index < 3 := hix
  show BrOk (n + 1) c (onO index (stO 1) (endM 1 ⟨b, 0, ⟨s0, y0, c0⟩, ⟨s1, y1, c1⟩, ⟨s2, y2, c2⟩⟩))
  have hi3 : index = 0 ∨ index = 1 ∨ index = 2 := by omega
  rcases hi3 with rfl | rfl | rfl
  ·exact ⟨hmay, hok, stO_ok (s := 1) h0, stO_ok (s := 2) h1, stO_ok (s := 2) h2, .inr (.inl ⟨rfl, .inl ⟨rfl, rfl, rfl⟩⟩)⟩
  ·exact ⟨hmay, hok, stO_ok (s := 2) h0, stO_ok (s := 1) h1, stO_ok (s := 2) h2, .inr (.inl ⟨rfl, .inr (.inl ⟨rfl, rfl, rfl⟩)⟩)⟩
  ·exact ⟨hmay, hok, stO_ok (s := 2) h0, stO_ok (s := 2) h1, stO_ok (s := 1) h2, .inr (.inl ⟨rfl, .inr (.inr ⟨rfl, rfl, rfl⟩)⟩)⟩
 ·show BrOk (n + 1) c (onO index (stO 3) ⟨b, 0, ⟨s0, y0, c0⟩, ⟨s1, y1, c1⟩, ⟨s2, y2, c2⟩⟩)
  unfold onO
  dsimp only
  cases hitB index 0 <;> cases hitB index 1 <;> cases hitB index 2 <;> exact ⟨hmay, hok, by first | exact g0 | exact stO_ok (s := 3) h0, by first | exact g1 | exact stO_ok (s := 3) h1, by first | exact g2 | exact stO_ok (s := 3) h2, .inl ⟨rfl, by first | exact t0 | exact .inr rfl, by first | exact t1 | exact .inr rfl, by first | exact t2 | exact .inr rfl⟩⟩
 ·show BrOk (n + 1) c (onO index (stO 0) ⟨b, 0, ⟨s0, y0, c0⟩, ⟨s1, y1, c1⟩, ⟨s2, y2, c2⟩⟩)
  unfold onO
  dsimp only
  cases hitB index 0 <;> cases hitB index 1 <;> cases hitB index 2 <;> exact ⟨hmay, hok, by first | exact g0 | exact stO_ok (s := 0) h0, by first | exact g1 | exact stO_ok (s := 0) h1, by first | exact g2 | exact stO_ok (s := 0) h2, .inl ⟨rfl, by first | exact t0 | exact .inl rfl, by first | exact t1 | exact .inl rfl, by first | exact t2 | exact .inl rfl⟩⟩
 ·exact ⟨hmay, hok, stO_ok (s := 2) h0, stO_ok (s := 2) h1, stO_ok (s := 2) h2, .inr (.inr ⟨rfl, rfl, rfl, rfl⟩)⟩
theorem ask_at {L : List Br} (hn : NodupN L) {a : Ak} (h : askM L a = 0) {b : Br} (hb : b ∈ L) (hs : b.b.number = a.bill) : askE b a = 0 := by
 rw [askM_lk, lk_of hn hb hs] at h
 exact h
theorem actM_map {L : List Br} (hn : NodupN L) (a : Ak) (f : Br → Br) (h : askM L a = 0) : actM L a f = L.map fun b => if b.b.number = a.bill then f b else b := by
 unfold actM
 rw [if_pos h, updM_map hn]
theorem actM_no {L : List Br} (a : Ak) (f : Br → Br) (h : ¬ askM L a = 0) : actM L a f = L := by unfold actM; rw [if_neg h]
theorem inv_act {n : Nat} {R : Rg} (h : Inv n R) {a : At} (hk : 1 ≤ a.kind ∧ a.kind ≤ 5) : Inv (n + 1) ⟨R.carrier, actM R.bills (akOf a) (actR a)⟩ := by
 by_cases h0 : askM R.bills (akOf a) = 0
 ·rw [actM_map h.nd _ _ h0]
  have hnum : ∀ b : Br, (if b.b.number = (akOf a).bill then actR a b else b).b = b.b := fun b => by
   split
   ·exact actR_b a b
   ·rfl
  have hlive : ∀ b : Br, (if b.b.number = (akOf a).bill then actR a b else b).st = 0 → b.st = 0 := fun b => by
   split
   ·exact actR_live a b
   ·exact id
  refine ⟨?_, by rw [List.length_map]; exact h.few, fun b hb => ?_, fun b1 h1 b2 h2 l1 l2 x hx1 hx2 => ?_⟩
  ·unfold NodupN
   rw [List.map_map]
   have e : ((fun b : Br => b.b.number) ∘ fun b => if b.b.number = (akOf a).bill then actR a b else b) = fun b => b.b.number := by funext b; show (ite _ _ _ : Br).b.number = _; rw [hnum]
   rw [e]
   exact h.nd
  ·obtain ⟨y, hy, rfl⟩ := List.mem_map.1 hb
   split
   ·rename_i hs
    exact actR_ok (h.all y hy) hk (ask_at h.nd h0 hy hs)
   ·exact (h.all y hy).mono (Nat.le_succ n)
  ·obtain ⟨y1, hy1, rfl⟩ := List.mem_map.1 h1
   obtain ⟨y2, hy2, rfl⟩ := List.mem_map.1 h2
   rw [hnum] at hx1 hx2 ⊢
   rw [hnum]
   exact h.dis y1 hy1 y2 hy2 (hlive y1 l1) (hlive y2 l2) x hx1 hx2
 ·rw [actM_no _ _ h0]
  exact (h.mono (Nat.le_succ n))
theorem i2_lk (i : Iss) : i2 i = (lkN i.R.bills i.b.number).isSome := by
 unfold i2
 rcases lk_cases i.R.bills i.b.number with ⟨k, y, h1, h2, h3, _⟩ | ⟨h1, h3⟩
 ·rw [h1, h3]; rfl
 ·rw [h1, h3]; rfl
theorem i3_any (i : Iss) : i3 i = i.b.boxes.any fun x => i.R.bills.any (pBox x) := by
 unfold i3
 congr 1
 funext x
 exact boxN_any _ _
theorem iss_facts {i : Iss} (h : issE i = 0) : i1 i = false ∧ i2 i = false ∧ i3 i = false ∧ i4 i = false := by
 unfold issE at h
 split at h
 ·exact absurd h (by decide)
 rename_i h1
 split at h
 ·exact absurd h (by decide)
 rename_i h2
 split at h
 ·exact absurd h (by decide)
 rename_i h3
 split at h
 ·exact absurd h (by decide)
 rename_i h4
 simp only [Bool.not_eq_true] at h1 h2 h3 h4
 exact ⟨h1, h2, h3, h4⟩
theorem issM_yes {i : Iss} (h : issE i = 0) : issM i = ⟨i.R.carrier, i.R.bills ++ [newM i.b i.holder]⟩ := by unfold issM; rw [if_pos h]
theorem issM_no {i : Iss} (h : ¬ issE i = 0) : issM i = i.R := by unfold issM; rw [if_neg h]
theorem pBox_iff (x : ByteArray) (b : Br) : pBox x b = true ↔ b.st = 0 ∧ x ∈ b.b.boxes := by
 unfold pBox
 simp only [Bool.and_eq_true, decide_eq_true_eq, List.any_eq_true]
 constructor
 ·rintro ⟨h1, y, hy, rfl⟩; exact ⟨h1, hy⟩
 ·rintro ⟨h1, h2⟩; exact ⟨h1, x, h2, rfl⟩
theorem inv_iss {n : Nat} {i : Iss} (h : Inv n i.R) (hok : okB i.b) : Inv n (issM i) := by
 by_cases h0 : issE i = 0
 ·obtain ⟨e1, e2, e3, e4⟩ := iss_facts h0
  rw [issM_yes h0]
  unfold i1 at e1
  simp only [Bool.or_eq_false_iff, Bool.not_eq_false'] at e1
  rw [i2_lk] at e2
  have e2 : lkN i.R.bills i.b.number = none := by simpa using e2
  rw [i3_any] at e3
  unfold i4 at e4
  have e4 := of_decide_eq_false e4
  have hbox : ∀ x ∈ i.b.boxes, ∀ b ∈ i.R.bills, b.st = 0 → ¬ x ∈ b.b.boxes := fun x hx b hb hl hin => by
   have h1 := List.any_eq_false.1 e3 x hx
   exact h1 (List.any_eq_true.2 ⟨b, hb, (pBox_iff x b).2 ⟨hl, hin⟩⟩)
  have og : OgOk n ⟨0, i.holder, []⟩ := ⟨e1.2, Nat.zero_le _, fun e he => (by cases he)⟩
  refine ⟨?_, ?_, fun b hb => ?_, fun b1 h1 b2 h2 l1 l2 x hx1 hx2 => ?_⟩
  ·unfold NodupN
   rw [List.map_append, List.nodup_append]
   refine ⟨h.nd, List.nodup_cons.2 ⟨by simp, .nil⟩, fun s hs t ht e => ?_⟩
   obtain rfl := List.mem_singleton.1 ht
   obtain ⟨b, hb, hbs⟩ := List.mem_map.1 hs
   have := lk_of h.nd hb (hbs.trans e)
   exact absurd (e2.symm.trans this) (by simp)
  ·show (i.R.bills ++ [_]).length ≤ 256
   rw [List.length_append, List.length_singleton]
   omega
  ·rcases List.mem_append.1 hb with h1 | h1
   ·exact h.all b h1
   ·obtain rfl := List.mem_singleton.1 h1
    exact ⟨e1.1, hok, og, og, og, .inl ⟨rfl, .inl rfl, .inl rfl, .inl rfl⟩⟩
  ·rcases List.mem_append.1 h1 with g1 | g1 <;> rcases List.mem_append.1 h2 with g2 | g2
   ·exact h.dis b1 g1 b2 g2 l1 l2 x hx1 hx2
   ·obtain rfl := List.mem_singleton.1 g2
    exact absurd hx1 (hbox x hx2 b1 g1 l1)
   ·obtain rfl := List.mem_singleton.1 g1
    exact absurd hx2 (hbox x hx1 b2 g2 l2)
   ·rw [List.mem_singleton.1 g1, List.mem_singleton.1 g2]
 ·rw [issM_no h0]
  exact h
theorem doR_iss {R : Rg} {a : At} (h : a.kind = 0) : doR R a = (issM (issOf R a), issE (issOf R a)) := by unfold doR; rw [if_pos h]
theorem doR_act {R : Rg} {a : At} (h : ¬ a.kind = 0) : doR R a = (⟨R.carrier, actM R.bills (akOf a) (actR a)⟩, askM R.bills (akOf a)) := by unfold doR; rw [if_neg h]
theorem inv_do {n : Nat} {R : Rg} (h : Inv n R) {a : At} (hk : 0 ≤ a.kind ∧ a.kind ≤ 5) (hok : okB a.b) : Inv (n + 1) (doR R a).1 := by
 by_cases h0 : a.kind = 0
 ·rw [doR_iss h0]
  exact (inv_iss (i := issOf R a) h hok).mono (Nat.le_succ n)
 ·rw [doR_act h0]
  exact inv_act h (by omega)
def actP (a : At) : Br → Br := if a.kind = 1 then onO a.index (endF a.by_ a.to a.day) else actR a
def doP (R : Rg) (a : At) : Rg := if a.kind = 0 then issM (issOf R a) else ⟨R.carrier, actM R.bills (akOf a) (actP a)⟩
theorem check_one {f t : ByteArray} {d : Int} (hf : nameB f = true) (ht : nameB t = true) (hn : ¬ t = f) (hd : dayB d = true) : (checkM f [⟨f, t, 0, d⟩]).1 = t := by
 have hm : edMay ⟨f, t, 0, d⟩ = true := by
  unfold dayB at hd
  unfold edMay
  dsimp only
  rw [hf, hd, ht, decide_eq_false hn]
  rfl
 have hw : wrongM f [] ⟨f, t, 0, d⟩ = 0 := by
  unfold wrongM
  dsimp only
  rw [hm]
  have k2 : kindB [] 2 = false := rfl
  have k1 : lateB [] d = false := rfl
  rw [k2, k1]
  simp
 unfold checkM
 rw [hf, if_neg (by decide), chkFrom, if_pos hw, chkFrom]
theorem endF_eq {h f t : ByteArray} {d : Int} {s : Int} {c : List Edm} (he : h = f) (hf : nameB h = true) (ht : nameB t = true) (hn : ¬ t = f) (hd : dayB d = true) : endF f t d ⟨s, h, c⟩ = endR f t d ⟨s, h, c⟩ := by
 subst he
 unfold endF endR
 dsimp only
 rw [check_one hf ht hn hd]
theorem actP_eq {n : Nat} {c : ByteArray} {b : Br} {a : At} (h : BrOk n c b) (he : askE b (akOf a) = 0) : actP a b = actR a b := by
 unfold actP
 split
 ·rename_i hk
  have hd := done_of he
  obtain ⟨kind, index, day, bill, by_, to, bb⟩ := a
  obtain ⟨b, st, ⟨s0, y0, c0⟩, ⟨s1, y1, c1⟩, ⟨s2, y2, c2⟩⟩ := b
  obtain ⟨hmay, hok, h0, h1, h2, hst⟩ := h
  obtain ⟨hix, hright, hday, hlive, hs3, hh3, hd3⟩ := hd
  obtain rfl : kind = 1 := hk
  have hw : wrongE by_ to = false := hright
  obtain ⟨w1, w2⟩ := wrongE_no hw
  have hdy : dayB day = true := hday rfl
  obtain ⟨q0, q1, q2⟩ := some3_hit hh3
  have hpick : ∀ (q : Bool) (s : Int) (y : ByteArray) (c : List Edm), (q = true → pHolder (akOf ⟨1, index, day, bill, by_, to, bb⟩) ⟨s, y, c⟩ = false) → nameB y = true → (bif q then endF by_ to day ⟨s, y, c⟩ else ⟨s, y, c⟩) = (bif q then endR by_ to day ⟨s, y, c⟩ else ⟨s, y, c⟩) := fun q s y c hq hy => by
   cases q with
   | false => rfl
   | true =>
    have h1 := hq rfl
    unfold pHolder at h1
    simp only [Bool.not_eq_false', decide_eq_true_eq] at h1
    exact endF_eq h1 hy w1 w2 hdy
  show onO index (endF by_ to day) ⟨b, st, ⟨s0, y0, c0⟩, ⟨s1, y1, c1⟩, ⟨s2, y2, c2⟩⟩ = onO index (endR by_ to day) ⟨b, st, ⟨s0, y0, c0⟩, ⟨s1, y1, c1⟩, ⟨s2, y2, c2⟩⟩
  have e0 := hpick (hitB index 0) s0 y0 c0 q0 h0.name
  have e1 := hpick (hitB index 1) s1 y1 c1 q1 h1.name
  have e2 := hpick (hitB index 2) s2 y2 c2 q2 h2.name
  unfold onO
  dsimp only
  rw [e0, e1, e2]
 ·rfl
theorem doP_eq {n : Nat} {R : Rg} (h : Inv n R) (a : At) : doP R a = (doR R a).1 := by
 unfold doP
 split
 ·rename_i hk; rw [doR_iss hk]
 ·rename_i hk
  rw [doR_act hk]
  by_cases h0 : askM R.bills (akOf a) = 0
  ·rw [actM_map h.nd _ _ h0, actM_map h.nd _ _ h0]
   congr 1
   refine List.map_congr_left fun b hb => ?_
   split
   ·rename_i hs
    exact actP_eq (h.all b hb) (ask_at h.nd h0 hb hs)
   ·rfl
  ·rw [actM_no _ _ h0, actM_no _ _ h0]
def leB (a b : ByteArray) : Prop := toL a ≤ toL b
theorem leB_trans {a b c : ByteArray} (h : leB a b) (k : leB b c) : leB a c := List.le_trans h k
theorem leB_anti {a b : ByteArray} (h : leB a b) (k : leB b a) : a = b := by
 have := List.le_antisymm h k
 rw [← ofL_toL a, ← ofL_toL b, this]
theorem lessB_yes {a b : ByteArray} (h : lessB a b = true) : leB a b := List.le_of_lt (of_decide_eq_true h)
theorem lessB_no {a b : ByteArray} (h : lessB a b = false) : leB b a := List.not_lt.1 (of_decide_eq_false h)
theorem sortB_sorted (l : List ByteArray) : (sortB l).Pairwise leB := by
 have ht : ∀ a b c : List UInt8, decide (a ≤ b) = true → decide (b ≤ c) = true → decide (a ≤ c) = true := fun a b c h1 h2 => decide_eq_true (List.le_trans (of_decide_eq_true h1) (of_decide_eq_true h2))
 have hs : ∀ a b : List UInt8, (decide (a ≤ b) || decide (b ≤ a)) = true := fun a b => by
  rcases List.le_total a b with h | h
  ·rw [decide_eq_true h]; rfl
  ·rw [decide_eq_true h]; exact Bool.or_true _
 unfold sortB
 rw [List.pairwise_map]
 refine (List.pairwise_mergeSort ht hs (l.map toL)).imp fun {a b} h => ?_
 show toL (ofL a) ≤ toL (ofL b)
 exact of_decide_eq_true h
theorem sortB_mem (l : List ByteArray) : (sortB l).Perm l := by
 unfold sortB
 have h := ((List.mergeSort_perm (l.map toL) fun x y => decide (x ≤ y)).map ofL)
 rw [List.map_map] at h
 have e : (ofL ∘ toL) = id := funext ofL_toL
 rw [e, List.map_id] at h
 exact h
theorem sorted_eq {l m : List ByteArray} (hl : l.Pairwise leB) (hm : m.Pairwise leB) (h : l.Perm m) : l = m := List.Perm.eq_of_pairwise (le := leB) (fun a b _ _ => leB_anti) hl hm h
section
variable {α : Type}
def lkG (key : α → ByteArray) (L : List α) (s : ByteArray) : Option α := L.find? fun b => decide (key b = s)
theorem atS_lkG (key : α → ByteArray) (L : List α) (s : ByteArray) : lkG key L s = (atS key L s).bind fun i => L[i]? := by
 unfold lkG atS
 rw [List.find?_eq_bind_findIdx?_getElem?]
theorem lkG_at {key : α → ByteArray} {L : List α} {s : ByteArray} {i : Nat} {y : α} (h : atS key L s = some i) (hy : L[i]? = some y) : lkG key L s = some y := by
 rw [atS_lkG, h]
 exact hy
theorem lkG_no {key : α → ByteArray} {L : List α} {s : ByteArray} (h : atS key L s = none) : lkG key L s = none := by
 rw [atS_lkG, h]
 rfl
theorem lkG_mem {key : α → ByteArray} {L : List α} {s : ByteArray} {y : α} (h : lkG key L s = some y) : y ∈ L ∧ key y = s := ⟨List.mem_of_find?_eq_some h, by unfold lkG at h; have h2 := List.find?_some h; simpa using h2⟩
theorem lkG_none {key : α → ByteArray} {L : List α} {s : ByteArray} (h : lkG key L s = none) {y : α} (hy : y ∈ L) : key y ≠ s := by
 unfold lkG at h
 rw [List.find?_eq_none] at h
 have := h y hy
 simpa using this
theorem lkG_of {key : α → ByteArray} {L : List α} (h : (L.map key).Nodup) {y : α} {s : ByteArray} (hy : y ∈ L) (hs : key y = s) : lkG key L s = some y := by
 cases hl : lkG key L s with
 | none => exact absurd hs (lkG_none hl hy)
 | some x =>
  obtain ⟨hx, hxs⟩ := lkG_mem hl
  congr 1
  induction L with
  | nil => cases hy
  | cons a L ih =>
   rw [List.map_cons, List.nodup_cons] at h
   rcases List.mem_cons.1 hy with rfl | hy1
   ·rcases List.mem_cons.1 hx with rfl | hx1
    ·rfl
    ·exact absurd (List.mem_map.2 ⟨x, hx1, hxs.trans hs.symm⟩) h.1
   ·rcases List.mem_cons.1 hx with rfl | hx1
    ·exact absurd (List.mem_map.2 ⟨y, hy1, hs.trans hxs.symm⟩) h.1
    ·exact ih h.2 hy1 (by
      cases h3 : lkG key L s with
      | none => exact absurd hs (lkG_none h3 hy1)
      | some z =>
       have : key a ≠ s := fun e => h.1 (List.mem_map.2 ⟨y, hy1, hs.trans e.symm⟩)
       unfold lkG at hl h3
       rw [List.find?_cons_of_neg (by simpa using this)] at hl
       rw [← h3, hl]) hx1
theorem lkG_perm {key : α → ByteArray} {L L' : List α} (p : L.Perm L') (h : (L.map key).Nodup) (s : ByteArray) : lkG key L s = lkG key L' s := by
 have h' : (L'.map key).Nodup := (p.map key).nodup_iff.1 h
 cases hl : lkG key L' s with
 | some y =>
  obtain ⟨hy, hs⟩ := lkG_mem hl
  exact lkG_of h (p.mem_iff.2 hy) hs
 | none =>
  cases hk : lkG key L s with
  | none => rfl
  | some y =>
   obtain ⟨hy, hs⟩ := lkG_mem hk
   exact absurd hs (lkG_none hl (p.mem_iff.1 hy))
theorem lkG_app (key : α → ByteArray) (L M : List α) (s : ByteArray) : lkG key (L ++ M) s = (lkG key L s).or (lkG key M s) := by
 unfold lkG
 rw [List.find?_append]
def updG (key : α → ByteArray) (L : List α) (s : ByteArray) (f : α → α) : List α := L.map fun b => if key b = s then f b else b
theorem updG_keys {key : α → ByteArray} (L : List α) (s : ByteArray) {f : α → α} (hf : ∀ b, key (f b) = key b) : (updG key L s f).map key = L.map key := by
 unfold updG
 rw [List.map_map]
 refine List.map_congr_left fun b _ => ?_
 show key (if key b = s then f b else b) = key b
 split
 ·exact hf b
 ·rfl
theorem lkG_upd {key : α → ByteArray} (L : List α) (s t : ByteArray) {f : α → α} (hf : ∀ b, key (f b) = key b) : lkG key (updG key L s f) t = if t = s then (lkG key L t).map f else lkG key L t := by
 unfold lkG updG
 rw [List.find?_map]
 have e : ((fun b => decide (key b = t)) ∘ fun b => if key b = s then f b else b) = fun b => decide (key b = t) := by
  funext b
  show decide (key (if key b = s then f b else b) = t) = _
  split
  ·rw [hf b]
  ·rfl
 rw [e]
 cases hx : L.find? fun b => decide (key b = t) with
 | none => split <;> rfl
 | some y =>
  have hy : key y = t := by have := List.find?_some hx; simpa using this
  rw [Option.map_some, hy]
  by_cases h : t = s
  ·rw [if_pos h, if_pos h]; rfl
  ·rw [if_neg h, if_neg h]
theorem updG_set {key : α → ByteArray} {L : List α} (h : (L.map key).Nodup) {s : ByteArray} {i : Nat} {y : α} (f : α → α) (hi : atS key L s = some i) (hy : L[i]? = some y) : updG key L s f = L.set i (f y) := by
 obtain ⟨z, hz, hzs⟩ := atS_some hi
 rw [hy] at hz
 cases hz
 obtain ⟨hil, rfl⟩ := List.getElem?_eq_some_iff.1 hy
 unfold updG
 refine List.ext_getElem (by rw [List.length_map, List.length_set]) fun j h1 h2 => ?_
 rw [List.getElem_map, List.getElem_set]
 have hjl : j < L.length := by rw [List.length_set] at h2; exact h2
 by_cases e : i = j
 ·subst e
  rw [if_pos rfl, if_pos hzs]
 ·rw [if_neg e, if_neg fun hk => e ?_]
  have := List.pairwise_iff_getElem.1 h
  rcases Nat.lt_trichotomy i j with h3 | h3 | h3
  ·exact absurd (by rw [List.getElem_map, List.getElem_map, hzs, hk]) (this i j (by rw [List.length_map]; exact hil) (by rw [List.length_map]; exact hjl) h3)
  ·exact h3
  ·exact absurd (by rw [List.getElem_map, List.getElem_map, hzs, hk]) (this j i (by rw [List.length_map]; exact hjl) (by rw [List.length_map]; exact hil) h3)
end
structure Hnd where
 box : ByteArray
 frm : ByteArray
 to : ByteArray
 place : ByteArray
 day : Int
deriving instance DecidableEq for Hnd
structure Bxh where
 box : ByteArray
 hist : List Hnd
def ownM (H : List Hnd) (s : ByteArray) : List Hnd := H.filter fun h => decide (h.box = s)
theorem ownM_snoc (H : List Hnd) (x : Hnd) (s : ByteArray) : ownM (H ++ [x]) s = ownM H s ++ if x.box = s then [x] else [] := by
 unfold ownM
 rw [List.filter_append]
 congr 1
 by_cases h : x.box = s
 ·rw [if_pos h, List.filter_cons_of_pos (by simpa using h)]; rfl
 ·rw [if_neg h, List.filter_cons_of_neg (by simpa using h)]; rfl
structure Cust (L : List Bxh) (H : List Hnd) : Prop where
 nd : (L.map Bxh.box).Nodup
 no : ∀ s, lkG Bxh.box L s = none → ownM H s = []
 yes : ∀ s b, lkG Bxh.box L s = some b → b.hist = ownM H s ∧ ownM H s ≠ []
theorem Cust.nil : Cust [] [] := ⟨.nil, fun _ _ => rfl, fun s b h => by cases h⟩
theorem Cust.perm {L L' : List Bxh} {H : List Hnd} (h : Cust L H) (p : L.Perm L') : Cust L' H :=
 ⟨(p.map _).nodup_iff.1 h.nd, fun s hs => h.no s (by rw [lkG_perm p h.nd]; exact hs), fun s b hs => h.yes s b (by rw [lkG_perm p h.nd]; exact hs)⟩
theorem Cust.begin {L : List Bxh} {H : List Hnd} (h : Cust L H) {x : Hnd} (hn : lkG Bxh.box L x.box = none) : Cust (L ++ [⟨x.box, [x]⟩]) (H ++ [x]) := by
 refine ⟨?_, fun s hs => ?_, fun s b hs => ?_⟩
 ·rw [List.map_append, List.nodup_append]
  refine ⟨h.nd, by simp, fun a ha b hb e => ?_⟩
  subst e
  obtain ⟨y, hy, hya⟩ := List.mem_map.1 ha
  simp only [List.map_cons, List.map_nil, List.mem_singleton] at hb
  exact lkG_none hn hy (hya.trans hb)
 ·rw [lkG_app] at hs
  cases h1 : lkG Bxh.box L s with
  | some y => rw [h1] at hs; cases hs
  | none =>
   rw [h1] at hs
   have hne : ¬ x.box = s := fun e => by
    have : lkG Bxh.box [(⟨x.box, [x]⟩ : Bxh)] s = some ⟨x.box, [x]⟩ := List.find?_cons_of_pos (by simpa using e)
    rw [this] at hs
    cases hs
   rw [ownM_snoc, if_neg hne, h.no s h1]
   rfl
 ·rw [lkG_app] at hs
  cases h1 : lkG Bxh.box L s with
  | some y =>
   rw [h1] at hs
   cases hs
   have hne : ¬ x.box = s := fun e => by rw [e, h1] at hn; cases hn
   rw [ownM_snoc, if_neg hne, List.append_nil]
   exact h.yes s b h1
  | none =>
   rw [h1] at hs
   by_cases e : x.box = s
   ·have : lkG Bxh.box [(⟨x.box, [x]⟩ : Bxh)] s = some ⟨x.box, [x]⟩ := List.find?_cons_of_pos (by simpa using e)
    rw [this] at hs
    cases hs
    rw [ownM_snoc, if_pos e, h.no s h1]
    exact ⟨rfl, by simp⟩
   ·have : lkG Bxh.box [(⟨x.box, [x]⟩ : Bxh)] s = none := by
     unfold lkG
     rw [List.find?_cons_of_neg (by simpa using e)]
     rfl
    rw [this] at hs
    cases hs
def handF (x : Hnd) : Bxh → Bxh := fun b => ⟨b.box, b.hist ++ [x]⟩
theorem handF_box (x : Hnd) (b : Bxh) : (handF x b).box = b.box := rfl
theorem Cust.hand {L : List Bxh} {H : List Hnd} (h : Cust L H) {x : Hnd} {b : Bxh} (hb : lkG Bxh.box L x.box = some b) : Cust (updG Bxh.box L x.box (handF x)) (H ++ [x]) := by
 refine ⟨by rw [updG_keys _ _ (handF_box x)]; exact h.nd, fun s hs => ?_, fun s c hs => ?_⟩
 ·rw [lkG_upd _ _ _ (handF_box x)] at hs
  by_cases e : s = x.box
  ·subst e
   rw [if_pos rfl, hb] at hs
   cases hs
  ·rw [if_neg e] at hs
   rw [ownM_snoc, if_neg (fun h => e h.symm), h.no s hs]
   rfl
 ·rw [lkG_upd _ _ _ (handF_box x)] at hs
  by_cases e : s = x.box
  ·subst e
   rw [if_pos rfl, hb] at hs
   cases hs
   rw [ownM_snoc, if_pos rfl]
   exact ⟨by show b.hist ++ [x] = _; rw [(h.yes _ b hb).1], by simp⟩
  ·rw [if_neg e] at hs
   rw [ownM_snoc, if_neg (fun h => e h.symm), List.append_nil]
   exact h.yes s c hs
def putGo (s : ByteArray) : Bool → List ByteArray → List ByteArray
 | d, [] => if d = true then [] else [s]
 | d, x :: r => (if (!d && !lessB x s) = true then [s] else []) ++ ((if x = s then [] else [x]) ++ putGo s (d || !lessB x s) r)
def putU (l : List ByteArray) (s : ByteArray) : List ByteArray := putGo s false l
def leS (a b : ByteArray) : Prop := leB a b ∧ a ≠ b
theorem putGo_true (s : ByteArray) : ∀ l, putGo s true l = l.filter fun x => !decide (x = s)
 | [] => rfl
 | x :: r => by
  unfold putGo
  rw [show (true || !lessB x s) = true from rfl, putGo_true s r]
  by_cases h : x = s
  ·rw [if_pos h, List.filter_cons_of_neg (by simp [h])]
   rfl
  ·rw [if_neg h, List.filter_cons_of_pos (by simp [h])]
   rfl
theorem putGo_mem (s y : ByteArray) : ∀ (l : List ByteArray) (d : Bool), (d = true → s ∈ l ∨ True) → (y ∈ putGo s d l ↔ (y ∈ l ∧ y ≠ s) ∨ (d = false ∧ y = s))
 | [], d, _ => by
  unfold putGo
  cases d <;> simp
 | x :: r, d, _ => by
  unfold putGo
  cases d with
  | true =>
   rw [show (true || !lessB x s) = true from rfl, putGo_true]
   by_cases h : x = s
   ·subst h
    simp
    exact fun a b => absurd b a
   ·simp [h]
    constructor
    ·rintro (rfl | ⟨a, b⟩)
     ·exact ⟨.inl rfl, h⟩
     ·exact ⟨.inr a, b⟩
    ·rintro ⟨rfl | a, b⟩
     ·exact .inl rfl
     ·exact .inr ⟨a, b⟩
  | false =>
   cases hl : lessB x s with
   | true =>
    rw [show (false || !true) = false from rfl, List.mem_append, List.mem_append, putGo_mem s y r false (fun h => by cases h)]
    have hne : x ≠ s := fun e => by
     subst e
     unfold lessB at hl
     exact absurd (of_decide_eq_true hl) (List.lt_irrefl _)
    rw [if_neg (by simp), if_neg hne]
    simp
    constructor
    ·rintro (rfl | ⟨a, b⟩ | rfl)
     ·exact .inl ⟨.inl rfl, hne⟩
     ·exact .inl ⟨.inr a, b⟩
     ·exact .inr rfl
    ·rintro (⟨rfl | a, b⟩ | rfl)
     ·exact .inl rfl
     ·exact .inr (.inl ⟨a, b⟩)
     ·exact .inr (.inr rfl)
   | false =>
    rw [show (false || !false) = true from rfl, putGo_true, if_pos (by simp)]
    by_cases h : x = s
    ·subst h
     simp
     constructor
     ·rintro (rfl | ⟨a, b⟩)
      ·exact .inr rfl
      ·exact .inl ⟨.inr a, b⟩
     ·rintro (⟨rfl | a, b⟩ | rfl)
      ·exact .inl rfl
      ·exact .inr ⟨a, b⟩
      ·exact .inl rfl
    ·simp [h]
     constructor
     ·rintro (rfl | rfl | ⟨a, b⟩)
      ·exact .inr rfl
      ·exact .inl ⟨.inl rfl, h⟩
      ·exact .inl ⟨.inr a, b⟩
     ·rintro (⟨rfl | a, b⟩ | rfl)
      ·exact .inr (.inl rfl)
      ·exact .inr (.inr ⟨a, b⟩)
      ·exact .inl rfl
theorem putU_mem {l : List ByteArray} {s y : ByteArray} : y ∈ putU l s ↔ y ∈ l ∨ y = s := by
 unfold putU
 rw [putGo_mem s y l false (fun h => by cases h)]
 constructor
 ·rintro (⟨a, _⟩ | ⟨_, a⟩)
  ·exact .inl a
  ·exact .inr a
 ·rintro (a | a)
  ·by_cases h : y = s
   ·exact .inr ⟨rfl, h⟩
   ·exact .inl ⟨a, h⟩
  ·exact .inr ⟨rfl, a⟩
theorem putU_rise {l : List ByteArray} (s : ByteArray) (h : l.Pairwise leS) : (putU l s).Pairwise leS := by
 unfold putU
 induction l with
 | nil => unfold putGo; simp
 | cons x r ih =>
  obtain ⟨h1, h2⟩ := List.pairwise_cons.1 h
  unfold putGo
  cases hl : lessB x s with
  | true =>
   have hne : x ≠ s := fun e => by
    subst e
    unfold lessB at hl
    exact absurd (of_decide_eq_true hl) (List.lt_irrefl _)
   rw [if_neg (by simp), if_neg hne, show (false || !true) = false from rfl, List.nil_append, List.singleton_append, List.pairwise_cons]
   refine ⟨fun y hy => ?_, ih h2⟩
   rcases (putGo_mem s y r false (fun h => by cases h)).1 hy with ⟨a, _⟩ | ⟨_, rfl⟩
   ·exact h1 y a
   ·exact ⟨lessB_yes hl, hne⟩
  | false =>
   rw [if_pos (by simp), show (false || !false) = true from rfl, putGo_true]
   have hsx := lessB_no hl
   have h3 : (r.filter fun y => !decide (y = s)).Pairwise leS := h2.filter _
   by_cases e : x = s
   ·subst e
    rw [if_pos rfl, List.nil_append, List.singleton_append, List.pairwise_cons]
    exact ⟨fun y hy => h1 y ((List.mem_filter.1 hy).1), h3⟩
   ·rw [if_neg e, List.singleton_append, List.singleton_append, List.pairwise_cons, List.pairwise_cons]
    refine ⟨fun y hy => ?_, fun y hy => h1 y ((List.mem_filter.1 hy).1), h3⟩
    rcases List.mem_cons.1 hy with rfl | hy
    ·exact ⟨hsx, fun h => e h.symm⟩
    ·have := (List.mem_filter.1 hy).2
     exact ⟨leB_trans hsx (h1 y ((List.mem_filter.1 hy).1)).1, fun h => by subst h; simp at this⟩
theorem rise_sorted {l : List ByteArray} (h : l.Pairwise leS) : l.Pairwise leB := h.imp And.left
theorem rise_nodup {l : List ByteArray} (h : l.Pairwise leS) : l.Nodup := h.imp And.right
theorem rise_eq {l m : List ByteArray} (hl : l.Pairwise leS) (hm : m.Nodup) (h : ∀ x, x ∈ l ↔ x ∈ m) : l = sortB m := by
 refine sorted_eq (rise_sorted hl) (sortB_sorted m) ?_
 exact ((List.perm_ext_iff_of_nodup (rise_nodup hl) hm).2 h).trans (sortB_mem m).symm
def boxesR (H : List Hnd) : List ByteArray := H.foldl (fun l h => putU l h.box) []
theorem boxesR_go : ∀ (H : List Hnd) (l : List ByteArray), l.Pairwise leS → (H.foldl (fun l h => putU l h.box) l).Pairwise leS ∧ ∀ x, x ∈ H.foldl (fun l h => putU l h.box) l ↔ x ∈ l ∨ ∃ h ∈ H, h.box = x
 | [], l, hl => ⟨hl, fun x => by simp⟩
 | h :: H, l, hl => by
  obtain ⟨h1, h2⟩ := boxesR_go H (putU l h.box) (putU_rise h.box hl)
  refine ⟨h1, fun x => ?_⟩
  rw [List.foldl_cons, h2 x, putU_mem]
  constructor
  ·rintro ((a | rfl) | ⟨k, hk, e⟩)
   ·exact .inl a
   ·exact .inr ⟨h, List.mem_cons_self .., rfl⟩
   ·exact .inr ⟨k, List.mem_cons_of_mem _ hk, e⟩
  ·rintro (a | ⟨k, hk, e⟩)
   ·exact .inl (.inl a)
   ·rcases List.mem_cons.1 hk with rfl | hk
    ·exact .inl (.inr e.symm)
    ·exact .inr ⟨k, hk, e⟩
theorem Cust.mem {L : List Bxh} {H : List Hnd} (h : Cust L H) (x : ByteArray) : x ∈ L.map Bxh.box ↔ ∃ k ∈ H, k.box = x := by
 constructor
 ·intro hx
  obtain ⟨b, hb, rfl⟩ := List.mem_map.1 hx
  obtain ⟨_, h2⟩ := h.yes _ b (lkG_of h.nd hb rfl)
  obtain ⟨k, hk⟩ := List.exists_mem_of_ne_nil _ h2
  unfold ownM at hk
  obtain ⟨h3, h4⟩ := List.mem_filter.1 hk
  exact ⟨k, h3, by simpa using h4⟩
 ·rintro ⟨k, hk, rfl⟩
  cases hl : lkG Bxh.box L k.box with
  | none =>
   have h2 := h.no _ hl
   have : k ∈ ownM H k.box := List.mem_filter.2 ⟨hk, by simp⟩
   rw [h2] at this
   cases this
  | some b =>
   obtain ⟨h1, h2⟩ := lkG_mem hl
   exact List.mem_map.2 ⟨b, h1, h2⟩
theorem Cust.boxes {L : List Bxh} {H : List Hnd} (h : Cust L H) : boxesR H = sortB (L.map Bxh.box) := by
 obtain ⟨h1, h2⟩ := boxesR_go H [] .nil
 refine rise_eq h1 h.nd fun x => ?_
 rw [h.mem x]
 refine (h2 x).trans ?_
 simp
theorem Cust.len {L : List Bxh} {H : List Hnd} (h : Cust L H) : (boxesR H).length = L.length := by
 rw [h.boxes, (sortB_mem _).length_eq, List.length_map]
def begR (H : List Hnd) (x : Hnd) : Int := if (!nameB x.box || !nameB x.to || !nameB x.place) = true then 1 else if (!dayB x.day) = true then 3 else if ownM H x.box ≠ [] then 5 else if 4096 ≤ (boxesR H).length then 7 else 0
def begC (L : List Bxh) (x : Hnd) : Int := if (!nameB x.box || !nameB x.to || !nameB x.place) = true then 1 else if (!dayB x.day) = true then 3 else if (lkG Bxh.box L x.box).isSome = true then 5 else if 4096 ≤ L.length then 7 else 0
theorem Cust.begE {L : List Bxh} {H : List Hnd} (h : Cust L H) (x : Hnd) : begC L x = begR H x := by
 unfold begC begR
 rw [h.len]
 cases hl : lkG Bxh.box L x.box with
 | none => rw [h.no _ hl]; simp
 | some b => simp [(h.yes _ b hl).2]
def wrongH (x : Hnd) : Bool := (!nameB x.box || !nameB x.frm || !nameB x.to || !nameB x.place) || decide (x.frm = x.to)
def lastE (own : List Hnd) (x : Hnd) : Int := match own.getLast? with
 | none => 4
 | some l => if l.to ≠ x.frm then 8 else if x.day < l.day then 6 else if 4096 ≤ own.length then 7 else 0
def handR (H : List Hnd) (x : Hnd) : Int := if wrongH x = true then 1 else if (!dayB x.day) = true then 3 else lastE (ownM H x.box) x
def handC (L : List Bxh) (x : Hnd) : Int := if wrongH x = true then 1 else if (!dayB x.day) = true then 3 else match lkG Bxh.box L x.box with
 | none => 4
 | some b => lastE b.hist x
theorem Cust.handE {L : List Bxh} {H : List Hnd} (h : Cust L H) (x : Hnd) : handC L x = handR H x := by
 unfold handC handR
 cases hl : lkG Bxh.box L x.box with
 | none => rw [h.no _ hl]; rfl
 | some b => dsimp only; rw [(h.yes _ b hl).1]
def eS : ByteArray := ⟨#[]⟩
structure Fdc where
 name : ByteArray
 value : ByteArray
structure Dcc where
 kind : Int
 number : ByteArray
 issuer : ByteArray
 fields : List Fdc
structure Ltr where
 frm : ByteArray
 to : ByteArray
 number : Int
 kind : Int
 ack : Int
 deal : ByteArray
 text : ByteArray
 party : ByteArray
 index : Int
 day : Int
 cur : ByteArray
 amt : Int
 docs : List Dcc
 boxes : List ByteArray
def lt0 : Ltr := ⟨eS, eS, 0, 0, 0, eS, eS, eS, 0, 0, eS, 0, [], []⟩
structure De where
 number : ByteArray
 seller : ByteArray
 buyer : ByteArray
 carrier : ByteArray
 house : ByteArray
 frm : ByteArray
 to : ByteArray
 boxes : List ByteArray
structure Su where
 parties : List ByteArray
 deals : List De
structure Dp where
 number : ByteArray
 seller : ByteArray
 buyer : ByteArray
 house : ByteArray
 frm : ByteArray
 to : ByteArray
 boxes : List ByteArray
 state : Int
 rel : Bool
structure Cr where
 name : ByteArray
 parties : List ByteArray
 deals : List Dp
 reg : Rg
 cust : List Bxh
 deliv : List Hnd
structure Cs where
 S : List Int
 free : List Bool
 reg : Rg
 H : List Hnd
 D : List Hnd
def inT (l : List ByteArray) (s : ByteArray) : Bool := l.any fun q => decide (q = s)
def blS : ByteArray := ⟨#[98, 108, 45]⟩
def billN (n : ByteArray) : ByteArray := blS ++ n
def dpAt (d : De) (st : Int) (fr : Bool) : Dp := ⟨d.number, d.seller, d.buyer, d.house, d.frm, d.to, d.boxes, st, fr⟩
def dealI (s : Su) (name n : ByteArray) : Option Nat := s.deals.findIdx? fun d => decide (d.carrier = name) && decide (d.number = n)
def billD (name : ByteArray) (d : Dp) (day : Int) : Bl := ⟨billN d.number, name, d.seller, d.frm, d.to, d.boxes, [], day, true⟩
def handD (frm to place : ByteArray) (day : Int) (b : ByteArray) : Hnd := ⟨b, frm, to, place, day⟩
def stampL (n : ByteArray) (day : Int) (l : List Ltr) : List Ltr := l.map fun x => { x with deal := n, day := day }
def updD (C : Cr) (n : ByteArray) (f : Dp → Dp) : Cr := { C with deals := updG Dp.number C.deals n f }
def stD (st : Int) (d : Dp) : Dp := { d with state := st }
def relD (d : Dp) : Dp := { d with rel := true }
def shipGo (name : ByteArray) (d : Dp) (day : Int) : List Bxh → List ByteArray → Option (List Bxh)
 | L, [] => some L
 | L, b :: r => if begC L (handD eS d.seller d.frm day b) ≠ 0 then none else
  if handC (L ++ [⟨b, [handD eS d.seller d.frm day b]⟩]) (handD d.seller name d.frm day b) ≠ 0 then none else
  shipGo name d day (updG Bxh.box (L ++ [⟨b, [handD eS d.seller d.frm day b]⟩]) b (handF (handD d.seller name d.frm day b))) r
def handGo (f : ByteArray → Hnd) : List Bxh → List ByteArray → Option (List Bxh)
 | L, [] => some L
 | L, b :: r => if handC L (f b) ≠ 0 then none else handGo f (updG Bxh.box L (f b).box (handF (f b))) r
def actC4 (kind : Int) (d : Dp) (l : Ltr) (day : Int) : At := ⟨kind, l.index, day, billN d.number, l.frm, l.party, noBl⟩
where noBl : Bl := ⟨eS, eS, eS, eS, eS, [], [], 0, false⟩
def objP (nm : Int → ByteArray) (l : Ltr) : List Ltr := [{ lt0 with to := l.frm, kind := 22, text := nm l.kind, index := l.index, party := l.party }]
def shipP (C : Cr) (d : Dp) (l : Ltr) (day : Int) : Cr := if l.frm ≠ d.seller ∨ d.state ≠ 0 then C else match shipGo C.name d day C.cust d.boxes with
 | none => C
 | some L => updD { C with cust := L } d.number (stD 1)
def askA (R : Rg) (a : At) : Int := askM R.bills (akOf a)
def endP (nm : Int → ByteArray) (C : Cr) (d : Dp) (l : Ltr) (day : Int) : Cr × List Ltr :=
 if inT C.parties l.party = false ∨ l.party = l.frm ∨ askA C.reg (actC4 1 d l day) ≠ 0 then (C, objP nm l)
 else ({ C with reg := doP C.reg (actC4 1 d l day) }, [{ lt0 with to := l.party, kind := 9, index := l.index, party := l.party }])
def surP (nm : Int → ByteArray) (C : Cr) (d : Dp) (l : Ltr) (day : Int) : Cr × List Ltr :=
 if d.state ≠ 3 ∨ d.rel = false then (C, objP nm l) else match handGo (handD C.name l.frm d.to day) C.cust d.boxes with
 | none => (C, objP nm l)
 | some L => if askA C.reg (actC4 2 d l day) ≠ 0 then (C, objP nm l) else
  (updD { C with cust := L, deliv := C.deliv ++ d.boxes.map (handD C.name l.frm d.to day), reg := doP C.reg (actC4 2 d l day) } d.number (stD 4), [{ lt0 with to := l.frm, kind := 21, boxes := d.boxes }])
def relP (C : Cr) (d : Dp) (l : Ltr) : Cr := if d.house ≠ eS ∧ l.frm = d.house then updD C d.number relD else C
def lostP (nm : Int → ByteArray) (C : Cr) (d : Dp) (l : Ltr) (day : Int) : Cr × List Ltr :=
 if askA C.reg (actC4 3 d l day) ≠ 0 then (C, objP nm l) else ({ C with reg := doP C.reg (actC4 3 d l day) }, [])
def replP (nm : Int → ByteArray) (C : Cr) (d : Dp) (l : Ltr) (day : Int) : Cr × List Ltr :=
 if askA C.reg (actC4 4 d l day) ≠ 0 then (C, objP nm l) else ({ C with reg := doP C.reg (actC4 4 d l day) }, [{ lt0 with to := l.frm, kind := 25, index := l.index }])
def kindP (nm : Int → ByteArray) (C : Cr) (d : Dp) (l : Ltr) (day : Int) : Cr × List Ltr :=
 if l.kind = 4 then (shipP C d l day, [])
 else if l.kind = 8 then endP nm C d l day
 else if l.kind = 20 then surP nm C d l day
 else if l.kind = 19 then (relP C d l, [])
 else if l.kind = 23 then lostP nm C d l day
 else if l.kind = 24 then replP nm C d l day
 else (C, [])
def takeP (nm : Int → ByteArray) (C : Cr) (l : Ltr) (day : Int) : Cr × List Ltr := match lkG Dp.number C.deals l.deal with
 | none => (C, [])
 | some d => if inT C.parties l.frm = false then (C, []) else ((kindP nm C d l day).1, stampL d.number day (kindP nm C d l day).2)
def sailP (lad : Bl → Dcc) (C : Cr) (d : Dp) (day : Int) : Cr × List Ltr × Int :=
 if issE ⟨C.reg, billD C.name d day, d.seller⟩ ≠ 0 then (C, [], issE ⟨C.reg, billD C.name d day, d.seller⟩)
 else (updD { C with reg := issM ⟨C.reg, billD C.name d day, d.seller⟩ } d.number (stD 2), stampL d.number day [{ lt0 with to := d.seller, kind := 5, docs := [lad (billD C.name d day)] }], 0)
def landP (C : Cr) (d : Dp) (day : Int) : Cr × List Ltr × Int := (updD C d.number (stD 3), stampL d.number day [{ lt0 with to := d.buyer, kind := 26, boxes := d.boxes }], 0)
def carP (lad : Bl → Dcc) (C : Cr) (kind : Int) (deal : ByteArray) (day : Int) : Cr × List Ltr × Int :=
 if kind ≠ 5 ∧ kind ≠ 6 then (C, [], 1) else match lkG Dp.number C.deals deal with
 | none => (C, [], 4)
 | some d => if d.state ≠ (if kind = 5 then 1 else 2) then (C, [], 9) else if kind = 5 then sailP lad C d day else landP C d day
def setS (x : Cs) (i : Nat) (st : Int) : Cs := { x with S := x.S.set i st }
def shipR (name : ByteArray) (d : De) (day : Int) : List Hnd → List ByteArray → Option (List Hnd)
 | H, [] => some H
 | H, b :: r => if begR H (handD eS d.seller d.frm day b) ≠ 0 then none else
  if handR (H ++ [handD eS d.seller d.frm day b]) (handD d.seller name d.frm day b) ≠ 0 then none else
  shipR name d day (H ++ [handD eS d.seller d.frm day b] ++ [handD d.seller name d.frm day b]) r
def handsR (f : ByteArray → Hnd) : List Hnd → List ByteArray → Option (List Hnd)
 | H, [] => some H
 | H, b :: r => if handR H (f b) ≠ 0 then none else handsR f (H ++ [f b]) r
def actR4 (kind : Int) (d : De) (l : Ltr) (day : Int) : At := ⟨kind, l.index, day, billN d.number, l.frm, l.party, actC4.noBl⟩
def takeR (nm : Int → ByteArray) (s : Su) (name : ByteArray) (x : Cs) (l : Ltr) (day : Int) : Cs × List Ltr := match dealI s name l.deal with
 | none => (x, [])
 | some i => if inT s.parties l.frm = false then (x, []) else match s.deals[i]?, x.S[i]?, x.free[i]? with
  | some d, some st, some fr =>
   if l.kind = 4 then (if l.frm = d.seller ∧ st = 0 then (match shipR name d day x.H d.boxes with
    | none => x
    | some H => setS { x with H := H } i 1) else x, [])
   else if l.kind = 19 then (if d.house ≠ eS ∧ l.frm = d.house then { x with free := x.free.set i true } else x, [])
   else if l.kind = 8 ∨ l.kind = 20 ∨ l.kind = 23 ∨ l.kind = 24 then
    let k : Int := if l.kind = 8 then 1 else if l.kind = 20 then 2 else if l.kind = 23 then 3 else 4
    let a := actR4 k d l day
    if (doR x.reg a).2 ≠ 0 ∨ (k = 1 ∧ (inT s.parties l.party = false ∨ l.party = l.frm)) then (x, stampL l.deal day (objP nm l))
    else if k = 2 then match handsR (handD name l.frm d.to day) x.H d.boxes with
     | none => (x, stampL l.deal day (objP nm l))
     | some H => if st ≠ 3 ∨ fr = false then (x, stampL l.deal day (objP nm l)) else
      (setS { x with D := x.D ++ H.drop x.H.length, H := H, reg := (doR x.reg a).1 } i 4, stampL l.deal day [{ lt0 with to := l.frm, kind := 21, boxes := d.boxes }])
    else ({ x with reg := (doR x.reg a).1 }, stampL l.deal day (if k = 1 then [{ lt0 with to := l.party, kind := 9, index := l.index, party := l.party }] else if k = 4 then [{ lt0 with to := l.frm, kind := 25, index := l.index }] else []))
   else (x, [])
  | _, _, _ => (x, [])
def carR (lad : Bl → Dcc) (s : Su) (name : ByteArray) (x : Cs) (kind : Int) (deal : ByteArray) (day : Int) : Cs × List Ltr × Int :=
 if kind ≠ 5 ∧ kind ≠ 6 then (x, [], 1) else match dealI s name deal with
 | none => (x, [], 4)
 | some i => match s.deals[i]?, x.S[i]? with
  | some d, some st =>
   if kind = 6 then (if st ≠ 2 then (x, [], 9) else (setS x i 3, stampL d.number day [{ lt0 with to := d.buyer, kind := 26, boxes := d.boxes }], 0))
   else if st ≠ 1 then (x, [], 9) else
    let b : Bl := billD name (dpAt d st true) day
    if issE ⟨x.reg, b, d.seller⟩ ≠ 0 then (x, [], issE ⟨x.reg, b, d.seller⟩)
    else ({ setS x i 2 with reg := issM ⟨x.reg, b, d.seller⟩ }, stampL d.number day [{ lt0 with to := d.seller, kind := 5, docs := [lad b] }], 0)
  | _, _ => (x, [], 4)
structure RelC (s : Su) (C : Cr) (x : Cs) : Prop where
 par : ∀ p, inT C.parties p = inT s.parties p
 nd : (C.deals.map Dp.number).Nodup
 lenS : x.S.length = s.deals.length
 lenF : x.free.length = s.deals.length
 no : ∀ n, dealI s C.name n = none → lkG Dp.number C.deals n = none
 yes : ∀ n i d st fr, dealI s C.name n = some i → s.deals[i]? = some d → x.S[i]? = some st → x.free[i]? = some fr → lkG Dp.number C.deals n = some (dpAt d st fr)
 reg : C.reg = x.reg
 inv : ∃ n, Inv n x.reg
 cust : Cust C.cust x.H
 del : C.deliv = x.D
theorem dealI_num {s : Su} {name n : ByteArray} {i : Nat} (h : dealI s name n = some i) : ∃ d, s.deals[i]? = some d ∧ d.carrier = name ∧ d.number = n := by
 unfold dealI at h
 rw [List.findIdx?_eq_some_iff_getElem] at h
 obtain ⟨hi, h1, _⟩ := h
 simp only [Bool.and_eq_true, decide_eq_true_eq] at h1
 exact ⟨_, List.getElem?_eq_getElem hi, h1.1, h1.2⟩
theorem RelC.at {s : Su} {C : Cr} {x : Cs} (h : RelC s C x) {n : ByteArray} {i : Nat} (hi : dealI s C.name n = some i) : ∃ d st fr, s.deals[i]? = some d ∧ x.S[i]? = some st ∧ x.free[i]? = some fr ∧ d.number = n ∧ lkG Dp.number C.deals n = some (dpAt d st fr) := by
 obtain ⟨d, hd, _, hn⟩ := dealI_num hi
 have hil := (List.getElem?_eq_some_iff.1 hd).1
 obtain ⟨st, h1⟩ : ∃ st, x.S[i]? = some st := ⟨_, List.getElem?_eq_getElem (by rw [h.lenS]; exact hil)⟩
 obtain ⟨fr, h2⟩ : ∃ fr, x.free[i]? = some fr := ⟨_, List.getElem?_eq_getElem (by rw [h.lenF]; exact hil)⟩
 exact ⟨d, _, _, hd, h1, h2, hn, h.yes n i d _ _ hi hd h1 h2⟩
theorem RelC.perm {s : Su} {C : Cr} {x : Cs} (h : RelC s C x) {L : List Bxh} (p : C.cust.Perm L) : RelC s { C with cust := L } x := ⟨h.par, h.nd, h.lenS, h.lenF, h.no, h.yes, h.reg, h.inv, h.cust.perm p, h.del⟩
theorem RelC.upd {s : Su} {C : Cr} {x : Cs} (h : RelC s C x) {n : ByteArray} {i : Nat} (hi : dealI s C.name n = some i) {f : Dp → Dp} (hf : ∀ b, (f b).number = b.number) {S : List Int} {F : List Bool} (hS : S.length = s.deals.length) (hF : F.length = s.deals.length)
  (ho : ∀ j, j ≠ i → S[j]? = x.S[j]? ∧ F[j]? = x.free[j]?)
  (he : ∀ d st fr st' fr', s.deals[i]? = some d → x.S[i]? = some st → x.free[i]? = some fr → S[i]? = some st' → F[i]? = some fr' → f (dpAt d st fr) = dpAt d st' fr') : RelC s (updD C n f) { x with S := S, free := F } := by
 refine ⟨h.par, ?_, hS, hF, fun m hm => ?_, fun m j d st fr hj hd hs hf2 => ?_, h.reg, h.inv, h.cust, h.del⟩
 ·show ((updG Dp.number C.deals n f).map Dp.number).Nodup
  rw [updG_keys _ _ hf]
  exact h.nd
 ·show lkG Dp.number (updG Dp.number C.deals n f) m = none
  rw [lkG_upd _ _ _ hf, h.no m hm]
  split <;> rfl
 ·show lkG Dp.number (updG Dp.number C.deals n f) m = some (dpAt d st fr)
  have hj2 : dealI s C.name m = some j := hj
  clear hj
  rw [lkG_upd _ _ _ hf]
  by_cases e : m = n
  ·subst e
   cases hi.symm.trans hj2
   obtain ⟨d0, st0, fr0, g1, g2, g3, g4, g5⟩ := h.at hi
   rw [if_pos rfl, g5, Option.map_some]
   rw [hd] at g1
   cases g1
   rw [he d st0 fr0 st fr hd g2 g3 hs hf2]
  ·rw [if_neg e]
   have hji : j ≠ i := fun e2 => by
    subst e2
    obtain ⟨_, g1, _, g2⟩ := dealI_num hj2
    obtain ⟨_, g3, _, g4⟩ := dealI_num hi
    rw [g1] at g3
    cases g3
    exact e (g2.symm.trans g4)
   obtain ⟨e1, e2⟩ := ho j hji
   exact h.yes m j d st fr hj2 hd (by rw [← e1]; exact hs) (by rw [← e2]; exact hf2)
theorem set_at {α : Type} {l : List α} {i : Nat} {a b : α} (h : (l.set i a)[i]? = some b) : b = a := by
 rw [List.getElem?_set_self' ] at h
 cases hl : l[i]? with
 | none => rw [hl] at h; cases h
 | some y => rw [hl] at h; cases h; rfl
theorem RelC.state {s : Su} {C : Cr} {x : Cs} (h : RelC s C x) {n : ByteArray} {i : Nat} (hi : dealI s C.name n = some i) (st : Int) : RelC s (updD C n (stD st)) (setS x i st) := by
 refine h.upd (f := stD st) hi (fun _ => rfl) (S := x.S.set i st) (F := x.free) (by rw [List.length_set]; exact h.lenS) h.lenF (fun j hj => ⟨List.getElem?_set_ne (fun e => hj e.symm), rfl⟩) fun d st0 fr st' fr' _ _ h3 h4 h5 => ?_
 rw [set_at h4]
 rw [h3] at h5
 cases h5
 rfl
theorem RelC.free {s : Su} {C : Cr} {x : Cs} (h : RelC s C x) {n : ByteArray} {i : Nat} (hi : dealI s C.name n = some i) : RelC s (updD C n relD) { x with free := x.free.set i true } := by
 refine h.upd (f := relD) hi (fun _ => rfl) (S := x.S) (F := x.free.set i true) h.lenS (by rw [List.length_set]; exact h.lenF) (fun j hj => ⟨rfl, List.getElem?_set_ne (fun e => hj e.symm)⟩) fun d st0 fr st' fr' _ h2 _ h4 h5 => ?_
 rw [set_at h5]
 rw [h2] at h4
 cases h4
 rfl
theorem ship_eq (name : ByteArray) (d : De) (st : Int) (fr : Bool) (day : Int) : ∀ (bs : List ByteArray) (L : List Bxh) (H : List Hnd), Cust L H →
  (shipGo name (dpAt d st fr) day L bs = none ∧ shipR name d day H bs = none) ∨ ∃ L' H', shipGo name (dpAt d st fr) day L bs = some L' ∧ shipR name d day H bs = some H' ∧ Cust L' H'
 | [], L, H, h => .inr ⟨L, H, rfl, rfl, h⟩
 | b :: r, L, H, h => by
  obtain ⟨x1, hx1⟩ : ∃ x, x = handD eS d.seller d.frm day b := ⟨_, rfl⟩
  obtain ⟨x2, hx2⟩ : ∃ x, x = handD d.seller name d.frm day b := ⟨_, rfl⟩
  have b1 : x1.box = b := by rw [hx1]; rfl
  have b2 : x2.box = b := by rw [hx2]; rfl
  have g1 : shipGo name (dpAt d st fr) day L (b :: r) = if begC L x1 ≠ 0 then none else if handC (L ++ [⟨b, [x1]⟩]) x2 ≠ 0 then none else shipGo name (dpAt d st fr) day (updG Bxh.box (L ++ [⟨b, [x1]⟩]) b (handF x2)) r := by subst hx1 hx2; rfl
  have g2 : shipR name d day H (b :: r) = if begR H x1 ≠ 0 then none else if handR (H ++ [x1]) x2 ≠ 0 then none else shipR name d day (H ++ [x1] ++ [x2]) r := by subst hx1 hx2; rfl
  clear hx1 hx2
  rw [g1, g2, h.begE x1]
  by_cases h1 : begR H x1 ≠ 0
  ·rw [if_pos h1, if_pos h1]
   exact .inl ⟨rfl, rfl⟩
  ·rw [if_neg h1, if_neg h1]
   have hn : lkG Bxh.box L x1.box = none := by
    have h0 : begR H x1 = 0 := Decidable.not_not.1 h1
    unfold begR at h0
    cases hl : lkG Bxh.box L x1.box with
    | none => rfl
    | some y =>
     exfalso
     have h3 := (h.yes _ y hl).2
     rw [if_pos h3] at h0
     split at h0
     ·cases h0
     split at h0 <;> cases h0
   have hc := h.begin (x := x1) hn
   rw [b1] at hc
   rw [hc.handE x2]
   by_cases h2 : handR (H ++ [x1]) x2 ≠ 0
   ·rw [if_pos h2, if_pos h2]
    exact .inl ⟨rfl, rfl⟩
   ·rw [if_neg h2, if_neg h2]
    have hl2 : lkG Bxh.box (L ++ [⟨b, [x1]⟩]) x2.box = some ⟨b, [x1]⟩ := by
     rw [lkG_app, b2]
     rw [b1] at hn
     rw [hn]
     show lkG Bxh.box [(⟨b, [x1]⟩ : Bxh)] b = _
     unfold lkG
     exact List.find?_cons_of_pos (p := fun c : Bxh => decide (c.box = b)) (decide_eq_true rfl)
    have hc2 := hc.hand (x := x2) hl2
    rw [b2] at hc2
    exact ship_eq name d st fr day r _ _ hc2
theorem hand_some {L : List Bxh} {x : Hnd} (h : handC L x = 0) : ∃ b, lkG Bxh.box L x.box = some b := by
 unfold handC at h
 split at h
 ·cases h
 split at h
 ·cases h
 split at h
 ·cases h
 ·rename_i b hb; exact ⟨b, hb⟩
theorem hands_eq (f : ByteArray → Hnd) : ∀ (bs : List ByteArray) (L : List Bxh) (H : List Hnd), Cust L H →
  (handGo f L bs = none ∧ handsR f H bs = none) ∨ ∃ L', handGo f L bs = some L' ∧ handsR f H bs = some (H ++ bs.map f) ∧ Cust L' (H ++ bs.map f)
 | [], L, H, h => .inr ⟨L, rfl, by rw [List.map_nil, List.append_nil]; rfl, by rw [List.map_nil, List.append_nil]; exact h⟩
 | b :: r, L, H, h => by
  have g1 : handGo f L (b :: r) = if handC L (f b) ≠ 0 then none else handGo f (updG Bxh.box L (f b).box (handF (f b))) r := rfl
  have g2 : handsR f H (b :: r) = if handR H (f b) ≠ 0 then none else handsR f (H ++ [f b]) r := rfl
  rw [g1, g2, h.handE (f b)]
  by_cases h1 : handR H (f b) ≠ 0
  ·rw [if_pos h1, if_pos h1]
   exact .inl ⟨rfl, rfl⟩
  ·rw [if_neg h1, if_neg h1]
   obtain ⟨y, hy⟩ := hand_some ((h.handE (f b)).trans (Decidable.not_not.1 h1))
   have := hands_eq f r _ _ (h.hand hy)
   rw [List.map_cons, show H ++ f b :: r.map f = H ++ [f b] ++ r.map f by simp]
   exact this
end Go.Proofs.YtigdiekbiphhmaaGreatDoor
end
