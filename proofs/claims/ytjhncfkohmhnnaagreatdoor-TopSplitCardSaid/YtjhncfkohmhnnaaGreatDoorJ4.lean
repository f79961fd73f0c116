/-
  Texts of this proof, joined: RH, RI, RJ, RK, RL, RM, RN, RO, RP, RQ, RR, RS, SA, SB, SC, SD, SE, SF, SG, SGZ, SH, SI, SI3, VQ, SI1, SI2, SI5, SIZ, VU, VW, SPA, TA, SPB, SPC, SPD, SPF, SPI.
-/
import Derived.Test.YtjhncfkohmhnnaaGreatDoorJ3
import Derived.Shelf.Sort.Plain
import Derived.Shelf.Slices.In.SortNone
import Derived.Sort.OwnSorted
import Derived.Test.YtjhncfkohmhnnaaGreatDoorChecked
set_option linter.unusedVariables false
set_option linter.unusedSimpArgs false
noncomputable section
namespace Go.Proofs.YtjhncfkohmhnnaaGreatDoor
open Go.RowKit
set_option maxHeartbeats 2000000
set_option maxRecDepth 100000
def dayB (n : Int) : Bool := decide (0 ≤ n) && decide (n ≤ 1048576)
def DayC : Ctr := spec (fun z : Int => [.i z]) (fun _ => []) (fun _ => True) (fun z => .bl (dayB z)) fun _ => []
theorem isDay_body (P : Program) : BodyOk P x61 DayC := by
 intro args H K hc; obtain ⟨z, rfl, rfl, hp, hK⟩ := hc; refine ⟨nb9, ?_⟩; dsimp only at hp hK ⊢
 cbv; repeat' ((first | refine .mk (fun h => ?_) fun h => ?_ | fail) <;> cbv)
 all_goals exact FinK.mk ⟨_, Gh.refl _, .inl (.v9 (K_bl hK (by (unfold dayB; simp; omega))))⟩
def k1 (a : Ak) : Bool := decide (a.index < a.least) || decide (3 ≤ a.index)
def k2 (a : Ak) : Bool := a.wrong || (a.dated && !dayB a.day)
def k3 (b : Br) (a : Ak) : Bool := !decide (b.st = 0) || some3 a.index b (pState a)
def k4 (b : Br) (a : Ak) : Bool := some3 a.index b (pHolder a)
def k5 (b : Br) (a : Ak) : Bool := a.dated && some3 a.index b (pDay b a)
def askE (b : Br) (a : Ak) : Int := if k1 a then 3 else if k2 a then 1 else if k3 b a then 9 else if k4 b a then 8 else if k5 b a then 6 else 0
def KActC (p : Ak → Bool) : Ctr := spec (fun _ : Ak => [.ptr 0 0]) (fun i => [.blk 82 (AkL i)]) (fun _ => True) (fun i => .bl (p i)) fun i => [.blk 82 (AkL i)]
def KEntC (args : List AV) (p : Br → Ak → Bool) : Ctr := spec (fun _ : Br × Ak => args) (fun i => AskH i.1 i.2) (fun i => chOk i.1) (fun i => .bl (p i.1 i.2)) fun i => AskH i.1 i.2
theorem ask1_body (P : Program) : BodyOk P x66 (KEntC [.ptr 1 0] fun _ _ => false) := by
 intro args H K hc; obtain ⟨⟨y, ⟨bill, index, least, by_, state, day, dated, wrong⟩⟩, rfl, rfl, hp, hK⟩ := hc; refine ⟨nb9, ?_⟩; dsimp only at hp hK ⊢
 obtain ⟨⟨nq1, cq1, sq1, frm1, to1, bq1, pq1, iq1, lq1⟩, st1, ⟨sa1, ha1, ca1⟩, ⟨sb1, hb1, cb1⟩, ⟨sc1, hc1, cc1⟩⟩ := y
 cbv
 (refine .r9 (Gh.refl _) ?_; cbv; exact .inl (.f9 hK))
theorem ask2_body (P : Program) : BodyOk P x67 (KActC k1) := by
 intro args H K hc; obtain ⟨⟨bill, index, least, by_, state, day, dated, wrong⟩, rfl, rfl, hp, hK⟩ := hc; refine ⟨nb9, ?_⟩; dsimp only at hp hK ⊢
 unfold k1 at hK
 dsimp only at hK
 cbv; repeat' ((first | refine .mk (fun h => ?_) fun h => ?_ | fail) <;> cbv)
 all_goals (refine .r9 (Gh.refl _) ?_; cbv; exact .inl (.f9 (K_bl hK (by simp; omega))))
theorem ask3_body (P : Program) (hd : FnOk P 61 DayC) : BodyOk P x68 (KActC k2) := by
 intro args H K hc; obtain ⟨⟨bill, index, least, by_, state, day, dated, wrong⟩, rfl, rfl, hp, hK⟩ := hc; refine ⟨nb9, ?_⟩; dsimp only at hp hK ⊢
 unfold k2 at hK
 dsimp only at hK
 obtain ⟨q, hq⟩ : ∃ x, x = (dayB day) := ⟨_, rfl⟩
 rw [← hq] at hK
 cases wrong with
 | true =>
  cbv
  (refine .r9 (Gh.refl _) ?_; cbv; exact .inl (.f9 hK))
 | false =>
  cases dated with
  | false =>
   cbv
   (refine .r9 (Gh.refl _) ?_; cbv; exact .inl (.f9 hK))
  | true =>
   cbv
   (refine c09 hd day trivial ?_; try dsimp only)
   rw [← hq]
   cases q with
   | true =>
    cbv
    (refine .r9 (Gh.refl _) ?_; cbv; exact .inl (.f9 hK))
   | false =>
    cbv
    (refine .r9 (Gh.refl _) ?_; cbv; exact .inl (.f9 hK))
theorem ask4_body (P : Program) (hs : FnOk P 36 (SomeA 70 pState)) : BodyOk P x69 (KEntC [.ptr 1 0, .ptr 0 0] k3) := by
 intro args H K hc; obtain ⟨⟨y, ⟨bill, index, least, by_, state, day, dated, wrong⟩⟩, rfl, rfl, hp, hK⟩ := hc; refine ⟨nb9, ?_⟩; dsimp only at hp hK ⊢
 obtain ⟨q, hq⟩ : ∃ x, x = (some3 index y (pState ⟨bill, index, least, by_, state, day, dated, wrong⟩)) := ⟨_, rfl⟩
 unfold k3 at hK
 dsimp only at hK
 rw [← hq] at hK
 obtain ⟨⟨nq1, cq1, sq1, frm1, to1, bq1, pq1, iq1, lq1⟩, st1, ⟨sa1, ha1, ca1⟩, ⟨sb1, hb1, cb1⟩, ⟨sc1, hc1, cc1⟩⟩ := y
 dsimp only at hK
 by_cases h0 : st1 = 0
 ·cbv; repeat' ((first | refine .y fun h => ?_ | fail) <;> cbv)
  (refine cs9 hs (⟨⟨nq1, cq1, sq1, frm1, to1, bq1, pq1, iq1, lq1⟩, st1, ⟨sa1, ha1, ca1⟩, ⟨sb1, hb1, cb1⟩, ⟨sc1, hc1, cc1⟩⟩, index, ⟨bill, index, least, by_, state, day, dated, wrong⟩) [2, 3, 4, 5, 0] hp ?_; try dsimp only)
  rw [← hq]
  cbv
  (refine .r9 (Gh.refl _) ?_; cbv; exact .inl (.f9 (K_bl hK (by simp [h0]))))
 ·cbv; repeat' ((first | refine .n fun h => ?_ | fail) <;> cbv)
  (refine .r9 (Gh.refl _) ?_; cbv; exact .inl (.f9 (K_bl hK (by simp [h0]))))
theorem ask5_body (P : Program) (hs : FnOk P 36 (SomeA 72 pHolder)) : BodyOk P x71 (KEntC [.ptr 1 0, .ptr 0 0] k4) := by
 intro args H K hc; obtain ⟨⟨y, ⟨bill, index, least, by_, state, day, dated, wrong⟩⟩, rfl, rfl, hp, hK⟩ := hc; refine ⟨nb9, ?_⟩; dsimp only at hp hK ⊢
 obtain ⟨q, hq⟩ : ∃ x, x = (some3 index y (pHolder ⟨bill, index, least, by_, state, day, dated, wrong⟩)) := ⟨_, rfl⟩
 unfold k4 at hK
 dsimp only at hK
 rw [← hq] at hK
 obtain ⟨⟨nq1, cq1, sq1, frm1, to1, bq1, pq1, iq1, lq1⟩, st1, ⟨sa1, ha1, ca1⟩, ⟨sb1, hb1, cb1⟩, ⟨sc1, hc1, cc1⟩⟩ := y
 cbv
 (refine cs9 hs (⟨⟨nq1, cq1, sq1, frm1, to1, bq1, pq1, iq1, lq1⟩, st1, ⟨sa1, ha1, ca1⟩, ⟨sb1, hb1, cb1⟩, ⟨sc1, hc1, cc1⟩⟩, index, ⟨bill, index, least, by_, state, day, dated, wrong⟩) [2, 3, 4, 5, 0] hp ?_; try dsimp only)
 rw [← hq]
 cbv
 (refine .r9 (Gh.refl _) ?_; cbv; exact .inl (.f9 hK))
theorem ask6_body (P : Program) (hs : FnOk P 36 (SomeE 74)) : BodyOk P x73 (KEntC [.ptr 0 0, .ptr 1 0] k5) := by
 intro args H K hc; obtain ⟨⟨y, ⟨bill, index, least, by_, state, day, dated, wrong⟩⟩, rfl, rfl, hp, hK⟩ := hc; refine ⟨nb9, ?_⟩; dsimp only at hp hK ⊢
 obtain ⟨q, hq⟩ : ∃ x, x = (some3 index y (pDay y ⟨bill, index, least, by_, state, day, dated, wrong⟩)) := ⟨_, rfl⟩
 unfold k5 at hK
 dsimp only at hK
 rw [← hq] at hK
 obtain ⟨⟨nq1, cq1, sq1, frm1, to1, bq1, pq1, iq1, lq1⟩, st1, ⟨sa1, ha1, ca1⟩, ⟨sb1, hb1, cb1⟩, ⟨sc1, hc1, cc1⟩⟩ := y
 cases dated with
 | false =>
  cbv
  (refine .r9 (Gh.refl _) ?_; cbv; exact .inl (.f9 hK))
 | true =>
  cbv
  (refine cs9 hs (⟨⟨nq1, cq1, sq1, frm1, to1, bq1, pq1, iq1, lq1⟩, st1, ⟨sa1, ha1, ca1⟩, ⟨sb1, hb1, cb1⟩, ⟨sc1, hc1, cc1⟩⟩, index, ⟨bill, index, least, by_, state, day, true, wrong⟩) [2, 3, 4, 5, 0, 1] hp ?_; try dsimp only)
  rw [← hq]
  cbv
  (refine .r9 (Gh.refl _) ?_; cbv; exact .inl (.f9 hK))
def ChkL : List AV := [.i 4, .clo 66 [.ptr 2 0], .i 3, .clo 67 [.ptr 1 0], .i 1, .clo 68 [.ptr 1 0], .i 9, .clo 69 [.ptr 2 0, .ptr 1 0], .i 8, .clo 71 [.ptr 2 0, .ptr 1 0], .i 6, .clo 73 [.ptr 1 0, .ptr 2 0]]
def FirH (b : Br) (a : Ak) : List Ent := .hrow 66 2 6 ChkL :: renH [] 1 (AskH b a)
def FirC : Ctr := spec (fun _ : Br × Ak => [.hd 0]) (fun i => FirH i.1 i.2) (fun i => chOk i.1) (fun i => .i (askE i.1 i.2)) fun i => FirH i.1 i.2
def FirN : Ctr := spec (fun _ : Ak => [.hd 0]) (fun i => [.hrow 66 2 6 ChkL, .blk 82 (AkL i), .blk 67 [.v (.pointer none)]]) (fun _ => True) (fun _ => .i 4) fun i => [.hrow 66 2 6 ChkL, .blk 82 (AkL i), .blk 67 [.v (.pointer none)]]
structure AskF (P : Program) : Prop where
 m1 : MayCall P 66
 m2 : MayCall P 67
 m3 : MayCall P 68
 m4 : MayCall P 69
 m5 : MayCall P 71
 m6 : MayCall P 73
 f1 : FnOk P 66 (KEntC [.ptr 1 0] fun _ _ => false)
 f2 : FnOk P 67 (KActC k1)
 f3 : FnOk P 68 (KActC k2)
 f4 : FnOk P 69 (KEntC [.ptr 1 0, .ptr 0 0] k3)
 f5 : FnOk P 71 (KEntC [.ptr 1 0, .ptr 0 0] k4)
 f6 : FnOk P 73 (KEntC [.ptr 0 0, .ptr 1 0] k5)
theorem first_body (P : Program) (F : AskF P) : BodyOk P x24 FirC := by
 intro args H K hc; obtain ⟨⟨y, ⟨bill, index, least, by_, state, day, dated, wrong⟩⟩, rfl, rfl, hp, hK⟩ := hc; refine ⟨nb9, ?_⟩; dsimp only at hp hK ⊢
 have he : askE y ⟨bill, index, least, by_, state, day, dated, wrong⟩ = if k1 ⟨bill, index, least, by_, state, day, dated, wrong⟩ then 3 else if k2 ⟨bill, index, least, by_, state, day, dated, wrong⟩ then 1 else if k3 y ⟨bill, index, least, by_, state, day, dated, wrong⟩ then 9 else if k4 y ⟨bill, index, least, by_, state, day, dated, wrong⟩ then 8 else if k5 y ⟨bill, index, least, by_, state, day, dated, wrong⟩ then 6 else 0 := rfl
 obtain ⟨e, hee⟩ : ∃ e, e = askE y ⟨bill, index, least, by_, state, day, dated, wrong⟩ := ⟨_, rfl⟩
 rw [← hee] at hK he
 obtain ⟨q1, hq1⟩ : ∃ q, q = k1 ⟨bill, index, least, by_, state, day, dated, wrong⟩ := ⟨_, rfl⟩
 obtain ⟨q2, hq2⟩ : ∃ q, q = k2 ⟨bill, index, least, by_, state, day, dated, wrong⟩ := ⟨_, rfl⟩
 obtain ⟨q3, hq3⟩ : ∃ q, q = k3 y ⟨bill, index, least, by_, state, day, dated, wrong⟩ := ⟨_, rfl⟩
 obtain ⟨q4, hq4⟩ : ∃ q, q = k4 y ⟨bill, index, least, by_, state, day, dated, wrong⟩ := ⟨_, rfl⟩
 obtain ⟨q5, hq5⟩ : ∃ q, q = k5 y ⟨bill, index, least, by_, state, day, dated, wrong⟩ := ⟨_, rfl⟩
 rw [← hq1, ← hq2, ← hq3, ← hq4, ← hq5] at he
 obtain ⟨⟨nq1, cq1, sq1, frm1, to1, bq1, pq1, iq1, lq1⟩, st1, ⟨sa1, ha1, ca1⟩, ⟨sb1, hb1, cb1⟩, ⟨sc1, hc1, cc1⟩⟩ := y
 cbv
 refine xloopV [] (fun p : { k : Nat // k ≤ 6 ∧ (2 ≤ k → q1 = false) ∧ (3 ≤ k → q2 = false) ∧ (4 ≤ k → q3 = false) ∧ (5 ≤ k → q4 = false) ∧ (6 ≤ k → q5 = false) } => [(7, .i (nI p.1))]) (fun _ => FirH ⟨⟨nq1, cq1, sq1, frm1, to1, bq1, pq1, iq1, lq1⟩, st1, ⟨sa1, ha1, ca1⟩, ⟨sb1, hb1, cb1⟩, ⟨sc1, hc1, cc1⟩⟩ ⟨bill, index, least, by_, state, day, dated, wrong⟩) (fun p => lft 6 p.1) ⟨0, by decide, fun h => absurd h (by decide), fun h => absurd h (by decide), fun h => absurd h (by decide), fun h => absurd h (by decide), fun h => absurd h (by decide)⟩ ?_
 rintro ⟨k, hk, g1, g2, g3, g4, g5⟩
 dsimp only at hk g1 g2 g3 g4 g5 ⊢
 have hk4 : k = 0 ∨ k = 1 ∨ k = 2 ∨ k = 3 ∨ k = 4 ∨ k = 5 ∨ k = 6 := by omega
 rcases hk4 with rfl | rfl | rfl | rfl | rfl | rfl | rfl
 ·cbv; repeat' ((first | refine .y fun h => ?_ | refine .o ?_ | refine And.intro ?_ ?_ | fail) <;> cbv)
  ·exact F.m1
  ·(refine cs9 F.f1 (⟨⟨nq1, cq1, sq1, frm1, to1, bq1, pq1, iq1, lq1⟩, st1, ⟨sa1, ha1, ca1⟩, ⟨sb1, hb1, cb1⟩, ⟨sc1, hc1, cc1⟩⟩, ⟨bill, index, least, by_, state, day, dated, wrong⟩) [1, 2, 3, 4, 5, 6] hp ?_; try dsimp only)
   cbv; repeat' ((first | refine .k fun z hz => ?_ | fail) <;> cbv)
   obtain rfl : z = nI 1 := om9
   exact roundV ⟨1, by decide, fun h => absurd h (by decide), fun h => absurd h (by decide), fun h => absurd h (by decide), fun h => absurd h (by decide), fun h => absurd h (by decide)⟩ (lft_lt (by decide))
 ·cbv; repeat' ((first | refine .y fun h => ?_ | refine .o ?_ | refine And.intro ?_ ?_ | fail) <;> cbv)
  ·exact F.m2
  (refine cs9 F.f2 ⟨bill, index, least, by_, state, day, dated, wrong⟩ [1] trivial ?_; try dsimp only)
  rw [← hq1]
  cases q1 with
  | true =>
   cbv
   (refine .r9 (Gh.refl _) ?_; cbv; exact .inl (.f9 (K_i hK (by rw [he]; rfl))))
  | false =>
   cbv; repeat' ((first | refine .k fun z hz => ?_ | fail) <;> cbv)
   obtain rfl : z = nI 2 := om9
   exact roundV ⟨2, by decide, fun _ => rfl, fun h => absurd h (by decide), fun h => absurd h (by decide), fun h => absurd h (by decide), fun h => absurd h (by decide)⟩ (lft_lt (by decide))
 ·cbv; repeat' ((first | refine .y fun h => ?_ | refine .o ?_ | refine And.intro ?_ ?_ | fail) <;> cbv)
  ·exact F.m3
  have e1 := g1 (by decide)
  (refine cs9 F.f3 ⟨bill, index, least, by_, state, day, dated, wrong⟩ [1] trivial ?_; try dsimp only)
  rw [← hq2]
  cases q2 with
  | true =>
   cbv
   (refine .r9 (Gh.refl _) ?_; cbv; exact .inl (.f9 (K_i hK (by rw [he, e1]; rfl))))
  | false =>
   cbv; repeat' ((first | refine .k fun z hz => ?_ | fail) <;> cbv)
   obtain rfl : z = nI 3 := om9
   exact roundV ⟨3, by decide, fun _ => g1 (by decide), fun _ => rfl, fun h => absurd h (by decide), fun h => absurd h (by decide), fun h => absurd h (by decide)⟩ (lft_lt (by decide))
 ·cbv; repeat' ((first | refine .y fun h => ?_ | refine .o ?_ | refine And.intro ?_ ?_ | fail) <;> cbv)
  ·exact F.m4
  have e1 := g1 (by decide)
  have e2 := g2 (by decide)
  (refine cs9 F.f4 (⟨⟨nq1, cq1, sq1, frm1, to1, bq1, pq1, iq1, lq1⟩, st1, ⟨sa1, ha1, ca1⟩, ⟨sb1, hb1, cb1⟩, ⟨sc1, hc1, cc1⟩⟩, ⟨bill, index, least, by_, state, day, dated, wrong⟩) [1, 2, 3, 4, 5, 6] hp ?_; try dsimp only)
  rw [← hq3]
  cases q3 with
  | true =>
   cbv
   (refine .r9 (Gh.refl _) ?_; cbv; exact .inl (.f9 (K_i hK (by rw [he, e1, e2]; rfl))))
  | false =>
   cbv; repeat' ((first | refine .k fun z hz => ?_ | fail) <;> cbv)
   obtain rfl : z = nI 4 := om9
   exact roundV ⟨4, by decide, fun _ => g1 (by decide), fun _ => g2 (by decide), fun _ => rfl, fun h => absurd h (by decide), fun h => absurd h (by decide)⟩ (lft_lt (by decide))
 ·cbv; repeat' ((first | refine .y fun h => ?_ | refine .o ?_ | refine And.intro ?_ ?_ | fail) <;> cbv)
  ·exact F.m5
  have e1 := g1 (by decide)
  have e2 := g2 (by decide)
  have e3 := g3 (by decide)
  (refine cs9 F.f5 (⟨⟨nq1, cq1, sq1, frm1, to1, bq1, pq1, iq1, lq1⟩, st1, ⟨sa1, ha1, ca1⟩, ⟨sb1, hb1, cb1⟩, ⟨sc1, hc1, cc1⟩⟩, ⟨bill, index, least, by_, state, day, dated, wrong⟩) [1, 2, 3, 4, 5, 6] hp ?_; try dsimp only)
  rw [← hq4]
  cases q4 with
  | true =>
   cbv
   (refine .r9 (Gh.refl _) ?_; cbv; exact .inl (.f9 (K_i hK (by rw [he, e1, e2, e3]; rfl))))
  | false =>
   cbv; repeat' ((first | refine .k fun z hz => ?_ | fail) <;> cbv)
   obtain rfl : z = nI 5 := om9
   exact roundV ⟨5, by decide, fun _ => g1 (by decide), fun _ => g2 (by decide), fun _ => g3 (by decide), fun _ => rfl, fun h => absurd h (by decide)⟩ (lft_lt (by decide))
 ·cbv; repeat' ((first | refine .y fun h => ?_ | refine .o ?_ | refine And.intro ?_ ?_ | fail) <;> cbv)
  ·exact F.m6
  have e1 := g1 (by decide)
  have e2 := g2 (by decide)
  have e3 := g3 (by decide)
  have e4 := g4 (by decide)
  (refine cs9 F.f6 (⟨⟨nq1, cq1, sq1, frm1, to1, bq1, pq1, iq1, lq1⟩, st1, ⟨sa1, ha1, ca1⟩, ⟨sb1, hb1, cb1⟩, ⟨sc1, hc1, cc1⟩⟩, ⟨bill, index, least, by_, state, day, dated, wrong⟩) [1, 2, 3, 4, 5, 6] hp ?_; try dsimp only)
  rw [← hq5]
  cases q5 with
  | true =>
   cbv
   (refine .r9 (Gh.refl _) ?_; cbv; exact .inl (.f9 (K_i hK (by rw [he, e1, e2, e3, e4]; rfl))))
  | false =>
   cbv; repeat' ((first | refine .k fun z hz => ?_ | fail) <;> cbv)
   obtain rfl : z = nI 6 := om9
   exact roundV ⟨6, by decide, fun _ => g1 (by decide), fun _ => g2 (by decide), fun _ => g3 (by decide), fun _ => g4 (by decide), fun _ => rfl⟩ (lft_lt (by decide))
 ·have e1 := g1 (by decide)
  have e2 := g2 (by decide)
  have e3 := g3 (by decide)
  have e4 := g4 (by decide)
  have e5 := g5 (by decide)
  cbv; repeat' ((first | refine .n fun h => ?_ | fail) <;> cbv)
  (refine .r9 (Gh.refl _) ?_; cbv; exact .inl (.f9 (K_i hK (by rw [he, e1, e2, e3, e4, e5]; rfl))))
theorem firstN_body (P : Program) (hm : MayCall P 66) (hf : FnOk P 66 (spec (fun _ : Unit => [.ptr 0 0]) (fun _ => [.blk 67 [.v (.pointer none)]]) (fun _ => True) (fun _ => .bl true) fun _ => [.blk 67 [.v (.pointer none)]])) : BodyOk P x24 FirN := by
 intro args H K hc; obtain ⟨⟨bill, index, least, by_, state, day, dated, wrong⟩, rfl, rfl, hp, hK⟩ := hc; refine ⟨nb9, ?_⟩; dsimp only at hp hK ⊢
 cbv
 refine xloopV [] (fun p : Unit => [(7, .i 0)]) (fun _ => [.hrow 66 2 6 ChkL, .blk 82 (AkL ⟨bill, index, least, by_, state, day, dated, wrong⟩), .blk 67 [.v (.pointer none)]]) (fun p => lft 6 0) () ?_
 rintro ⟨⟩
 cbv; repeat' ((first | refine .y fun h => ?_ | refine .o ?_ | refine And.intro ?_ ?_ | fail) <;> cbv)
 ·exact hm
 ·(refine cs9 hf () [2] trivial ?_; try dsimp only)
  cbv
  (refine .r9 (Gh.refl _) ?_; cbv; exact .inl (.f9 hK))
theorem ask1n_body (P : Program) : BodyOk P x66 (spec (fun _ : Unit => [.ptr 0 0]) (fun _ => [.blk 67 [.v (.pointer none)]]) (fun _ => True) (fun _ => .bl true) fun _ => [.blk 67 [.v (.pointer none)]]) := by
 intro args H K hc; obtain ⟨⟨⟩, rfl, rfl, hp, hK⟩ := hc; refine ⟨nb9, ?_⟩; dsimp only at hp hK ⊢
 cbv
 (refine .r9 (Gh.refl _) ?_; cbv; exact .inl (.f9 hK))
def askM (L : List Br) (a : Ak) : Int := match bAt L a.bill with
 | some i => match L[i]? with
  | some b => askE b a
  | none => 4
 | none => 4
def AskC : Ctr := spec (fun i : Rg × Ak => [.ptr 0 0, .agg (AkL i.2)]) (fun i => RegH i.1) (fun i => ∀ b ∈ i.1.bills, chOk b) (fun i => .i (askM i.1.bills i.2)) fun i => RegH i.1
theorem ask_body (P : Program) (hf : FnOk P 24 FirC) (hn : FnOk P 24 FirN) : BodyOk P x39 AskC := by
 intro args H K hc; obtain ⟨⟨⟨carrier, L⟩, ⟨bill, index, least, by_, state, day, dated, wrong⟩⟩, rfl, rfl, hp, hK⟩ := hc; refine ⟨nb9, ?_⟩; dsimp only at hp hK ⊢
 obtain ⟨e, he⟩ : ∃ e, e = askM L ⟨bill, index, least, by_, state, day, dated, wrong⟩ := ⟨_, rfl⟩
 rw [← he] at hK
 cbv; repeat' ((first | refine And.intro ?_ ?_ | fail) <;> cbv)
 all_goals
  refine poolK_in (fun b : Br => b.b.number) (fun _ => rfl) (fun i y hai hy hky => ?_) (fun hai => ?_) <;> dsimp only at *
  ·have hch := hp y (List.mem_of_getElem? hy)
   have hee : e = askE y ⟨bill, index, least, by_, state, day, dated, wrong⟩ := by rw [he]; unfold askM bAt; dsimp only; rw [hai]; dsimp only; rw [hy]
   obtain ⟨q, hq⟩ : ∃ q, q = askE y ⟨bill, index, least, by_, state, day, dated, wrong⟩ := ⟨_, rfl⟩
   rw [← hq] at hee
   obtain ⟨⟨nq1, cq1, sq1, frm1, to1, bq1, pq1, iq1, lq1⟩, st1, ⟨sa1, ha1, ca1⟩, ⟨sb1, hb1, cb1⟩, ⟨sc1, hc1, cc1⟩⟩ := y
   cbv
   (refine cs9 hf (⟨⟨nq1, cq1, sq1, frm1, to1, bq1, pq1, iq1, lq1⟩, st1, ⟨sa1, ha1, ca1⟩, ⟨sb1, hb1, cb1⟩, ⟨sc1, hc1, cc1⟩⟩, ⟨bill, index, least, by_, state, day, dated, wrong⟩) [8, 2, 3, 4, 5, 6, 7] hch ?_; try dsimp only)
   rw [← hq]
   cbv
   (refine .r9 (Gh.back0 1 [4, 5, 6, 7] PelA rfl hy) ?_; cbv; exact .inl (.f9 (K_i hK hee.symm)))
  ·have hee : e = 4 := by rw [he]; unfold askM bAt; dsimp only; rw [hai]
   cbv
   (refine cs9 hn ⟨bill, index, least, by_, state, day, dated, wrong⟩ [4, 2, 3] trivial ?_; try dsimp only)
   cbv
   (refine .r9 (Gh.refl _) ?_; cbv; exact .inl (.f9 (K_i hK hee.symm)))
def kindB (l : List Edm) (k : Int) : Bool := match l.getLast? with
 | some e => decide (e.kind = k)
 | none => false
def lateB (l : List Edm) (d : Int) : Bool := match l.getLast? with
 | some e => decide (d < e.day)
 | none => false
theorem last_nil {l : List Edm} (h : l.length = 0) : l.getLast? = none := by rw [List.eq_nil_of_length_eq_zero h]; rfl
theorem last_at {l : List Edm} {i : Nat} {e : Edm} (h : i + 1 = l.length) (hl : l[i]? = some e) : l.getLast? = some e := by
 rw [List.getLast?_eq_getElem?, show l.length - 1 = i by omega]
 exact hl
def KindC (k : Int) : Ctr := spec (fun l : List Edm => [.sl 4 (mapA EdA l)]) (fun _ => []) (fun l => l.length ≤ 5000) (fun l => .bl (kindB l k)) fun _ => []
theorem blank_body (P : Program) : BodyOk P x111 (KindC 1) := by
 intro args H K hc; obtain ⟨c, rfl, rfl, hp, hK⟩ := hc; refine ⟨nb9, ?_⟩; dsimp only at hp hK ⊢
 have hd : kindB c 1 = match c.getLast? with
  | some e => decide (e.kind = 1)
  | none => false := rfl
 obtain ⟨q, hq⟩ : ∃ x, x = (kindB c 1) := ⟨_, rfl⟩
 rw [← hq] at hK hd
 cbv; repeat' ((first | refine .mk (fun h => ?_) fun h => ?_ | refine .k fun z hz => ?_ | fail) <;> cbv)
 ·refine askEl_int om9 om9 fun i l hi hl => ?_
  obtain ⟨f, t, k, d⟩ := l
  rw [last_at om9 hl] at hd
  cbv; repeat' ((first | refine .mk (fun h => ?_) fun h => ?_ | fail) <;> cbv)
  exact FinK.mk ⟨_, Gh.refl _, .inl (.v9 (K_bl hK (by (rw [hd]; simp [*]))))⟩
  exact FinK.mk ⟨_, Gh.refl _, .inl (.v9 (K_bl hK (by (rw [hd]; simp [*]))))⟩
 ·rw [last_nil om9] at hd
  exact FinK.mk ⟨_, Gh.refl _, .inl (.v9 (K_bl hK (by (rw [hd]))))⟩
theorem closed_body (P : Program) : BodyOk P x110 (KindC 2) := by
 intro args H K hc; obtain ⟨c, rfl, rfl, hp, hK⟩ := hc; refine ⟨nb9, ?_⟩; dsimp only at hp hK ⊢
 have hd : kindB c 2 = match c.getLast? with
  | some e => decide (e.kind = 2)
  | none => false := rfl
 obtain ⟨q, hq⟩ : ∃ x, x = (kindB c 2) := ⟨_, rfl⟩
 rw [← hq] at hK hd
 cbv; repeat' ((first | refine .mk (fun h => ?_) fun h => ?_ | refine .k fun z hz => ?_ | fail) <;> cbv)
 ·refine askEl_int om9 om9 fun i l hi hl => ?_
  obtain ⟨f, t, k, d⟩ := l
  rw [last_at om9 hl] at hd
  cbv; repeat' ((first | refine .mk (fun h => ?_) fun h => ?_ | fail) <;> cbv)
  exact FinK.mk ⟨_, Gh.refl _, .inl (.v9 (K_bl hK (by (rw [hd]; simp [*]))))⟩
  exact FinK.mk ⟨_, Gh.refl _, .inl (.v9 (K_bl hK (by (rw [hd]; simp [*]))))⟩
 ·rw [last_nil om9] at hd
  exact FinK.mk ⟨_, Gh.refl _, .inl (.v9 (K_bl hK (by (rw [hd]))))⟩
def edMay : Edm → Bool
 | ⟨f, t, k, d⟩ => nameB f && (decide (0 ≤ d) && decide (d ≤ 1048576)) && (if k = 1 then decide (t = ⟨⟨[]⟩⟩) else if k = 0 ∨ k = 2 then nameB t && !decide (t = f) else false)
def EdMayC : Ctr := spec (fun e : Edm => [EdA e]) (fun _ => []) (fun _ => True) (fun e => .bl (edMay e)) fun _ => []
theorem edmay_body (P : Program) (hn : FnOk P 27 (StrC (fun _ => True) nameB)) : BodyOk P x109 EdMayC := by
 intro args H K hc; obtain ⟨⟨f, t, k, d⟩, rfl, rfl, hp, hK⟩ := hc; refine ⟨nb9, ?_⟩; dsimp only at hp hK ⊢
 have hd : edMay ⟨f, t, k, d⟩ = (nameB f && (decide (0 ≤ d) && decide (d ≤ 1048576)) && (if k = 1 then decide (t = ⟨⟨[]⟩⟩) else if k = 0 ∨ k = 2 then nameB t && !decide (t = f) else false)) := rfl
 obtain ⟨q, hq⟩ : ∃ x, x = (edMay ⟨f, t, k, d⟩) := ⟨_, rfl⟩
 obtain ⟨n, hn1⟩ : ∃ x, x = nameB f := ⟨_, rfl⟩
 obtain ⟨m, hm⟩ : ∃ x, x = (nameB t) := ⟨_, rfl⟩
 rw [← hq] at hK hd
 rw [← hn1, ← hm] at hd
 cbv
 (refine c09 hn f trivial ?_; try dsimp only)
 rw [← hn1]
 cases n with
 | false =>
  cbv
  exact FinK.mk ⟨_, Gh.refl _, .inl (.v9 (K_bl hK (by (rw [hd]; rfl))))⟩
 | true =>
  cbv; repeat' ((first | refine .mk (fun h => ?_) fun h => ?_ | fail) <;> cbv)
  ·exact FinK.mk ⟨_, Gh.refl _, .inl (.v9 (K_bl hK (by (rw [hd]; simp; omega))))⟩
  ·exact FinK.mk ⟨_, Gh.refl _, .inl (.v9 (K_bl hK (by (rw [hd]; simp; omega))))⟩
  ·exact FinK.mk ⟨_, Gh.refl _, .inl (.v9 (K_bl hK (by (rw [hd]; simp [*]))))⟩
  ·exact FinK.mk ⟨_, Gh.refl _, .inl (.v9 (K_bl hK (by (rw [hd]; simp [*]))))⟩
  all_goals first | exact FinK.mk ⟨_, Gh.refl _, .inl (.v9 (K_bl hK (by (rw [hd]; simp [*]))))⟩ | skip
  all_goals
   (refine c09 hn t trivial ?_; try dsimp only)
   rw [← hm]
   cases m with
   | false =>
    cbv
    exact FinK.mk ⟨_, Gh.refl _, .inl (.v9 (K_bl hK (by (rw [hd]; clear hn1 hm hq; simp [*]))))⟩
   | true =>
    cbv; repeat' ((first | refine .mk (fun h => ?_) fun h => ?_ | fail) <;> cbv)
    ·exact FinK.mk ⟨_, Gh.refl _, .inl (.v9 (K_bl hK (by (rw [hd]; clear hn1 hm hq; simp [*]))))⟩
    ·exact FinK.mk ⟨_, Gh.refl _, .inl (.v9 (K_bl hK (by (rw [hd]; clear hn1 hm hq; simp [*]))))⟩
def wrongM (holder : ByteArray) (c : List Edm) (e : Edm) : Int := if edMay e = false then 2 else if kindB c 2 then 9 else if kindB c 1 = false ∧ ¬ e.frm = holder then 8 else if lateB c e.day then 6 else 0
def WrongC : Ctr := spec (fun i : ByteArray × List Edm × Edm => [.str i.1, .sl 4 (mapA EdA i.2.1), EdA i.2.2]) (fun _ => []) (fun i => i.2.1.length ≤ 5000) (fun i => .i (wrongM i.1 i.2.1 i.2.2)) fun _ => []
theorem wrong_body (P : Program) (hm : FnOk P 109 EdMayC) (hb : FnOk P 111 (KindC 1)) (hc : FnOk P 110 (KindC 2)) : BodyOk P x92 WrongC := by
 intro args H K hc; obtain ⟨⟨holder, c, ⟨f, t, k, d⟩⟩, rfl, rfl, hp, hK⟩ := hc; refine ⟨nb9, ?_⟩; dsimp only at hp hK ⊢
 have hd : wrongM holder c ⟨f, t, k, d⟩ = if edMay ⟨f, t, k, d⟩ = false then 2 else if kindB c 2 then 9 else if kindB c 1 = false ∧ ¬ f = holder then 8 else if lateB c d then 6 else 0 := rfl
 have hl : lateB c d = match c.getLast? with
  | some e => decide (d < e.day)
  | none => false := rfl
 obtain ⟨q, hq⟩ : ∃ q, q = wrongM holder c ⟨f, t, k, d⟩ := ⟨_, rfl⟩
 obtain ⟨q1, hq1⟩ : ∃ q, q = edMay ⟨f, t, k, d⟩ := ⟨_, rfl⟩
 obtain ⟨q2, hq2⟩ : ∃ q, q = kindB c 2 := ⟨_, rfl⟩
 obtain ⟨q3, hq3⟩ : ∃ q, q = kindB c 1 := ⟨_, rfl⟩
 obtain ⟨q4, hq4⟩ : ∃ q, q = lateB c d := ⟨_, rfl⟩
 rw [← hq] at hK hd
 rw [← hq1, ← hq2, ← hq3, ← hq4] at hd
 rw [← hq4] at hl
 cbv
 (refine c09 hm (⟨f, t, k, d⟩ : Edm) trivial ?_; try dsimp only)
 rw [← hq1]
 cases q1 with
 | false =>
  cbv
  exact FinK.mk ⟨_, Gh.refl _, .inl (.v9 (K_i hK (by (rw [hd]; rfl))))⟩
 | true =>
  cbv
  (refine c09 hc c hp ?_; try dsimp only)
  rw [← hq2]
  cases q2 with
  | true =>
   cbv
   exact FinK.mk ⟨_, Gh.refl _, .inl (.v9 (K_i hK (by (rw [hd]; rfl))))⟩
  | false =>
   cbv
   (refine c09 hb c hp ?_; try dsimp only)
   rw [← hq3]
   cases q3 with
   | true =>
    cbv; repeat' ((first | refine .mk (fun h => ?_) fun h => ?_ | refine .k fun z hz => ?_ | fail) <;> cbv)
    ·refine askEl_int om9 om9 fun i l hi hli => ?_
     obtain ⟨f', t', k', d'⟩ := l
     rw [last_at om9 hli] at hl
     dsimp only at hl
     cbv; repeat' ((first | refine .mk (fun h => ?_) fun h => ?_ | fail) <;> cbv)
     ·rw [decide_eq_true h] at hl
      exact FinK.mk ⟨_, Gh.refl _, .inl (.v9 (K_i hK (by (rw [hd, hl]; clear hd hq hq1 hq2 hq3 hq4; simp [*]))))⟩
     ·rw [decide_eq_false (by omega)] at hl
      exact FinK.mk ⟨_, Gh.refl _, .inl (.v9 (K_i hK (by (rw [hd, hl]; clear hd hq hq1 hq2 hq3 hq4; simp [*]))))⟩
    ·rw [last_nil om9] at hl
     dsimp only at hl
     exact FinK.mk ⟨_, Gh.refl _, .inl (.v9 (K_i hK (by (rw [hd, hl]; clear hd hq hq1 hq2 hq3 hq4; simp [*]))))⟩
   | false =>
    cbv; repeat' ((first | refine .mk (fun h => ?_) fun h => ?_ | refine .k fun z hz => ?_ | fail) <;> cbv)
    ·refine askEl_int om9 om9 fun i l hi hli => ?_
     obtain ⟨f', t', k', d'⟩ := l
     rw [last_at om9 hli] at hl
     dsimp only at hl
     cbv; repeat' ((first | refine .mk (fun h => ?_) fun h => ?_ | fail) <;> cbv)
     ·rw [decide_eq_true h] at hl
      exact FinK.mk ⟨_, Gh.refl _, .inl (.v9 (K_i hK (by (rw [hd, hl]; clear hd hq hq1 hq2 hq3 hq4; simp [*]))))⟩
     ·rw [decide_eq_false (by omega)] at hl
      exact FinK.mk ⟨_, Gh.refl _, .inl (.v9 (K_i hK (by (rw [hd, hl]; clear hd hq hq1 hq2 hq3 hq4; simp [*]))))⟩
    ·rw [last_nil om9] at hl
     dsimp only at hl
     exact FinK.mk ⟨_, Gh.refl _, .inl (.v9 (K_i hK (by (rw [hd, hl]; clear hd hq hq1 hq2 hq3 hq4; simp [*]))))⟩
    ·exact FinK.mk ⟨_, Gh.refl _, .inl (.v9 (K_i hK (by (rw [hd]; clear hd hq hq1 hq2 hq3 hq4; simp [*]))))⟩
def chkFrom (h : ByteArray) (ahead : List Edm) : List Edm → ByteArray × Int × Int
 | [] => (h, Int.ofNat ahead.length, 0)
 | e :: r => if wrongM h ahead e = 0 then chkFrom e.to (ahead ++ [e]) r else (⟨⟨[]⟩⟩, Int.ofNat ahead.length, wrongM h ahead e)
def checkM (first : ByteArray) (l : List Edm) : ByteArray × Int × Int := if nameB first = false then (⟨⟨[]⟩⟩, 0, 1) else chkFrom first [] l
theorem chkFrom_ok {c : List Edm} {h : ByteArray} {k : Nat} {e : Edm} (he : c[k]? = some e) (hw : wrongM h (c.take k) e = 0) : chkFrom h (c.take k) (c.drop k) = chkFrom e.to (c.take (k + 1)) (c.drop (k + 1)) := by
 obtain ⟨hk, rfl⟩ := List.getElem?_eq_some_iff.1 he
 rw [List.drop_eq_getElem_cons hk, chkFrom, if_pos hw, List.take_succ_eq_append_getElem hk]
theorem chkFrom_bad {c : List Edm} {h : ByteArray} {k : Nat} {e : Edm} (he : c[k]? = some e) (hw : ¬ wrongM h (c.take k) e = 0) : chkFrom h (c.take k) (c.drop k) = (⟨⟨[]⟩⟩, Int.ofNat k, wrongM h (c.take k) e) := by
 obtain ⟨hk, rfl⟩ := List.getElem?_eq_some_iff.1 he
 rw [List.drop_eq_getElem_cons hk, chkFrom, if_neg hw, List.length_take, Nat.min_eq_left (Nat.le_of_lt hk)]
theorem chkFrom_end {c : List Edm} {h : ByteArray} {k : Nat} (hk : k = c.length) : chkFrom h (c.take k) (c.drop k) = (h, Int.ofNat k, 0) := by
 rw [List.drop_eq_nil_of_le (by omega), chkFrom, List.length_take, hk, Nat.min_self]
def TriA : ByteArray × Int × Int → AV
 | (s, i, e) => .tup [.str s, .i i, .i e]
def CheckC : Ctr := spec (fun i : ByteArray × List Edm => [.str i.1, .sl 4 (mapA EdA i.2)]) (fun _ => []) (fun i => i.2.length ≤ 5000) (fun i => TriA (checkM i.1 i.2)) fun _ => []
theorem check_body (P : Program) (hn : FnOk P 27 (StrC (fun _ => True) nameB)) (hw : FnOk P 92 WrongC) : BodyOk P x76 CheckC := by
 intro args H K hc; obtain ⟨⟨first, c⟩, rfl, rfl, hp, hK⟩ := hc; refine ⟨nb9, ?_⟩; dsimp only at hp hK ⊢
 have hd : checkM first c = if nameB first = false then (⟨⟨[]⟩⟩, 0, 1) else chkFrom first (c.take 0) (c.drop 0) := rfl
 obtain ⟨q, hq⟩ : ∃ q, q = checkM first c := ⟨_, rfl⟩
 obtain ⟨n, hn1⟩ : ∃ q, q = nameB first := ⟨_, rfl⟩
 rw [← hq] at hK hd
 rw [← hn1] at hd
 cbv
 refine xscope (ι := Empty) 0 (fun e => nomatch e) (fun e => nomatch e) rfl ?_ (fun e => nomatch e)
 cbv
 (refine c09 hn first trivial ?_; try dsimp only)
 rw [← hn1]
 cases n with
 | false =>
  rw [if_pos rfl] at hd
  subst hd
  cbv
  exact FinK.mk ⟨_, Gh.refl _, .inl (.v9 hK)⟩
 | true =>
  rw [if_neg (by decide)] at hd
  cbv; repeat' ((first | refine .k fun z hz => ?_ | fail) <;> cbv)
  refine xloopV [] (fun p : { p : Nat × ByteArray // p.1 ≤ c.length ∧ q = chkFrom p.2 (c.take p.1) (c.drop p.1) } => [(14, .i (nI p.1.1)), (4, .str p.1.2), (5, .i 0), (6, .i 0)]) (fun _ => []) (fun p => lft 5001 p.1.1) ⟨(0, first), Nat.zero_le _, hd⟩ ?_
  rintro ⟨⟨k, hh⟩, hk, hd⟩
  dsimp only at hk hd ⊢
  cbv; repeat' ((first | refine .y fun h => ?_ | refine .mk (fun h => ?_) fun h => ?_ | refine .k fun z hz => ?_ | refine .l fun ys hys hyl => ?_ | fail) <;> cbv)
  ·obtain rfl : ys = c.take k := by rw [hys]; simp
   refine askEl_int om9 om9 fun i l hi hl => ?_
   obtain rfl : k = i := om9
   obtain ⟨f', t', k', d'⟩ := l
   have e1 := chkFrom_ok (h := hh) hl
   have e2 := chkFrom_bad (h := hh) hl
   cbv
   obtain ⟨w, hw1⟩ : ∃ w, w = wrongM hh (c.take k) ⟨f', t', k', d'⟩ := ⟨_, rfl⟩
   rw [← hw1] at e1 e2
   (refine c09 hw (hh, c.take k, (⟨f', t', k', d'⟩ : Edm)) (by dsimp only; rw [List.length_take]; omega) ?_; try dsimp only)
   rw [← hw1]
   cbv; repeat' ((first | refine .e ?_ | refine .n fun h => ?_ | refine .mk (fun h => ?_) fun h => ?_ | refine .k fun z hz => ?_ | fail) <;> cbv)
   ·subst h
    obtain rfl : z = nI (k + 1) := om9
    exact roundV ⟨(k + 1, t'), by exact om9, hd.trans (e1 rfl)⟩ (lft_lt om9)
   ·obtain rfl := hd.trans (e2 h)
    exact FinK.mk ⟨_, Gh.refl _, .inl (.v9 hK)⟩
  ·obtain rfl : k = c.length := om9
   obtain rfl : z = nI c.length := om9
   rw [chkFrom_end rfl] at hd
   subst hd
   exact FinK.mk ⟨_, Gh.refl _, .inl (.v9 hK)⟩
def HolderC : Ctr := spec (fun i : ByteArray × List Edm => [.str i.1, .sl 4 (mapA EdA i.2)]) (fun _ => []) (fun i => i.2.length ≤ 5000) (fun i => .str (checkM i.1 i.2).1) fun _ => []
theorem holderE_body (P : Program) (hc : FnOk P 76 CheckC) : BodyOk P x40 HolderC := by
 intro args H K hc; obtain ⟨⟨first, c⟩, rfl, rfl, hp, hK⟩ := hc; refine ⟨nb9, ?_⟩; dsimp only at hp hK ⊢
 obtain ⟨⟨h, i, e⟩, hq⟩ : ∃ q, q = checkM first c := ⟨_, rfl⟩
 rw [← hq] at hK
 dsimp only at hK
 cbv
 (refine c09 hc (first, c) hp ?_; try dsimp only)
 rw [← hq]
 cbv
 exact FinK.mk ⟨_, Gh.refl _, .inl (.v9 (K_of hK (by rfl)))⟩
def stO (s : Int) : Og → Og
 | ⟨_, h, c⟩ => ⟨s, h, c⟩
def onO (idx : Int) (f : Og → Og) : Br → Br
 | ⟨b, st, o0, o1, o2⟩ => ⟨b, st, bif hitB idx 0 then f o0 else o0, bif hitB idx 1 then f o1 else o1, bif hitB idx 2 then f o2 else o2⟩
def endM (st : Int) : Br → Br
 | ⟨b, _, o0, o1, o2⟩ => ⟨b, st, stO 2 o0, stO 2 o1, stO 2 o2⟩
def endK (st : Int) : Nat → Br → Br
 | 0, ⟨b, _, o0, o1, o2⟩ => ⟨b, st, o0, o1, o2⟩
 | 1, ⟨b, _, o0, o1, o2⟩ => ⟨b, st, stO 2 o0, o1, o2⟩
 | 2, ⟨b, _, o0, o1, o2⟩ => ⟨b, st, stO 2 o0, stO 2 o1, o2⟩
 | _, ⟨b, _, o0, o1, o2⟩ => ⟨b, st, stO 2 o0, stO 2 o1, stO 2 o2⟩
def EndC : Ctr := spec (fun i : Br × Int => [.ptr 0 0, .i i.2]) (fun i => EntC i.1) (fun _ => True) (fun _ => .tup []) fun i => EntC (endM i.2 i.1)
theorem end_body (P : Program) : BodyOk P x48 EndC := by
 intro args H K hc; obtain ⟨⟨y, st⟩, rfl, rfl, hp, hK⟩ := hc; refine ⟨nb9, ?_⟩; dsimp only at hp hK ⊢
 obtain ⟨⟨nq1, cq1, sq1, frm1, to1, bq1, pq1, iq1, lq1⟩, st1, ⟨sa1, ha1, ca1⟩, ⟨sb1, hb1, cb1⟩, ⟨sc1, hc1, cc1⟩⟩ := y
 cbv
 refine xloopV [] (fun p : { k : Nat // k ≤ 3 } => [(9, .i (nI p.1))]) (fun p => EntC (endK st p.1 ⟨⟨nq1, cq1, sq1, frm1, to1, bq1, pq1, iq1, lq1⟩, st1, ⟨sa1, ha1, ca1⟩, ⟨sb1, hb1, cb1⟩, ⟨sc1, hc1, cc1⟩⟩)) (fun p => lft 3 p.1) ⟨0, by decide⟩ ?_
 rintro ⟨k, hk⟩
 dsimp only at hk ⊢
 have hk4 : k = 0 ∨ k = 1 ∨ k = 2 ∨ k = 3 := by omega
 rcases hk4 with rfl | rfl | rfl | rfl
 ·cbv; repeat' ((first | refine .n fun h => ?_ | refine .y fun h => ?_ | refine .k fun z hz => ?_ | refine .o ?_ | fail) <;> cbv)
  obtain rfl : z = nI 1 := om9
  exact roundV ⟨1, by decide⟩ (lft_lt (by decide))
 ·cbv; repeat' ((first | refine .n fun h => ?_ | refine .y fun h => ?_ | refine .k fun z hz => ?_ | refine .o ?_ | fail) <;> cbv)
  obtain rfl : z = nI 2 := om9
  exact roundV ⟨2, by decide⟩ (lft_lt (by decide))
 ·cbv; repeat' ((first | refine .y fun h => ?_ | refine .k fun z hz => ?_ | refine .o ?_ | fail) <;> cbv)
  obtain rfl : z = nI 3 := om9
  exact roundV ⟨3, by decide⟩ (lft_lt (by decide))
 ·cbv; repeat' ((first | refine .n fun h => ?_ | fail) <;> cbv)
  (refine .r9 (Gh.refl _) ?_; cbv; exact .inl (.f9 hK))
def updM (L : List Br) (s : ByteArray) (f : Br → Br) : List Br := match bAt L s with
 | some i => match L[i]? with
  | some b => L.set i (f b)
  | none => L
 | none => L
theorem updM_some {L : List Br} {s : ByteArray} {i : Nat} {b : Br} (f : Br → Br) (h : bAt L s = some i) (hb : L[i]? = some b) : updM L s f = L.set i (f b) := by unfold updM; rw [h]; dsimp only; rw [hb]
def actM (L : List Br) (a : Ak) (f : Br → Br) : List Br := if askM L a = 0 then updM L a.bill f else L
theorem ask_zero {L : List Br} {a : Ak} {i : Nat} {b : Br} (h : askM L a = 0) (hi : bAt L a.bill = some i) (hb : L[i]? = some b) : askE b a = 0 := by
 unfold askM at h
 rw [hi] at h
 dsimp only at h
 rw [hb] at h
 exact h
theorem ask_none {L : List Br} {a : Ak} (h : askM L a = 0) (hi : bAt L a.bill = none) : False := by
 unfold askM at h
 rw [hi] at h
 exact absurd h (show ¬ (4:Int) = 0 by decide)
theorem askE_k1 {b : Br} {a : Ak} (h : askE b a = 0) : a.least ≤ a.index ∧ a.index < 3 := by
 unfold askE at h
 split at h
 ·exact absurd h (by decide)
 ·next hk => unfold k1 at hk; simp at hk; omega
def actC (args : Ak → List AV) (f : Ak → Br → Br) (p : Ak → Prop) : Ctr := spec (fun i : Rg × Ak => args i.2) (fun i => RegH i.1) (fun i => (∀ b ∈ i.1.bills, chOk b) ∧ p i.2) (fun i => .i (askM i.1.bills i.2)) fun i => RegH ⟨i.1.carrier, actM i.1.bills i.2 (f i.2)⟩
def loseF (a : Ak) : Br → Br := onO a.index (stO 3)
def LoseC : Ctr := actC (fun a => [.ptr 0 0, .str a.bill, .i a.index, .str a.by_]) loseF fun a => a.least = 0 ∧ a.state = 0 ∧ a.day = 0 ∧ a.dated = false ∧ a.wrong = false
def repF (a : Ak) : Br → Br := onO a.index (stO 0)
def ReplaceC : Ctr := actC (fun a => [.ptr 0 0, .str a.bill, .i a.index, .str a.by_, .i a.day]) repF fun a => a.least = 0 ∧ a.state = 3 ∧ a.dated = true ∧ a.wrong = false
def retF (_ : Ak) : Br → Br := endM 4
def RetireC : Ctr := actC (fun a => [.ptr 0 0, .str a.bill, .str a.by_, .i a.day]) retF fun a => a.index = -1 ∧ a.least = -1 ∧ a.state = 0 ∧ a.dated = true ∧ a.wrong = false
theorem retire_body (P : Program) (hend : FnOk P 48 EndC) (ha : FnOk P 39 AskC) : BodyOk P x78 RetireC := by
 intro args H K hc; obtain ⟨⟨⟨carrier, L⟩, ⟨bill, index, least, by_, state, day, dated, wrong⟩⟩, rfl, rfl, hp, hK⟩ := hc; refine ⟨nb9, ?_⟩; dsimp only at hp hK ⊢
 obtain ⟨hp, rfl, rfl, rfl, rfl, rfl⟩ := hp
 obtain ⟨e, he⟩ : ∃ e, e = askM L ⟨bill, -1, -1, by_, 0, day, true, false⟩ := ⟨_, rfl⟩
 obtain ⟨L', hL'⟩ : ∃ L', L' = actM L ⟨bill, -1, -1, by_, 0, day, true, false⟩ (retF ⟨bill, -1, -1, by_, 0, day, true, false⟩) := ⟨_, rfl⟩
 rw [← he, ← hL'] at hK
 unfold actM at hL'
 dsimp only at hL'
 rw [← he] at hL'
 cbv
 (refine cs9 ha (⟨carrier, L⟩, ⟨bill, -1, -1, by_, 0, day, true, false⟩) [0, 1] hp ?_; try dsimp only)
 rw [← he]
 cbv; repeat' ((first | refine .mk (fun h => ?_) fun h => ?_ | fail) <;> cbv)
 ·rw [if_pos h] at hL'
  refine poolK_in (fun b : Br => b.b.number) (fun _ => rfl) (fun i y hai hy hky => ?_) (fun hai => ?_) <;> dsimp only at *
  ·rw [updM_some _ hai hy] at hL'
   obtain ⟨⟨nq1, cq1, sq1, frm1, to1, bq1, pq1, iq1, lq1⟩, st1, ⟨sa1, ha1, ca1⟩, ⟨sb1, hb1, cb1⟩, ⟨sc1, hc1, cc1⟩⟩ := y
   obtain rfl : L' = L.set i ⟨⟨nq1, cq1, sq1, frm1, to1, bq1, pq1, iq1, lq1⟩, 4, ⟨2, ha1, ca1⟩, ⟨2, hb1, cb1⟩, ⟨2, hc1, cc1⟩⟩ := hL'
   cbv
   (refine cs9 hend (⟨⟨nq1, cq1, sq1, frm1, to1, bq1, pq1, iq1, lq1⟩, st1, ⟨sa1, ha1, ca1⟩, ⟨sb1, hb1, cb1⟩, ⟨sc1, hc1, cc1⟩⟩, 4) [2, 3, 4, 5] trivial ?_; try dsimp only)
   cbv
   (refine .r9 (Gh.back 1 ([2, 3, 4, 5]) PelA ⟨⟨nq1, cq1, sq1, frm1, to1, bq1, pq1, iq1, lq1⟩, 4, ⟨2, ha1, ca1⟩, ⟨2, hb1, cb1⟩, ⟨2, hc1, cc1⟩⟩ rfl hy) ?_; cbv; exact .inl (.f9 hK))
  ·exact (ask_none (he.symm.trans h) hai).elim
 ·rw [if_neg h] at hL'
  subst hL'
  (refine .r9 (Gh.refl _) ?_; cbv; exact .inl (.f9 hK))
def surF (a : Ak) : Br → Br := fun b => onO a.index (stO 1) (endM 1 b)
def boxM (L : List Br) (a : Ak) : List ByteArray := if askM L a = 0 then (getM L a.bill).1.boxes else []
def SurrenderC : Ctr := spec (fun i : Rg × Ak => [.ptr 0 0, .str i.2.bill, .i i.2.index, .str i.2.by_, .i i.2.day]) (fun i => RegH i.1) (fun i => (∀ b ∈ i.1.bills, chOk b ∧ okB b.b) ∧ i.2.least = 0 ∧ i.2.state = 0 ∧ i.2.dated = true ∧ i.2.wrong = false) (fun i => .tup [.sl 1 (mapA .str (boxM i.1.bills i.2)), .i (askM i.1.bills i.2)]) fun i => RegH ⟨i.1.carrier, actM i.1.bills i.2 (surF i.2)⟩
theorem surrender_body (P : Program) (hend : FnOk P 48 EndC) (hcl : FnOk P 49 (CloneC 1 16)) (ha : FnOk P 39 AskC) : BodyOk P x16 SurrenderC := by
 intro args H K hc; obtain ⟨⟨⟨carrier, L⟩, ⟨bill, index, least, by_, state, day, dated, wrong⟩⟩, rfl, rfl, hp, hK⟩ := hc; refine ⟨nb9, ?_⟩; dsimp only at hp hK ⊢
 obtain ⟨hp, rfl, rfl, rfl, rfl⟩ := hp
 obtain ⟨e, he⟩ : ∃ e, e = askM L ⟨bill, index, 0, by_, 0, day, true, false⟩ := ⟨_, rfl⟩
 obtain ⟨L', hL'⟩ : ∃ L', L' = actM L ⟨bill, index, 0, by_, 0, day, true, false⟩ (surF ⟨bill, index, 0, by_, 0, day, true, false⟩) := ⟨_, rfl⟩
 obtain ⟨l, hl⟩ : ∃ l, l = boxM L ⟨bill, index, 0, by_, 0, day, true, false⟩ := ⟨_, rfl⟩
 rw [← he, ← hL', ← hl] at hK
 unfold boxM at hl
 dsimp only at hl
 rw [← he] at hl
 unfold actM at hL'
 dsimp only at hL'
 rw [← he] at hL'
 cbv
 (refine cs9 ha (⟨carrier, L⟩, ⟨bill, index, 0, by_, 0, day, true, false⟩) [0, 1] (fun b hb => (hp b hb).1) ?_; try dsimp only)
 rw [← he]
 cbv; repeat' ((first | refine .mk (fun h => ?_) fun h => ?_ | fail) <;> cbv)
 ·rw [if_pos h] at hL' hl
  rw [h] at hK
  refine poolK_in (fun b : Br => b.b.number) (fun _ => rfl) (fun i y hai hy hky => ?_) (fun hai => ?_) <;> dsimp only at *
  ·have hz := ask_zero (he.symm.trans h) hai hy
   have hk := askE_k1 hz
   clear hz
   rw [updM_some _ hai hy] at hL'
   dsimp only at hk
   have hk3 : index = 0 ∨ index = 1 ∨ index = 2 := by omega
   rw [getM_some hai hy] at hl
   have hob := (hp y (List.mem_of_getElem? hy)).2
   unfold okB at hob
   obtain ⟨⟨nq1, cq1, sq1, frm1, to1, bq1, pq1, iq1, lq1⟩, st1, ⟨sa1, ha1, ca1⟩, ⟨sb1, hb1, cb1⟩, ⟨sc1, hc1, cc1⟩⟩ := y
   dsimp only at hl hob
   subst l
   rcases hk3 with rfl | rfl | rfl
   ·obtain rfl : L' = L.set i ⟨⟨nq1, cq1, sq1, frm1, to1, bq1, pq1, iq1, lq1⟩, 1, ⟨1, ha1, ca1⟩, ⟨2, hb1, cb1⟩, ⟨2, hc1, cc1⟩⟩ := hL'
    cbv
    (refine cs9 hend (⟨⟨nq1, cq1, sq1, frm1, to1, bq1, pq1, iq1, lq1⟩, st1, ⟨sa1, ha1, ca1⟩, ⟨sb1, hb1, cb1⟩, ⟨sc1, hc1, cc1⟩⟩, 1) [2, 3, 4, 5] trivial ?_; try dsimp only)
    cbv; repeat' ((first | refine .n fun h => ?_ | refine .o ?_ | fail) <;> cbv)
    (refine c09 hcl _ ⟨by rw [mapA_len]; unfold maxLen; omega, by rw [mapA_len]; omega⟩ ?_; try dsimp only)
    cbv
    (refine .r9 (Gh.back 1 ([2, 3, 4, 5]) PelA ⟨⟨nq1, cq1, sq1, frm1, to1, bq1, pq1, iq1, lq1⟩, 1, ⟨1, ha1, ca1⟩, ⟨2, hb1, cb1⟩, ⟨2, hc1, cc1⟩⟩ rfl hy) ?_; cbv; exact .inl (.f9 hK))
   ·obtain rfl : L' = L.set i ⟨⟨nq1, cq1, sq1, frm1, to1, bq1, pq1, iq1, lq1⟩, 1, ⟨2, ha1, ca1⟩, ⟨1, hb1, cb1⟩, ⟨2, hc1, cc1⟩⟩ := hL'
    cbv
    (refine cs9 hend (⟨⟨nq1, cq1, sq1, frm1, to1, bq1, pq1, iq1, lq1⟩, st1, ⟨sa1, ha1, ca1⟩, ⟨sb1, hb1, cb1⟩, ⟨sc1, hc1, cc1⟩⟩, 1) [2, 3, 4, 5] trivial ?_; try dsimp only)
    cbv; repeat' ((first | refine .n fun h => ?_ | refine .y fun h => ?_ | refine .o ?_ | fail) <;> cbv)
    (refine c09 hcl _ ⟨by rw [mapA_len]; unfold maxLen; omega, by rw [mapA_len]; omega⟩ ?_; try dsimp only)
    cbv
    (refine .r9 (Gh.back 1 ([2, 3, 4, 5]) PelA ⟨⟨nq1, cq1, sq1, frm1, to1, bq1, pq1, iq1, lq1⟩, 1, ⟨2, ha1, ca1⟩, ⟨1, hb1, cb1⟩, ⟨2, hc1, cc1⟩⟩ rfl hy) ?_; cbv; exact .inl (.f9 hK))
   ·obtain rfl : L' = L.set i ⟨⟨nq1, cq1, sq1, frm1, to1, bq1, pq1, iq1, lq1⟩, 1, ⟨2, ha1, ca1⟩, ⟨2, hb1, cb1⟩, ⟨1, hc1, cc1⟩⟩ := hL'
    cbv
    (refine cs9 hend (⟨⟨nq1, cq1, sq1, frm1, to1, bq1, pq1, iq1, lq1⟩, st1, ⟨sa1, ha1, ca1⟩, ⟨sb1, hb1, cb1⟩, ⟨sc1, hc1, cc1⟩⟩, 1) [2, 3, 4, 5] trivial ?_; try dsimp only)
    cbv; repeat' ((first | refine .y fun h => ?_ | refine .o ?_ | fail) <;> cbv)
    (refine c09 hcl _ ⟨by rw [mapA_len]; unfold maxLen; omega, by rw [mapA_len]; omega⟩ ?_; try dsimp only)
    cbv
    (refine .r9 (Gh.back 1 ([2, 3, 4, 5]) PelA ⟨⟨nq1, cq1, sq1, frm1, to1, bq1, pq1, iq1, lq1⟩, 1, ⟨2, ha1, ca1⟩, ⟨2, hb1, cb1⟩, ⟨1, hc1, cc1⟩⟩ rfl hy) ?_; cbv; exact .inl (.f9 hK))
  ·exact (ask_none (he.symm.trans h) hai).elim
 ·rw [if_neg h] at hL' hl
  subst hL'
  subst hl
  (refine .r9 (Gh.refl _) ?_; cbv; exact .inl (.g9 hK))
def endF (f t : ByteArray) (d : Int) : Og → Og
 | ⟨s, h, c⟩ => ⟨s, (checkM h [⟨f, t, 0, d⟩]).1, c ++ [⟨f, t, 0, d⟩]⟩
def wrongE (by_ to : ByteArray) : Bool := !nameB to || decide (to = by_)
def EndorseC : Ctr := spec (fun i : Rg × Ak × ByteArray => [.ptr 0 0, .str i.2.1.bill, .i i.2.1.index, .str i.2.1.by_, .str i.2.2, .i i.2.1.day]) (fun i => RegH i.1) (fun i => (∀ b ∈ i.1.bills, chOk b) ∧ i.2.1.least = -1 ∧ i.2.1.state = 0 ∧ i.2.1.dated = true ∧ i.2.1.wrong = wrongE i.2.1.by_ i.2.2) (fun i => .i (askM i.1.bills i.2.1)) fun i => RegH ⟨i.1.carrier, actM i.1.bills i.2.1 (onO i.2.1.index (endF i.2.1.by_ i.2.2 i.2.1.day))⟩
def pick4 {α : Type} : Nat → α → α → α → α → α
 | 0, a, _, _, _ => a
 | 1, _, b, _, _ => b
 | 2, _, _, c, _ => c
 | _, _, _, _, d => d
theorem hitB_yes {idx k : Int} (h : idx = -1 ∨ idx = k) : hitB idx k = true := by unfold hitB; rcases h with h | h <;> rw [decide_eq_true h] <;> simp
theorem ask_wrong {L : List Br} {a : Ak} (hw : a.wrong = true) : askM L a ≠ 0 := by
 unfold askM
 split
 ·split
  ·unfold askE
   have h2 : k2 a = true := by unfold k2; rw [hw]; rfl
   rw [h2, if_pos rfl]
   split
   ·exact (by decide : (3 : Int) ≠ 0)
   ·exact (by decide : (1 : Int) ≠ 0)
  ·exact (by decide : (4 : Int) ≠ 0)
 ·exact (by decide : (4 : Int) ≠ 0)
theorem endorse_body (P : Program) (hn : FnOk P 27 (StrC (fun _ => True) nameB)) (ha : FnOk P 39 AskC) (hh : FnOk P 40 HolderC) : BodyOk P x12 EndorseC := by
 intro args H K hc; obtain ⟨⟨⟨carrier, L⟩, ⟨bill, index, least, by_, state, day, dated, wrong⟩, to⟩, rfl, rfl, hp, hK⟩ := hc; refine ⟨nb9, ?_⟩; dsimp only at hp hK ⊢
 obtain ⟨hp, rfl, rfl, rfl, hwr⟩ := hp
 unfold wrongE at hwr
 obtain ⟨e, he⟩ : ∃ e, e = askM L ⟨bill, index, -1, by_, 0, day, true, wrong⟩ := ⟨_, rfl⟩
 obtain ⟨L', hL'⟩ : ∃ L', L' = actM L ⟨bill, index, -1, by_, 0, day, true, wrong⟩ (onO index (endF by_ to day)) := ⟨_, rfl⟩
 obtain ⟨n, hn1⟩ : ∃ n, n = nameB to := ⟨_, rfl⟩
 rw [← he, ← hL'] at hK
 rw [← hn1] at hwr
 unfold actM at hL'
 dsimp only at hL'
 rw [← he] at hL'
 cbv
 (refine c09 hn to trivial ?_; try dsimp only)
 rw [← hn1]
 have hw3 : (n = false ∧ wrong = true) ∨ (n = true ∧ to = by_ ∧ wrong = true) ∨ (n = true ∧ ¬ to = by_ ∧ wrong = false) := by
  rw [hwr]
  cases n <;> by_cases ht : to = by_ <;> simp [ht]
 clear hwr
 obtain ⟨q0, hq0⟩ : ∃ q, q = hitB index 0 := ⟨_, rfl⟩
 obtain ⟨q1, hq1⟩ : ∃ q, q = hitB index 1 := ⟨_, rfl⟩
 obtain ⟨q2, hq2⟩ : ∃ q, q = hitB index 2 := ⟨_, rfl⟩
 rcases hw3 with ⟨rfl, rfl⟩ | ⟨rfl, ht, rfl⟩ | ⟨rfl, ht, rfl⟩
 ·have hne := ask_wrong (L := L) (a := ⟨bill, index, -1, by_, 0, day, true, true⟩) rfl
  rw [← he] at hne
  rw [if_neg hne] at hL'
  rw [hL'] at hK
  cbv
  (refine cs9 ha (⟨carrier, L⟩, ⟨bill, index, -1, by_, 0, day, true, true⟩) [0, 1] hp ?_; try dsimp only)
  rw [← he]
  cbv; repeat' ((first | refine .n fun h => ?_ | fail) <;> cbv)
  (refine .r9 (Gh.refl _) ?_; cbv; exact .inl (.f9 hK))
 ·have hne := ask_wrong (L := L) (a := ⟨bill, index, -1, by_, 0, day, true, true⟩) rfl
  rw [← he] at hne
  rw [if_neg hne] at hL'
  rw [hL'] at hK
  cbv; repeat' ((first | refine .mk (fun h => ?_) fun h => ?_ | fail) <;> cbv)
  ·(refine cs9 ha (⟨carrier, L⟩, ⟨bill, index, -1, by_, 0, day, true, true⟩) [0, 1] hp ?_; try dsimp only)
   rw [← he]
   cbv; repeat' ((first | refine .n fun h => ?_ | fail) <;> cbv)
   (refine .r9 (Gh.refl _) ?_; cbv; exact .inl (.f9 hK))
  ·exact (h ht).elim
 ·cbv; repeat' ((first | refine .mk (fun h => ?_) fun h => ?_ | fail) <;> cbv)
  ·exact (ht h).elim
  ·(refine cs9 ha (⟨carrier, L⟩, ⟨bill, index, -1, by_, 0, day, true, false⟩) [0, 1] hp ?_; try dsimp only)
   rw [← he]
   cbv; repeat' ((first | refine .mk (fun h => ?_) fun h => ?_ | fail) <;> cbv)
   ·rw [if_pos ‹e = 0›] at hL'
    rw [‹e = 0›] at hK
    refine poolK_in (fun b : Br => b.b.number) (fun _ => rfl) (fun i y hai hy hky => ?_) (fun hai => ?_) <;> dsimp only at *
    ·rw [updM_some _ hai hy] at hL'
     have hch := hp y (List.mem_of_getElem? hy)
     obtain ⟨⟨nq1, cq1, sq1, frm1, to1, bq1, pq1, iq1, lq1⟩, st1, ⟨sa1, ha1, ca1⟩, ⟨sb1, hb1, cb1⟩, ⟨sc1, hc1, cc1⟩⟩ := y
     unfold chOk at hch
     dsimp only at hch
     obtain ⟨hch0, hch1, hch2⟩ := hch
     obtain ⟨⟨ux, xh, xc⟩, hx⟩ : ∃ o, o = bif q0 then endF by_ to day ⟨sa1, ha1, ca1⟩ else ⟨sa1, ha1, ca1⟩ := ⟨_, rfl⟩
     obtain ⟨⟨uy, yh, yc⟩, hyy⟩ : ∃ o, o = bif q1 then endF by_ to day ⟨sb1, hb1, cb1⟩ else ⟨sb1, hb1, cb1⟩ := ⟨_, rfl⟩
     obtain ⟨⟨uz, zh, zc⟩, hzz⟩ : ∃ o, o = bif q2 then endF by_ to day ⟨sc1, hc1, cc1⟩ else ⟨sc1, hc1, cc1⟩ := ⟨_, rfl⟩
     obtain ⟨⟨m0, mi0, me0⟩, hm0⟩ : ∃ m, m = checkM ha1 [⟨by_, to, 0, day⟩] := ⟨_, rfl⟩
     obtain ⟨⟨m1, mi1, me1⟩, hm1⟩ : ∃ m, m = checkM hb1 [⟨by_, to, 0, day⟩] := ⟨_, rfl⟩
     obtain ⟨⟨m2, mi2, me2⟩, hm2⟩ : ∃ m, m = checkM hc1 [⟨by_, to, 0, day⟩] := ⟨_, rfl⟩
     unfold onO at hL'
     dsimp only at hL'
     rw [← hq0, ← hq1, ← hq2, ← hx, ← hyy, ← hzz] at hL'
     subst hL'
     cbv
     refine xloopV [] (fun p : { k : Nat // k ≤ 3 } => [(42, .i (nI p.1))]) (fun p => [.blk 59 [.str carrier, .ph 1], .pool 57 (mapA PelA L) [(i, .ptr 2 0)]] ++ renH [] 2 (EntC (pick4 p.1 ⟨⟨nq1, cq1, sq1, frm1, to1, bq1, pq1, iq1, lq1⟩, st1, ⟨sa1, ha1, ca1⟩, ⟨sb1, hb1, cb1⟩, ⟨sc1, hc1, cc1⟩⟩ ⟨⟨nq1, cq1, sq1, frm1, to1, bq1, pq1, iq1, lq1⟩, st1, ⟨ux, xh, xc⟩, ⟨sb1, hb1, cb1⟩, ⟨sc1, hc1, cc1⟩⟩ ⟨⟨nq1, cq1, sq1, frm1, to1, bq1, pq1, iq1, lq1⟩, st1, ⟨ux, xh, xc⟩, ⟨uy, yh, yc⟩, ⟨sc1, hc1, cc1⟩⟩ ⟨⟨nq1, cq1, sq1, frm1, to1, bq1, pq1, iq1, lq1⟩, st1, ⟨ux, xh, xc⟩, ⟨uy, yh, yc⟩, ⟨uz, zh, zc⟩⟩))) (fun p => lft 3 p.1) ⟨0, by decide⟩ ?_
     rintro ⟨k, hk⟩
     dsimp only at hk ⊢
     have hk4 : k = 0 ∨ k = 1 ∨ k = 2 ∨ k = 3 := by omega
     rcases hk4 with rfl | rfl | rfl | rfl
     ·cases q0 with
      | true =>
       obtain ⟨rfl, rfl, rfl⟩ : ux = sa1 ∧ xh = m0 ∧ xc = ca1 ++ [⟨by_, to, 0, day⟩] := by
        unfold endF at hx
        dsimp only at hx
        rw [← hm0] at hx
        injection hx with h1 h2 h3
        exact ⟨h1, h2, h3⟩
       cbv; repeat' ((first | refine .n fun h => ?_ | refine .y fun h => ?_ | refine .mk (fun h => ?_) fun h => ?_ | refine .k fun z hz => ?_ | refine .o ?_ | refine .zl fun zs hzs hzl => ?_ | fail) <;> cbv)
       ·refine callG_publish 9 rfl ?_
        cbv
        (refine c09 hh (ha1, [⟨by_, to, 0, day⟩]) (Nat.le_add_left 1 4999) ?_; try dsimp only)
        rw [← hm0]
        dsimp only
        obtain rfl : zs = mapA EdA (ca1 ++ [(⟨by_, to, 0, day⟩ : Edm)]) := by (rw [mapA_app, mapA_one]; first | exact hzs | (subst_vars; rfl))
        cbv; repeat' ((first | refine .k fun z hz => ?_ | fail) <;> cbv)
        obtain rfl : z = nI 1 := om9
        exact roundV ⟨1, by decide⟩ (lft_lt (by decide))
       ·refine callG_publish 9 rfl ?_
        cbv
        (refine c09 hh (ha1, [⟨by_, to, 0, day⟩]) (Nat.le_add_left 1 4999) ?_; try dsimp only)
        rw [← hm0]
        dsimp only
        obtain rfl : zs = mapA EdA (ca1 ++ [(⟨by_, to, 0, day⟩ : Edm)]) := by (rw [mapA_app, mapA_one]; first | exact hzs | (subst_vars; rfl))
        cbv; repeat' ((first | refine .k fun z hz => ?_ | fail) <;> cbv)
        obtain rfl : z = nI 1 := om9
        exact roundV ⟨1, by decide⟩ (lft_lt (by decide))
       ·exact absurd (hq0.trans (hitB_not ‹¬ index = -1› ‹¬ index = Int.ofNat 0›)) (by decide)
      | false =>
       obtain ⟨rfl, rfl, rfl⟩ : ux = sa1 ∧ xh = ha1 ∧ xc = ca1 := by
        injection hx with h1 h2 h3
        exact ⟨h1, h2, h3⟩
       cbv; repeat' ((first | refine .n fun h => ?_ | refine .y fun h => ?_ | refine .mk (fun h => ?_) fun h => ?_ | refine .k fun z hz => ?_ | refine .o ?_ | refine .zl fun zs hzs hzl => ?_ | fail) <;> cbv)
       ·exact absurd (hq0.trans (hitB_yes (.inl ‹index = -1›))) (by decide)
       ·exact absurd (hq0.trans (hitB_yes (.inr ‹index = Int.ofNat 0›))) (by decide)
       ·obtain rfl : z = nI 1 := om9
        exact roundV ⟨1, by decide⟩ (lft_lt (by decide))
     ·cases q1 with
      | true =>
       obtain ⟨rfl, rfl, rfl⟩ : uy = sb1 ∧ yh = m1 ∧ yc = cb1 ++ [⟨by_, to, 0, day⟩] := by
        unfold endF at hyy
        dsimp only at hyy
        rw [← hm1] at hyy
        injection hyy with h1 h2 h3
        exact ⟨h1, h2, h3⟩
       cbv; repeat' ((first | refine .n fun h => ?_ | refine .y fun h => ?_ | refine .mk (fun h => ?_) fun h => ?_ | refine .k fun z hz => ?_ | refine .o ?_ | refine .zl fun zs hzs hzl => ?_ | fail) <;> cbv)
       ·refine callG_publish 9 rfl ?_
        cbv
        (refine c09 hh (hb1, [⟨by_, to, 0, day⟩]) (Nat.le_add_left 1 4999) ?_; try dsimp only)
        rw [← hm1]
        dsimp only
        obtain rfl : zs = mapA EdA (cb1 ++ [(⟨by_, to, 0, day⟩ : Edm)]) := by (rw [mapA_app, mapA_one]; first | exact hzs | (subst_vars; rfl))
        cbv; repeat' ((first | refine .k fun z hz => ?_ | fail) <;> cbv)
        obtain rfl : z = nI 2 := om9
        exact roundV ⟨2, by decide⟩ (lft_lt (by decide))
       ·refine callG_publish 9 rfl ?_
        cbv
        (refine c09 hh (hb1, [⟨by_, to, 0, day⟩]) (Nat.le_add_left 1 4999) ?_; try dsimp only)
        rw [← hm1]
        dsimp only
        obtain rfl : zs = mapA EdA (cb1 ++ [(⟨by_, to, 0, day⟩ : Edm)]) := by (rw [mapA_app, mapA_one]; first | exact hzs | (subst_vars; rfl))
        cbv; repeat' ((first | refine .k fun z hz => ?_ | fail) <;> cbv)
        obtain rfl : z = nI 2 := om9
        exact roundV ⟨2, by decide⟩ (lft_lt (by decide))
       ·exact absurd (hq1.trans (hitB_not ‹¬ index = -1› ‹¬ index = Int.ofNat 1›)) (by decide)
      | false =>
       obtain ⟨rfl, rfl, rfl⟩ : uy = sb1 ∧ yh = hb1 ∧ yc = cb1 := by
        injection hyy with h1 h2 h3
        exact ⟨h1, h2, h3⟩
       cbv; repeat' ((first | refine .n fun h => ?_ | refine .y fun h => ?_ | refine .mk (fun h => ?_) fun h => ?_ | refine .k fun z hz => ?_ | refine .o ?_ | refine .zl fun zs hzs hzl => ?_ | fail) <;> cbv)
       ·exact absurd (hq1.trans (hitB_yes (.inl ‹index = -1›))) (by decide)
       ·exact absurd (hq1.trans (hitB_yes (.inr ‹index = Int.ofNat 1›))) (by decide)
       ·obtain rfl : z = nI 2 := om9
        exact roundV ⟨2, by decide⟩ (lft_lt (by decide))
     ·cases q2 with
      | true =>
       obtain ⟨rfl, rfl, rfl⟩ : uz = sc1 ∧ zh = m2 ∧ zc = cc1 ++ [⟨by_, to, 0, day⟩] := by
        unfold endF at hzz
        dsimp only at hzz
        rw [← hm2] at hzz
        injection hzz with h1 h2 h3
        exact ⟨h1, h2, h3⟩
       cbv; repeat' ((first | refine .y fun h => ?_ | refine .mk (fun h => ?_) fun h => ?_ | refine .k fun z hz => ?_ | refine .o ?_ | refine .zl fun zs hzs hzl => ?_ | fail) <;> cbv)
       ·refine callG_publish 9 rfl ?_
        cbv
        (refine c09 hh (hc1, [⟨by_, to, 0, day⟩]) (Nat.le_add_left 1 4999) ?_; try dsimp only)
        rw [← hm2]
        dsimp only
        obtain rfl : zs = mapA EdA (cc1 ++ [(⟨by_, to, 0, day⟩ : Edm)]) := by (rw [mapA_app, mapA_one]; first | exact hzs | (subst_vars; rfl))
        cbv; repeat' ((first | refine .k fun z hz => ?_ | fail) <;> cbv)
        obtain rfl : z = nI 3 := om9
        exact roundV ⟨3, by decide⟩ (lft_lt (by decide))
       ·refine callG_publish 9 rfl ?_
        cbv
        (refine c09 hh (hc1, [⟨by_, to, 0, day⟩]) (Nat.le_add_left 1 4999) ?_; try dsimp only)
        rw [← hm2]
        dsimp only
        obtain rfl : zs = mapA EdA (cc1 ++ [(⟨by_, to, 0, day⟩ : Edm)]) := by (rw [mapA_app, mapA_one]; first | exact hzs | (subst_vars; rfl))
        cbv; repeat' ((first | refine .k fun z hz => ?_ | fail) <;> cbv)
        obtain rfl : z = nI 3 := om9
        exact roundV ⟨3, by decide⟩ (lft_lt (by decide))
       ·exact absurd (hq2.trans (hitB_not ‹¬ index = -1› ‹¬ index = Int.ofNat 2›)) (by decide)
      | false =>
       obtain ⟨rfl, rfl, rfl⟩ : uz = sc1 ∧ zh = hc1 ∧ zc = cc1 := by
        injection hzz with h1 h2 h3
        exact ⟨h1, h2, h3⟩
       cbv; repeat' ((first | refine .y fun h => ?_ | refine .mk (fun h => ?_) fun h => ?_ | refine .k fun z hz => ?_ | refine .o ?_ | refine .zl fun zs hzs hzl => ?_ | fail) <;> cbv)
       ·exact absurd (hq2.trans (hitB_yes (.inl ‹index = -1›))) (by decide)
       ·exact absurd (hq2.trans (hitB_yes (.inr ‹index = Int.ofNat 2›))) (by decide)
       ·obtain rfl : z = nI 3 := om9
        exact roundV ⟨3, by decide⟩ (lft_lt (by decide))
     ·cbv; repeat' ((first | refine .n fun h => ?_ | fail) <;> cbv)
      (refine .r9 (Gh.back 1 ([2, 3, 4, 5]) PelA ⟨⟨nq1, cq1, sq1, frm1, to1, bq1, pq1, iq1, lq1⟩, st1, ⟨ux, xh, xc⟩, ⟨uy, yh, yc⟩, ⟨uz, zh, zc⟩⟩ rfl hy) ?_; cbv; exact .inl (.f9 hK))
    ·exact (ask_none (he.symm.trans ‹e = 0›) hai).elim
   ·rw [if_neg h] at hL'
    subst hL'
    (refine .r9 (Gh.refl _) ?_; cbv; exact .inl (.f9 hK))
def zeroO : Og := ⟨0, ⟨⟨[]⟩⟩, []⟩
def pickO (idx : Int) : Br → Og × Bool
 | ⟨_, _, o0, o1, o2⟩ => if idx = 0 then (o0, true) else if idx = 1 then (o1, true) else if idx = 2 then (o2, true) else (zeroO, false)
def origM (L : List Br) (s : ByteArray) (idx : Int) : Og × Bool := match bAt L s with
 | some i => match L[i]? with
  | some b => pickO idx b
  | none => (zeroO, false)
 | none => (zeroO, false)
theorem origM_some {L : List Br} {s : ByteArray} {i : Nat} {y : Br} {idx : Int} (h : bAt L s = some i) (hy : L[i]? = some y) : origM L s idx = pickO idx y := by unfold origM; rw [h]; dsimp only; rw [hy]
theorem origM_none {L : List Br} {s : ByteArray} {idx : Int} (h : bAt L s = none) : origM L s idx = (zeroO, false) := by unfold origM; rw [h]
def OgB : Og × Bool → AV
 | (o, b) => .tup [OgA o, .bl b]
def OrigC : Ctr := spec (fun i : Rg × ByteArray × Int => [.ptr 0 0, .str i.2.1, .i i.2.2]) (fun i => RegH i.1) (fun _ => True) (fun i => OgB (origM i.1.bills i.2.1 i.2.2)) fun i => RegH i.1
theorem origM_chain {L : List Br} {s : ByteArray} {idx : Int} (h : ∀ b ∈ L, chOk b) : (origM L s idx).1.chain.length ≤ 4500 := by
 unfold origM
 split
 ·split
  ·next b hb =>
   have hc := h b (List.mem_of_getElem? hb)
   obtain ⟨_, _, ⟨_, _, _⟩, ⟨_, _, _⟩, ⟨_, _, _⟩⟩ := b
   unfold chOk at hc
   dsimp only at hc
   unfold pickO
   dsimp only
   split
   ·exact hc.1
   ·split
    ·exact hc.2.1
    ·split
     ·exact hc.2.2
     ·exact Nat.zero_le _
  ·exact Nat.zero_le _
 ·exact Nat.zero_le _
def ChainC : Ctr := spec (fun i : Rg × ByteArray × Int => [.ptr 0 0, .str i.2.1, .i i.2.2]) (fun i => RegH i.1) (fun i => ∀ b ∈ i.1.bills, chOk b) (fun i => .sl 4 (mapA EdA (origM i.1.bills i.2.1 i.2.2).1.chain)) fun i => RegH i.1
def holdM (L : List Br) (s : ByteArray) (idx : Int) : ByteArray × Bool :=
 if (origM L s idx).2 = false ∨ ¬ stateM L s = 0 ∨ (¬ (origM L s idx).1.state = 0 ∧ ¬ (origM L s idx).1.state = 3) then (⟨⟨[]⟩⟩, false) else ((origM L s idx).1.holder, true)
def SbA : ByteArray × Bool → AV
 | (s, b) => .tup [.str s, .bl b]
def HoldC : Ctr := spec (fun i : Rg × ByteArray × Int => [.ptr 0 0, .str i.2.1, .i i.2.2]) (fun i => RegH i.1) (fun _ => True) (fun i => SbA (holdM i.1.bills i.2.1 i.2.2)) fun i => RegH i.1
def fullM (L : List Br) (s who : ByteArray) : Bool := match bAt L s with
 | some i => match L[i]? with
  | some b => decide (b.st = 0) && !some3 (-1) b (pFull who)
  | none => false
 | none => false
theorem fullM_some {L : List Br} {s who : ByteArray} {i : Nat} {y : Br} (h : bAt L s = some i) (hy : L[i]? = some y) : fullM L s who = (decide (y.st = 0) && !some3 (-1) y (pFull who)) := by unfold fullM; rw [h]; dsimp only; rw [hy]
theorem fullM_none {L : List Br} {s who : ByteArray} (h : bAt L s = none) : fullM L s who = false := by unfold fullM; rw [h]
def FullC : Ctr := spec (fun i : Rg × ByteArray × ByteArray => [.ptr 0 0, .str i.2.1, .str i.2.2]) (fun i => RegH i.1) (fun i => ∀ b ∈ i.1.bills, chOk b) (fun i => .bl (fullM i.1.bills i.2.1 i.2.2)) fun i => RegH i.1
structure Orn where
 bill : ByteArray
 index : Int
 state : Int
 holder : ByteArray
def OrnA : Orn → AV
 | ⟨b, i, s, h⟩ => .agg [.str b, .i i, .i s, .str h]
def orn3 (s : ByteArray) : Br → List Orn
 | ⟨_, _, ⟨sa, ha, _⟩, ⟨sb, hb, _⟩, ⟨sc, hc, _⟩⟩ => [⟨s, 0, sa, ha⟩, ⟨s, 1, sb, hb⟩, ⟨s, 2, sc, hc⟩]
def ornM (L : List Br) (s : ByteArray) : List Orn := match bAt L s with
 | some i => match L[i]? with
  | some b => orn3 s b
  | none => []
 | none => []
theorem ornM_some {L : List Br} {s : ByteArray} {i : Nat} {y : Br} (h : bAt L s = some i) (hy : L[i]? = some y) : ornM L s = orn3 s y := by unfold ornM; rw [h]; dsimp only; rw [hy]
theorem ornM_none {L : List Br} {s : ByteArray} (h : bAt L s = none) : ornM L s = [] := by unfold ornM; rw [h]
def OriginalsC : Ctr := spec (fun i : Rg × ByteArray => [.ptr 0 0, .str i.2]) (fun i => RegH i.1) (fun _ => True) (fun i => .sl 4 (mapA OrnA (ornM i.1.bills i.2))) fun i => RegH i.1
def idxP (p : ByteArray → Bool) (l : List ByteArray) : Int := match l.findIdx? p with
 | some i => Int.ofNat i
 | none => -1
def NoneTo (p : ByteArray → Bool) (l : List ByteArray) (k : Nat) : Prop := ∀ j y, j < k → l[j]? = some y → p y = false
theorem NoneTo.zero {p : ByteArray → Bool} {l : List ByteArray} : NoneTo p l 0 := fun j y h => absurd h (Nat.not_lt_zero j)
theorem NoneTo.succ {p : ByteArray → Bool} {l : List ByteArray} {k : Nat} {x : ByteArray} (h : NoneTo p l k) (hx : l[k]? = some x) (hp : p x = false) : NoneTo p l (k + 1) := fun j y hj hy => by
 rcases Nat.lt_or_ge j k with h1 | h1
 ·exact h j y h1 hy
 ·obtain rfl : j = k := by omega
  rw [hx] at hy
  cases hy
  exact hp
theorem idxP_at {p : ByteArray → Bool} {l : List ByteArray} {k : Nat} {x : ByteArray} (h : NoneTo p l k) (hx : l[k]? = some x) (hp : p x = true) : idxP p l = Int.ofNat k := by
 obtain ⟨hk, rfl⟩ := List.getElem?_eq_some_iff.1 hx
 have e : l.findIdx? p = some k := List.findIdx?_eq_some_iff_getElem.2 ⟨hk, hp, fun j hj => by rw [h j _ hj (List.getElem?_eq_getElem (by omega))]; decide⟩
 unfold idxP
 rw [e]
theorem idxP_none {p : ByteArray → Bool} {l : List ByteArray} (h : NoneTo p l l.length) : idxP p l = -1 := by
 have e : l.findIdx? p = none := List.findIdx?_eq_none_iff.2 fun x hx => by
  obtain ⟨j, hj, rfl⟩ := List.mem_iff_getElem.1 hx
  exact h j _ hj (List.getElem?_eq_getElem hj)
 unfold idxP
 rw [e]
theorem idxP_any (p : ByteArray → Bool) (l : List ByteArray) : decide (0 ≤ idxP p l) = l.any p := by
 unfold idxP
 cases e : l.findIdx? p with
 | none =>
  rw [List.findIdx?_eq_none_iff] at e
  have : l.any p = false := by
   rw [List.any_eq_false]
   intro x hx
   rw [e x hx]
   decide
  rw [this]
  rfl
 | some i =>
  rw [List.findIdx?_eq_some_iff_getElem] at e
  obtain ⟨hi, h1, _⟩ := e
  have : l.any p = true := List.any_eq_true.2 ⟨_, List.getElem_mem hi, h1⟩
  rw [this]
  exact decide_eq_true (Int.natCast_nonneg i)
def IndexC : Ctr := spec (fun i : List ByteArray × ByteArray => [.sl 1 (mapA .str i.1), .str i.2]) (fun _ => []) (fun i => i.1.length ≤ 5000) (fun i => .i (idxP (fun x => decide (i.2 = x)) i.1)) fun _ => []
theorem index_body (P : Program) : BodyOk P x81 IndexC := by
 intro args H K hc; obtain ⟨⟨l, s⟩, rfl, rfl, hp, hK⟩ := hc; refine ⟨nb9, ?_⟩; dsimp only at hp hK ⊢
 obtain ⟨p, hpp⟩ : ∃ p : ByteArray → Bool, p = fun x => decide (s = x) := ⟨_, rfl⟩
 rw [← hpp] at hK
 have hpx : ∀ x, p x = decide (s = x) := fun x => by rw [hpp]
 clear hpp
 cbv; repeat' ((first | refine .k fun z hz => ?_ | fail) <;> cbv)
 refine xloopV [] (fun q : { k : Nat // k ≤ l.length ∧ NoneTo p l k } => [(8, .i (nI q.1))]) (fun _ => []) (fun q => lft 5001 q.1) ⟨0, Nat.zero_le _, .zero⟩ ?_
 rintro ⟨k, hk, hn⟩
 dsimp only at hk hn ⊢
 cbv; repeat' ((first | refine .mk (fun h => ?_) fun h => ?_ | fail) <;> cbv)
 ·refine askEl_int om9 om9 fun i x hi hx => ?_
  obtain rfl : k = i := om9
  cbv; repeat' ((first | refine .mk (fun h => ?_) fun h => ?_ | refine .k fun z hz => ?_ | fail) <;> cbv)
  ·exact FinK.mk ⟨_, Gh.refl _, .inl (.v9 (K_i hK (by (rw [idxP_at hn hx ((hpx x).trans (decide_eq_true h))]))))⟩
  ·obtain rfl : z = nI (k + 1) := om9
   exact roundV ⟨k + 1, by exact om9, hn.succ hx ((hpx x).trans (decide_eq_false h))⟩ (lft_lt om9)
 ·obtain rfl : k = l.length := om9
  exact FinK.mk ⟨_, Gh.refl _, .inl (.v9 (K_i hK (by (rw [idxP_none hn]))))⟩
def ContainsC : Ctr := spec (fun i : List ByteArray × ByteArray => [.sl 1 (mapA .str i.1), .str i.2]) (fun _ => []) (fun i => i.1.length ≤ 5000) (fun i => .bl (i.1.any fun x => decide (i.2 = x))) fun _ => []
theorem contains_body (P : Program) (hi : FnOk P 81 IndexC) : BodyOk P x51 ContainsC := by
 intro args H K hc; obtain ⟨⟨l, s⟩, rfl, rfl, hp, hK⟩ := hc; refine ⟨nb9, ?_⟩; dsimp only at hp hK ⊢
 obtain ⟨p, hpp⟩ : ∃ p : ByteArray → Bool, p = fun x => decide (s = x) := ⟨_, rfl⟩
 rw [← hpp, ← idxP_any] at hK
 obtain ⟨e, he⟩ : ∃ e, e = idxP p l := ⟨_, rfl⟩
 rw [← he] at hK
 cbv
 (refine c09 hi (l, s) hp ?_; try dsimp only)
 rw [← hpp, ← he]
 cbv; repeat' ((first | refine .mk (fun h => ?_) fun h => ?_ | fail) <;> cbv)
 ·exact FinK.mk ⟨_, Gh.refl _, .inl (.v9 (K_bl hK (by (rw [decide_eq_true h]))))⟩
 ·exact FinK.mk ⟨_, Gh.refl _, .inl (.v9 (K_bl hK (by (rw [decide_eq_false (by omega)]))))⟩
def CloN (p : ByteArray → Bool) : Ctr := spec (fun s : ByteArray => [.str s]) (fun _ => []) (fun _ => True) (fun s => .bl (p s)) fun _ => []
def IdxFC (f : Nat) (p : ByteArray → Bool) : Ctr := spec (fun l : List ByteArray => [.sl 1 (mapA .str l), .clo f []]) (fun _ => []) (fun l => l.length ≤ 5000) (fun l => .i (idxP p l)) fun _ => []
theorem idxF_body (P : Program) (f : Nat) (p : ByteArray → Bool) (hm : MayCall P f) (hf : FnOk P f (CloN p)) : BodyOk P x64 (IdxFC f p) := by
 intro args H K hc; obtain ⟨l, rfl, rfl, hp, hK⟩ := hc; refine ⟨nb9, ?_⟩; dsimp only at hp hK ⊢
 cbv; repeat' ((first | refine .k fun z hz => ?_ | fail) <;> cbv)
 refine xloopV [] (fun q : { k : Nat // k ≤ l.length ∧ NoneTo p l k } => [(8, .i (nI q.1))]) (fun _ => []) (fun q => lft 5001 q.1) ⟨0, Nat.zero_le _, .zero⟩ ?_
 rintro ⟨k, hk, hn⟩
 dsimp only at hk hn ⊢
 cbv; repeat' ((first | refine .mk (fun h => ?_) fun h => ?_ | fail) <;> cbv)
 ·refine askEl_int om9 om9 fun i x hi hx => ?_
  obtain rfl : k = i := om9
  cbv; repeat' ((first | refine And.intro ?_ ?_ | fail) <;> cbv)
  ·exact hm
  ·obtain ⟨b, hb⟩ : ∃ b, b = p x := ⟨_, rfl⟩
   (refine c09 hf x trivial ?_; try dsimp only)
   rw [← hb]
   cases b with
   | true =>
    cbv
    exact FinK.mk ⟨_, Gh.refl _, .inl (.v9 (K_i hK (by (rw [idxP_at hn hx hb.symm]))))⟩
   | false =>
    cbv; repeat' ((first | refine .k fun z hz => ?_ | fail) <;> cbv)
    obtain rfl : z = nI (k + 1) := om9
    exact roundV ⟨k + 1, by exact om9, hn.succ hx hb.symm⟩ (lft_lt om9)
 ·obtain rfl : k = l.length := om9
  exact FinK.mk ⟨_, Gh.refl _, .inl (.v9 (K_i hK (by (rw [idxP_none hn]))))⟩
def ConFC (f : Nat) (p : ByteArray → Bool) : Ctr := spec (fun l : List ByteArray => [.sl 1 (mapA .str l), .clo f []]) (fun _ => []) (fun l => l.length ≤ 5000) (fun l => .bl (l.any p)) fun _ => []
theorem conF_body (P : Program) (f : Nat) (p : ByteArray → Bool) (hi : FnOk P 64 (IdxFC f p)) : BodyOk P x30 (ConFC f p) := by
 intro args H K hc; obtain ⟨l, rfl, rfl, hp, hK⟩ := hc; refine ⟨nb9, ?_⟩; dsimp only at hp hK ⊢
 rw [← idxP_any] at hK
 obtain ⟨e, he⟩ : ∃ e, e = idxP p l := ⟨_, rfl⟩
 rw [← he] at hK
 cbv
 (refine c09 hi l hp ?_; try dsimp only)
 rw [← he]
 cbv; repeat' ((first | refine .mk (fun h => ?_) fun h => ?_ | fail) <;> cbv)
 ·exact FinK.mk ⟨_, Gh.refl _, .inl (.v9 (K_bl hK (by (rw [decide_eq_true h]))))⟩
 ·exact FinK.mk ⟨_, Gh.refl _, .inl (.v9 (K_bl hK (by (rw [decide_eq_false (by omega)]))))⟩
theorem may1_body (P : Program) (hn : FnOk P 27 (StrC (fun _ => True) nameB)) : BodyOk P x63 (CloN fun s => !nameB s) := by
 intro args H K hc; obtain ⟨s, rfl, rfl, hp, hK⟩ := hc; refine ⟨nb9, ?_⟩; dsimp only at hp hK ⊢
 obtain ⟨b, hb⟩ : ∃ b, b = nameB s := ⟨_, rfl⟩
 rw [← hb] at hK
 cbv
 (refine c09 hn s trivial ?_; try dsimp only)
 rw [← hb]
 cases b with
 | true =>
  cbv
  exact FinK.mk ⟨_, Gh.refl _, .inl (.v9 (K_of hK (by rfl)))⟩
 | false =>
  cbv
  exact FinK.mk ⟨_, Gh.refl _, .inl (.v9 (K_of hK (by rfl)))⟩
def lays190_ren : Go.Shelf.Ren := ⟨fun | 190 => 65 | 125 => 91 | 258 => 90 | 128 => 108 | 129 => 95 | 302 => 99 | 303 => 100 | 304 => 101 | 305 => 102 | 306 => 103 | 307 => 104 | 308 => 105 | 309 => 106 | 310 => 107 | 333 => 117 | 329 => 118 | 330 => 119 | 334 => 120 | 335 => 121 | 336 => 122 | 344 => 128 | n => n, fun | 31 => 26 | 9 => 9 | 3 => 3 | 46 => 123 | 0 => 0 | 51 => 147 | 53 => 101 | 4 => 4 | 183 => 139 | 182 => 138 | 131 => 144 | 5 => 5 | 218 => 155 | 222 => 159 | 228 => 164 | 229 => 165 | n => n, fun | n => n⟩
theorem lays190 : Go.Proofs.Lays.n190 Tryz.prog lays190_ren := {
 mixed := by kernel_rfl
 f125 := Tryz.func91.trans (congrArg some (by kernel_rfl))
 f128 := Tryz.func108.trans (congrArg some (by kernel_rfl))
 f129 := Tryz.func95.trans (congrArg some (by kernel_rfl))
 f190 := Tryz.func65.trans (congrArg some (by kernel_rfl))
 f258 := Tryz.func90.trans (congrArg some (by kernel_rfl))
 f302 := Tryz.func99.trans (congrArg some (by kernel_rfl))
 f303 := Tryz.func100.trans (congrArg some (by kernel_rfl))
 f304 := Tryz.func101.trans (congrArg some (by kernel_rfl))
 f305 := Tryz.func102.trans (congrArg some (by kernel_rfl))
 f306 := Tryz.func103.trans (congrArg some (by kernel_rfl))
 f307 := Tryz.func104.trans (congrArg some (by kernel_rfl))
 f308 := Tryz.func105.trans (congrArg some (by kernel_rfl))
 f309 := Tryz.func106.trans (congrArg some (by kernel_rfl))
 f310 := Tryz.func107.trans (congrArg some (by kernel_rfl))
 f329 := Tryz.func118.trans (congrArg some (by kernel_rfl))
 f330 := Tryz.func119.trans (congrArg some (by kernel_rfl))
 f333 := Tryz.func117.trans (congrArg some (by kernel_rfl))
 f334 := Tryz.func120.trans (congrArg some (by kernel_rfl))
 f335 := Tryz.func121.trans (congrArg some (by kernel_rfl))
 f336 := Tryz.func122.trans (congrArg some (by kernel_rfl))
 f344 := Tryz.func128.trans (congrArg some (by kernel_rfl))
 t0 := Tryz.underlying0
 a0 := Tryz.isAgg0
 z0 := Tryz.sizeOf0
 v0 := Tryz.zeroValue0
 t3 := Tryz.underlying3
 a3 := Tryz.isAgg3
 z3 := Tryz.sizeOf3
 v3 := Tryz.zeroValue3
 t4 := Tryz.underlying4
 a4 := Tryz.isAgg4
 z4 := Tryz.sizeOf4
 v4 := Tryz.zeroValue4
 t5 := Tryz.underlying5
 a5 := Tryz.isAgg5
 z5 := Tryz.sizeOf5
 v5 := Tryz.zeroValue5
 t9 := Tryz.underlying9
 a9 := Tryz.isAgg9
 z9 := Tryz.sizeOf9
 v9 := Tryz.zeroValue9
 t31 := Tryz.underlying26
 a31 := Tryz.isAgg26
 z31 := Tryz.sizeOf26
 v31 := Tryz.zeroValue26
 t46 := Tryz.underlying123
 a46 := Tryz.isAgg123
 z46 := Tryz.sizeOf123
 v46 := Tryz.zeroValue123
 t51 := Tryz.underlying147
 a51 := Tryz.isAgg147
 z51 := Tryz.sizeOf147
 v51 := Tryz.zeroValue147
 t53 := Tryz.underlying101
 a53 := Tryz.isAgg101
 z53 := Tryz.sizeOf101
 v53 := Tryz.zeroValue101
 t131 := Tryz.underlying144
 a131 := Tryz.isAgg144
 z131 := Tryz.sizeOf144
 v131 := Tryz.zeroValue144
 t182 := Tryz.underlying138
 a182 := Tryz.isAgg138
 z182 := Tryz.sizeOf138
 v182 := Tryz.zeroValue138
 t183 := Tryz.underlying139
 a183 := Tryz.isAgg139
 z183 := Tryz.sizeOf139
 v183 := Tryz.zeroValue139
 t218 := Tryz.underlying155
 a218 := Tryz.isAgg155
 z218 := Tryz.sizeOf155
 v218 := Tryz.zeroValue155
 t222 := Tryz.underlying159
 a222 := Tryz.isAgg159
 z222 := Tryz.sizeOf159
 v222 := Tryz.zeroValue159
 t228 := Tryz.underlying164
 a228 := Tryz.isAgg164
 z228 := Tryz.sizeOf164
 v228 := Tryz.zeroValue164
 t229 := Tryz.underlying165
 a229 := Tryz.isAgg165
 z229 := Tryz.sizeOf165
 v229 := Tryz.zeroValue165 }
def toL (s : ByteArray) : List UInt8 := s.data.toList
def ofL (l : List UInt8) : ByteArray := ⟨l.toArray⟩
def sortB (L : List ByteArray) : List ByteArray := ((L.map toL).mergeSort fun x y => decide (x ≤ y)).map ofL
theorem ofL_toL (s : ByteArray) : ofL (toL s) = s := by
 obtain ⟨⟨l⟩⟩ := s
 rfl
theorem str_us {pub : Pub} {w : World} {r : Rho} : ∀ {L : List ByteArray} {us : List Value}, VRels pub w r ((mapA .str L).flatMap AV.cells) us → us = L.map .string
 | [], us, h => h.nil_inv
 | s :: L, us, h => by
  have h' : VRels pub w r (.str s :: (mapA .str L).flatMap AV.cells) us := h
  obtain ⟨us', rfl, h2⟩ := h'.str_inv
  rw [str_us h2]
  rfl
theorem us_str {pub : Pub} {w : World} {r : Rho} : ∀ (L : List ByteArray), VRels pub w r ((mapA .str L).flatMap AV.cells) (L.map .string)
 | [] => ⟨rfl, fun i x u hx _ => by cases hx⟩
 | s :: L => by
  have ih := us_str (pub := pub) (w := w) (r := r) L
  show VRels pub w r (.str s :: (mapA .str L).flatMap AV.cells) (.string s :: L.map .string)
  refine ⟨by rw [List.length_cons, List.length_cons, ih.len], fun i x u hx hu => ?_⟩
  cases i with
  | zero => cases hx; cases hu; exact .str s
  | succ i => exact ih.at_ i x u hx hu
structure SortOk (P : Program) (f : Nat) : Prop where
 out : ∀ (A : Option Addr) (L : List ByteArray) (c : Nat) (w : World) (pub : Pub), L.length ≤ 2000000 → Own w 9 1 A L.length c (L.map .string) → (∀ b ∈ fpo A, pub b = 0) → (∀ b, w.heap.size ≤ b → pub b = 0) →
  Calls P f #[.slice A L.length c] w fun e w' => e = .returned (.tuple #[]) ∧ Fr (fun b => b ∈ fpo A) pub w pub w' ∧ Own w' 9 1 A L.length c ((sortB L).map .string)
theorem sortB_len (L : List ByteArray) : (sortB L).length = L.length := by simp [sortB]
theorem sort_ok : SortOk Tryz.prog 65 := ⟨fun A L c w pub hp ho hpb hfresh => by
 rcases ho.cases_ with ⟨rfl, hl0, rfl, _⟩ | ⟨g, cur, rfl, hb, h1, h2, h3, h4⟩
 ·obtain rfl : L = [] := List.eq_nil_of_length_eq_zero hl0
  refine (Any.slices_Sort_string_none lays190 none 0 w).mono fun e w' h => ?_
  obtain ⟨rfl, rfl⟩ := h
  refine ⟨rfl, .refl _ _ _, ?_⟩
  rw [show sortB [] = [] by simp [sortB]]
  exact ho
 ·have hgp : pub g = 0 := hpb g (by simp)
  have hss : cur.toList.take (L.map toL).length = (L.map toL).map encStr := by
   rw [List.length_map, ← Nat.mul_one L.length, h4, List.map_map]
   refine List.map_congr_left fun s _ => ?_
   show Value.string s = Value.string (ofL (toL s))
   rw [ofL_toL]
  have hblk : g < w.heap.size := hb.lt
  have hlen : L.length = (L.map toL).length := by rw [List.length_map]
  rw [hlen]
  refine (Any.slices_Sort_string lays190 g 0 c (L.map toL) w (holds_of_block hb hss) hblk (by rw [List.length_map]; omega)).mono fun e w' h => ?_
  obtain ⟨rfl, n, os, rfl⟩ := h
  obtain ⟨ts, hts⟩ : ∃ ts, ts = (L.map toL).mergeSort fun x y => decide (x ≤ y) := ⟨_, rfl⟩
  have htl : ts.length = (L.map toL).length := by rw [hts]; simp
  have hso : sortB L = ts.map ofL := by rw [hts]; rfl
  rw [hso, ← hts]
  have hgb := grownBy_sorted (w := w) (g := g) (n := n) (os := os) ts.toArray
  have hh := heap_sorted (n := n) (os := os) ts.toArray hb
  obtain ⟨w', hw'⟩ : ∃ w', w' = Sort.grow (Sort.putRow encStr (Sort.ahead w n) g 0 ts.toArray) os := ⟨_, rfl⟩
  rw [← hw'] at hgb hh ⊢
  obtain ⟨g1, g2, g3, g4, g5⟩ := hgb
  have hkeep : ∀ b, b < w.heap.size → ¬ b = g → w'.heap[b]? = w.heap[b]? := fun b hb hn => g5 b hb fun e => hn (Option.some.inj e)
  have hcell : ∀ b i v, i < pub b → w.cell? ⟨b, i, none⟩ = some v → w'.cell? ⟨b, i, none⟩ = some v := fun b i v hi hv => by
   have hbs : b < w.heap.size := by
    rcases Nat.lt_or_ge b w.heap.size with h | h
    ·exact h
    ·rw [hfresh b h] at hi
     exact absurd hi (Nat.not_lt_zero _)
   have hbg : ¬ b = g := fun e => by
    subst e
    rw [hgp] at hi
    exact absurd hi (Nat.not_lt_zero _)
   have e := hkeep b hbs hbg
   unfold World.cell? at hv ⊢
   dsimp only at hv ⊢
   rw [e]
   exact hv
  refine ⟨rfl, ⟨g1, g2, g3, g4, fun b hb hn => ⟨hkeep b hb fun e => hn (by subst e; simp), rfl⟩, fun _ => Nat.le_refl _, hcell, fun b n hp hn => lenW_of (hkeep b (lenW_lt hn) fun e => by subst e; rw [hgp] at hp; exact absurd hp (Nat.lt_irrefl 0)) hn⟩, ?_⟩
  refine Own.of_blk (cur := Sort.putCells encStr 0 ts.toArray cur) hh (by rw [← hlen]; exact h1) h2 (by simp [Sort.putCells, h3]) ?_
  rw [Nat.mul_one, ← htl, take_putCells _ _ (by rw [htl, List.length_map, h3]; omega), List.map_map]
  rfl⟩
theorem callG_sort {P : Program} {f : Nat} (hs : SortOk P f) (k : Nat) (L : List ByteArray) {keep : List Nat} {st : St} {K : AV → St → Prop} (hk : st.H[k]? = some (.row 9 1 (mapA .str L))) (hl : L.length ≤ 2000000) (hkeep : (keep.all fun j => j != k) = true)
  (hK : K (.tup []) ⟨st.T, st.H.set k (.row 9 1 (mapA .str (sortB L)))⟩) : CallG P keep f [.hd k] st K := by
 refine ⟨fun C a w r pub vals h hv => ?_⟩
 obtain ⟨u, us', hvals, hu, hnil⟩ := hv.cons_inv
 have hn0 := hnil.nil_inv
 subst hn0
 obtain rfl : vals = #[u] := Array.toList_inj.1 (by simpa using hvals)
 have hr : r k = some u := by cases hu with | hd h _ => exact h
 obtain ⟨A, c, us, hrk, ho, hcs, hst, hpb⟩ := h.ent_row hk
 rw [hr] at hrk
 cases hrk
 have hus := str_us hcs
 subst hus
 rw [mapA_len] at ho hr ⊢
 refine (hs.out A L c w pub hl ho hpb h.mod.fresh).mono fun e w' hw => ?_
 obtain ⟨rfl, hf, ho'⟩ := hw
 have hE : ERel pub w' r (some (.slice A (mapA AV.str (sortB L)).length c)) (.row 9 1 (mapA .str (sortB L))) := by
  refine .row (us := (sortB L).map .string) (by rw [mapA_len, sortB_len]; exact ho') (us_str _) (fun x hx => ?_) hpb
  rw [mapA_eq] at hx
  obtain ⟨s, _, rfl⟩ := List.mem_map.1 hx
  exact ⟨rfl, rfl⟩
 rw [mapA_len, sortB_len] at hE
 refine ⟨_, _, _, r, pub, rfl, .tup rfl (fun i x v hx _ => by cases hx), hK, ⟨h.mod.set hr hf (fun b hb => hb) (fun b hb => h.mod.fresh b (Nat.le_trans hf.size hb)) (fun b i hi => ?_) hE, h.own, h.fr.trans hf (fun b hb => h.own k _ hr b hb), h.slots.ext hf.ext, h.defers, h.size, h.stab, ⟨h.low.1, by simpa using h.low.2⟩⟩, hf.ext, fun j hj => ⟨rfl, fun y hy b hb => ?_⟩⟩
 ·obtain ⟨v, hv⟩ := h.mod.there b i hi
  exact ⟨v, hf.ext.cell b i v hi hv⟩
 ·have hjk : j ≠ k := by
   have := List.all_eq_true.1 hkeep j hj
   simpa using this
  exact (hf.keep b (h.mod.foot_lt hy b hb) fun hbA => h.mod.disj j k y _ hjk hy hr b hb hbA).1
theorem sortB_perm {l1 l2 : List ByteArray} (h : l1.Perm l2) : sortB l1 = sortB l2 := by
 unfold sortB
 congr 1
 have ht : ∀ a b c : List UInt8, decide (a ≤ b) = true → decide (b ≤ c) = true → decide (a ≤ c) = true := fun a b c h1 h2 => decide_eq_true (List.le_trans (of_decide_eq_true h1) (of_decide_eq_true h2))
 have hs : ∀ a b : List UInt8, (decide (a ≤ b) || decide (b ≤ a)) = true := fun a b => by
  rcases List.le_total a b with h | h
  ·rw [decide_eq_true h]; rfl
  ·rw [decide_eq_true h]; exact Bool.or_true _
 refine List.Perm.eq_of_pairwise (le := fun a b => decide (a ≤ b) = true) (fun a b _ _ h1 h2 => List.le_antisymm (of_decide_eq_true h1) (of_decide_eq_true h2)) (List.pairwise_mergeSort ht hs _) (List.pairwise_mergeSort ht hs _) ?_
 exact (List.mergeSort_perm _ _).trans ((h.map toL).trans (List.mergeSort_perm _ _).symm)
def gN (p : Br → Bool) (b : Br) : Option ByteArray := bif p b then some b.b.number else none
def numsM (L : List Br) (p : Br → Bool) : List ByteArray := sortB (L.filterMap (gN p))
def seenN (L : List Br) (p : Br → Bool) (seen : List Nat) : List ByteArray := seen.filterMap fun i => L[i]?.bind (gN p)
theorem range_bind {α β : Type} (g : α → Option β) : ∀ L : List α, (List.range L.length).filterMap (fun i => L[i]?.bind g) = L.filterMap g
 | [] => rfl
 | x :: L => by
  rw [List.length_cons, List.range_succ_eq_map, List.filterMap_cons, List.filterMap_map]
  have ih := range_bind g L
  have e : ((fun i => (x :: L)[i]?.bind g) ∘ Nat.succ) = fun i => L[i]?.bind g := by funext i; rfl
  rw [e, ih, List.filterMap_cons]
  rfl
structure SeenOk (L : List Br) (seen : List Nat) : Prop where
 nd : seen.Nodup
 lt : ∀ i ∈ seen, i < L.length
theorem SeenOk.nil {L : List Br} : SeenOk L [] := ⟨.nil, fun i h => by cases h⟩
theorem SeenOk.snoc {L : List Br} {seen : List Nat} {i : Nat} {y : Br} (h : SeenOk L seen) (hy : L[i]? = some y) (hn : i ∉ seen) : SeenOk L (seen ++ [i]) := by
 refine ⟨List.nodup_append.2 ⟨h.nd, List.nodup_cons.2 ⟨by simp, .nil⟩, fun a ha b hb e => ?_⟩, fun j hj => ?_⟩
 ·obtain rfl := List.mem_singleton.1 hb
  subst e
  exact hn ha
 ·rcases List.mem_append.1 hj with h1 | h1
  ·exact h.lt j h1
  ·obtain rfl := List.mem_singleton.1 h1
   exact (List.getElem?_eq_some_iff.1 hy).1
theorem SeenOk.len {L : List Br} {seen : List Nat} (h : SeenOk L seen) : seen.length ≤ L.length := by
 have := h.nd.length_le_of_subset (l₂ := List.range L.length) fun i hi => List.mem_range.2 (h.lt i hi)
 rwa [List.length_range] at this
theorem seenN_len {L : List Br} {p : Br → Bool} {seen : List Nat} (h : SeenOk L seen) : (seenN L p seen).length ≤ L.length := Nat.le_trans (List.length_filterMap_le _ _) h.len
theorem seenN_all {L : List Br} {p : Br → Bool} {seen : List Nat} (h : SeenOk L seen) (hall : ∀ i, i < L.length → i ∈ seen) : sortB (seenN L p seen) = numsM L p := by
 have hp : seen.Perm (List.range L.length) := (List.perm_ext_iff_of_nodup h.nd List.nodup_range).2 fun i => ⟨fun hi => List.mem_range.2 (h.lt i hi), fun hi => hall i (List.mem_range.1 hi)⟩
 unfold numsM
 rw [← range_bind]
 exact sortB_perm (hp.filterMap _)
theorem seenN_yes {L : List Br} {p : Br → Bool} {seen : List Nat} {i : Nat} {y : Br} (hy : L[i]? = some y) (hp : p y = true) : seenN L p (seen ++ [i]) = seenN L p seen ++ [y.b.number] := by
 unfold seenN
 rw [List.filterMap_append]
 congr 1
 rw [List.filterMap_cons, hy]
 unfold gN
 rw [Option.bind_some, hp]
 rfl
theorem seenN_no {L : List Br} {p : Br → Bool} {seen : List Nat} {i : Nat} {y : Br} (hy : L[i]? = some y) (hp : p y = false) : seenN L p (seen ++ [i]) = seenN L p seen := by
 unfold seenN
 rw [List.filterMap_append, List.filterMap_cons, hy]
 unfold gN
 rw [Option.bind_some, hp]
 exact List.append_nil _
theorem entK_in2 {α : Type} {f : α → PEl} {L : List α} {since i : Nat} {seen s : List Nat} {x : AV} {y : α} {K : AV → AV → Prop} (e : s = seen ++ [i]) (hs : since = L.length) (hy : L[i]? = some y) (h : K (f y).1 x) : EntK (mapA f L) [(i, x)] since s K := by
 subst e
 exact entK_in hs hy h
def inB (b : Br) : Prop := chOk b ∧ okB b.b
def CloB (p : Br → Bool) : Ctr := spec (fun _ : Br => [.ptr 0 0]) EntC inB (fun y => .bl (p y)) EntC
def NumC (f : Nat) (p : Br → Bool) : Ctr := spec (fun _ : Rg => [.ptr 0 0, .clo f []]) RegH (fun R => R.bills.length ≤ 256 ∧ ∀ b ∈ R.bills, inB b) (fun R => .sl 1 (mapA .str (numsM R.bills p))) RegH
theorem numbers_body (P : Program) (f : Nat) (p : Br → Bool) (hm : MayCall P f) (hf : FnOk P f (CloB p)) (hs : SortOk P 65) : BodyOk P x34 (NumC f p) := by
 intro args H K hc; obtain ⟨⟨carrier, L⟩, rfl, rfl, hp, hK⟩ := hc; refine ⟨nb9, ?_⟩; dsimp only at hp hK ⊢
 obtain ⟨hp, hpb⟩ := hp
 cbv; repeat' ((first | refine .k fun z hz => ?_ | fail) <;> cbv)
 obtain ⟨n, hn⟩ : ∃ n : Nat, n = L.length := ⟨_, rfl⟩
 obtain rfl : z = nI n := om9
 refine xloopG (Gh.adopt 5 9 1 rfl) ?_
 cbv
 refine xloopV [3] (fun q : { q : List Nat × Nat // SeenOk L q.1 ∧ q.2 = q.1.length } => [(5, .hd 3)]) (fun q => [.blk 59 [.str carrier, .ph 1], .pool 57 (mapA PelA L) [], .iter (.ph 1) n q.1.1, .row 9 1 (mapA .str (seenN L p q.1.1))]) (fun q => lft 257 q.1.2) ⟨([], 0), .nil, rfl⟩ ?_
 rintro ⟨⟨seen, k⟩, hse, hk⟩
 dsimp only at hse hk ⊢
 have hsl := hse.len
 obtain ⟨rw_, hrw⟩ : ∃ l, l = seenN L p seen := ⟨_, rfl⟩
 have hrl : rw_.length ≤ L.length := by rw [hrw]; exact seenN_len hse
 rw [← hrw]
 cbv
 refine nxtK_in hn (fun i y hy hni => ?_) (fun hall => ?_) <;> dsimp only at *
 ·have hin := hpb y (List.mem_of_getElem? hy)
  have hse2 := hse.snoc hy hni
  obtain ⟨s2, hs2⟩ : ∃ s, s = seen ++ [i] := ⟨_, rfl⟩
  rw [← hs2] at hse2 ⊢
  obtain ⟨b, hb⟩ : ∃ b, b = p y := ⟨_, rfl⟩
  have hlt : k < 257 := by omega
  have hsk : s2.length = k + 1 := by rw [hs2, hk]; simp
  have hyes := seenN_yes (seen := seen) hy (p := p)
  have hno := seenN_no (seen := seen) hy (p := p)
  rw [← hs2, ← hrw, ← hb] at hyes hno
  obtain ⟨⟨nq1, cq1, sq1, frm1, to1, bq1, pq1, iq1, lq1⟩, st1, ⟨sa1, ha1, ca1⟩, ⟨sb1, hb1, cb1⟩, ⟨sc1, hc1, cc1⟩⟩ := y
  dsimp only at hyes hno
  cbv
  refine entK_in2 hs2 hn hy ?_
  cbv; repeat' ((first | refine And.intro ?_ ?_ | fail) <;> cbv)
  ·exact hm
  ·(refine cs9 hf ⟨⟨nq1, cq1, sq1, frm1, to1, bq1, pq1, iq1, lq1⟩, st1, ⟨sa1, ha1, ca1⟩, ⟨sb1, hb1, cb1⟩, ⟨sc1, hc1, cc1⟩⟩ [4, 5, 6, 7] hin ?_; try dsimp only)
   rw [← hb]
   cases b with
   | true =>
    have hyes := hyes rfl
    cbv; repeat' ((first | refine .zl fun zs hzs hzl => ?_ | fail) <;> cbv)
    obtain rfl : zs = mapA .str (seenN L p s2) := by (rw [hyes, mapA_app, mapA_one]; exact hzs)
    refine roundG (Gh.back0 1 [4, 5, 6, 7] PelA rfl hy) ?_
    cbv
    exact roundV ⟨(s2, k + 1), hse2, hsk.symm⟩ (lft_lt hlt)
   | false =>
    have hno := hno rfl
    rw [← hno]
    cbv
    refine roundG (Gh.back0 1 [4, 5, 6, 7] PelA rfl hy) ?_
    cbv
    exact roundV ⟨(s2, k + 1), hse2, hsk.symm⟩ (lft_lt hlt)
 ·have hsort := seenN_all (p := p) hse hall
  rw [← hrw] at hsort
  obtain ⟨l, hl⟩ : ∃ l, l = numsM L p := ⟨_, rfl⟩
  rw [← hl] at hsort hK
  cbv
  refine callG_sort hs 3 rw_ rfl (by omega) (by decide) ?_
  rw [hsort]
  cbv
  (refine .r9 (Gh.plain 3 rfl) ?_; cbv; exact .inl (.g9 hK))
def CloBW (p : ByteArray → Br → Bool) : Ctr := spec (fun _ : Br × ByteArray => [.ptr 0 0, .ptr 4 0]) (fun i => EntC i.1 ++ [.blk 9 [.str i.2]]) (fun i => inB i.1) (fun i => .bl (p i.2 i.1)) fun i => EntC i.1 ++ [.blk 9 [.str i.2]]
def RegW (i : Rg × ByteArray) : List Ent := RegH i.1 ++ [.blk 9 [.str i.2]]
def NumW (f : Nat) (p : ByteArray → Br → Bool) : Ctr := spec (fun _ : Rg × ByteArray => [.ptr 0 0, .clo f [.ptr 2 0]]) RegW (fun i => i.1.bills.length ≤ 256 ∧ ∀ b ∈ i.1.bills, inB b) (fun i => .sl 1 (mapA .str (numsM i.1.bills (p i.2)))) RegW
theorem numbersW_body (P : Program) (f : Nat) (p : ByteArray → Br → Bool) (hm : MayCall P f) (hf : FnOk P f (CloBW p)) (hs : SortOk P 65) : BodyOk P x34 (NumW f p) := by
 intro args H K hc; obtain ⟨⟨⟨carrier, L⟩, who⟩, rfl, rfl, hp, hK⟩ := hc; refine ⟨nb9, ?_⟩; dsimp only at hp hK ⊢
 obtain ⟨hp, hpb⟩ := hp
 cbv; repeat' ((first | refine .k fun z hz => ?_ | fail) <;> cbv)
 obtain ⟨n, hn⟩ : ∃ n : Nat, n = L.length := ⟨_, rfl⟩
 obtain rfl : z = nI n := om9
 refine xloopG (Gh.adopt 5 9 1 rfl) ?_
 cbv
 refine xloopV [4] (fun q : { q : List Nat × Nat // SeenOk L q.1 ∧ q.2 = q.1.length } => [(5, .hd 4)]) (fun q => [.blk 59 [.str carrier, .ph 1], .pool 57 (mapA PelA L) [], .blk 9 [.str who], .iter (.ph 1) n q.1.1, .row 9 1 (mapA .str (seenN L (p who) q.1.1))]) (fun q => lft 257 q.1.2) ⟨([], 0), .nil, rfl⟩ ?_
 rintro ⟨⟨seen, k⟩, hse, hk⟩
 dsimp only at hse hk ⊢
 have hsl := hse.len
 obtain ⟨rw_, hrw⟩ : ∃ l, l = seenN L (p who) seen := ⟨_, rfl⟩
 have hrl : rw_.length ≤ L.length := by rw [hrw]; exact seenN_len hse
 rw [← hrw]
 cbv
 refine nxtK_in hn (fun i y hy hni => ?_) (fun hall => ?_) <;> dsimp only at *
 ·have hin := hpb y (List.mem_of_getElem? hy)
  have hse2 := hse.snoc hy hni
  obtain ⟨s2, hs2⟩ : ∃ s, s = seen ++ [i] := ⟨_, rfl⟩
  rw [← hs2] at hse2 ⊢
  obtain ⟨b, hb⟩ : ∃ b, b = p who y := ⟨_, rfl⟩
  have hlt : k < 257 := by omega
  have hsk : s2.length = k + 1 := by rw [hs2, hk]; simp
  have hyes := seenN_yes (seen := seen) hy (p := p who)
  have hno := seenN_no (seen := seen) hy (p := p who)
  rw [← hs2, ← hrw, ← hb] at hyes hno
  obtain ⟨⟨nq1, cq1, sq1, frm1, to1, bq1, pq1, iq1, lq1⟩, st1, ⟨sa1, ha1, ca1⟩, ⟨sb1, hb1, cb1⟩, ⟨sc1, hc1, cc1⟩⟩ := y
  dsimp only at hyes hno
  cbv
  refine entK_in2 hs2 hn hy ?_
  cbv; repeat' ((first | refine And.intro ?_ ?_ | fail) <;> cbv)
  ·exact hm
  ·(refine cs9 hf (⟨⟨nq1, cq1, sq1, frm1, to1, bq1, pq1, iq1, lq1⟩, st1, ⟨sa1, ha1, ca1⟩, ⟨sb1, hb1, cb1⟩, ⟨sc1, hc1, cc1⟩⟩, who) [5, 6, 7, 8, 2] hin ?_; try dsimp only)
   rw [← hb]
   cases b with
   | true =>
    have hyes := hyes rfl
    cbv; repeat' ((first | refine .zl fun zs hzs hzl => ?_ | fail) <;> cbv)
    obtain rfl : zs = mapA .str (seenN L (p who) s2) := by (rw [hyes, mapA_app, mapA_one]; exact hzs)
    refine roundG (Gh.back0 1 [5, 6, 7, 8] PelA rfl hy) ?_
    cbv
    exact roundV ⟨(s2, k + 1), hse2, hsk.symm⟩ (lft_lt hlt)
   | false =>
    have hno := hno rfl
    rw [← hno]
    cbv
    refine roundG (Gh.back0 1 [5, 6, 7, 8] PelA rfl hy) ?_
    cbv
    exact roundV ⟨(s2, k + 1), hse2, hsk.symm⟩ (lft_lt hlt)
 ·have hsort := seenN_all (p := p who) hse hall
  rw [← hrw] at hsort
  obtain ⟨l, hl⟩ : ∃ l, l = numsM L (p who) := ⟨_, rfl⟩
  rw [← hl] at hsort hK
  cbv
  refine callG_sort hs 4 rw_ rfl (by omega) (by decide) ?_
  rw [hsort]
  cbv
  (refine .r9 (Gh.plain 4 rfl) ?_; cbv; exact .inl (.g9 hK))
theorem bills1_body (P : Program) : BodyOk P x38 (CloB fun _ => true) := by
 intro args H K hc; obtain ⟨y, rfl, rfl, hp, hK⟩ := hc; refine ⟨nb9, ?_⟩; dsimp only at hp hK ⊢
 obtain ⟨⟨nq1, cq1, sq1, frm1, to1, bq1, pq1, iq1, lq1⟩, st1, ⟨sa1, ha1, ca1⟩, ⟨sb1, hb1, cb1⟩, ⟨sc1, hc1, cc1⟩⟩ := y
 cbv
 (refine .r9 (Gh.refl _) ?_; cbv; exact .inl (.f9 hK))
def pOfB (who : ByteArray) (b : Br) : Bool := decide (b.st = 0) && some3 (-1) b (pOf who)
theorem of1_body (P : Program) (hs : FnOk P 36 (SomeW 37 pOf)) : BodyOk P x35 (CloBW pOfB) := by
 intro args H K hc; obtain ⟨⟨y, who⟩, rfl, rfl, hp, hK⟩ := hc; refine ⟨nb9, ?_⟩; dsimp only at hp hK ⊢
 unfold inB at hp
 obtain ⟨hp, hob⟩ := hp
 unfold pOfB at hK
 obtain ⟨q3, hq3⟩ : ∃ q, q = some3 (-1) y (pOf who) := ⟨_, rfl⟩
 rw [← hq3] at hK
 obtain ⟨⟨nq1, cq1, sq1, frm1, to1, bq1, pq1, iq1, lq1⟩, st1, ⟨sa1, ha1, ca1⟩, ⟨sb1, hb1, cb1⟩, ⟨sc1, hc1, cc1⟩⟩ := y
 dsimp only at hK
 cbv; repeat' ((first | refine .mk (fun h => ?_) fun h => ?_ | fail) <;> cbv)
 ·(refine cs9 hs (⟨⟨nq1, cq1, sq1, frm1, to1, bq1, pq1, iq1, lq1⟩, st1, ⟨sa1, ha1, ca1⟩, ⟨sb1, hb1, cb1⟩, ⟨sc1, hc1, cc1⟩⟩, -1, who) [0, 1, 2, 3, 4] hp ?_; try dsimp only)
  rw [← hq3]
  cbv
  (refine .r9 (Gh.refl _) ?_; cbv; exact .inl (.f9 (K_bl hK (by rw [decide_eq_true h]; rfl))))
 ·(refine .r9 (Gh.refl _) ?_; cbv; exact .inl (.f9 (K_bl hK (by rw [decide_eq_false h]; rfl))))
def pBox (box : ByteArray) (b : Br) : Bool := decide (b.st = 0) && b.b.boxes.any fun x => decide (box = x)
theorem box1_body (P : Program) (hc : FnOk P 51 ContainsC) : BodyOk P x50 (CloBW pBox) := by
 intro args H K hc; obtain ⟨⟨y, who⟩, rfl, rfl, hp, hK⟩ := hc; refine ⟨nb9, ?_⟩; dsimp only at hp hK ⊢
 unfold inB at hp
 obtain ⟨hp, hob⟩ := hp
 unfold okB at hob
 unfold pBox at hK
 obtain ⟨q3, hq3⟩ : ∃ q, q = y.b.boxes.any fun x => decide (who = x) := ⟨_, rfl⟩
 rw [← hq3] at hK
 obtain ⟨⟨nq1, cq1, sq1, frm1, to1, bq1, pq1, iq1, lq1⟩, st1, ⟨sa1, ha1, ca1⟩, ⟨sb1, hb1, cb1⟩, ⟨sc1, hc1, cc1⟩⟩ := y
 dsimp only at hK hob hq3
 cbv; repeat' ((first | refine .mk (fun h => ?_) fun h => ?_ | fail) <;> cbv)
 ·(refine c09 hc (bq1, who) (by dsimp only; omega) ?_; try dsimp only)
  rw [← hq3]
  cbv
  (refine .r9 (Gh.refl _) ?_; cbv; exact .inl (.f9 (K_bl hK (by rw [decide_eq_true h]; rfl))))
 ·(refine .r9 (Gh.refl _) ?_; cbv; exact .inl (.f9 (K_bl hK (by rw [decide_eq_false h]; rfl))))
def BillsC : Ctr := spec (fun _ : Rg => [.ptr 0 0]) RegH (fun R => R.bills.length ≤ 256 ∧ ∀ b ∈ R.bills, inB b) (fun R => .sl 1 (mapA .str (numsM R.bills fun _ => true))) RegH
theorem bills_body (P : Program) (hn : FnOk P 34 (NumC 38 fun _ => true)) : BodyOk P x10 BillsC := by
 intro args H K hc; obtain ⟨⟨carrier, L⟩, rfl, rfl, hp, hK⟩ := hc; refine ⟨nb9, ?_⟩; dsimp only at hp hK ⊢
 obtain ⟨l, hl⟩ : ∃ l, l = numsM L fun _ => true := ⟨_, rfl⟩
 rw [← hl] at hK
 cbv
 (refine cs9 hn (⟨carrier, L⟩ : Rg) [0, 1] hp ?_; try dsimp only)
 rw [← hl]
 cbv
 (refine .r9 (Gh.refl _) ?_; cbv; exact .inl (.f9 hK))
def OfC : Ctr := spec (fun i : Rg × ByteArray => [.ptr 0 0, .str i.2]) (fun i => RegH i.1) (fun i => i.1.bills.length ≤ 256 ∧ ∀ b ∈ i.1.bills, inB b) (fun i => .sl 1 (mapA .str (numsM i.1.bills (pOfB i.2)))) fun i => RegH i.1
theorem of_body (P : Program) (hn : FnOk P 34 (NumW 35 pOfB)) : BodyOk P x8 OfC := by
 intro args H K hc; obtain ⟨⟨⟨carrier, L⟩, who⟩, rfl, rfl, hp, hK⟩ := hc; refine ⟨nb9, ?_⟩; dsimp only at hp hK ⊢
 obtain ⟨l, hl⟩ : ∃ l, l = numsM L (pOfB who) := ⟨_, rfl⟩
 rw [← hl] at hK
 cbv
 (refine cs9 hn ((⟨carrier, L⟩ : Rg), who) [0, 1, 2] hp ?_; try dsimp only)
 rw [← hl]
 cbv
 (refine .r9 (Gh.refl _) ?_; cbv; exact .inl (.f9 hK))
def boxN (L : List Br) (box : ByteArray) : ByteArray × Bool := match numsM L (pBox box) with
 | [] => (⟨⟨[]⟩⟩, false)
 | n :: _ => (n, true)
def BoxC : Ctr := spec (fun i : Rg × ByteArray => [.ptr 0 0, .str i.2]) (fun i => RegH i.1) (fun i => i.1.bills.length ≤ 256 ∧ ∀ b ∈ i.1.bills, inB b) (fun i => SbA (boxN i.1.bills i.2)) fun i => RegH i.1
theorem box_body (P : Program) (hn : FnOk P 34 (NumW 50 pBox)) : BodyOk P x18 BoxC := by
 intro args H K hc; obtain ⟨⟨⟨carrier, L⟩, who⟩, rfl, rfl, hp, hK⟩ := hc; refine ⟨nb9, ?_⟩; dsimp only at hp hK ⊢
 have hd : boxN L who = match numsM L (pBox who) with
  | [] => (⟨⟨[]⟩⟩, false)
  | n :: _ => (n, true) := rfl
 obtain ⟨d, hdd⟩ : ∃ d, d = boxN L who := ⟨_, rfl⟩
 obtain ⟨l, hl⟩ : ∃ l, l = numsM L (pBox who) := ⟨_, rfl⟩
 rw [← hdd] at hK hd
 rw [← hl] at hd
 cbv
 (refine cs9 hn ((⟨carrier, L⟩ : Rg), who) [0, 1, 2] hp ?_; try dsimp only)
 rw [← hl]
 cases l with
 | nil =>
  cbv; repeat' ((first | refine .y fun h => ?_ | refine .k fun z hz => ?_ | fail) <;> cbv)
  obtain rfl := hd
  (refine .r9 (Gh.refl _) ?_; cbv; exact .inl (.f9 hK))
 | cons x l =>
  dsimp only at hd
  obtain rfl := hd
  cbv; repeat' ((first | refine .n fun h => ?_ | refine .k fun z hz => ?_ | fail) <;> cbv)
  refine askEl_some (f := AV.str) (L := x :: l) (i := 0) rfl ?_
  cbv
  (refine .r9 (Gh.refl _) ?_; cbv; exact .inl (.f9 hK))
def setF (s : ByteArray) : AV × AV := (.str s, .bl true)
theorem findA_set (s : ByteArray) : ∀ (L : List ByteArray) (i : Nat), findA (.str s) (mapA setF L) i = some ((atS id L s).map (· + i))
 | [], i => rfl
 | x :: L, i => by
  have e : mapA setF (x :: L) = (.str x, .bl true) :: mapA setF L := rfl
  rw [e]
  unfold findA atS
  rw [List.findIdx?_cons]
  by_cases h : x = s
  ·have h2 : keyIs (.str s) (.str x) = some true := congrArg some ((MapKept.bytes_beq _ _).2 h.symm)
   simp only [h2]
   simp [h]
  ·have h3 : ¬ s = x := fun e => h e.symm
   have h2 : keyIs (.str s) (.str x) = some false := congrArg some (Bool.eq_false_iff.2 fun hb => h3 ((MapKept.bytes_beq _ _).1 hb))
   simp only [h2, findA_set s L (i + 1), h, id, decide_false, Bool.false_eq_true, if_false, Option.map_map, atS]
   congr 1
   cases (L.findIdx? fun a => decide (a = s)) with
   | none => rfl
   | some n => simp; omega
theorem find_set {s : ByteArray} {L : List ByteArray} {K : Option (Nat × AV) → Prop} (hs : ∀ i, atS id L s = some i → K (some (i, .bl true))) (hn : atS id L s = none → K none) : FindK (.str s) (mapA setF L) K := by
 refine ⟨?_⟩
 have hf := findA_set s L 0
 cases h : atS id L s with
 | some i =>
  obtain ⟨y, hy, _⟩ := atS_some h
  exact .inl ⟨i, _, _, by rw [hf, h]; rfl, by rw [mapA_eq, List.getElem?_map, hy]; rfl, hs i h⟩
 | none => exact .inr ⟨by rw [hf, h]; rfl, hn h⟩
def hasB (L : List ByteArray) (s : ByteArray) : Bool := (atS id L s).isSome
def boxGo (ahead : List ByteArray) : List ByteArray → Bool
 | [] => true
 | b :: r => (markB b && !hasB ahead b) && boxGo (ahead ++ [b]) r
theorem boxGo_at {c : List ByteArray} {k : Nat} {b : ByteArray} (hb : c[k]? = some b) : boxGo (c.take k) (c.drop k) = ((markB b && !hasB (c.take k) b) && boxGo (c.take (k + 1)) (c.drop (k + 1))) := by
 obtain ⟨hk, rfl⟩ := List.getElem?_eq_some_iff.1 hb
 rw [List.drop_eq_getElem_cons hk, boxGo, List.take_succ_eq_append_getElem hk]
theorem boxGo_end {c : List ByteArray} {k : Nat} (hk : k = c.length) : boxGo (c.take k) (c.drop k) = true := by
 rw [List.drop_eq_nil_of_le (by omega), boxGo]
def mayB (carrier : ByteArray) : Bl → Bool
 | ⟨number, car, shipper, frm, to, boxes, parents, issued, _⟩ =>
  ((nameB number && nameB shipper) && (nameB frm && nameB to)) && ((decide (car = carrier) && dayB issued) && ((decide (1 ≤ boxes.length ∧ boxes.length ≤ 64 ∧ parents.length ≤ 64)) && (boxGo [] boxes && !(parents.any fun s => !nameB s))))
def MayC : Ctr := spec (fun i : Rg × Bl => [.ptr 0 0, BlA i.2]) (fun i => RegH i.1) (fun i => okB i.2) (fun i => .bl (mayB i.1.carrier i.2)) fun i => RegH i.1
theorem may_body (P : Program) (hn : FnOk P 27 (StrC (fun _ => True) nameB)) (hr : FnOk P 62 (StrC (fun _ => True) markB)) (hd : FnOk P 61 DayC) (hc : FnOk P 30 (ConFC 63 fun s => !nameB s)) : BodyOk P x26 MayC := by
 intro args H K hc; obtain ⟨⟨⟨carrier, L⟩, b⟩, rfl, rfl, hp, hK⟩ := hc; refine ⟨nb9, ?_⟩; dsimp only at hp hK ⊢
 unfold okB at hp
 obtain ⟨nq1, cq1, sq1, frm1, to1, bq1, pq1, iq1, lq1⟩ := b
 obtain ⟨q, hq⟩ : ∃ q, q = mayB carrier ⟨nq1, cq1, sq1, frm1, to1, bq1, pq1, iq1, lq1⟩ := ⟨_, rfl⟩
 rw [← hq] at hK
 unfold mayB at hq
 dsimp only at hq hp
 obtain ⟨n1, hn1⟩ : ∃ q, q = nameB nq1 := ⟨_, rfl⟩
 obtain ⟨n2, hn2⟩ : ∃ q, q = nameB sq1 := ⟨_, rfl⟩
 obtain ⟨n3, hn3⟩ : ∃ q, q = nameB frm1 := ⟨_, rfl⟩
 obtain ⟨n4, hn4⟩ : ∃ q, q = nameB to1 := ⟨_, rfl⟩
 obtain ⟨n5, hn5⟩ : ∃ q, q = dayB iq1 := ⟨_, rfl⟩
 obtain ⟨n6, hn6⟩ : ∃ q, q = (pq1.any fun s => !nameB s) := ⟨_, rfl⟩
 obtain ⟨n7, hn7⟩ : ∃ q, q = boxGo (bq1.take 0) (bq1.drop 0) := ⟨_, rfl⟩
 have hn7' : boxGo [] bq1 = n7 := hn7.symm
 rw [← hn1, ← hn2, ← hn3, ← hn4, ← hn5, ← hn6, hn7'] at hq
 clear hn7'
 cbv
 (refine c09 hn nq1 trivial ?_; try dsimp only)
 rw [← hn1]
 cases n1 with
 | false =>
  cbv
  (refine .r9 (Gh.refl _) ?_; cbv; exact .inl (.f9 (K_bl hK (by rw [hq]; rfl))))
 | true =>
 cbv
 (refine c09 hn sq1 trivial ?_; try dsimp only)
 rw [← hn2]
 cases n2 with
 | false =>
  cbv
  (refine .r9 (Gh.refl _) ?_; cbv; exact .inl (.f9 (K_bl hK (by rw [hq]; rfl))))
 | true =>
 cbv
 (refine c09 hn frm1 trivial ?_; try dsimp only)
 rw [← hn3]
 cases n3 with
 | false =>
  cbv
  (refine .r9 (Gh.refl _) ?_; cbv; exact .inl (.f9 (K_bl hK (by rw [hq]; rfl))))
 | true =>
 cbv
 (refine c09 hn to1 trivial ?_; try dsimp only)
 rw [← hn4]
 cases n4 with
 | false =>
  cbv
  (refine .r9 (Gh.refl _) ?_; cbv; exact .inl (.f9 (K_bl hK (by rw [hq]; rfl))))
 | true =>
 cbv; repeat' ((first | refine .mk (fun h => ?_) fun h => ?_ | fail) <;> cbv)
 rotate_left
 ·(refine .r9 (Gh.refl _) ?_; cbv; exact .inl (.f9 (K_bl hK (by rw [hq, decide_eq_false h]; rfl))))
 ·rw [decide_eq_true h] at hq
  (refine c09 hd iq1 trivial ?_; try dsimp only)
  rw [← hn5]
  cases n5 with
  | false =>
   cbv
   (refine .r9 (Gh.refl _) ?_; cbv; exact .inl (.f9 (K_bl hK (by rw [hq]; rfl))))
  | true =>
  cbv; repeat' ((first | refine .mk (fun h => ?_) fun h => ?_ | refine .k fun z hz => ?_ | fail) <;> cbv)
  ·(refine .r9 (Gh.refl _) ?_; cbv; exact .inl (.f9 (K_bl hK (by rw [hq, decide_eq_false om9]; rfl))))
  ·(refine .r9 (Gh.refl _) ?_; cbv; exact .inl (.f9 (K_bl hK (by rw [hq, decide_eq_false om9]; rfl))))
  ·(refine .r9 (Gh.refl _) ?_; cbv; exact .inl (.f9 (K_bl hK (by rw [hq, decide_eq_false om9]; rfl))))
  ·rw [decide_eq_true om9] at hq
   refine xloopV [] (fun q : { k : Nat // k ≤ bq1.length ∧ n7 = boxGo (bq1.take k) (bq1.drop k) } => [(66, .i (nI q.1))]) (fun q => [.blk 59 [.str carrier, .ph 1], .pool 57 (mapA PelA L) [], .blk 32 [.str nq1, .str cq1, .str sq1, .str frm1, .str to1, .sl 1 (mapA .str bq1), .sl 1 (mapA .str pq1), .i iq1, .bl lq1], .map 33 (mapA setF (bq1.take q.1))]) (fun q => lft 5001 q.1) ⟨0, Nat.zero_le _, hn7⟩ ?_
   rintro ⟨k, hk, hb7⟩
   dsimp only at hk hb7 ⊢
   cbv; repeat' ((first | refine .mk (fun h => ?_) fun h => ?_ | fail) <;> cbv)
   ·refine askEl_int om9 om9 fun i x hi hx => ?_
    obtain rfl : k = i := om9
    have hg := boxGo_at hx
    obtain ⟨m, hm⟩ : ∃ m, m = markB x := ⟨_, rfl⟩
    rw [← hm] at hg
    cbv
    (refine c09 hr x trivial ?_; try dsimp only)
    rw [← hm]
    cases m with
    | false =>
     rw [hb7, hg] at hq
     cbv
     (refine .r9 (Gh.refl _) ?_; cbv; exact .inl (.f9 (K_bl hK (by rw [hq]; rfl))))
    | true =>
     cbv
     refine find_set (fun j hj => ?_) (fun hj => ?_)
     ·have hh : hasB (bq1.take k) x = true := by unfold hasB; rw [hj]; rfl
      rw [hb7, hg, hh] at hq
      cbv
      (refine .r9 (Gh.refl _) ?_; cbv; exact .inl (.f9 (K_bl hK (by rw [hq]; rfl))))
     ·have hh : hasB (bq1.take k) x = false := by unfold hasB; rw [hj]; rfl
      rw [hh] at hg
      cbv
      refine find_set (fun j hj2 => ?_) (fun _ => ?_)
      ·rw [hj] at hj2
       cases hj2
      cbv; repeat' ((first | refine .k fun z hz => ?_ | refine .ms fun ms hms => ?_ | fail) <;> cbv)
      obtain rfl : ms = mapA setF (bq1.take (k + 1)) := by
       rw [take_some hx, mapA_app, mapA_one]
       exact hms
      obtain rfl : z = nI (k + 1) := om9
      exact roundV ⟨k + 1, by exact om9, hb7.trans hg⟩ (lft_lt om9)
   ·obtain rfl : k = bq1.length := om9
    rw [boxGo_end rfl] at hb7
    subst hb7
    (refine c09 hc pq1 om9 ?_; try dsimp only)
    rw [← hn6]
    cases n6 with
    | false =>
     cbv
     (refine .r9 (Gh.refl _) ?_; cbv; exact .inl (.f9 (K_bl hK (by rw [hq]; rfl))))
    | true =>
     cbv
     (refine .r9 (Gh.refl _) ?_; cbv; exact .inl (.f9 (K_bl hK (by rw [hq]; rfl))))
structure Iss where
 R : Rg
 b : Bl
 holder : ByteArray
def IssH (i : Iss) : List Ent := RegH i.R ++ [.blk 24 [.ptr 0 0], .blk 32 (BlL i.b), .blk 9 [.str i.holder]]
structure IssP (i : Iss) : Prop where
 few : i.R.bills.length ≤ 256
 all : ∀ b ∈ i.R.bills, inB b
 ok : okB i.b
def IssC (args : List AV) (p : Iss → Bool) : Ctr := spec (fun _ : Iss => args) IssH IssP (fun i => .bl (p i)) IssH
def i1 (i : Iss) : Bool := !mayB i.R.carrier i.b || !nameB i.holder
def i2 (i : Iss) : Bool := (bAt i.R.bills i.b.number).isSome
def iBox (i : Iss) (box : ByteArray) : Bool := (boxN i.R.bills box).2
def i3 (i : Iss) : Bool := i.b.boxes.any (iBox i)
def i4 (i : Iss) : Bool := decide (256 ≤ i.R.bills.length)
theorem iss1_body (P : Program) (hm : FnOk P 26 MayC) (hn : FnOk P 27 (StrC (fun _ => True) nameB)) : BodyOk P x25 (IssC [.ptr 2 0, .ptr 3 0, .ptr 4 0] i1) := by
 intro args H K hc; obtain ⟨⟨⟨carrier, L⟩, b, holder⟩, rfl, rfl, hp, hK⟩ := hc; refine ⟨nb9, ?_⟩; dsimp only at hp hK ⊢
 obtain ⟨_, _, hok⟩ := hp
 unfold i1 at hK
 dsimp only at hK hok
 obtain ⟨n1, hn1⟩ : ∃ q, q = mayB carrier b := ⟨_, rfl⟩
 obtain ⟨n2, hn2⟩ : ∃ q, q = nameB holder := ⟨_, rfl⟩
 rw [← hn1, ← hn2] at hK
 obtain ⟨nq1, cq1, sq1, frm1, to1, bq1, pq1, iq1, lq1⟩ := b
 cbv
 (refine cs9 hm ((⟨carrier, L⟩ : Rg), ⟨nq1, cq1, sq1, frm1, to1, bq1, pq1, iq1, lq1⟩) [0, 1] hok ?_; try dsimp only)
 rw [← hn1]
 cases n1 with
 | false =>
  cbv
  (refine .r9 (Gh.refl _) ?_; cbv; exact .inl (.f9 hK))
 | true =>
  cbv
  (refine c09 hn holder trivial ?_; try dsimp only)
  rw [← hn2]
  cases n2 with
  | false =>
   cbv
   (refine .r9 (Gh.refl _) ?_; cbv; exact .inl (.f9 hK))
  | true =>
   cbv
   (refine .r9 (Gh.refl _) ?_; cbv; exact .inl (.f9 hK))
theorem iss2_body (P : Program) : BodyOk P x28 (IssC [.ptr 2 0, .ptr 3 0] i2) := by
 intro args H K hc; obtain ⟨⟨⟨carrier, L⟩, b, holder⟩, rfl, rfl, hp, hK⟩ := hc; refine ⟨nb9, ?_⟩; dsimp only at hp hK ⊢
 unfold i2 at hK
 dsimp only at hK
 obtain ⟨n1, hn1⟩ : ∃ q, q = (bAt L b.number).isSome := ⟨_, rfl⟩
 rw [← hn1] at hK
 obtain ⟨nq1, cq1, sq1, frm1, to1, bq1, pq1, iq1, lq1⟩ := b
 cbv
 refine poolK_in (fun b : Br => b.b.number) (fun _ => rfl) (fun i y hai hy hky => ?_) (fun hai => ?_) <;> dsimp only at *
 ·have hn2 : n1 = true := by rw [hn1]; unfold bAt; rw [hai]; rfl
  obtain ⟨⟨nq2, cq2, sq2, frm2, to2, bq2, pq2, iq2, lq2⟩, st2, ⟨sa2, ha2, ca2⟩, ⟨sb2, hb2, cb2⟩, ⟨sc2, hc2, cc2⟩⟩ := y
  cbv
  (refine .r9 (Gh.back0 1 [5, 6, 7, 8] PelA rfl hy) ?_; cbv; exact .inl (.f9 (K_bl hK hn2.symm)))
 ·have hn2 : n1 = false := by rw [hn1]; unfold bAt; rw [hai]; rfl
  cbv
  (refine .r9 (Gh.refl _) ?_; cbv; exact .inl (.f9 (K_bl hK hn2.symm)))
theorem iss31_body (P : Program) (hb : FnOk P 18 BoxC) : BodyOk P x31 (spec (fun i : Iss × ByteArray => [.str i.2, .ptr 2 0]) (fun i => IssH i.1) (fun i => IssP i.1) (fun i => .bl (iBox i.1 i.2)) fun i => IssH i.1) := by
 intro args H K hc; obtain ⟨⟨⟨⟨carrier, L⟩, b, holder⟩, box⟩, rfl, rfl, hp, hK⟩ := hc; refine ⟨nb9, ?_⟩; dsimp only at hp hK ⊢
 obtain ⟨hfew, hall, hok⟩ := hp
 dsimp only at hfew hall
 unfold iBox at hK
 dsimp only at hK
 obtain ⟨⟨s, f⟩, hn1⟩ : ∃ q, q = boxN L box := ⟨_, rfl⟩
 rw [← hn1] at hK
 obtain ⟨nq1, cq1, sq1, frm1, to1, bq1, pq1, iq1, lq1⟩ := b
 cbv
 (refine cs9 hb ((⟨carrier, L⟩ : Rg), box) [0, 1] ⟨hfew, hall⟩ ?_; try dsimp only)
 rw [← hn1]
 cbv
 (refine .r9 (Gh.refl _) ?_; cbv; exact .inl (.f9 hK))
theorem iss4_body (P : Program) : BodyOk P x32 (IssC [.ptr 2 0] i4) := by
 intro args H K hc; obtain ⟨⟨⟨carrier, L⟩, b, holder⟩, rfl, rfl, hp, hK⟩ := hc; refine ⟨nb9, ?_⟩; dsimp only at hp hK ⊢
 unfold i4 at hK
 dsimp only at hK
 obtain ⟨n, hn⟩ : ∃ n : Nat, n = L.length := ⟨_, rfl⟩
 rw [← hn] at hK
 obtain ⟨nq1, cq1, sq1, frm1, to1, bq1, pq1, iq1, lq1⟩ := b
 cbv; repeat' ((first | refine .mk (fun h => ?_) fun h => ?_ | refine .k fun z hz => ?_ | fail) <;> cbv)
 ·(refine .r9 (Gh.refl _) ?_; cbv; exact .inl (.f9 (K_bl hK (decide_eq_true om9).symm)))
 ·(refine .r9 (Gh.refl _) ?_; cbv; exact .inl (.f9 (K_bl hK (decide_eq_false om9).symm)))
def BoxF : Ctr := spec (fun i : Iss × ByteArray => [.str i.2, .ptr 2 0]) (fun i => IssH i.1) (fun i => IssP i.1) (fun i => .bl (iBox i.1 i.2)) fun i => IssH i.1
def IdxIC : Ctr := spec (fun i : Iss => [.sl 1 (mapA .str i.b.boxes), .clo 31 [.ptr 2 0]]) IssH IssP (fun i => .i (idxP (iBox i) i.b.boxes)) IssH
theorem idxI_body (P : Program) (hm : MayCall P 31) (hf : FnOk P 31 BoxF) : BodyOk P x64 IdxIC := by
 intro args H K hc
 obtain ⟨i, rfl, rfl, hp, hK⟩ := hc
 obtain ⟨p, hpp⟩ : ∃ p, p = iBox i := ⟨_, rfl⟩
 have hok := hp.ok
 dsimp only at hK
 rw [← hpp] at hK
 obtain ⟨⟨carrier, L⟩, b, holder⟩ := i
 unfold okB at hok
 obtain ⟨nq1, cq1, sq1, frm1, to1, bq1, pq1, iq1, lq1⟩ := b
 refine ⟨nb9, ?_⟩
 dsimp only at hok hK ⊢
 cbv; repeat' ((first | refine .k fun z hz => ?_ | fail) <;> cbv)
 refine xloopV [] (fun q : { k : Nat // k ≤ bq1.length ∧ NoneTo p bq1 k } => [(8, .i (nI q.1))]) (fun _ => IssH ⟨⟨carrier, L⟩, ⟨nq1, cq1, sq1, frm1, to1, bq1, pq1, iq1, lq1⟩, holder⟩) (fun q => lft 5001 q.1) ⟨0, Nat.zero_le _, .zero⟩ ?_
 rintro ⟨k, hk, hn⟩
 dsimp only at hk hn ⊢
 cbv; repeat' ((first | refine .mk (fun h => ?_) fun h => ?_ | fail) <;> cbv)
 ·refine askEl_int om9 om9 fun j x hi hx => ?_
  obtain rfl : k = j := om9
  cbv; repeat' ((first | refine And.intro ?_ ?_ | fail) <;> cbv)
  ·exact hm
  ·obtain ⟨b, hb⟩ : ∃ b, b = p x := ⟨_, rfl⟩
   (refine cs9 hf ((⟨⟨carrier, L⟩, ⟨nq1, cq1, sq1, frm1, to1, bq1, pq1, iq1, lq1⟩, holder⟩ : Iss), x) [0, 1, 2, 3, 4] hp ?_; try dsimp only)
   rw [← hpp, ← hb]
   cases b with
   | true =>
    cbv
    (refine .r9 (Gh.refl _) ?_; cbv; exact .inl (.f9 (K_i hK (by rw [idxP_at hn hx hb.symm]))))
   | false =>
    cbv; repeat' ((first | refine .k fun z hz => ?_ | fail) <;> cbv)
    obtain rfl : z = nI (k + 1) := om9
    exact roundV ⟨k + 1, by exact om9, hn.succ hx hb.symm⟩ (lft_lt om9)
 ·obtain rfl : k = bq1.length := om9
  (refine .r9 (Gh.refl _) ?_; cbv; exact .inl (.f9 (K_i hK (by rw [idxP_none hn]))))
def ConIC : Ctr := spec (fun i : Iss => [.sl 1 (mapA .str i.b.boxes), .clo 31 [.ptr 2 0]]) IssH IssP (fun i => .bl (i3 i)) IssH
theorem conI_body (P : Program) (hi : FnOk P 64 IdxIC) : BodyOk P x30 ConIC := by
 intro args H K hc
 obtain ⟨i, rfl, rfl, hp, hK⟩ := hc
 unfold i3 at hK
 dsimp only at hK
 rw [← idxP_any] at hK
 obtain ⟨e, he⟩ : ∃ e, e = idxP (iBox i) i.b.boxes := ⟨_, rfl⟩
 rw [← he] at hK
 obtain ⟨⟨carrier, L⟩, b, holder⟩ := i
 obtain ⟨nq1, cq1, sq1, frm1, to1, bq1, pq1, iq1, lq1⟩ := b
 refine ⟨nb9, ?_⟩
 dsimp only at hK ⊢
 cbv
 (refine cs9 hi (⟨⟨carrier, L⟩, ⟨nq1, cq1, sq1, frm1, to1, bq1, pq1, iq1, lq1⟩, holder⟩ : Iss) [0, 1, 2, 3, 4] hp ?_; try dsimp only)
 rw [← he]
 cbv; repeat' ((first | refine .mk (fun h => ?_) fun h => ?_ | fail) <;> cbv)
 ·(refine .r9 (Gh.refl _) ?_; cbv; exact .inl (.f9 (K_bl hK (by rw [decide_eq_true h]))))
 ·(refine .r9 (Gh.refl _) ?_; cbv; exact .inl (.f9 (K_bl hK (by rw [decide_eq_false (by omega)]))))
theorem iss3_body (P : Program) (hc : FnOk P 30 ConIC) : BodyOk P x29 (IssC [.ptr 3 0, .ptr 2 0] i3) := by
 intro args H K hk
 obtain ⟨i, rfl, rfl, hp, hK⟩ := hk
 obtain ⟨q, hq⟩ : ∃ q, q = i3 i := ⟨_, rfl⟩
 dsimp only at hK
 rw [← hq] at hK
 obtain ⟨⟨carrier, L⟩, b, holder⟩ := i
 obtain ⟨nq1, cq1, sq1, frm1, to1, bq1, pq1, iq1, lq1⟩ := b
 refine ⟨nb9, ?_⟩
 dsimp only at hK ⊢
 cbv
 (refine cs9 hc (⟨⟨carrier, L⟩, ⟨nq1, cq1, sq1, frm1, to1, bq1, pq1, iq1, lq1⟩, holder⟩ : Iss) [0, 1, 2, 3, 4] hp ?_; try dsimp only)
 rw [← hq]
 cbv
 (refine .r9 (Gh.refl _) ?_; cbv; exact .inl (.f9 hK))
def issE (i : Iss) : Int := if i1 i then 1 else if i2 i then 5 else if i3 i then 9 else if i4 i then 7 else 0
def IssL : List AV := [.i 1, .clo 25 [.ptr 2 0, .ptr 3 0, .ptr 4 0], .i 5, .clo 28 [.ptr 2 0, .ptr 3 0], .i 9, .clo 29 [.ptr 3 0, .ptr 2 0], .i 7, .clo 32 [.ptr 2 0]]
def FirIH (i : Iss) : List Ent := IssH i ++ [.hrow 66 2 4 IssL]
def FirIC : Ctr := spec (fun _ : Iss => [.hd 5]) FirIH IssP (fun i => .i (issE i)) FirIH
structure IssF (P : Program) : Prop where
 m1 : MayCall P 25
 m2 : MayCall P 28
 m3 : MayCall P 29
 m4 : MayCall P 32
 f1 : FnOk P 25 (IssC [.ptr 2 0, .ptr 3 0, .ptr 4 0] i1)
 f2 : FnOk P 28 (IssC [.ptr 2 0, .ptr 3 0] i2)
 f3 : FnOk P 29 (IssC [.ptr 3 0, .ptr 2 0] i3)
 f4 : FnOk P 32 (IssC [.ptr 2 0] i4)
theorem firstI_body (P : Program) (F : IssF P) : BodyOk P x24 FirIC := by
 intro args H K hc
 obtain ⟨i, rfl, rfl, hp, hK⟩ := hc
 dsimp only at hK
 have he : issE i = if i1 i then 1 else if i2 i then 5 else if i3 i then 9 else if i4 i then 7 else 0 := rfl
 obtain ⟨e, hee⟩ : ∃ e, e = issE i := ⟨_, rfl⟩
 rw [← hee] at hK he
 obtain ⟨q1, hq1⟩ : ∃ q, q = i1 i := ⟨_, rfl⟩
 obtain ⟨q2, hq2⟩ : ∃ q, q = i2 i := ⟨_, rfl⟩
 obtain ⟨q3, hq3⟩ : ∃ q, q = i3 i := ⟨_, rfl⟩
 obtain ⟨q4, hq4⟩ : ∃ q, q = i4 i := ⟨_, rfl⟩
 rw [← hq1, ← hq2, ← hq3, ← hq4] at he
 obtain ⟨⟨carrier, L⟩, b, holder⟩ := i
 obtain ⟨nq1, cq1, sq1, frm1, to1, bq1, pq1, iq1, lq1⟩ := b
 refine ⟨nb9, ?_⟩
 dsimp only at hK ⊢
 cbv
 refine xloopV [] (fun p : { k : Nat // k ≤ 4 ∧ (1 ≤ k → q1 = false) ∧ (2 ≤ k → q2 = false) ∧ (3 ≤ k → q3 = false) ∧ (4 ≤ k → q4 = false) } => [(7, .i (nI p.1))]) (fun _ => FirIH ⟨⟨carrier, L⟩, ⟨nq1, cq1, sq1, frm1, to1, bq1, pq1, iq1, lq1⟩, holder⟩) (fun p => lft 4 p.1) ⟨0, by decide, fun h => absurd h (by decide), fun h => absurd h (by decide), fun h => absurd h (by decide), fun h => absurd h (by decide)⟩ ?_
 rintro ⟨k, hk, g1, g2, g3, g4⟩
 dsimp only at hk g1 g2 g3 g4 ⊢
 have hk4 : k = 0 ∨ k = 1 ∨ k = 2 ∨ k = 3 ∨ k = 4 := by omega
 rcases hk4 with rfl | rfl | rfl | rfl | rfl
 ·cbv; repeat' ((first | refine .y fun h => ?_ | refine .o ?_ | refine And.intro ?_ ?_ | fail) <;> cbv)
  ·exact F.m1
  ·have e0 : True := trivial
   (refine cs9 F.f1 (⟨⟨carrier, L⟩, ⟨nq1, cq1, sq1, frm1, to1, bq1, pq1, iq1, lq1⟩, holder⟩ : Iss) [0, 1, 2, 3, 4] hp ?_; try dsimp only)
   rw [← hq1]
   cases q1 with
   | true =>
    cbv
    (refine .r9 (Gh.refl _) ?_; cbv; exact .inl (.f9 (K_i hK (by rw [he]; rfl))))
   | false =>
    cbv; repeat' ((first | refine .k fun z hz => ?_ | fail) <;> cbv)
    obtain rfl : z = nI 1 := om9
    exact roundV ⟨1, by decide, fun _ => rfl, fun h => absurd h (by decide), fun h => absurd h (by decide), fun h => absurd h (by decide)⟩ (lft_lt (by decide))
 ·cbv; repeat' ((first | refine .y fun h => ?_ | refine .o ?_ | refine And.intro ?_ ?_ | fail) <;> cbv)
  ·exact F.m2
  ·have e0 : True := trivial
   have e1 := g1 (by decide)
   (refine cs9 F.f2 (⟨⟨carrier, L⟩, ⟨nq1, cq1, sq1, frm1, to1, bq1, pq1, iq1, lq1⟩, holder⟩ : Iss) [0, 1, 2, 3, 4] hp ?_; try dsimp only)
   rw [← hq2]
   cases q2 with
   | true =>
    cbv
    (refine .r9 (Gh.refl _) ?_; cbv; exact .inl (.f9 (K_i hK (by rw [he, e1]; rfl))))
   | false =>
    cbv; repeat' ((first | refine .k fun z hz => ?_ | fail) <;> cbv)
    obtain rfl : z = nI 2 := om9
    exact roundV ⟨2, by decide, fun _ => g1 (by decide), fun _ => rfl, fun h => absurd h (by decide), fun h => absurd h (by decide)⟩ (lft_lt (by decide))
 ·cbv; repeat' ((first | refine .y fun h => ?_ | refine .o ?_ | refine And.intro ?_ ?_ | fail) <;> cbv)
  ·exact F.m3
  ·have e0 : True := trivial
   have e1 := g1 (by decide)
   have e2 := g2 (by decide)
   (refine cs9 F.f3 (⟨⟨carrier, L⟩, ⟨nq1, cq1, sq1, frm1, to1, bq1, pq1, iq1, lq1⟩, holder⟩ : Iss) [0, 1, 2, 3, 4] hp ?_; try dsimp only)
   rw [← hq3]
   cases q3 with
   | true =>
    cbv
    (refine .r9 (Gh.refl _) ?_; cbv; exact .inl (.f9 (K_i hK (by rw [he, e1, e2]; rfl))))
   | false =>
    cbv; repeat' ((first | refine .k fun z hz => ?_ | fail) <;> cbv)
    obtain rfl : z = nI 3 := om9
    exact roundV ⟨3, by decide, fun _ => g1 (by decide), fun _ => g2 (by decide), fun _ => rfl, fun h => absurd h (by decide)⟩ (lft_lt (by decide))
 ·cbv; repeat' ((first | refine .y fun h => ?_ | refine .o ?_ | refine And.intro ?_ ?_ | fail) <;> cbv)
  ·exact F.m4
  ·have e0 : True := trivial
   have e1 := g1 (by decide)
   have e2 := g2 (by decide)
   have e3 := g3 (by decide)
   (refine cs9 F.f4 (⟨⟨carrier, L⟩, ⟨nq1, cq1, sq1, frm1, to1, bq1, pq1, iq1, lq1⟩, holder⟩ : Iss) [0, 1, 2, 3, 4] hp ?_; try dsimp only)
   rw [← hq4]
   cases q4 with
   | true =>
    cbv
    (refine .r9 (Gh.refl _) ?_; cbv; exact .inl (.f9 (K_i hK (by rw [he, e1, e2, e3]; rfl))))
   | false =>
    cbv; repeat' ((first | refine .k fun z hz => ?_ | fail) <;> cbv)
    obtain rfl : z = nI 4 := om9
    exact roundV ⟨4, by decide, fun _ => g1 (by decide), fun _ => g2 (by decide), fun _ => g3 (by decide), fun _ => rfl⟩ (lft_lt (by decide))
 ·have e1 := g1 (by decide)
  have e2 := g2 (by decide)
  have e3 := g3 (by decide)
  have e4 := g4 (by decide)
  cbv; repeat' ((first | refine .n fun h => ?_ | fail) <;> cbv)
  (refine .r9 (Gh.refl _) ?_; cbv; exact .inl (.f9 (K_i hK (by rw [he, e1, e2, e3, e4]; rfl))))
theorem finG {M : Nat} {res : List XRes} {K : AV → List Ent → Prop} {st st1 : St} (hg : Gh M st st1) (h : FinK M res K st1) : FinK M res K st := by
 obtain ⟨st', h1, h2⟩ := h
 exact ⟨⟨st', hg.trans h1, h2⟩⟩
theorem pupK_new2 {α : Type} {f : α → PEl} {L : List α} (key : α → ByteArray) (hf : ∀ a, (f a).1 = .str (key a)) {s : ByteArray} {outs : List (Nat × AV)} {v : AV} {K : List PEl → List (Nat × AV) → Prop} (ha : atS key L s = none) (h : ∀ es n, es = mapA f L ++ [(.str s, .any, [])] → n = L.length → K es ((n, v) :: outs)) : PupK (.str s) (mapA f L) outs v K :=
 pupK_new key hf ha (h _ _ rfl rfl)
theorem Gh.backN2 {α : Type} {M : Nat} {st : St} (k : Nat) (sel : List Nat) (f : α → PEl) {L L' : List α} (y : α) {es : List PEl} {n : Nat} {t : TypeId} {x : AV} (hes : es = mapA f L ++ [((f y).1, .any, [])]) (hn : n = L.length) (hL' : L' = L ++ [y]) (hk : st.H[k]? = some (.pool t es [(n, x)]) := by rfl)
  (hx : x = (f y).2.1.ren sel 0 := by rfl) (hH : sel.map (fun q => st.H[q]?) = (renH sel 0 (f y).2.2).map some := by rfl) (hnd : sel.Nodup := by decide) (hsel : sel.all (fun q => Nat.ble M q && q != k) = true := by decide) (hb : (f y).2.1.bnd sel.length = true := by rfl) (hbH : bndH sel.length (f y).2.2 = true := by rfl) (hpl : (f y).2.2.all plainE = true := by rfl) :
  Gh M st ⟨killTs st.T sel, dieH (killHs (st.H.set k (.pool t (mapA f L') [])) sel) sel⟩ := by
 subst hes hn hL'
 exact Gh.backN k sel f y hk rfl hx hH hnd hsel hb hbH hpl
def newM (b : Bl) (holder : ByteArray) : Br := ⟨b, 0, ⟨0, holder, []⟩, ⟨0, holder, []⟩, ⟨0, holder, []⟩⟩
def issM (i : Iss) : Rg := if issE i = 0 then ⟨i.R.carrier, i.R.bills ++ [newM i.b i.holder]⟩ else i.R
def IssueC : Ctr := spec (fun i : Iss => [.ptr 0 0, BlA i.b, .str i.holder]) (fun i => RegH i.R) IssP (fun i => .i (issE i)) fun i => RegH (issM i)
theorem issue_body (P : Program) (hf : FnOk P 24 FirIC) (hcp : FnOk P 33 CopyBC) : BodyOk P x7 IssueC := by
 intro args H K hc
 obtain ⟨i, rfl, rfl, hp, hK⟩ := hc
 dsimp only at hK
 have hok := hp.ok
 obtain ⟨e, he⟩ : ∃ e, e = issE i := ⟨_, rfl⟩
 obtain ⟨R', hR'⟩ : ∃ R', R' = issM i := ⟨_, rfl⟩
 rw [← he, ← hR'] at hK
 unfold issM at hR'
 rw [← he] at hR'
 have hi2 : e = 0 → i2 i = false := fun h => by
  rw [h] at he
  unfold issE at he
  cases h2 : i2 i with
  | false => rfl
  | true =>
   rw [h2] at he
   cases h1 : i1 i with
   | false => rw [h1] at he; simp at he
   | true => rw [h1] at he; simp at he
 obtain ⟨⟨carrier, L⟩, b, holder⟩ := i
 dsimp only at hR' hok
 obtain ⟨nq1, cq1, sq1, frm1, to1, bq1, pq1, iq1, lq1⟩ := b
 refine ⟨nb9, ?_⟩
 dsimp only at hK ⊢
 cbv
 (refine cs9 hf (⟨⟨carrier, L⟩, ⟨nq1, cq1, sq1, frm1, to1, bq1, pq1, iq1, lq1⟩, holder⟩ : Iss) [0, 1, 2, 3, 4, 5] hp ?_; try dsimp only)
 rw [← he]
 cbv; repeat' ((first | refine .mk (fun h => ?_) fun h => ?_ | fail) <;> cbv)
 ·rw [if_pos h] at hR'
  rw [h] at hK
  have hn2 := hi2 h
  unfold i2 at hn2
  dsimp only at hn2
  (refine c09 hcp ⟨nq1, cq1, sq1, frm1, to1, bq1, pq1, iq1, lq1⟩ hok ?_; try dsimp only)
  cbv
  refine xloopV [] (fun p : { k : Nat // k ≤ 3 } => [(27, .i (nI p.1))]) (fun p => [.blk 59 [.str carrier, .ph 1], .pool 57 (mapA PelA L) [], .blk 24 [.ptr 0 0], .blk 32 [.str nq1, .str cq1, .str sq1, .str frm1, .str to1, .sl 1 (mapA .str bq1), .sl 1 (mapA .str pq1), .i iq1, .bl lq1], .blk 9 [.str holder], .hrow 66 2 4 IssL, .blk 75 (pick4 p.1 [.str nq1, .str cq1, .str sq1, .str frm1, .str to1, .sl 1 (mapA .str bq1), .sl 1 (mapA .str pq1), .i iq1, .bl lq1, .i 0, .i 0, .str ⟨⟨[]⟩⟩, .v (.slice none 0 0), .i 0, .str ⟨⟨[]⟩⟩, .v (.slice none 0 0), .i 0, .str ⟨⟨[]⟩⟩, .v (.slice none 0 0)] [.str nq1, .str cq1, .str sq1, .str frm1, .str to1, .sl 1 (mapA .str bq1), .sl 1 (mapA .str pq1), .i iq1, .bl lq1, .i 0, .i 0, .str holder, .v (.slice none 0 0), .i 0, .str ⟨⟨[]⟩⟩, .v (.slice none 0 0), .i 0, .str ⟨⟨[]⟩⟩, .v (.slice none 0 0)] [.str nq1, .str cq1, .str sq1, .str frm1, .str to1, .sl 1 (mapA .str bq1), .sl 1 (mapA .str pq1), .i iq1, .bl lq1, .i 0, .i 0, .str holder, .v (.slice none 0 0), .i 0, .str holder, .v (.slice none 0 0), .i 0, .str ⟨⟨[]⟩⟩, .v (.slice none 0 0)] [.str nq1, .str cq1, .str sq1, .str frm1, .str to1, .sl 1 (mapA .str bq1), .sl 1 (mapA .str pq1), .i iq1, .bl lq1, .i 0, .i 0, .str holder, .v (.slice none 0 0), .i 0, .str holder, .v (.slice none 0 0), .i 0, .str holder, .v (.slice none 0 0)])]) (fun p => lft 3 p.1) ⟨0, by decide⟩ ?_
  rintro ⟨k, hk⟩
  dsimp only at hk ⊢
  have hk4 : k = 0 ∨ k = 1 ∨ k = 2 ∨ k = 3 := by omega
  rcases hk4 with rfl | rfl | rfl | rfl
  ·cbv; repeat' ((first | refine .n fun h => ?_ | refine .y fun h => ?_ | refine .k fun z hz => ?_ | refine .o ?_ | fail) <;> cbv)
   obtain rfl : z = nI 1 := om9
   exact roundV ⟨1, by decide⟩ (lft_lt (by decide))
  ·cbv; repeat' ((first | refine .n fun h => ?_ | refine .y fun h => ?_ | refine .k fun z hz => ?_ | refine .o ?_ | fail) <;> cbv)
   obtain rfl : z = nI 2 := om9
   exact roundV ⟨2, by decide⟩ (lft_lt (by decide))
  ·cbv; repeat' ((first | refine .y fun h => ?_ | refine .k fun z hz => ?_ | refine .o ?_ | fail) <;> cbv)
   obtain rfl : z = nI 3 := om9
   exact roundV ⟨3, by decide⟩ (lft_lt (by decide))
  ·cbv; repeat' ((first | refine .n fun h => ?_ | fail) <;> cbv)
   have hat : atS (fun b : Br => b.b.number) L nq1 = none := by
    cases hx : atS (fun b : Br => b.b.number) L nq1 with
    | none => rfl
    | some j =>
     unfold bAt at hn2
     rw [hx] at hn2
     cases hn2
   refine pupK_new2 (fun b : Br => b.b.number) (fun _ => rfl) hat (fun es n hes hn => ?_)
   cbv
   obtain ⟨L', hL'⟩ : ∃ L', L' = L ++ [(⟨⟨nq1, cq1, sq1, frm1, to1, bq1, pq1, iq1, lq1⟩, 0, ⟨0, holder, []⟩, ⟨0, holder, []⟩, ⟨0, holder, []⟩⟩ : Br)] := ⟨_, rfl⟩
   obtain rfl : R' = ⟨carrier, L'⟩ := by rw [hR', hL']; rfl
   refine finG (Gh.adoptC 6 12 85 4 rfl rfl) ?_
   cbv
   refine finG (Gh.adoptC 6 15 85 4 rfl rfl) ?_
   cbv
   refine finG (Gh.adoptC 6 18 85 4 rfl rfl) ?_
   cbv
   refine finG (Gh.publish 7 rfl) ?_
   cbv
   refine finG (Gh.publish 8 rfl) ?_
   cbv
   refine finG (Gh.publish 9 rfl) ?_
   cbv
   refine finG (Gh.backN2 1 [6, 7, 8, 9] PelA ⟨⟨nq1, cq1, sq1, frm1, to1, bq1, pq1, iq1, lq1⟩, 0, ⟨0, holder, []⟩, ⟨0, holder, []⟩, ⟨0, holder, []⟩⟩ hes hn hL') ?_
   cbv
   (refine .r9 (Gh.refl _) ?_; cbv; exact .inl (.f9 hK))
 ·rw [if_neg h] at hR'
  subst hR'
  (refine .r9 (Gh.refl _) ?_; cbv; exact .inl (.f9 hK))
set_option maxHeartbeats 4000000
def specN {ι κ : Type} (a : ι → List AV) (h : ι → List Ent) (p : ι → Prop) (q : ι → κ → Prop) (r : ι → κ → AV) (h' : ι → κ → List Ent) : Ctr := fun args H K => ∃ i, args = a i ∧ H = h i ∧ p i ∧ ∀ k, q i k → K (r i k) (h' i k)
theorem callG_specN {P : Program} {f : Nat} {ι κ : Type} {a : ι → List AV} {h : ι → List Ent} {p : ι → Prop} {q : ι → κ → Prop} {r : ι → κ → AV} {h' : ι → κ → List Ent} (hf : FnOk P f (specN a h p q r h')) (i : ι) (sel : List Nat) {keep : List Nat} {args : List AV} {st : St} {K : AV → St → Prop}
  (hp : p i) (ha : args = AV.renL sel st.H.length (a i)) (hlen : sel.length = (h i).length) (hnd : sel.Nodup) (hlt : (sel.all fun k => Nat.blt k st.H.length) = true) (hH : sel.map (fun k => st.H[k]?) = (renH sel st.H.length (h i)).map some)
  (hb : AV.bndL (h i).length (a i) = true) (hbH : bndH (h i).length (h i) = true) (hkeep : (keep.all fun k => !sel.contains k && Nat.blt k st.H.length) = true)
  (hK : ∀ k, q i k → K ((r i k).ren sel st.H.length) ⟨killTs st.T (rowIds sel (h i)), putE (killHs st.H (rowIds sel (h i))) sel (renH sel st.H.length (h' i k))⟩) : CallG P keep f args st K :=
 callG_of hf sel ha hlen hnd (fun k hk => by simpa [Nat.blt_eq] using List.all_eq_true.1 hlt k hk) hH hb hbH (fun k hk => by
  have := List.all_eq_true.1 hkeep k hk
  simp only [Bool.and_eq_true, Bool.not_eq_true', Nat.blt_eq] at this
  exact ⟨fun h => by rw [List.contains_eq_mem] at this; simp [h] at this, this.2⟩) ⟨i, rfl, rfl, hp, hK⟩
def NodupN (L : List Br) : Prop := (L.map fun b => b.b.number).Nodup
def seenB (L : List Br) (seen : List Nat) : List Br := seen.filterMap fun i => L[i]?
theorem seenB_snoc {L : List Br} {seen : List Nat} {i : Nat} {y : Br} (hy : L[i]? = some y) : seenB L (seen ++ [i]) = seenB L seen ++ [y] := by
 unfold seenB
 rw [List.filterMap_append, List.filterMap_cons, hy]
 rfl
theorem seenB_all {L : List Br} {seen : List Nat} (h : SeenOk L seen) (hall : ∀ i, i < L.length → i ∈ seen) : (seenB L seen).Perm L := by
 have hp : seen.Perm (List.range L.length) := (List.perm_ext_iff_of_nodup h.nd List.nodup_range).2 fun i => ⟨fun hi => List.mem_range.2 (h.lt i hi), fun hi => hall i (List.mem_range.1 hi)⟩
 have e := range_bind (some : Br → Option Br) L
 have e2 : (fun i : Nat => L[i]?.bind (some : Br → Option Br)) = fun i => L[i]? := by funext i; cases L[i]? <;> rfl
 rw [e2, List.filterMap_some] at e
 have h2 := hp.filterMap fun i => L[i]?
 rw [e] at h2
 exact h2
theorem nodup_inj2 {α : Type} {l : List α} (h : l.Nodup) {i j : Nat} {hi : i < l.length} {hj : j < l.length} (e : l[i] = l[j]) : i = j := by
 rcases Nat.lt_trichotomy i j with h1 | h1 | h1
 ·exact absurd e (List.pairwise_iff_getElem.1 h i j hi hj h1)
 ·exact h1
 ·exact absurd e.symm (List.pairwise_iff_getElem.1 h j i hj hi h1)
theorem seenB_new {L : List Br} {seen : List Nat} {i : Nat} {y : Br} (hn : NodupN L) (hy : L[i]? = some y) (hni : i ∉ seen) : atS (fun b : Br => b.b.number) (seenB L seen) y.b.number = none := by
 cases hx : atS (fun b : Br => b.b.number) (seenB L seen) y.b.number with
 | none => rfl
 | some j =>
  obtain ⟨z, hz, hk⟩ := atS_some hx
  have hm := List.mem_of_getElem? hz
  unfold seenB at hm
  obtain ⟨n, hns, hnz⟩ := List.mem_filterMap.1 hm
  exfalso
  unfold NodupN at hn
  obtain ⟨hi, rfl⟩ := List.getElem?_eq_some_iff.1 hy
  obtain ⟨hj, rfl⟩ := List.getElem?_eq_some_iff.1 hnz
  have e := nodup_inj2 (l := L.map fun b => b.b.number) (i := n) (j := i) (hi := by rw [List.length_map]; exact hj) (hj := by rw [List.length_map]; exact hi) hn (by rw [List.getElem_map, List.getElem_map]; exact hk)
  subst e
  exact hni hns
def RegH2 (R : Rg) (L' : List Br) : List Ent := RegH R ++ [.blk 59 [.str R.carrier, .ph 3], .pool 57 (mapA PelA L') []]
def CopyC : Ctr := specN (fun _ : Rg => [.ptr 0 0]) RegH (fun R => R.bills.length ≤ 256 ∧ (∀ b ∈ R.bills, inB b) ∧ NodupN R.bills) (fun R L' => L'.Perm R.bills) (fun _ _ => .ptr 2 0) RegH2
theorem copy_body (P : Program) (hnew : FnOk P 5 NewC) (hcp : FnOk P 33 CopyBC) (hcl : FnOk P 93 (CloneR 85 4 48)) : BodyOk P x80 CopyC := by
 intro args H K hc; obtain ⟨⟨carrier, L⟩, rfl, rfl, hp, hK⟩ := hc; refine ⟨nb9, ?_⟩; dsimp only at hp hK ⊢
 obtain ⟨hfew, hall, hnd⟩ := hp
 cbv
 (refine cn9 hnew carrier trivial ?_; try dsimp only)
 cbv; repeat' ((first | refine .k fun z hz => ?_ | fail) <;> cbv)
 obtain ⟨n, hn⟩ : ∃ n : Nat, n = L.length := ⟨_, rfl⟩
 obtain rfl : z = nI n := om9
 refine xloopV [] (fun q : { q : List Nat × Nat // SeenOk L q.1 ∧ q.2 = q.1.length } => []) (fun q => [.blk 59 [.str carrier, .ph 1], .pool 57 (mapA PelA L) [], .blk 59 [.str carrier, .ph 3], .pool 57 (mapA PelA (seenB L q.1.1)) [], .iter (.ph 1) n q.1.1]) (fun q => lft 257 q.1.2) ⟨([], 0), .nil, rfl⟩ ?_
 rintro ⟨⟨seen, k⟩, hse, hk⟩
 dsimp only at hse hk ⊢
 have hsl := hse.len
 obtain ⟨L1, hL1⟩ : ∃ l, l = seenB L seen := ⟨_, rfl⟩
 rw [← hL1]
 cbv
 refine nxtK_in hn (fun i y hy hni => ?_) (fun hall => ?_) <;> try dsimp only at *
 ·have hin := hall y (List.mem_of_getElem? hy)
  have hse2 := hse.snoc hy hni
  have hnew1 := seenB_new hnd hy hni
  have hsn := seenB_snoc (seen := seen) hy
  obtain ⟨s2, hs2⟩ : ∃ s, s = seen ++ [i] := ⟨_, rfl⟩
  rw [← hs2] at hse2 hsn ⊢
  rw [← hL1] at hnew1 hsn
  have hlt : k < 257 := by omega
  have hsk : s2.length = k + 1 := by rw [hs2, hk]; simp
  unfold inB okB chOk at hin
  obtain ⟨⟨nq1, cq1, sq1, frm1, to1, bq1, pq1, iq1, lq1⟩, st1, ⟨sa1, ha1, ca1⟩, ⟨sb1, hb1, cb1⟩, ⟨sc1, hc1, cc1⟩⟩ := y
  dsimp only at hin hnew1 hsn
  obtain ⟨⟨hl0, hl1, hl2⟩, hob⟩ := hin
  cbv
  refine entK_in2 hs2 hn hy ?_
  cbv
  (refine c09 hcp ⟨nq1, cq1, sq1, frm1, to1, bq1, pq1, iq1, lq1⟩ hob ?_; try dsimp only)
  cbv
  refine xloopG (Gh.viewE 9 rfl) ?_
  cbv
  refine xloopV [] (fun p : { k : Nat // k ≤ 3 } => [(38, .i (nI p.1))]) (fun p => [.blk 59 [.str carrier, .ph 1], .pool 57 (mapA PelA L) [(i, .ptr 5 0)], .blk 59 [.str carrier, .ph 3], .pool 57 (mapA PelA L1) [], .iter (.ph 1) n s2] ++ renH [] 5 (EntC ⟨⟨nq1, cq1, sq1, frm1, to1, bq1, pq1, iq1, lq1⟩, st1, ⟨sa1, ha1, ca1⟩, ⟨sb1, hb1, cb1⟩, ⟨sc1, hc1, cc1⟩⟩) ++ (pick4 p.1 [.blk 75 [.str nq1, .str cq1, .str sq1, .str frm1, .str to1, .sl 1 (mapA .str bq1), .sl 1 (mapA .str pq1), .i iq1, .bl lq1, .i st1, .i sa1, .str ha1, .sl 4 (mapA EdA ca1), .i sb1, .str hb1, .sl 4 (mapA EdA cb1), .i sc1, .str hc1, .sl 4 (mapA EdA cc1)]] [.blk 75 [.str nq1, .str cq1, .str sq1, .str frm1, .str to1, .sl 1 (mapA .str bq1), .sl 1 (mapA .str pq1), .i iq1, .bl lq1, .i st1, .i sa1, .str ha1, .hd 10, .i sb1, .str hb1, .sl 4 (mapA EdA cb1), .i sc1, .str hc1, .sl 4 (mapA EdA cc1)], .row 85 4 (mapA EdA ca1)] [.blk 75 [.str nq1, .str cq1, .str sq1, .str frm1, .str to1, .sl 1 (mapA .str bq1), .sl 1 (mapA .str pq1), .i iq1, .bl lq1, .i st1, .i sa1, .str ha1, .hd 10, .i sb1, .str hb1, .hd 11, .i sc1, .str hc1, .sl 4 (mapA EdA cc1)], .row 85 4 (mapA EdA ca1), .row 85 4 (mapA EdA cb1)] [.blk 75 [.str nq1, .str cq1, .str sq1, .str frm1, .str to1, .sl 1 (mapA .str bq1), .sl 1 (mapA .str pq1), .i iq1, .bl lq1, .i st1, .i sa1, .str ha1, .hd 10, .i sb1, .str hb1, .hd 11, .i sc1, .str hc1, .hd 12], .row 85 4 (mapA EdA ca1), .row 85 4 (mapA EdA cb1), .row 85 4 (mapA EdA cc1)])) (fun p => lft 3 p.1) ⟨0, by decide⟩ ?_
  rintro ⟨j, hj⟩
  dsimp only at hj ⊢
  have hk4 : j = 0 ∨ j = 1 ∨ j = 2 ∨ j = 3 := by omega
  rcases hk4 with rfl | rfl | rfl | rfl
  ·cbv; repeat' ((first | refine .n fun h => ?_ | refine .y fun h => ?_ | refine .o ?_ | fail) <;> cbv)
   (refine cn9 hcl _ ⟨by rw [mapA_len]; unfold maxLen; omega, by rw [mapA_len]; omega⟩ ?_; try dsimp only)
   cbv; repeat' ((first | refine .n fun h => ?_ | refine .k fun z hz => ?_ | refine .o ?_ | fail) <;> cbv)
   obtain rfl : z = nI 1 := om9
   exact roundV ⟨1, by decide⟩ (lft_lt (by decide))
  ·cbv; repeat' ((first | refine .n fun h => ?_ | refine .y fun h => ?_ | refine .o ?_ | fail) <;> cbv)
   (refine cn9 hcl _ ⟨by rw [mapA_len]; unfold maxLen; omega, by rw [mapA_len]; omega⟩ ?_; try dsimp only)
   cbv; repeat' ((first | refine .n fun h => ?_ | refine .y fun h => ?_ | refine .k fun z hz => ?_ | refine .o ?_ | fail) <;> cbv)
   obtain rfl : z = nI 2 := om9
   exact roundV ⟨2, by decide⟩ (lft_lt (by decide))
  ·cbv; repeat' ((first | refine .y fun h => ?_ | refine .o ?_ | fail) <;> cbv)
   (refine cn9 hcl _ ⟨by rw [mapA_len]; unfold maxLen; omega, by rw [mapA_len]; omega⟩ ?_; try dsimp only)
   cbv; repeat' ((first | refine .y fun h => ?_ | refine .k fun z hz => ?_ | refine .o ?_ | fail) <;> cbv)
   obtain rfl : z = nI 3 := om9
   exact roundV ⟨3, by decide⟩ (lft_lt (by decide))
  ·cbv; repeat' ((first | refine .n fun h => ?_ | fail) <;> cbv)
   refine pupK_new2 (fun b : Br => b.b.number) (fun _ => rfl) hnew1 (fun es n2 hes hn2 => ?_)
   cbv
   refine roundG (Gh.publish 10 rfl) ?_
   cbv
   refine roundG (Gh.publish 11 rfl) ?_
   cbv
   refine roundG (Gh.publish 12 rfl) ?_
   cbv
   refine roundG (Gh.back0 1 [5, 6, 7, 8] PelA rfl hy) ?_
   cbv
   refine roundG (Gh.backN2 3 [9, 10, 11, 12] PelA ⟨⟨nq1, cq1, sq1, frm1, to1, bq1, pq1, iq1, lq1⟩, st1, ⟨sa1, ha1, ca1⟩, ⟨sb1, hb1, cb1⟩, ⟨sc1, hc1, cc1⟩⟩ hes hn2 hsn) ?_
   cbv
   exact roundV ⟨(s2, k + 1), hse2, hsk.symm⟩ (lft_lt hlt)
 ·have hperm : L1.Perm L := by rw [hL1]; exact seenB_all hse ‹∀ i, i < L.length → i ∈ seen›
  cbv
  (refine .r9 (Gh.refl _) ?_; cbv; exact .inl (.f9 (hK L1 hperm)))
set_option maxHeartbeats 2000000
def RbL : Br → List AV
 | ⟨⟨number, carrier, shipper, frm, to, boxes, parents, issued, clean⟩, st, ⟨sa, ha, ca⟩, ⟨sb, hb, cb⟩, ⟨sc, hc, cc⟩⟩ =>
  [.str number, .str carrier, .str shipper, .str frm, .str to, .sl 1 (mapA .str boxes), .sl 1 (mapA .str parents), .i issued, .bl clean, .i st, .sl 3 [.agg [.i sa, .str ha, .sl 4 (mapA EdA ca)], .agg [.i sb, .str hb, .sl 4 (mapA EdA cb)], .agg [.i sc, .str hc, .sl 4 (mapA EdA cc)]]]
def RbA (b : Br) : AV := .agg (RbL b)
def RgA : Rg → AV
 | ⟨c, l⟩ => .agg [.str c, .sl 11 (mapA RbA l)]
structure At where
 kind : Int
 index : Int
 day : Int
 bill : ByteArray
 by_ : ByteArray
 to : ByteArray
 b : Bl
def AtL : At → List AV
 | ⟨kind, index, day, bill, by_, to, ⟨number, carrier, shipper, frm, to2, boxes, parents, issued, clean⟩⟩ => [.i kind, .i index, .i day, .str bill, .str by_, .str to, .str number, .str carrier, .str shipper, .str frm, .str to2, .sl 1 (mapA .str boxes), .sl 1 (mapA .str parents), .i issued, .bl clean]
def AtA (a : At) : AV := .agg (AtL a)
def idxG {α : Type} (p : α → Bool) (l : List α) : Int := match l.findIdx? p with
 | some i => Int.ofNat i
 | none => -1
def NoneG {α : Type} (p : α → Bool) (l : List α) (k : Nat) : Prop := ∀ j y, j < k → l[j]? = some y → p y = false
theorem NoneG.zero {α : Type} {p : α → Bool} {l : List α} : NoneG p l 0 := fun j y h => absurd h (Nat.not_lt_zero j)
theorem NoneG.succ {α : Type} {p : α → Bool} {l : List α} {k : Nat} {x : α} (h : NoneG p l k) (hx : l[k]? = some x) (hp : p x = false) : NoneG p l (k + 1) := fun j y hj hy => by
 rcases Nat.lt_or_ge j k with h1 | h1
 ·exact h j y h1 hy
 ·obtain rfl : j = k := by omega
  rw [hx] at hy
  cases hy
  exact hp
theorem idxG_at {α : Type} {p : α → Bool} {l : List α} {k : Nat} {x : α} (h : NoneG p l k) (hx : l[k]? = some x) (hp : p x = true) : idxG p l = Int.ofNat k := by
 obtain ⟨hk, rfl⟩ := List.getElem?_eq_some_iff.1 hx
 have e : l.findIdx? p = some k := List.findIdx?_eq_some_iff_getElem.2 ⟨hk, hp, fun j hj => by rw [h j _ hj (List.getElem?_eq_getElem (by omega))]; decide⟩
 unfold idxG
 rw [e]
theorem idxG_none {α : Type} {p : α → Bool} {l : List α} (h : NoneG p l l.length) : idxG p l = -1 := by
 have e : l.findIdx? p = none := List.findIdx?_eq_none_iff.2 fun x hx => by
  obtain ⟨j, hj, rfl⟩ := List.mem_iff_getElem.1 hx
  exact h j _ hj (List.getElem?_eq_getElem hj)
 unfold idxG
 rw [e]
theorem any_none {α : Type} {p : α → Bool} {l : List α} (h : NoneG p l l.length) : l.any p = false := by
 rw [List.any_eq_false]
 intro x hx
 obtain ⟨j, hj, rfl⟩ := List.mem_iff_getElem.1 hx
 rw [h j _ hj (List.getElem?_eq_getElem hj)]
 decide
theorem any_at {α : Type} {p : α → Bool} {l : List α} {k : Nat} {x : α} (hx : l[k]? = some x) (hp : p x = true) : l.any p = true := List.any_eq_true.2 ⟨x, List.mem_of_getElem? hx, hp⟩
def InC : Ctr := spec (fun i : List ByteArray × ByteArray => [.sl 1 (mapA .str i.1), .str i.2]) (fun _ => []) (fun i => i.1.length ≤ 5000) (fun i => .bl (i.1.any fun x => decide (i.2 = x))) fun _ => []
def NamesC : Ctr := spec (fun l : List ByteArray => [.sl 1 (mapA .str l)]) (fun _ => []) (fun l => l.length ≤ 5000 ∧ ∀ s ∈ l, s.size ≤ maxLen) (fun l => .bl (!(l.any fun s => !nameB s))) fun _ => []
def FindC : Ctr := spec (fun i : Rg × ByteArray => [RgA i.1, .str i.2]) (fun _ => []) (fun i => i.1.bills.length ≤ 5000) (fun i => .i (idxG (fun b : Br => decide (b.b.number = i.2)) i.1.bills)) fun _ => []
def RBoxC : Ctr := spec (fun i : Rg × ByteArray => [RgA i.1, .str i.2]) (fun _ => []) (fun i => i.1.bills.length ≤ 5000 ∧ ∀ b ∈ i.1.bills, okB b.b) (fun i => .i (idxG (pBox i.2) i.1.bills)) fun _ => []
deriving instance DecidableEq for Edm
deriving instance DecidableEq for Bl
theorem take_eq_succ {α : Type} {a b : List α} {k : Nat} {x : α} (h : a.take k = b.take k) (ha : a[k]? = some x) (hb : b[k]? = some x) : a.take (k + 1) = b.take (k + 1) := by rw [take_some ha, take_some hb, h]
theorem take_eq_all {α : Type} {a b : List α} {k : Nat} (h : a.take k = b.take k) (ha : a.length ≤ k) (hb : b.length ≤ k) : a = b := by rwa [List.take_of_length_le ha, List.take_of_length_le hb] at h
theorem get_ne {α : Type} {a b : List α} {k : Nat} {x y : α} (ha : a[k]? = some x) (hb : b[k]? = some y) (hn : ¬ x = y) : ¬ a = b := fun e => by
 subst e
 rw [ha] at hb
 cases hb
 exact hn rfl
def SameC : Ctr := spec (fun i : List ByteArray × List ByteArray => [.sl 1 (mapA .str i.1), .sl 1 (mapA .str i.2)]) (fun _ => []) (fun i => i.1.length ≤ 5000 ∧ i.2.length ≤ 5000) (fun i => .bl (decide (i.1 = i.2))) fun _ => []
def ChainsC : Ctr := spec (fun i : List Edm × List Edm => [.sl 4 (mapA EdA i.1), .sl 4 (mapA EdA i.2)]) (fun _ => []) (fun i => i.1.length ≤ 5000 ∧ i.2.length ≤ 5000) (fun i => .bl (decide (i.1 = i.2))) fun _ => []
def Same23C : Ctr := spec (fun i : Bl × Bl => [BlA i.1, BlA i.2]) (fun _ => []) (fun i => okB i.1 ∧ okB i.2) (fun i => .bl (decide (i.1 = i.2))) fun _ => []
def RCopyC : Ctr := spec (fun b : Bl => [BlA b]) (fun _ => []) okB (fun b => BlA b) fun _ => []
def onK (k : Int) : Br → Og
 | ⟨_, _, o0, o1, o2⟩ => if k = 0 then o0 else if k = 1 then o1 else o2
def UntilC : Ctr := spec (fun i : Br × Int => [RbA i.1, .i i.2]) (fun _ => []) (fun i => (i.2 = 0 ∨ i.2 = 1 ∨ i.2 = 2) ∧ chOk i.1) (fun i => .i (lastM (onK i.2 i.1) i.1.b.issued)) fun _ => []
def WhichC : Ctr := spec (fun a : At => [AtA a]) (fun _ => []) (fun _ => True) (fun a => .sl 1 (if a.kind = 5 ∨ (a.kind = 1 ∧ a.index = -1) then [.i 0, .i 1, .i 2] else [.i a.index])) fun _ => []
set_option maxHeartbeats 4000000
def lessB (a b : ByteArray) : Bool := decide (toL a < toL b)
theorem lessB_eq (a b : ByteArray) : Op.bytesLess a.toList b.toList = lessB a b := by rw [bytesLess_eq, Lib.toList_data, Lib.toList_data]; rfl
def putM (l : List ByteArray) (s : ByteArray) : List ByteArray := l.takeWhile (fun x => lessB x s) ++ s :: l.dropWhile (fun x => lessB x s)
theorem while_at {α : Type} {p : α → Bool} : ∀ {l : List α} {k : Nat}, k ≤ l.length → NoneG (fun x => !p x) l k → (∀ x, l[k]? = some x → p x = false) → l.takeWhile p = l.take k ∧ l.dropWhile p = l.drop k
 | [], k, hk, _, _ => by
  obtain rfl : k = 0 := by simpa using hk
  exact ⟨rfl, rfl⟩
 | x :: l, 0, _, _, h => by
  have hx := h x rfl
  rw [List.takeWhile_cons, List.dropWhile_cons, hx]
  exact ⟨rfl, rfl⟩
 | x :: l, k + 1, hk, hn, h => by
  have hx : p x = true := by
   have h0 : (!p x) = false := hn 0 x (Nat.succ_pos k) rfl
   simpa using h0
  obtain ⟨h1, h2⟩ := while_at (p := p) (l := l) (k := k) (by simpa using hk) (fun j y hj hy => hn (j + 1) y (by omega) (by simpa using hy)) (fun y hy => h y (by simpa using hy))
  rw [List.takeWhile_cons, List.dropWhile_cons, hx, h1, h2]
  exact ⟨rfl, rfl⟩
theorem putM_at {l : List ByteArray} {s : ByteArray} {k : Nat} (hk : k ≤ l.length) (hn : NoneG (fun x => !lessB x s) l k) (h : ∀ x, l[k]? = some x → lessB x s = false) : putM l s = l.take k ++ s :: l.drop k := by
 obtain ⟨h1, h2⟩ := while_at (p := fun x => lessB x s) hk hn h
 unfold putM
 rw [h1, h2]
theorem put_zs {l a b q : List ByteArray} {s : ByteArray} {k : Nat} {zs1 zs : List AV} (h4 : zs = zs1 ++ mapA .str b) (h2 : b = List.drop ((some (Int.ofNat k)).getD 0).toNat (List.take ((none : Option Int).getD (l.length : Int)).toNat l)) (h3 : zs1 = mapA .str a ++ [.str s]) (h1 : a = List.drop ((none : Option Int).getD 0).toNat (List.take ((some (Int.ofNat k)).getD (l.length : Int)).toNat l)) (hq : q = l.take k ++ s :: l.drop k) : zs = mapA .str q := by
 have e1 : a = l.take k := by rw [h1]; simp
 have e2 : b = l.drop k := by rw [h2]; simp
 rw [h4, h3, e1, e2, hq, mapA_app]
 have e : mapA AV.str (s :: l.drop k) = .str s :: mapA .str (l.drop k) := rfl
 rw [e, List.append_assoc]
 rfl
def PutC : Ctr := spec (fun i : List ByteArray × ByteArray => [.sl 1 (mapA .str i.1), .str i.2]) (fun _ => []) (fun i => i.1.length ≤ 5000) (fun i => .sl 1 (mapA .str (putM i.1 i.2))) fun _ => []
theorem putM_len (l : List ByteArray) (s : ByteArray) : (putM l s).length = l.length + 1 := by
 unfold putM
 have h := congrArg List.length (List.takeWhile_append_dropWhile (p := fun x => lessB x s) (l := l))
 rw [List.length_append] at h
 rw [List.length_append, List.length_cons]
 omega
def putAll (l : List ByteArray) : List ByteArray := l.foldl putM []
theorem putAll_len (l : List ByteArray) : (putAll l).length = l.length := by
 have h : ∀ (l a : List ByteArray), (l.foldl putM a).length = a.length + l.length := by
  intro l
  induction l with
  | nil => intro a; rfl
  | cons x l ih => intro a; rw [List.foldl_cons, ih, putM_len, List.length_cons]; omega
 have := h l []
 unfold putAll
 rw [this]
 exact Nat.zero_add _
theorem putAll_snoc (l : List ByteArray) (s : ByteArray) : putAll (l ++ [s]) = putM (putAll l) s := by unfold putAll; rw [List.foldl_append]; rfl
def preN (L : List Br) (p : Br → Bool) (k : Nat) : List ByteArray := putAll ((L.take k).filterMap (gN p))
theorem preN_yes {L : List Br} {p : Br → Bool} {k : Nat} {y : Br} (hy : L[k]? = some y) (hp : p y = true) : preN L p (k + 1) = putM (preN L p k) y.b.number := by
 unfold preN
 rw [take_some hy, List.filterMap_append, List.filterMap_cons]
 unfold gN
 rw [hp]
 exact putAll_snoc _ _
theorem preN_no {L : List Br} {p : Br → Bool} {k : Nat} {y : Br} (hy : L[k]? = some y) (hp : p y = false) : preN L p (k + 1) = preN L p k := by
 unfold preN
 rw [take_some hy, List.filterMap_append, List.filterMap_cons]
 unfold gN
 rw [hp]
 show putAll (_ ++ []) = _
 rw [List.append_nil]
theorem preN_len {L : List Br} {p : Br → Bool} {k : Nat} : (preN L p k).length ≤ L.length := by
 unfold preN
 rw [putAll_len]
 refine Nat.le_trans (List.length_filterMap_le _ _) ?_
 rw [List.length_take]
 omega
def ofM (L : List Br) (p : Br → Bool) : List ByteArray := putAll (L.filterMap (gN p))
theorem preN_all {L : List Br} {p : Br → Bool} {k : Nat} (hk : k = L.length) : preN L p k = ofM L p := by unfold preN ofM; rw [hk, List.take_length]
def RBillsC : Ctr := spec (fun R : Rg => [RgA R]) (fun _ => []) (fun R => R.bills.length ≤ 256) (fun R => .sl 1 (mapA .str (ofM R.bills fun _ => true))) fun _ => []
def of3 (st : Int) (who : ByteArray) (s : Int) (h : ByteArray) : Bool := decide (st = 0) && (decide (s = 0) && decide (h = who))
theorem pOfB_eq (who : ByteArray) (b : Bl) (st sa sb sc : Int) (ha hb hc : ByteArray) (ca cb cc : List Edm) : pOfB who ⟨b, st, ⟨sa, ha, ca⟩, ⟨sb, hb, cb⟩, ⟨sc, hc, cc⟩⟩ = (of3 st who sc hc || (of3 st who sb hb || (of3 st who sa ha || false))) := by
 unfold pOfB some3 pOf hitB of3
 dsimp only
 cases decide (st = 0) <;> cases (decide (sa = 0) && decide (ha = who)) <;> cases (decide (sb = 0) && decide (hb = who)) <;> cases (decide (sc = 0) && decide (hc = who)) <;> rfl
def ROfC : Ctr := spec (fun i : Rg × ByteArray => [RgA i.1, .str i.2]) (fun _ => []) (fun i => i.1.bills.length ≤ 256) (fun i => .sl 1 (mapA .str (ofM i.1.bills (pOfB i.2)))) fun _ => []
def fu3 (who : ByteArray) (s : Int) (h : ByteArray) : Bool := decide (s = 0) && decide (h = who)
def fullB (who : ByteArray) : Br → Bool
 | ⟨_, st, ⟨sa, ha, _⟩, ⟨sb, hb, _⟩, ⟨sc, hc, _⟩⟩ => decide (st = 0) && (fu3 who sa ha && (fu3 who sb hb && fu3 who sc hc))
theorem fullB_eq (who : ByteArray) (b : Br) : fullB who b = (decide (b.st = 0) && !some3 (-1) b (pFull who)) := by
 obtain ⟨_, st, ⟨sa, ha, _⟩, ⟨sb, hb, _⟩, ⟨sc, hc, _⟩⟩ := b
 unfold fullB some3 pFull hitB fu3
 dsimp only
 cases decide (st = 0) <;> cases decide (sa = 0) <;> cases decide (ha = who) <;> cases decide (sb = 0) <;> cases decide (hb = who) <;> cases decide (sc = 0) <;> cases decide (hc = who) <;> rfl
theorem idxG_b (L : List Br) (s : ByteArray) : idxG (fun b : Br => decide (b.b.number = s)) L = match bAt L s with
 | some i => Int.ofNat i
 | none => -1 := rfl
def RFullC : Ctr := spec (fun i : Rg × ByteArray × ByteArray => [RgA i.1, .str i.2.1, .str i.2.2]) (fun _ => []) (fun i => i.1.bills.length ≤ 256) (fun i => .bl (fullM i.1.bills i.2.1 i.2.2)) fun _ => []
structure SzB (b : Bl) : Prop where
 number : b.number.size ≤ maxLen
 shipper : b.shipper.size ≤ maxLen
 frm : b.frm.size ≤ maxLen
 to : b.to.size ≤ maxLen
 parents : ∀ s ∈ b.parents, s.size ≤ maxLen
theorem hasB_any (L : List ByteArray) (s : ByteArray) : (L.any fun x => decide (s = x)) = hasB L s := by
 unfold hasB atS
 have h : (L.findIdx? fun a => decide (id a = s)).isSome = L.any fun a => decide (id a = s) := by rw [List.findIdx?_isSome]
 rw [h]
 congr 1
 funext x
 exact decide_eq_decide.2 ⟨fun h => h.symm, fun h => h.symm⟩
def RMayC : Ctr := spec (fun i : ByteArray × Bl => [.str i.1, BlA i.2]) (fun _ => []) (fun i => okB i.2 ∧ SzB i.2) (fun i => .bl (mayB i.1 i.2)) fun _ => []
theorem callG_leH {P : Program} {f : Nat} {keep : List Nat} {args : List AV} {st : St} {K : AV → St → Prop} (H2 : List Ent) (hl : LeH st.H H2) (h : CallG P keep f args ⟨st.T, H2⟩ K) : CallG P keep f args st K :=
 ⟨fun C a w r pub vals hh hv => h.out C a w r pub vals ⟨hh.mod.le hl, hh.own, hh.fr, hh.slots, hh.defers, hh.size, hh.stab, hh.low.1, by rw [hl.len]; exact hh.low.2⟩ hv⟩
theorem callG_freeze {P : Program} {f : Nat} {keep : List Nat} {args : List AV} {st : St} {K : AV → St → Prop} (k : Nat) {t sz : Nat} {xs : List AV} (hk : st.H[k]? = some (.tip t sz xs)) (h : CallG P keep f args ⟨tkill k (.sl sz xs) st.T, st.H.map (Ent.kill k (.sl sz xs))⟩ K) : CallG P keep f args st K := by
 refine ⟨fun C a w r pub vals hh hv => h.out C a w r pub vals ?_ hv⟩
 have hy : ∀ z, r k = some z → VRel pub w r (.sl sz xs) z := fun z hz => by
  obtain ⟨A, d, c, x, us, hr, _⟩ := hh.ent_tip hk
  rw [hr] at hz
  cases hz
  have h1 := hh.view1 (x := .hd k) (.hd hr rfl)
  simp only [St.view1, hk] at h1
  exact h1
 refine ⟨⟨fun j e he => ?_, fun j hj => hh.mod.none_ j (by simpa using hj), hh.mod.disj, hh.mod.fresh, hh.mod.there, hh.mod.glob⟩, hh.own, hh.fr, hh.slots.kill (fun _ _ => rfl) hy, hh.defers, hh.size, hh.stab, by simpa using hh.low⟩
 rw [List.getElem?_map] at he
 cases hj : st.H[j]? with
 | none => rw [hj] at he; cases he
 | some e0 =>
  rw [hj] at he
  cases he
  exact (hh.mod.ent j e0 hj).kill (Fr.refl (fun _ => False) _ _) (fun _ _ _ _ h => h) (fun _ _ => rfl) hy
theorem idxG_any {α : Type} (p : α → Bool) (l : List α) : decide (0 ≤ idxG p l) = l.any p := by
 unfold idxG
 cases e : l.findIdx? p with
 | none =>
  rw [List.findIdx?_eq_none_iff] at e
  have : l.any p = false := by
   rw [List.any_eq_false]
   intro x hx
   rw [e x hx]
   decide
  rw [this]
  rfl
 | some i =>
  rw [List.findIdx?_eq_some_iff_getElem] at e
  obtain ⟨hi, h1, _⟩ := e
  have : l.any p = true := List.any_eq_true.2 ⟨_, List.getElem_mem hi, h1⟩
  rw [this]
  exact decide_eq_true (Int.natCast_nonneg i)
theorem boxN_any (L : List Br) (box : ByteArray) : (boxN L box).2 = L.any (pBox box) := by
 have hl : (numsM L (pBox box)).length = (L.filterMap (gN (pBox box))).length := by unfold numsM; rw [sortB_len]
 have ha : ∀ L : List Br, ((L.filterMap (gN (pBox box))).length = 0) ↔ L.any (pBox box) = false := by
  intro L
  induction L with
  | nil => simp
  | cons x L ih =>
   rw [List.filterMap_cons, List.any_cons]
   unfold gN
   cases hx : pBox box x with
   | true => simp
   | false =>
    unfold gN at ih
    simpa using ih
 unfold boxN
 cases hn : numsM L (pBox box) with
 | nil =>
  rw [hn] at hl
  exact ((ha L).1 hl.symm).symm
 | cons n l =>
  rw [hn] at hl
  cases hb : L.any (pBox box) with
  | true => rfl
  | false =>
   rw [(ha L).2 hb] at hl
   cases hl
def RgE : Rg × Int → AV
 | (R, e) => .tup [RgA R, .i e]
structure RIssP (i : Iss) : Prop where
 few : i.R.bills.length ≤ 256
 all : ∀ b ∈ i.R.bills, okB b.b
 ok : okB i.b
 sz : SzB i.b
 hsz : i.holder.size ≤ maxLen
def RIssueC : Ctr := spec (fun i : Iss => [RgA i.R, BlA i.b, .str i.holder]) (fun _ => []) RIssP (fun i => RgE (issM i, issE i)) fun _ => []
def akOf (a : At) : Ak := ⟨a.bill, if a.kind = 5 then -1 else a.index, if a.kind = 1 ∨ a.kind = 5 then -1 else 0, a.by_, if a.kind = 4 then 3 else 0, if a.kind = 3 then 0 else a.day, !decide (a.kind = 3), decide (a.kind = 1) && wrongE a.by_ a.to⟩
def whichM (a : At) : List Int := if a.kind = 5 ∨ (a.kind = 1 ∧ a.index = -1) then [0, 1, 2] else [a.index]
theorem k1_at (a : At) : k1 (akOf a) = decide (¬ a.kind = 5 ∧ (a.index < 0 ∨ 2 < a.index) ∧ ¬ (a.kind = 1 ∧ a.index = -1)) := by
 obtain ⟨kind, index, day, bill, by_, to, b⟩ := a
 unfold k1 akOf
 dsimp only
 rw [← Bool.decide_or]
 refine decide_eq_decide.2 ?_
 by_cases h5 : kind = 5
 ·rw [if_pos h5, if_pos (.inr h5)]
  omega
 ·rw [if_neg h5]
  by_cases h1 : kind = 1
  ·rw [if_pos (.inl h1)]
   omega
  ·rw [if_neg (by omega)]
   omega
theorem k2_at (a : At) : k2 (akOf a) = ((!decide (a.kind = 3) && !dayB a.day) || (decide (a.kind = 1) && wrongE a.by_ a.to)) := by
 obtain ⟨kind, index, day, bill, by_, to, b⟩ := a
 unfold k2 akOf
 dsimp only
 by_cases h3 : kind = 3
 ·rw [if_pos h3, decide_eq_true h3]
  cases (decide (kind = 1) && wrongE by_ to) <;> rfl
 ·rw [if_neg h3, decide_eq_false h3]
  cases (decide (kind = 1) && wrongE by_ to) <;> cases dayB day <;> rfl
theorem which_ok {a : At} (h : k1 (akOf a) = false) : ∀ k ∈ whichM a, k = 0 ∨ k = 1 ∨ k = 2 := by
 rw [k1_at] at h
 have h := of_decide_eq_false h
 unfold whichM
 intro k hk
 split at hk
 ·simpa using hk
 ·obtain rfl := List.mem_singleton.1 hk
  omega
theorem some3_which {a : At} (h : k1 (akOf a) = false) (b : Br) (p : Og → Bool) : some3 (akOf a).index b p = (whichM a).any fun k => p (onK k b) := by
 rw [k1_at] at h
 have h := of_decide_eq_false h
 obtain ⟨kind, index, day, bill, by_, to, bb⟩ := a
 obtain ⟨_, _, o0, o1, o2⟩ := b
 unfold whichM akOf some3 onK
 dsimp only at h ⊢
 by_cases h5 : kind = 5 ∨ (kind = 1 ∧ index = -1)
 ·rw [if_pos h5]
  have hi : (if kind = 5 then (-1 : Int) else index) = -1 := by
   split
   ·rfl
   ·omega
  rw [hi]
  have hh : ∀ k, hitB (-1) k = true := fun k => hitB_yes (.inl rfl)
  rw [hh, hh, hh]
  show _ = (p o0 || (p o1 || (p o2 || false)))
  cases p o0 <;> cases p o1 <;> cases p o2 <;> rfl
 ·rw [if_neg h5, if_neg (by omega)]
  have hi : index = 0 ∨ index = 1 ∨ index = 2 := by omega
  rcases hi with rfl | rfl | rfl
  ·show _ = (p o0 || false)
   cases p o0 <;> rfl
  ·show _ = (p o1 || false)
   cases p o1 <;> rfl
  ·show _ = (p o2 || false)
   cases p o2 <;> rfl
theorem any_or_c {α : Type} (c : Bool) (p : α → Bool) : ∀ {l : List α}, l ≠ [] → (c || l.any p) = l.any fun k => c || p k
 | [], h => absurd rfl h
 | x :: l, _ => by
  cases c with
  | true => rw [List.any_cons]; rfl
  | false => rfl
theorem any_and_c {α : Type} (c : Bool) (p : α → Bool) (l : List α) : (c && l.any p) = l.any fun k => c && p k := by
 cases c with
 | true => rfl
 | false =>
  have : (l.any fun k => false && p k) = false := by rw [List.any_eq_false]; intro x _; simp
  rw [this]
  rfl
theorem which_ne (a : At) : whichM a ≠ [] := by unfold whichM; split <;> exact List.cons_ne_nil _ _
def pw1 (x : Br) (sv : Int) (k : Int) : Bool := !decide (x.st = 0) || !decide ((onK k x).state = sv)
def pw2 (x : Br) (by_ : ByteArray) (k : Int) : Bool := !decide ((onK k x).holder = by_)
def pw3 (x : Br) (kind day : Int) (k : Int) : Bool := !decide (kind = 3) && decide (day < lastM (onK k x) x.b.issued)
theorem wrong_w1 {a : At} (h : k1 (akOf a) = false) (x : Br) : k3 x (akOf a) = (whichM a).any (pw1 x (if a.kind = 4 then 3 else 0)) := by
 unfold k3
 rw [some3_which h, any_or_c _ _ (which_ne a)]
 rfl
theorem wrong_w2 {a : At} (h : k1 (akOf a) = false) (x : Br) : k4 x (akOf a) = (whichM a).any (pw2 x a.by_) := by
 unfold k4
 rw [some3_which h]
 rfl
theorem wrong_w3 {a : At} (h : k1 (akOf a) = false) (x : Br) : k5 x (akOf a) = (whichM a).any (pw3 x a.kind a.day) := by
 unfold k5
 rw [some3_which h, any_and_c]
 congr 1
 funext k
 unfold pw3 pDay akOf
 dsimp only
 by_cases h3 : a.kind = 3
 ·rw [decide_eq_true h3]; rfl
 ·rw [if_neg h3]
def iA : Int → AV := fun k => .int .i64 k
def RWrongK (κ : Int) : Ctr := spec (fun i : Rg × At => [RgA i.1, AtA i.2]) (fun _ => []) (fun i => i.2.kind = κ ∧ i.1.bills.length ≤ 256 ∧ (∀ b ∈ i.1.bills, chOk b) ∧ i.2.to.size ≤ maxLen) (fun i => .i (askM i.1.bills (akOf i.2))) fun _ => []
def RWrongC : Ctr := spec (fun i : Rg × At => [RgA i.1, AtA i.2]) (fun _ => []) (fun i => (1 ≤ i.2.kind ∧ i.2.kind ≤ 5) ∧ i.1.bills.length ≤ 256 ∧ (∀ b ∈ i.1.bills, chOk b) ∧ i.2.to.size ≤ maxLen) (fun i => .i (askM i.1.bills (akOf i.2))) fun _ => []
theorem rwrong_ok {P : Program} {f : Nat} (h1 : FnOk P f (RWrongK 1)) (h2 : FnOk P f (RWrongK 2)) (h3 : FnOk P f (RWrongK 3)) (h4 : FnOk P f (RWrongK 4)) (h5 : FnOk P f (RWrongK 5)) : FnOk P f RWrongC := by
 intro args H K hc
 obtain ⟨i, rfl, rfl, ⟨hk, hp⟩, hK⟩ := hc
 have h : i.2.kind = 1 ∨ i.2.kind = 2 ∨ i.2.kind = 3 ∨ i.2.kind = 4 ∨ i.2.kind = 5 := by omega
 rcases h with h | h | h | h | h
 ·exact h1 _ _ K ⟨i, rfl, rfl, ⟨h, hp⟩, hK⟩
 ·exact h2 _ _ K ⟨i, rfl, rfl, ⟨h, hp⟩, hK⟩
 ·exact h3 _ _ K ⟨i, rfl, rfl, ⟨h, hp⟩, hK⟩
 ·exact h4 _ _ K ⟨i, rfl, rfl, ⟨h, hp⟩, hK⟩
 ·exact h5 _ _ K ⟨i, rfl, rfl, ⟨h, hp⟩, hK⟩
structure Sz47 (a : At) : Prop where
 bill : a.bill.size ≤ 140737488355328
 by_ : a.by_.size ≤ 140737488355328
 to : a.to.size ≤ 140737488355328
 number : a.b.number.size ≤ 140737488355328
 shipper : a.b.shipper.size ≤ 140737488355328
 frm : a.b.frm.size ≤ 140737488355328
 to2 : a.b.to.size ≤ 140737488355328
def SmallAt (a : At) : Prop := a.bill.size + a.by_.size + a.to.size ≤ 200 ∧ a.b.boxes.length ≤ 70 ∧ a.b.parents.length ≤ 70 ∧ a.b.number.size + a.b.shipper.size + a.b.frm.size + a.b.to.size ≤ 300
def FewAt (l : List At) : Prop := l.length ≤ 41 ∧ ∀ a ∈ l, SmallAt a
open Classical in
def fewB (l : List At) : Bool := decide (FewAt l)
open Classical in
theorem fewB_yes {l : List At} (h : FewAt l) : fewB l = true := by unfold fewB; exact decide_eq_true h
open Classical in
theorem fewB_no {l : List At} (h : ¬ FewAt l) : fewB l = false := by unfold fewB; exact decide_eq_false h
def FewC : Ctr := spec (fun l : List At => [.sl 15 (mapA AtA l)]) (fun _ => []) (fun l => ∀ a ∈ l, Sz47 a) (fun l => .bl (fewB l)) fun _ => []
def endR (f t : ByteArray) (d : Int) : Og → Og
 | ⟨s, _, c⟩ => ⟨s, t, c ++ [⟨f, t, 0, d⟩]⟩
def actR (a : At) : Br → Br := fun b =>
 if a.kind = 1 then onO a.index (endR a.by_ a.to a.day) b
 else if a.kind = 2 then onO a.index (stO 1) (endM 1 b)
 else if a.kind = 3 then onO a.index (stO 3) b
 else if a.kind = 4 then onO a.index (stO 0) b
 else endM 4 b
def issOf (R : Rg) (a : At) : Iss := ⟨R, a.b, a.to⟩
def doR (R : Rg) (a : At) : Rg × Int :=
 if a.kind = 0 then (issM (issOf R a), issE (issOf R a)) else (⟨R.carrier, actM R.bills (akOf a) (actR a)⟩, askM R.bills (akOf a))
structure RDoP (i : Rg × At) : Prop where
 kind : 0 ≤ i.2.kind ∧ i.2.kind ≤ 5
 few : i.1.bills.length ≤ 256
 all : ∀ b ∈ i.1.bills, chOk b ∧ okB b.b
 ok : okB i.2.b
 sz : SzB i.2.b
 tsz : i.2.to.size ≤ maxLen
def RDoK (κ : Int) : Ctr := spec (fun i : Rg × At => [RgA i.1, AtA i.2]) (fun _ => []) (fun i => i.2.kind = κ ∧ RDoP i) (fun i => RgE (doR i.1 i.2)) fun _ => []
theorem set_zs {L a b : List Br} {y : Br} {i : Nat} {x : AV} {n : Int} {zs1 zs : List AV} (h4 : zs = zs1 ++ mapA RbA b) (h2 : b = List.drop ((some n).getD 0).toNat (List.take ((none : Option Int).getD (L.length : Int)).toNat L)) (h3 : zs1 = mapA RbA a ++ [x]) (h1 : a = List.drop ((none : Option Int).getD 0).toNat (List.take ((some (Int.ofNat i)).getD (L.length : Int)).toNat L)) (hx : x = RbA y) (hn : n = Int.ofNat i + 1) (hi : i < L.length) : zs = mapA RbA (L.set i y) := by
 have e1 : a = L.take i := by rw [h1]; simp
 have e2 : b = L.drop (i + 1) := by
  rw [h2, hn]
  have : ((some (Int.ofNat i + 1)).getD 0).toNat = i + 1 := by show ((i : Int) + 1).toNat = i + 1; omega
  rw [this]
  simp
 rw [h4, h3, e1, e2, hx, List.set_eq_take_append_cons_drop, if_pos hi, mapA_app]
 have e : mapA RbA (y :: L.drop (i + 1)) = RbA y :: mapA RbA (L.drop (i + 1)) := rfl
 rw [e, List.append_assoc]
 rfl
section
variable {P : Program} {N M : Nat}
theorem SemW.block {id : Nat} {c : XCode} {Q : XEx → St → Prop} {st : St} (h : SemW P N M c (XBlk id Q) st) : SemW P N M (.block id c) Q st := ⟨fun code C act w r pub hx hN hM hh => by
 cases code with
 | block id' c' =>
  unfold cCode at hx
  obtain ⟨y, hy, h'⟩ := map_some hx
  cases h'
  refine wp_block (wp_mono (h.out c' C act w r pub hy hN hM hh) fun e a' w' hq => ?_)
  cases e with
  | normal => exact hq
  | exit id' =>
   show if id' = id then _ else _
   obtain ⟨st', r', pub', hk, hh⟩ := hq
   have hk : if id' = id then Q .norm st' else Q (.exit id') st' := hk
   split
   ·rename_i e; rw [if_pos e] at hk; exact ⟨st', r', pub', hk, hh⟩
   ·rename_i e; rw [if_neg e] at hk; exact ⟨st', r', pub', hk, hh⟩
  | ret => exact hq
  | goto l => exact hq
  | panic ch => exact hq.elim
  | outgrown => exact hq.elim
 | region id ops draw =>
  unfold cCode at hx
  cases draw with
  | false =>
   simp only [Bool.false_eq_true, if_false] at hx
   obtain ⟨l, hl, h⟩ := map_some hx
   cases h
  | true =>
   simp only [if_true] at hx
   split at hx
   ·obtain ⟨p, hp, h⟩ := map_some hx
    cases h
   ·cases hx
 | cond c c1 c2 =>
  unfold cCode at hx
  split at hx <;> cases hx
 | seq c1 c2 =>
  unfold cCode at hx
  split at hx <;> cases hx
 | loop c => unfold cCode at hx; obtain ⟨y, hy, h⟩ := map_some hx; cases h
 | scope c => unfold cCode at hx; obtain ⟨y, hy, h⟩ := map_some hx; cases h
 | _ => cases hx⟩
theorem xloopS {c : XCode} {Q : XEx → St → Prop} {st : St} {ι : Type} (F : ι → St) (μ : ι → Ms) (i0 : ι) (h0 : Gh M st (F i0)) (hr : ∀ i, SemW P N M c (XRound M F μ (μ i) Q) (F i)) : XLoopG P N M c Q st := by
 refine ⟨fun code C a w r pub hc hN hM h => ?_⟩
 obtain ⟨r1, p1, h1⟩ := h0 C a w r pub hM h
 refine wp_loop_fam (fun n a w => ∃ i r pub, (μ i).val = n ∧ HoldsW C (F i) a w r pub) (fun n a w hI => ?_) (n0 := (μ i0).val) ⟨i0, r1, p1, rfl, h1⟩
 obtain ⟨i, r, pub, rfl, hh⟩ := hI
 refine wp_mono ((hr i).out code C a w r pub hc hN hM hh) fun e a' w' hq => ?_
 cases e with
 | normal =>
  obtain ⟨st', r', pub', ⟨⟨st2, j, hg, rfl, hlt⟩⟩, hh'⟩ := hq
  obtain ⟨r2, p2, h2⟩ := hg C a' w' r' pub' hM hh'
  exact ⟨(μ j).val, hlt, j, r2, p2, rfl, h2⟩
 | exit id => exact hq
 | ret => exact hq
 | goto l => exact hq
 | panic ch => exact hq.elim
 | outgrown => exact hq.elim
theorem xloopVS {c : XCode} {Q : XEx → St → Prop} {T : List (Nat × AV)} {H : List Ent} {ι : Type} (hs : List Nat) (F : ι → List (Nat × AV)) (G : ι → List Ent) (μ : ι → Ms) (i0 : ι)
  (hr : ∀ i, SemW P N M c (XRound M (fun i => ⟨F i ++ keepT hs c.wr T, G i⟩) μ (μ i) Q) ⟨F i ++ keepT hs c.wr T, G i⟩)
  (hw : weakT T (F i0) := by repeat' (first | exact trivial | refine ⟨.inl rfl, ?_⟩ | refine ⟨.inr rfl, ?_⟩)) (hH : H.take (G i0).length = G i0 := by rfl) (hb : bndT (G i0).length (F i0 ++ keepT hs c.wr T) = true := by rfl) (hbH : bndH (G i0).length (G i0) = true := by rfl) (hM : M ≤ (G i0).length := by exact Nat.le_of_ble_eq_true rfl) : XLoopG P N M c Q ⟨T, H⟩ :=
 xloopS (fun i => ⟨F i ++ keepT hs c.wr T, G i⟩) μ i0 (Gh.weakG (weakG_app hw fun m => by rcases keepT_get hs T c.wr m with h | h; (· exact .inl h); exact .inr h.2) hH hb hbH hM) hr
end
def RDoC : Ctr := spec (fun i : Rg × At => [RgA i.1, AtA i.2]) (fun _ => []) (fun i => RDoP i) (fun i => RgE (doR i.1 i.2)) fun _ => []
theorem rdo_ok {P : Program} {f : Nat} (h0 : FnOk P f (RDoK 0)) (h1 : FnOk P f (RDoK 1)) (h2 : FnOk P f (RDoK 2)) (h3 : FnOk P f (RDoK 3)) (h4 : FnOk P f (RDoK 4)) (h5 : FnOk P f (RDoK 5)) : FnOk P f RDoC := by
 intro args H K hc
 obtain ⟨i, rfl, rfl, hp, hK⟩ := hc
 have hk := hp.kind
 have h : i.2.kind = 0 ∨ i.2.kind = 1 ∨ i.2.kind = 2 ∨ i.2.kind = 3 ∨ i.2.kind = 4 ∨ i.2.kind = 5 := by omega
 rcases h with h | h | h | h | h | h
 ·exact h0 _ _ K ⟨i, rfl, rfl, ⟨h, hp⟩, hK⟩
 ·exact h1 _ _ K ⟨i, rfl, rfl, ⟨h, hp⟩, hK⟩
 ·exact h2 _ _ K ⟨i, rfl, rfl, ⟨h, hp⟩, hK⟩
 ·exact h3 _ _ K ⟨i, rfl, rfl, ⟨h, hp⟩, hK⟩
 ·exact h4 _ _ K ⟨i, rfl, rfl, ⟨h, hp⟩, hK⟩
 ·exact h5 _ _ K ⟨i, rfl, rfl, ⟨h, hp⟩, hK⟩
structure SemC (P : Program) (N M : Nat) (code : Code) (Q : XEx → St → Prop) (st : St) : Prop where
 out : ∀ (C : Ctx) (a : Act) (w : World) (r : Rho) (pub : Pub), C.n = N → C.m = M → HoldsW C st a w r pub → code.wp P (QX C Q) a w
section
variable {P : Program} {N M : Nat}
theorem SemC.of {code : Code} {c : XCode} {Q : XEx → St → Prop} {st : St} (hc : cCode P N code = some c) (h : SemW P N M c Q st) : SemC P N M code Q st := ⟨fun C a w r pub hN hM hh => h.out code C a w r pub hc hN hM hh⟩
theorem SemC.seq {c1 c2 : Code} {x : XCode} {Q : XEx → St → Prop} {st : St} (hc : cCode P N c1 = some x) (h : SemW P N M x (XThen (SemC P N M c2 Q) Q) st) : SemC P N M (.seq c1 c2) Q st := ⟨fun C act w r pub hN hM hh => by
 refine wp_seq (wp_mono (h.out c1 C act w r pub hc hN hM hh) fun e a' w' hq => ?_)
 cases e with
 | normal =>
  obtain ⟨st', r', pub', hk, hh⟩ := hq
  exact hk.out C a' w' r' pub' hN hM hh
 | exit id => exact hq
 | ret => exact hq
 | goto l => exact hq
 | panic ch => exact hq.elim
 | outgrown => exact hq.elim⟩
end
mutual
def AV.pb (n : Nat) : AV → List AV → AV
 | .ptr k o, cs => if k = n then .rp cs o else .ptr k o
 | .hd k, _ => if k = n then .any else .hd k
 | .ph k, _ => if k = n then .any else .ph k
 | .re k a b c, _ => if k = n then .any else .re k a b c
 | .agg l, cs => .agg (AV.pbL n l cs)
 | .tup l, cs => .tup (AV.pbL n l cs)
 | .clo f l, cs => .clo f (AV.pbL n l cs)
 | .any, _ => .any
 | .bl b, _ => .bl b
 | .int k x, _ => .int k x
 | .str s, _ => .str s
 | .v x, _ => .v x
 | .sl a b, _ => .sl a b
 | .rp a b, _ => .rp a b
def AV.pbL (n : Nat) : List AV → List AV → List AV
 | [], _ => []
 | x :: l, cs => AV.pb n x cs :: AV.pbL n l cs
end
def Ent.pb (k : Nat) (cs : List AV) : Ent → Ent
 | .blk t l => .blk t (AV.pbL k l cs)
 | .row t sz xs => .row t sz xs
 | .map t es => .map t es
 | .dead => .dead
 | .tip t sz xs => .tip t sz xs
 | .hrow t sz n l => .hrow t sz n (AV.pbL k l cs)
 | .pool t es outs => .pool t es (outs.map fun p => (p.1, AV.pb k p.2 cs))
 | .iter x since seen => .iter (x.pb k cs) since seen
def pbT (k : Nat) (cs : List AV) : List (Nat × AV) → List (Nat × AV)
 | [] => []
 | (n, x) :: l => (n, x.pb k cs) :: pbT k cs l
theorem AV.pbL_map (n : Nat) (cs : List AV) : ∀ l, AV.pbL n l cs = l.map (fun x => AV.pb n x cs)
 | [] => by unfold AV.pbL; rfl
 | x :: l => by unfold AV.pbL; rw [AV.pbL_map n cs l]; rfl
theorem AV.pbL_get {n : Nat} {cs l : List AV} {i : Nat} {z : AV} (h : (AV.pbL n l cs)[i]? = some z) : ∃ x, l[i]? = some x ∧ z = x.pb n cs := by
 rw [AV.pbL_map, List.getElem?_map] at h
 cases hx : l[i]? with
 | none => rw [hx] at h; cases h
 | some x => rw [hx] at h; cases h; exact ⟨x, rfl, rfl⟩
theorem VRel.pb {pub : Pub} {w : World} {r r' : Rho} {a : AV} {x : Value} {n : Nat} {cs : List AV} (h : VRel pub w r a x) :
  (∀ m, m ≠ n → r' m = r m) → (∀ b o, r n = some (.pointer (some ⟨b, 0, none⟩)) → VRel pub w r' (.rp cs o) (.pointer (some ⟨b, o, none⟩))) → VRel pub w r' (a.pb n cs) x := by
 induction h with
 | any x => exact fun _ _ => by unfold AV.pb; exact .any x
 | bl b => exact fun _ _ => by unfold AV.pb; exact .bl b
 | int k x => exact fun _ _ => by unfold AV.pb; exact .int k x
 | str s => exact fun _ _ => by unfold AV.pb; exact .str s
 | v x h => exact fun _ _ => by unfold AV.pb; exact .v x h
 | agg hl _ ih =>
  intro h1 h2
  unfold AV.pb
  refine .agg (by rw [AV.pbL_map, List.length_map]; exact hl) fun i z u hz hu => ?_
  obtain ⟨y, hy, rfl⟩ := AV.pbL_get hz
  exact ih i y u hy hu h1 h2
 | tup hl _ ih =>
  intro h1 h2
  unfold AV.pb
  refine .tup (by rw [AV.pbL_map, List.length_map]; exact hl) fun i z u hz hu => ?_
  obtain ⟨y, hy, rfl⟩ := AV.pbL_get hz
  exact ih i y u hy hu h1 h2
 | clo f hl _ ih =>
  intro h1 h2
  unfold AV.pb
  refine .clo f (by rw [AV.pbL_map, List.length_map]; exact hl) fun i z u hz hu => ?_
  obtain ⟨y, hy, rfl⟩ := AV.pbL_get hz
  exact ih i y u hy hu h1 h2
 | @ptr r k b off h =>
  intro h1 h2
  unfold AV.pb
  split
  ·rename_i e; subst e; exact h2 b off h
  ·rename_i e; exact .ptr off (by rw [h1 k e]; exact h)
 | @hd r k x h h0 =>
  intro h1 h2
  unfold AV.pb
  split
  ·exact .any _
  ·rename_i e; exact .hd (by rw [h1 k e]; exact h) h0
 | @ph r k a x h h0 h3 =>
  intro h1 h2
  unfold AV.pb
  split
  ·exact .any _
  ·rename_i e; exact .ph (by rw [h1 k e]; exact h) h0 h3
 | @re r k b n c sz i j h =>
  intro h1 h2
  unfold AV.pb
  split
  ·exact .any _
  ·rename_i e; exact .re sz i j (by rw [h1 k e]; exact h)
 | sl hc hm hn hs g hr hg _ => exact fun _ _ => by unfold AV.pb; exact .sl hc hm hn hs g hr hg
 | rp j ho g hr hg _ => exact fun _ _ => by unfold AV.pb; exact .rp j ho g hr hg
theorem VRels.pb {pub : Pub} {w : World} {r r' : Rho} {l : List AV} {us : List Value} {n : Nat} {cs : List AV} (h : VRels pub w r l us) (h1 : ∀ m, m ≠ n → r' m = r m) (h2 : ∀ b o, r n = some (.pointer (some ⟨b, 0, none⟩)) → VRel pub w r' (.rp cs o) (.pointer (some ⟨b, o, none⟩))) : VRels pub w r' (AV.pbL n l cs) us :=
 ⟨by rw [AV.pbL_map, List.length_map]; exact h.len, fun i z u hz hu => by
  obtain ⟨x, hx, rfl⟩ := AV.pbL_get hz
  exact (h.at_ i x u hx hu).pb h1 h2⟩
theorem ERel.pb {pub : Pub} {w : World} {r r' : Rho} {h : Option Value} {e : Ent} {k : Nat} {cs : List AV} (he : ERel pub w r h e) (h1 : ∀ m, m ≠ k → r' m = r m)
  (h2 : ∀ b o, r k = some (.pointer (some ⟨b, 0, none⟩)) → VRel pub w r' (.rp cs o) (.pointer (some ⟨b, o, none⟩))) : ERel pub w r' h (e.pb k cs) := by
 cases he with
 | dead => exact .dead
 | blk hb hc hp => exact .blk hb (hc.pb h1 h2) hp
 | row ho hc hs hp => exact .row ho hc hs hp
 | tip ho hc hs hp => exact .tip ho hc hs hp
 | map hb hl hk hv hp hbo => exact .map hb hl hk hv hp hbo
 | hrow ho hc hp => exact .hrow ho (hc.pb h1 h2) hp
 | iter hb hx hp => exact .iter hb (hx.pb h1 h2) hp
 | @pool _ t es outs b ms inner hb hl hn hborn hk1 hout hin hie hnd hp =>
  refine .pool hb hl hn hborn hk1 (fun i x hx => ?_) (fun i e vs m ho => hin i e vs m fun x hx => ho _ (List.mem_map.2 ⟨(i, x), hx, rfl⟩)) (fun i e vs j d ho => hie i e vs j d fun x hx => ho _ (List.mem_map.2 ⟨(i, x), hx, rfl⟩)) hnd hp
  obtain ⟨⟨i', x'⟩, hx', e⟩ := List.mem_map.1 hx
  cases e
  exact ⟨(hout _ _ hx').1, fun m hm => ((hout _ _ hx').2 m hm).pb h1 h2⟩
theorem pbT_get (k : Nat) (cs : List AV) : ∀ (T : List (Nat × AV)) (n : Nat), tget (pbT k cs T) n = (tget T n).pb k cs ∨ tget (pbT k cs T) n = .any
 | [], _ => .inr rfl
 | (m, x) :: T, n => by
  simp only [pbT, tget]
  split
  ·exact .inl rfl
  ·exact pbT_get k cs T n
def isBlkE : Option Ent → Option (Nat × List AV)
 | some (.blk t cs) => some (t, cs)
 | _ => none
theorem isBlkE_of {e : Option Ent} {t : Nat} {cs : List AV} (h : isBlkE e = some (t, cs)) : e = some (.blk t cs) := by
 cases e with
 | none => cases h
 | some e => cases e <;> cases h; rfl
theorem Gh.pubB {M : Nat} {st : St} (k : Nat) {t : Nat} {cs : List AV} (hk : isBlkE st.H[k]? = some (t, cs)) (ho : cs.all AV.one = true := by rfl) (hb0 : AV.bndL 0 cs = true := by rfl) (hM : Nat.ble M k = true := by rfl) : Gh M st ⟨pbT k cs st.T, (st.H.map (Ent.pb k cs)).set k .dead⟩ := fun C a w r pub hCm h => by
 have hk := isBlkE_of hk
 have hM : M ≤ k := Nat.le_of_ble_eq_true hM
 obtain ⟨b, arr, hr, hb, hc, hp⟩ := h.ent_blk hk
 have hkl := (List.getElem?_eq_some_iff.1 hk).1
 let pub' : Pub := fun n => if n = b then arr.size else pub n
 have hpb : pub' b = arr.size := if_pos rfl
 have hpn : ∀ n, n ≠ b → pub' n = pub n := fun n hn => if_neg hn
 let r' : Rho := fun n => if n = k then none else r n
 have hrk : r' k = none := if_pos rfl
 have hrn : ∀ n, n ≠ k → r' n = r n := fun n hn => if_neg hn
 have hf : Fr (fun n => n = b) pub w pub' w := ⟨rfl, rfl, rfl, Nat.le_refl _, fun n _ hn => ⟨rfl, hpn n hn⟩, fun n => by
   by_cases e : n = b
   ·subst e; rw [hp]; exact Nat.zero_le _
   ·rw [hpn n e]; exact Nat.le_refl _, fun _ _ _ _ h => h, fun _ _ _ h => h⟩
 have hcl : cs.length = arr.size := by have := hc.len; simpa using this.symm
 have hrp : ∀ r2 o, VRel pub' w r2 (.rp cs o) (.pointer (some ⟨b, o, none⟩)) := fun r2 o => by
  have := VRel.rp (pub := pub') (w := w) (r := r2) (cs := cs) (b := b) (o := 0) o ho (fun i => arr.toList.getD i undef) (fun i u hu => ?_) (fun i u hu => ?_)
  ·rw [Nat.zero_add] at this; exact this
  ·have hi : i < arr.toList.length := by rw [← hc.len.symm] at *; exact (List.getElem?_eq_some_iff.1 hu).1
   have h1 := hc.at_ i u _ hu (List.getElem?_eq_getElem hi)
   rw [List.getD_eq_getElem?_getD, List.getElem?_eq_getElem hi]
   exact (h1.ext hf.ext).congr fun n hn => absurd (AV.bnd_has u (AV.bndL_mem hu hb0) hn) (Nat.not_lt_zero n)
  ·have hi : i < arr.size := by rw [← hcl]; exact (List.getElem?_eq_some_iff.1 hu).1
   refine ⟨by rw [hpb]; omega, hb.cell _ _ ?_⟩
   rw [Nat.zero_add, List.getD_eq_getElem?_getD, Array.getElem?_toList, Array.getElem?_eq_getElem hi]
   rfl
 have hrp2 : ∀ b' o, r k = some (.pointer (some ⟨b', 0, none⟩)) → VRel pub' w r' (.rp cs o) (.pointer (some ⟨b', o, none⟩)) := fun b' o hb' => by
  rw [hr] at hb'
  cases hb'
  exact hrp r' o
 refine ⟨r', pub', ⟨fun j e he => ?_, fun j hj => ?_, fun i j x y hij hx hy => ?_, fun n hn => ?_, fun n i hi => ?_, h.mod.glob.ext hf.ext⟩, fun j x hx => ?_, h.fr.trans hf (fun n hn => by subst hn; exact h.own k _ hr n (by simp [foot])), fun n => ?_, h.defers, h.size, fun j y hy hs => ?_, ⟨h.low.1, by simpa using h.low.2⟩⟩
 ·by_cases e1 : k = j
  ·subst e1
   rw [List.getElem?_set_self (by rw [List.length_map]; exact hkl)] at he
   cases he
   rw [hrk]
   exact .dead
  ·rw [List.getElem?_set_ne e1, List.getElem?_map] at he
   cases hz : st.H[j]? with
   | none => rw [hz] at he; cases he
   | some z =>
    rw [hz] at he
    cases he
    rw [hrn j (Ne.symm e1)]
    exact ((h.mod.ent j z hz).frm (r' := r) hf (fun y hy n hn e => by subst e; exact h.mod.disj k j _ y e1 hr hy n (by simp [foot]) hn) (fun _ _ h => h)).pb hrn hrp2
 ·by_cases e1 : j = k
  ·subst e1; exact hrk
  ·rw [hrn j e1]; exact h.mod.none_ j (by simpa using hj)
 ·by_cases e1 : i = k
  ·subst e1; rw [hrk] at hx; cases hx
  ·by_cases e2 : j = k
   ·subst e2; rw [hrk] at hy; cases hy
   ·rw [hrn i e1] at hx; rw [hrn j e2] at hy; exact h.mod.disj i j x y hij hx hy
 ·by_cases e1 : n = b
  ·subst e1; have := hb.lt; omega
  ·rw [hpn n e1]; exact h.mod.fresh n hn
 ·by_cases e1 : n = b
  ·subst e1
   rw [hpb] at hi
   exact ⟨arr[i], hb.cell _ _ (Array.getElem?_eq_getElem hi)⟩
  ·rw [hpn n e1] at hi; exact h.mod.there n i hi
 ·by_cases e1 : j = k
  ·subst e1; rw [hrk] at hx; cases hx
  ·rw [hrn j e1] at hx; exact h.own j x hx
 ·rcases pbT_get k cs st.T n with e | e
  ·dsimp only; rw [e]; exact ((h.slots n).ext hf.ext).pb hrn hrp2
  ·dsimp only; rw [e]; exact .any _
 ·have hj : j < C.m := by
   rcases Nat.lt_or_ge j C.m with h1 | h1
   ·exact h1
   ·rw [h.low.1 j h1] at hy; cases hy
  rw [hrn j (by omega)]
  exact h.stab j y hy hs
theorem Gh.forgetB {M : Nat} {st : St} (k : Nat) {t : Nat} {es : List (AV × AV)} (hk : st.H[k]? = some (.map t es)) : Gh M st ⟨st.T, st.H.set k (.map (delT t) es)⟩ := fun C a w r pub _ h => by
 obtain ⟨b, ms, clock, hr, hb, hl, hks, hvs, hp⟩ := h.ent_map hk
 exact ⟨r, pub, h.mod.set hr (Fr.refl (fun _ => False) _ _) (fun _ h => h.elim) h.mod.fresh h.mod.there (.map hb hl hks hvs hp fun ht => absurd ht (delT_not t)), h.own, h.fr, h.slots, h.defers, h.size, h.stab, h.low.1, by simpa using h.low.2⟩
set_option maxHeartbeats 2000000
theorem notName_body (P : Program) (hn : FnOk P 27 (StrC (fun _ => True) nameB)) : BodyOk P x41 (CloN fun s => !nameB s) := by
 intro args H K hc; obtain ⟨s, rfl, rfl, hp, hK⟩ := hc; refine ⟨nb9, ?_⟩; dsimp only at hp hK ⊢
 obtain ⟨q, hq⟩ : ∃ q, q = nameB s := ⟨_, rfl⟩
 rw [← hq] at hK
 cbv
 (refine c09 hn s trivial ?_; try dsimp only)
 rw [← hq]
 cbv
 exact FinK.mk ⟨_, Gh.refl _, .inl (.v9 hK)⟩
def dupGo (ahead : List ByteArray) : List ByteArray → Bool
 | [] => false
 | b :: r => hasB ahead b || dupGo (ahead ++ [b]) r
def dupB (l : List ByteArray) : Bool := dupGo [] l
theorem dupGo_at {c : List ByteArray} {k : Nat} {b : ByteArray} (hb : c[k]? = some b) : dupGo (c.take k) (c.drop k) = (hasB (c.take k) b || dupGo (c.take (k + 1)) (c.drop (k + 1))) := by
 obtain ⟨hk, rfl⟩ := List.getElem?_eq_some_iff.1 hb
 rw [List.drop_eq_getElem_cons hk, dupGo, List.take_succ_eq_append_getElem hk]
theorem dupGo_end {c : List ByteArray} {k : Nat} (hk : k = c.length) : dupGo (c.take k) (c.drop k) = false := by
 rw [List.drop_eq_nil_of_le (by omega), dupGo]
def TwiceC : Ctr := spec (fun l : List ByteArray => [.sl 1 (mapA .str l)]) (fun _ => []) (fun l => l.length ≤ 5000) (fun l => .bl (dupB l)) fun _ => []
theorem twice_body (P : Program) : BodyOk P x42 TwiceC := by
 intro args H K hc; obtain ⟨l, rfl, rfl, hp, hK⟩ := hc; refine ⟨nb9, ?_⟩; dsimp only at hp hK ⊢
 obtain ⟨q, hq⟩ : ∃ q, q = dupB l := ⟨_, rfl⟩
 rw [← hq] at hK
 have hq0 : q = dupGo (l.take 0) (l.drop 0) := hq
 obtain ⟨n, hn⟩ : ∃ n : Nat, n = l.length := ⟨_, rfl⟩
 cbv; repeat' ((first | refine .k fun z hz => ?_ | fail) <;> cbv)
 refine xloopV [] (fun p : { k : Nat // k ≤ l.length ∧ q = dupGo (l.take k) (l.drop k) } => [(11, .i (nI p.1))]) (fun p => [.map 33 (mapA setF (l.take p.1))]) (fun p => lft 5001 p.1) ⟨0, Nat.zero_le _, hq0⟩ ?_
 rintro ⟨k, hk, hb⟩
 dsimp only at hk hb ⊢
 cbv; repeat' ((first | refine .mk (fun h => ?_) fun h => ?_ | fail) <;> cbv)
 ·refine askEl_int om9 om9 fun i x hi hx => ?_
  obtain rfl : k = i := om9
  have hg := dupGo_at hx
  cbv
  refine find_set (fun j hj => ?_) (fun hj => ?_)
  ·have hh : hasB (l.take k) x = true := by unfold hasB; rw [hj]; rfl
   rw [hg, hh] at hb
   cbv
   (refine .r9 (Gh.refl _) ?_; cbv; exact .inl (.f9 (K_bl hK hb.symm)))
  ·have hh : hasB (l.take k) x = false := by unfold hasB; rw [hj]; rfl
   rw [hg, hh] at hb
   cbv
   refine find_set (fun j hj2 => ?_) (fun _ => ?_)
   ·rw [hj] at hj2
    cases hj2
   cbv; repeat' ((first | refine .k fun z hz => ?_ | refine .ms fun ms hms => ?_ | fail) <;> cbv)
   obtain rfl : ms = mapA setF (l.take (k + 1)) := by
    rw [take_some hx, mapA_app, mapA_one]
    exact hms
   obtain rfl : z = nI (k + 1) := om9
   exact roundV ⟨k + 1, by exact om9, hb⟩ (lft_lt om9)
 ·obtain rfl : k = l.length := om9
  rw [dupGo_end rfl] at hb
  (refine .r9 (Gh.refl _) ?_; cbv; exact .inl (.f9 (K_bl hK hb.symm)))
structure Rc where
 l : List ByteArray
def RcA : Rc → AV
 | ⟨l⟩ => .sl 1 (mapA .str l)
def takeAll (left : List ByteArray) : List ByteArray → Option (List ByteArray)
 | [] => some left
 | x :: r => match atS id left x with
  | some i => takeAll (left.eraseIdx i) r
  | none => none
def partGo (left : List ByteArray) : List Rc → Bool
 | [] => left.isEmpty
 | p :: r => !p.l.isEmpty && match takeAll left p.l with
  | some left' => partGo left' r
  | none => false
theorem hasB_dup {l : List ByteArray} (h : dupB l = false) {k : Nat} {x : ByteArray} (hx : l[k]? = some x) : atS id (l.take k) x = none := by
 have key : ∀ (m : Nat), m ≤ l.length → dupGo (l.take m) (l.drop m) = false := by
  intro m
  induction m with
  | zero => intro _; exact h
  | succ m ih =>
   intro hm
   have h1 := ih (by omega)
   rw [dupGo_at (List.getElem?_eq_getElem (by omega))] at h1
   simp only [Bool.or_eq_false_iff] at h1
   exact h1.2
 have hk := (List.getElem?_eq_some_iff.1 hx).1
 have h1 := key k (by omega)
 rw [dupGo_at hx] at h1
 simp only [Bool.or_eq_false_iff] at h1
 unfold hasB at h1
 cases ha : atS id (l.take k) x with
 | none => rfl
 | some i => rw [ha] at h1; cases h1.1
theorem mapA_erase {α β : Type} (f : α → β) (l : List α) (i : Nat) : (mapA f l).eraseIdx i = mapA f (l.eraseIdx i) := by
 induction l generalizing i with
 | nil => rfl
 | cons x l ih => cases i with
  | zero => rfl
  | succ i =>
   show f x :: (mapA f l).eraseIdx i = f x :: mapA f (l.eraseIdx i)
   rw [ih]
def PartedC : Ctr := spec (fun i : List ByteArray × List Rc => [.sl 1 (mapA .str i.1), .sl 1 (mapA RcA i.2)]) (fun _ => []) (fun i => i.1.length ≤ 5000 ∧ i.2.length ≤ 5000 ∧ (∀ p ∈ i.2, p.l.length ≤ 5000) ∧ dupB i.1 = false) (fun i => .bl (partGo i.1 i.2)) fun _ => []
theorem parted_body (P : Program) : BodyOk P x43 PartedC := by
 intro args H K hc; obtain ⟨⟨l, ps⟩, rfl, rfl, hp, hK⟩ := hc; refine ⟨nb9, ?_⟩; dsimp only at hp hK ⊢
 obtain ⟨hl, hps, hpl, hd⟩ := hp
 obtain ⟨q, hq⟩ : ∃ q, q = partGo l ps := ⟨_, rfl⟩
 rw [← hq] at hK
 obtain ⟨n, hn⟩ : ∃ n : Nat, n = l.length := ⟨_, rfl⟩
 cbv; repeat' ((first | refine .k fun z hz => ?_ | fail) <;> cbv)
 refine xloopV [] (fun p : { k : Nat // k ≤ l.length } => [(17, .i (nI p.1))]) (fun p => [.map 33 (mapA setF (l.take p.1))]) (fun p => lft 5001 p.1) ⟨0, Nat.zero_le _⟩ ?_
 rintro ⟨k, hk⟩
 dsimp only at hk ⊢
 cbv; repeat' ((first | refine .mk (fun h => ?_) fun h => ?_ | refine .k fun z hz => ?_ | fail) <;> cbv)
 ·refine askEl_int om9 om9 fun i x hi hx => ?_
  obtain rfl : k = i := om9
  cbv
  refine find_set (fun j hj2 => ?_) (fun _ => ?_)
  ·rw [hasB_dup hd hx] at hj2
   cases hj2
  cbv; repeat' ((first | refine .k fun z hz => ?_ | refine .ms fun ms hms => ?_ | fail) <;> cbv)
  obtain rfl : ms = mapA setF (l.take (k + 1)) := by
   rw [take_some hx, mapA_app, mapA_one]
   exact hms
  obtain rfl : z = nI (k + 1) := om9
  exact roundV ⟨k + 1, by exact om9⟩ (lft_lt om9)
 ·obtain rfl : k = l.length := om9
  rw [List.take_length]
  cbv
  refine xloopG (Gh.forgetB 0 rfl) ?_
  cbv
  refine xloopV [] (fun p : { p : Nat × List ByteArray // p.1 ≤ ps.length ∧ q = partGo p.2 (ps.drop p.1) } => [(26, .i (nI p.1.1))]) (fun p => [.map (delT 33) (mapA setF p.1.2)]) (fun p => lft 5001 p.1.1) ⟨(0, l), Nat.zero_le _, hq⟩ ?_
  rintro ⟨⟨k, left⟩, hk, hb⟩
  dsimp only at hk hb ⊢
  cbv; repeat' ((first | refine .mk (fun h => ?_) fun h => ?_ | refine .k fun z hz => ?_ | fail) <;> cbv)
  ·refine askEl_int om9 om9 fun i x hi hx => ?_
   obtain rfl : k = i := om9
   have hlx := hpl x (List.mem_of_getElem? hx)
   have hdr : ps.drop k = x :: ps.drop (k + 1) := by
    obtain ⟨hk2, rfl⟩ := List.getElem?_eq_some_iff.1 hx
    exact List.drop_eq_getElem_cons hk2
   rw [hdr, partGo] at hb
   obtain ⟨x⟩ := x
   dsimp only at hb hlx
   cbv; repeat' ((first | refine .mk (fun h => ?_) fun h => ?_ | refine .k fun z hz => ?_ | fail) <;> cbv)
   ·obtain rfl : x = [] := List.eq_nil_of_length_eq_zero om9
    (refine .r9 (Gh.refl _) ?_; cbv; exact .inl (.f9 (K_bl hK (by rw [hb]; rfl))))
   ·have hne : (!x.isEmpty) = true := by
     cases x with
     | nil => exfalso; simp at *; omega
     | cons a b => rfl
    rw [hne, Bool.true_and] at hb
    refine xloopV [] (fun p : { p : Nat × List ByteArray // p.1 ≤ x.length ∧ takeAll left x = takeAll p.2 (x.drop p.1) } => [(35, .i (nI p.1.1))]) (fun p => [.map (delT 33) (mapA setF p.1.2)]) (fun p => lft 5001 p.1.1) ⟨(0, left), Nat.zero_le _, rfl⟩ ?_
    rintro ⟨⟨j, left2⟩, hj, ht⟩
    dsimp only at hj ht ⊢
    cbv; repeat' ((first | refine .mk (fun h => ?_) fun h => ?_ | refine .k fun z hz => ?_ | fail) <;> cbv)
    ·refine askEl_int om9 om9 fun i y hi hy => ?_
     obtain rfl : j = i := om9
     have hdr2 : x.drop j = y :: x.drop (j + 1) := by
      obtain ⟨hk2, rfl⟩ := List.getElem?_eq_some_iff.1 hy
      exact List.drop_eq_getElem_cons hk2
     rw [hdr2, takeAll] at ht
     cbv
     refine find_set (fun i2 hi2 => ?_) (fun hi2 => ?_)
     ·rw [hi2] at ht
      dsimp only at ht
      cbv
      refine find_set (fun i3 hi3 => ?_) (fun hi3 => ?_)
      ·rw [hi2] at hi3
       cases hi3
       cbv; repeat' ((first | refine .k fun z hz => ?_ | refine .ms fun ms hms => ?_ | fail) <;> cbv)
       obtain rfl : ms = mapA setF (left2.eraseIdx i2) := by rw [hms, mapA_erase]
       obtain rfl : z = nI (j + 1) := om9
       exact roundV ⟨(j + 1, left2.eraseIdx i2), by exact om9, ht⟩ (lft_lt om9)
      ·rw [hi2] at hi3
       cases hi3
     ·rw [hi2] at ht
      dsimp only at ht
      rw [ht] at hb
      cbv
      (refine .r9 (Gh.refl _) ?_; cbv; exact .inl (.f9 (K_bl hK (by rw [hb]))))
    ·have hj2 : x.drop j = [] := List.drop_eq_nil_of_le om9
     rw [hj2, takeAll] at ht
     rw [ht] at hb
     dsimp only at hb
     cbv
     obtain rfl : z = nI (k + 1) := om9
     exact roundV ⟨(k + 1, left2), by exact om9, hb⟩ (lft_lt om9)
  ·have hk2 : ps.drop k = [] := List.drop_eq_nil_of_le om9
   rw [hk2, partGo] at hb
   have hml : (left.length : Int) = z := by rw [hz]; exact congrArg Nat.cast (mapA_len setF left).symm
   have hl0 : left.length = 0 := by omega
   have hb2 : q = true := by rw [hb]; exact List.isEmpty_iff_length_eq_zero.2 hl0
   (refine .r9 (Gh.refl _) ?_; cbv; exact .inl (.f9 (K_bl hK hb2.symm)))
  ·have hk2 : ps.drop k = [] := List.drop_eq_nil_of_le om9
   rw [hk2, partGo] at hb
   have hml : (left.length : Int) = z := by rw [hz]; exact congrArg Nat.cast (mapA_len setF left).symm
   have hb2 : q = false := by rw [hb]; cases left with | nil => exact absurd hml.symm h | cons a b => rfl
   (refine .r9 (Gh.refl _) ?_; cbv; exact .inl (.f9 (K_bl hK hb2.symm)))
set_option maxHeartbeats 1000000
def lkN (L : List Br) (s : ByteArray) : Option Br := L.find? fun b => decide (b.b.number = s)
theorem bAt_lk (L : List Br) (s : ByteArray) : lkN L s = (bAt L s).bind fun i => L[i]? := by
 unfold lkN bAt atS
 exact List.find?_eq_bind_findIdx?_getElem?
theorem lk_cases (L : List Br) (s : ByteArray) : (∃ i y, bAt L s = some i ∧ L[i]? = some y ∧ lkN L s = some y ∧ y.b.number = s) ∨ (bAt L s = none ∧ lkN L s = none) := by
 have h := bAt_lk L s
 cases hb : bAt L s with
 | none => rw [hb] at h; exact .inr ⟨rfl, h⟩
 | some i =>
  obtain ⟨y, hy, hk⟩ := atS_some hb
  rw [hb] at h
  exact .inl ⟨i, y, rfl, hy, h.trans hy, hk⟩
theorem lk_mem {L : List Br} {s : ByteArray} {y : Br} (h : lkN L s = some y) : y ∈ L ∧ y.b.number = s := ⟨List.mem_of_find?_eq_some h, by unfold lkN at h; have h2 := List.find?_some h; simpa using h2⟩
theorem nodup_eq {L : List Br} (h : NodupN L) {x y : Br} (hx : x ∈ L) (hy : y ∈ L) (e : x.b.number = y.b.number) : x = y := by
 obtain ⟨i, hi, rfl⟩ := List.mem_iff_getElem.1 hx
 obtain ⟨j, hj, rfl⟩ := List.mem_iff_getElem.1 hy
 unfold NodupN at h
 have := nodup_inj2 (l := L.map fun b => b.b.number) (i := i) (j := j) (hi := by rw [List.length_map]; exact hi) (hj := by rw [List.length_map]; exact hj) h (by rw [List.getElem_map, List.getElem_map]; exact e)
 subst this
 rfl
theorem lk_of {L : List Br} (h : NodupN L) {y : Br} {s : ByteArray} (hy : y ∈ L) (hs : y.b.number = s) : lkN L s = some y := by
 cases hl : lkN L s with
 | none =>
  unfold lkN at hl
  rw [List.find?_eq_none] at hl
  exact absurd (decide_eq_true hs) (hl y hy)
 | some x =>
  obtain ⟨h1, h2⟩ := lk_mem hl
  rw [nodup_eq h h1 hy (h2.trans hs.symm)]
theorem nodupN_perm {L L' : List Br} (p : L.Perm L') (h : NodupN L) : NodupN L' := (p.map _).nodup_iff.1 h
theorem lk_perm {L L' : List Br} (p : L.Perm L') (h : NodupN L) (s : ByteArray) : lkN L s = lkN L' s := by
 cases hl : lkN L' s with
 | none =>
  cases hk : lkN L s with
  | none => rfl
  | some y =>
   obtain ⟨h1, h2⟩ := lk_mem hk
   rw [lk_of (nodupN_perm p h) (p.mem_iff.1 h1) h2] at hl
   cases hl
 | some y =>
  obtain ⟨h1, h2⟩ := lk_mem hl
  exact lk_of h (p.mem_iff.2 h1) h2
theorem stateM_lk (L : List Br) (s : ByteArray) : stateM L s = match lkN L s with
  | some b => b.st
  | none => -1 := by
 unfold stateM
 rcases lk_cases L s with ⟨i, y, h1, h2, h3, _⟩ | ⟨h1, h3⟩
 ·rw [h1, h3]; dsimp only; rw [h2]
 ·rw [h1, h3]
theorem getM_lk (L : List Br) (s : ByteArray) : getM L s = match lkN L s with
  | some b => (b.b, true)
  | none => (zeroB, false) := by
 unfold getM
 rcases lk_cases L s with ⟨i, y, h1, h2, h3, _⟩ | ⟨h1, h3⟩
 ·rw [h1, h3]; dsimp only; rw [h2]
 ·rw [h1, h3]
theorem askM_lk (L : List Br) (a : Ak) : askM L a = match lkN L a.bill with
  | some b => askE b a
  | none => 4 := by
 unfold askM
 rcases lk_cases L a.bill with ⟨i, y, h1, h2, h3, _⟩ | ⟨h1, h3⟩
 ·rw [h1, h3]; dsimp only; rw [h2]
 ·rw [h1, h3]
theorem origM_lk (L : List Br) (s : ByteArray) (idx : Int) : origM L s idx = match lkN L s with
  | some b => pickO idx b
  | none => (zeroO, false) := by
 unfold origM
 rcases lk_cases L s with ⟨i, y, h1, h2, h3, _⟩ | ⟨h1, h3⟩
 ·rw [h1, h3]; dsimp only; rw [h2]
 ·rw [h1, h3]
theorem fullM_lk (L : List Br) (s who : ByteArray) : fullM L s who = match lkN L s with
  | some b => decide (b.st = 0) && !some3 (-1) b (pFull who)
  | none => false := by
 unfold fullM
 rcases lk_cases L s with ⟨i, y, h1, h2, h3, _⟩ | ⟨h1, h3⟩
 ·rw [h1, h3]; dsimp only; rw [h2]
 ·rw [h1, h3]
theorem ornM_lk (L : List Br) (s : ByteArray) : ornM L s = match lkN L s with
  | some b => orn3 s b
  | none => [] := by
 unfold ornM
 rcases lk_cases L s with ⟨i, y, h1, h2, h3, _⟩ | ⟨h1, h3⟩
 ·rw [h1, h3]; dsimp only; rw [h2]
 ·rw [h1, h3]
theorem holdM_lk {L L' : List Br} {s : ByteArray} (h : lkN L s = lkN L' s) (idx : Int) : holdM L s idx = holdM L' s idx := by
 unfold holdM
 rw [origM_lk L, origM_lk L', stateM_lk L, stateM_lk L', h]
theorem updM_map {L : List Br} (hn : NodupN L) (s : ByteArray) (f : Br → Br) : updM L s f = L.map fun b => if b.b.number = s then f b else b := by
 rcases lk_cases L s with ⟨i, y, h1, h2, h3, h4⟩ | ⟨h1, h3⟩
 ·rw [updM_some f h1 h2]
  refine List.ext_getElem? fun j => ?_
  rw [List.getElem?_set, List.getElem?_map]
  have hi := (List.getElem?_eq_some_iff.1 h2).1
  by_cases hij : i = j
  ·subst hij
   rw [if_pos rfl, if_pos hi, h2, Option.map_some, if_pos h4]
  ·rw [if_neg hij]
   cases hj : L[j]? with
   | none => rfl
   | some z =>
    rw [Option.map_some]
    have : ¬ z.b.number = s := fun e => by
     obtain ⟨hj1, rfl⟩ := List.getElem?_eq_some_iff.1 hj
     obtain ⟨hi1, rfl⟩ := List.getElem?_eq_some_iff.1 h2
     unfold NodupN at hn
     exact hij (nodup_inj2 (l := L.map fun b => b.b.number) (i := i) (j := j) (hi := by rw [List.length_map]; exact hi1) (hj := by rw [List.length_map]; exact hj1) hn (by rw [List.getElem_map, List.getElem_map]; exact h4.trans e.symm))
    rw [if_neg this]
 ·unfold updM
  rw [h1]
  have hne := atS_none h1
  symm
  have : (L.map fun b => if b.b.number = s then f b else b) = L.map id := List.map_congr_left fun b hb => by rw [if_neg (hne b hb)]; rfl
  dsimp only
  rw [this, List.map_id]
structure OgOk (n : Nat) (o : Og) : Prop where
 name : nameB o.holder = true
 len : o.chain.length ≤ n
 kinds : ∀ e ∈ o.chain, e.kind = 0
def liveS (s : Int) : Prop := s = 0 ∨ s = 3
def stOk (st a b c : Int) : Prop := (st = 0 ∧ liveS a ∧ liveS b ∧ liveS c) ∨ (st = 1 ∧ ((a = 1 ∧ b = 2 ∧ c = 2) ∨ (a = 2 ∧ b = 1 ∧ c = 2) ∨ (a = 2 ∧ b = 2 ∧ c = 1))) ∨ (st = 4 ∧ a = 2 ∧ b = 2 ∧ c = 2)
structure BrOk (n : Nat) (c : ByteArray) (b : Br) : Prop where
 may : mayB c b.b = true
 ok : okB b.b
 h0 : OgOk n b.o0
 h1 : OgOk n b.o1
 h2 : OgOk n b.o2
 st : stOk b.st b.o0.state b.o1.state b.o2.state
structure Inv (n : Nat) (R : Rg) : Prop where
 nd : NodupN R.bills
 few : R.bills.length ≤ 256
 all : ∀ b ∈ R.bills, BrOk n R.carrier b
 dis : ∀ b1 ∈ R.bills, ∀ b2 ∈ R.bills, b1.st = 0 → b2.st = 0 → ∀ x ∈ b1.b.boxes, x ∈ b2.b.boxes → b1.b.number = b2.b.number
theorem OgOk.mono {n m : Nat} {o : Og} (h : OgOk n o) (hm : n ≤ m) : OgOk m o := ⟨h.name, Nat.le_trans h.len hm, h.kinds⟩
theorem BrOk.mono {n m : Nat} {c : ByteArray} {b : Br} (h : BrOk n c b) (hm : n ≤ m) : BrOk m c b := ⟨h.may, h.ok, h.h0.mono hm, h.h1.mono hm, h.h2.mono hm, h.st⟩
theorem Inv.mono {n m : Nat} {R : Rg} (h : Inv n R) (hm : n ≤ m) : Inv m R := ⟨h.nd, h.few, fun b hb => (h.all b hb).mono hm, h.dis⟩
theorem Inv.perm {n : Nat} {R R' : Rg} (h : Inv n R) (hc : R.carrier = R'.carrier) (p : R.bills.Perm R'.bills) : Inv n R' :=
 ⟨nodupN_perm p h.nd, by rw [← p.length_eq]; exact h.few, fun b hb => by rw [← hc]; exact h.all b (p.mem_iff.2 hb), fun b1 h1 b2 h2 => h.dis b1 (p.mem_iff.2 h1) b2 (p.mem_iff.2 h2)⟩
theorem Inv.inB {n : Nat} {R : Rg} (h : Inv n R) (hn : n ≤ 4500) : ∀ b ∈ R.bills, inB b := fun b hb => by
 have := h.all b hb
 exact ⟨⟨Nat.le_trans this.h0.len hn, Nat.le_trans this.h1.len hn, Nat.le_trans this.h2.len hn⟩, this.ok⟩
theorem inv_nil (n : Nat) (c : ByteArray) : Inv n ⟨c, []⟩ := ⟨.nil, by simp, fun b hb => (by cases hb), fun b hb => (by cases hb)⟩
structure Done (b : Br) (a : Ak) : Prop where
 ix : a.least ≤ a.index ∧ a.index < 3
 right : a.wrong = false
 day : a.dated = true → dayB a.day = true
 live : b.st = 0
 s3 : some3 a.index b (pState a) = false
 h3 : some3 a.index b (pHolder a) = false
 d3 : a.dated = true → some3 a.index b (pDay b a) = false
theorem done_of {b : Br} {a : Ak} (h : askE b a = 0) : Done b a := by
 have hx := askE_k1 h
 unfold askE at h
 split at h
 ·exact absurd h (by decide)
 split at h
 ·exact absurd h (by decide)
 rename_i h2
 split at h
 ·exact absurd h (by decide)
 rename_i h3
 split at h
 ·exact absurd h (by decide)
 rename_i h4
 split at h
 ·exact absurd h (by decide)
 rename_i h5
 unfold k2 at h2
 unfold k3 at h3
 unfold k4 at h4
 unfold k5 at h5
 simp only [Bool.or_eq_true, not_or, Bool.not_eq_true, Bool.and_eq_true, Bool.not_eq_true', decide_eq_false_iff_not, Decidable.not_not, not_and, Bool.not_eq_false] at h2 h3 h4 h5
 exact ⟨hx, h2.1, fun h => by simpa using h2.2 h, by simpa using h3.1, h3.2, h4, fun h => by simpa using h5 h⟩
theorem some3_hit {idx : Int} {b : Br} {p : Og → Bool} (h : some3 idx b p = false) : (hitB idx 0 = true → p b.o0 = false) ∧ (hitB idx 1 = true → p b.o1 = false) ∧ (hitB idx 2 = true → p b.o2 = false) := by
 unfold some3 at h
 cases h0 : hitB idx 0 <;> cases h1 : hitB idx 1 <;> cases h2 : hitB idx 2 <;> simp [h0, h1, h2] at h ⊢ <;> simp [h]
theorem onO_b (idx : Int) (f : Og → Og) (b : Br) : (onO idx f b).b = b.b ∧ (onO idx f b).st = b.st := by obtain ⟨_, _, _, _, _⟩ := b; exact ⟨rfl, rfl⟩
theorem endM_b (s : Int) (b : Br) : (endM s b).b = b.b ∧ (endM s b).st = s := by obtain ⟨_, _, _, _, _⟩ := b; exact ⟨rfl, rfl⟩
theorem actR_b (a : At) (b : Br) : (actR a b).b = b.b := by
 unfold actR
 split
 ·exact (onO_b _ _ _).1
 split
 ·rw [(onO_b _ _ _).1, (endM_b _ _).1]
 split
 ·exact (onO_b _ _ _).1
 split
 ·exact (onO_b _ _ _).1
 ·exact (endM_b _ _).1
theorem actR_live (a : At) (b : Br) (h : (actR a b).st = 0) : b.st = 0 := by
 unfold actR at h
 split at h
 ·rwa [(onO_b _ _ _).2] at h
 split at h
 ·rw [(onO_b _ _ _).2, (endM_b _ _).2] at h; cases h
 split at h
 ·rwa [(onO_b _ _ _).2] at h
 split at h
 ·rwa [(onO_b _ _ _).2] at h
 ·rw [(endM_b _ _).2] at h; cases h
theorem stO_ok {n : Nat} {s : Int} {o : Og} (h : OgOk n o) : OgOk (n + 1) (stO s o) := by
 obtain ⟨a, b, c⟩ := o
 exact ⟨h.name, Nat.le_succ_of_le h.len, h.kinds⟩
theorem endR_ok {n : Nat} {f t : ByteArray} {d : Int} {o : Og} (h : OgOk n o) (ht : nameB t = true) : OgOk (n + 1) (endR f t d o) := by
 obtain ⟨a, b, c⟩ := o
 refine ⟨ht, ?_, fun e he => ?_⟩
 ·show (c ++ [_]).length ≤ n + 1
  have h1 : c.length ≤ n := h.len
  rw [List.length_append, List.length_singleton]
  omega
 ·rcases List.mem_append.1 he with h1 | h1
  ·exact h.kinds e h1
  ·obtain rfl := List.mem_singleton.1 h1; rfl
theorem wrongE_no {f t : ByteArray} (h : wrongE f t = false) : nameB t = true ∧ ¬ t = f := by
 unfold wrongE at h
 simp only [Bool.or_eq_false_iff, Bool.not_eq_false', decide_eq_false_iff_not] at h
 exact h
theorem actR_ok {n : Nat} {c : ByteArray} {b : Br} {a : At} (h : BrOk n c b) (hk : 1 ≤ a.kind ∧ a.kind ≤ 5) (he : askE b (akOf a) = 0) : BrOk (n + 1) c (actR a b) := by
 have hd := done_of he
 obtain ⟨kind, index, day, bill, by_, to, bb⟩ := a
 obtain ⟨b, st, ⟨s0, y0, c0⟩, ⟨s1, y1, c1⟩, ⟨s2, y2, c2⟩⟩ := b
 obtain ⟨hmay, hok, h0, h1, h2, hst⟩ := h
 obtain ⟨hix, hright, hday, hlive, hs3, hh3, hd3⟩ := hd
 unfold akOf at *
 dsimp only at *
 subst hlive
 have hst : liveS s0 ∧ liveS s1 ∧ liveS s2 := by
  rcases hst with ⟨_, h⟩ | ⟨h, _⟩ | ⟨h, _⟩
  ·exact h
  ·exact absurd h (by decide)
  ·exact absurd h (by decide)
 obtain ⟨t0, t1, t2⟩ := hst
 have g0 := h0.mono (Nat.le_succ n)
 have g1 := h1.mono (Nat.le_succ n)
 have g2 := h2.mono (Nat.le_succ n)
 have hk5 : kind = 1 ∨ kind = 2 ∨ kind = 3 ∨ kind = 4 ∨ kind = 5 := by omega
 rcases hk5 with rfl | rfl | rfl | rfl | rfl
 ·have hw : wrongE by_ to = false := hright
  have hto := (wrongE_no hw).1
  show BrOk (n + 1) c (onO index (endR by_ to day) ⟨b, 0, ⟨s0, y0, c0⟩, ⟨s1, y1, c1⟩, ⟨s2, y2, c2⟩⟩)
  unfold onO
  dsimp only
  cases hitB index 0 <;> cases hitB index 1 <;> cases hitB index 2 <;> exact ⟨hmay, hok, by first | exact g0 | exact endR_ok h0 hto, by first | exact g1 | exact endR_ok h1 hto, by first | exact g2 | exact endR_ok h2 hto, .inl ⟨rfl, t0, t1, t2⟩⟩
 ·have hix : (0 : Int) ≤ index ∧ index < 3 := hix
  show BrOk (n + 1) c (onO index (stO 1) (endM 1 ⟨b, 0, ⟨s0, y0, c0⟩, ⟨s1, y1, c1⟩, ⟨s2, y2, c2⟩⟩))
  have hi3 : index = 0 ∨ index = 1 ∨ index = 2 := by omega
  rcases hi3 with rfl | rfl | rfl
  ·exact ⟨hmay, hok, stO_ok (s := 1) h0, stO_ok (s := 2) h1, stO_ok (s := 2) h2, .inr (.inl ⟨rfl, .inl ⟨rfl, rfl, rfl⟩⟩)⟩
  ·exact ⟨hmay, hok, stO_ok (s := 2) h0, stO_ok (s := 1) h1, stO_ok (s := 2) h2, .inr (.inl ⟨rfl, .inr (.inl ⟨rfl, rfl, rfl⟩)⟩)⟩
  ·exact ⟨hmay, hok, stO_ok (s := 2) h0, stO_ok (s := 2) h1, stO_ok (s := 1) h2, .inr (.inl ⟨rfl, .inr (.inr ⟨rfl, rfl, rfl⟩)⟩)⟩
 ·show BrOk (n + 1) c (onO index (stO 3) ⟨b, 0, ⟨s0, y0, c0⟩, ⟨s1, y1, c1⟩, ⟨s2, y2, c2⟩⟩)
  unfold onO
  dsimp only
  cases hitB index 0 <;> cases hitB index 1 <;> cases hitB index 2 <;> exact ⟨hmay, hok, by first | exact g0 | exact stO_ok (s := 3) h0, by first | exact g1 | exact stO_ok (s := 3) h1, by first | exact g2 | exact stO_ok (s := 3) h2, .inl ⟨rfl, by first | exact t0 | exact .inr rfl, by first | exact t1 | exact .inr rfl, by first | exact t2 | exact .inr rfl⟩⟩
 ·show BrOk (n + 1) c (onO index (stO 0) ⟨b, 0, ⟨s0, y0, c0⟩, ⟨s1, y1, c1⟩, ⟨s2, y2, c2⟩⟩)
  unfold onO
  dsimp only
  cases hitB index 0 <;> cases hitB index 1 <;> cases hitB index 2 <;> exact ⟨hmay, hok, by first | exact g0 | exact stO_ok (s := 0) h0, by first | exact g1 | exact stO_ok (s := 0) h1, by first | exact g2 | exact stO_ok (s := 0) h2, .inl ⟨rfl, by first | exact t0 | exact .inl rfl, by first | exact t1 | exact .inl rfl, by first | exact t2 | exact .inl rfl⟩⟩
 ·exact ⟨hmay, hok, stO_ok (s := 2) h0, stO_ok (s := 2) h1, stO_ok (s := 2) h2, .inr (.inr ⟨rfl, rfl, rfl, rfl⟩)⟩
theorem ask_at {L : List Br} (hn : NodupN L) {a : Ak} (h : askM L a = 0) {b : Br} (hb : b ∈ L) (hs : b.b.number = a.bill) : askE b a = 0 := by
 rw [askM_lk, lk_of hn hb hs] at h
 exact h
theorem actM_map {L : List Br} (hn : NodupN L) (a : Ak) (f : Br → Br) (h : askM L a = 0) : actM L a f = L.map fun b => if b.b.number = a.bill then f b else b := by
 unfold actM
 rw [if_pos h, updM_map hn]
theorem actM_no {L : List Br} (a : Ak) (f : Br → Br) (h : ¬ askM L a = 0) : actM L a f = L := by unfold actM; rw [if_neg h]
theorem inv_act {n : Nat} {R : Rg} (h : Inv n R) {a : At} (hk : 1 ≤ a.kind ∧ a.kind ≤ 5) : Inv (n + 1) ⟨R.carrier, actM R.bills (akOf a) (actR a)⟩ := by
 by_cases h0 : askM R.bills (akOf a) = 0
 ·rw [actM_map h.nd _ _ h0]
  have hnum : ∀ b : Br, (if b.b.number = (akOf a).bill then actR a b else b).b = b.b := fun b => by
   split
   ·exact actR_b a b
   ·rfl
  have hlive : ∀ b : Br, (if b.b.number = (akOf a).bill then actR a b else b).st = 0 → b.st = 0 := fun b => by
   split
   ·exact actR_live a b
   ·exact id
  refine ⟨?_, by rw [List.length_map]; exact h.few, fun b hb => ?_, fun b1 h1 b2 h2 l1 l2 x hx1 hx2 => ?_⟩
  ·unfold NodupN
   rw [List.map_map]
   have e : ((fun b : Br => b.b.number) ∘ fun b => if b.b.number = (akOf a).bill then actR a b else b) = fun b => b.b.number := by funext b; show (ite _ _ _ : Br).b.number = _; rw [hnum]
   rw [e]
   exact h.nd
  ·obtain ⟨y, hy, rfl⟩ := List.mem_map.1 hb
   split
   ·rename_i hs
    exact actR_ok (h.all y hy) hk (ask_at h.nd h0 hy hs)
   ·exact (h.all y hy).mono (Nat.le_succ n)
  ·obtain ⟨y1, hy1, rfl⟩ := List.mem_map.1 h1
   obtain ⟨y2, hy2, rfl⟩ := List.mem_map.1 h2
   rw [hnum] at hx1 hx2 ⊢
   rw [hnum]
   exact h.dis y1 hy1 y2 hy2 (hlive y1 l1) (hlive y2 l2) x hx1 hx2
 ·rw [actM_no _ _ h0]
  exact (h.mono (Nat.le_succ n))
theorem i2_lk (i : Iss) : i2 i = (lkN i.R.bills i.b.number).isSome := by
 unfold i2
 rcases lk_cases i.R.bills i.b.number with ⟨k, y, h1, h2, h3, _⟩ | ⟨h1, h3⟩
 ·rw [h1, h3]; rfl
 ·rw [h1, h3]; rfl
theorem i3_any (i : Iss) : i3 i = i.b.boxes.any fun x => i.R.bills.any (pBox x) := by
 unfold i3
 congr 1
 funext x
 exact boxN_any _ _
theorem iss_facts {i : Iss} (h : issE i = 0) : i1 i = false ∧ i2 i = false ∧ i3 i = false ∧ i4 i = false := by
 unfold issE at h
 split at h
 ·exact absurd h (by decide)
 rename_i h1
 split at h
 ·exact absurd h (by decide)
 rename_i h2
 split at h
 ·exact absurd h (by decide)
 rename_i h3
 split at h
 ·exact absurd h (by decide)
 rename_i h4
 simp only [Bool.not_eq_true] at h1 h2 h3 h4
 exact ⟨h1, h2, h3, h4⟩
theorem issM_yes {i : Iss} (h : issE i = 0) : issM i = ⟨i.R.carrier, i.R.bills ++ [newM i.b i.holder]⟩ := by unfold issM; rw [if_pos h]
theorem issM_no {i : Iss} (h : ¬ issE i = 0) : issM i = i.R := by unfold issM; rw [if_neg h]
theorem pBox_iff (x : ByteArray) (b : Br) : pBox x b = true ↔ b.st = 0 ∧ x ∈ b.b.boxes := by
 unfold pBox
 simp only [Bool.and_eq_true, decide_eq_true_eq, List.any_eq_true]
 constructor
 ·rintro ⟨h1, y, hy, rfl⟩; exact ⟨h1, hy⟩
 ·rintro ⟨h1, h2⟩; exact ⟨h1, x, h2, rfl⟩
theorem inv_iss {n : Nat} {i : Iss} (h : Inv n i.R) (hok : okB i.b) : Inv n (issM i) := by
 by_cases h0 : issE i = 0
 ·obtain ⟨e1, e2, e3, e4⟩ := iss_facts h0
  rw [issM_yes h0]
  unfold i1 at e1
  simp only [Bool.or_eq_false_iff, Bool.not_eq_false'] at e1
  rw [i2_lk] at e2
  have e2 : lkN i.R.bills i.b.number = none := by simpa using e2
  rw [i3_any] at e3
  unfold i4 at e4
  have e4 := of_decide_eq_false e4
  have hbox : ∀ x ∈ i.b.boxes, ∀ b ∈ i.R.bills, b.st = 0 → ¬ x ∈ b.b.boxes := fun x hx b hb hl hin => by
   have h1 := List.any_eq_false.1 e3 x hx
   exact h1 (List.any_eq_true.2 ⟨b, hb, (pBox_iff x b).2 ⟨hl, hin⟩⟩)
  have og : OgOk n ⟨0, i.holder, []⟩ := ⟨e1.2, Nat.zero_le _, fun e he => (by cases he)⟩
  refine ⟨?_, ?_, fun b hb => ?_, fun b1 h1 b2 h2 l1 l2 x hx1 hx2 => ?_⟩
  ·unfold NodupN
   rw [List.map_append, List.nodup_append]
   refine ⟨h.nd, List.nodup_cons.2 ⟨by simp, .nil⟩, fun s hs t ht e => ?_⟩
   obtain rfl := List.mem_singleton.1 ht
   obtain ⟨b, hb, hbs⟩ := List.mem_map.1 hs
   have := lk_of h.nd hb (hbs.trans e)
   exact absurd (e2.symm.trans this) (by simp)
  ·show (i.R.bills ++ [_]).length ≤ 256
   rw [List.length_append, List.length_singleton]
   omega
  ·rcases List.mem_append.1 hb with h1 | h1
   ·exact h.all b h1
   ·obtain rfl := List.mem_singleton.1 h1
    exact ⟨e1.1, hok, og, og, og, .inl ⟨rfl, .inl rfl, .inl rfl, .inl rfl⟩⟩
  ·rcases List.mem_append.1 h1 with g1 | g1 <;> rcases List.mem_append.1 h2 with g2 | g2
   ·exact h.dis b1 g1 b2 g2 l1 l2 x hx1 hx2
   ·obtain rfl := List.mem_singleton.1 g2
    exact absurd hx1 (hbox x hx2 b1 g1 l1)
   ·obtain rfl := List.mem_singleton.1 g1
    exact absurd hx2 (hbox x hx1 b2 g2 l2)
   ·rw [List.mem_singleton.1 g1, List.mem_singleton.1 g2]
 ·rw [issM_no h0]
  exact h
theorem doR_iss {R : Rg} {a : At} (h : a.kind = 0) : doR R a = (issM (issOf R a), issE (issOf R a)) := by unfold doR; rw [if_pos h]
theorem doR_act {R : Rg} {a : At} (h : ¬ a.kind = 0) : doR R a = (⟨R.carrier, actM R.bills (akOf a) (actR a)⟩, askM R.bills (akOf a)) := by unfold doR; rw [if_neg h]
theorem inv_do {n : Nat} {R : Rg} (h : Inv n R) {a : At} (hk : 0 ≤ a.kind ∧ a.kind ≤ 5) (hok : okB a.b) : Inv (n + 1) (doR R a).1 := by
 by_cases h0 : a.kind = 0
 ·rw [doR_iss h0]
  exact (inv_iss (i := issOf R a) h hok).mono (Nat.le_succ n)
 ·rw [doR_act h0]
  exact inv_act h (by omega)
theorem issM_carrier (i : Iss) : (issM i).carrier = i.R.carrier := by unfold issM; split <;> rfl
theorem doR_carrier (R : Rg) (a : At) : (doR R a).1.carrier = R.carrier := by
 by_cases h0 : a.kind = 0
 ·rw [doR_iss h0]; exact issM_carrier _
 ·rw [doR_act h0]
def actP (a : At) : Br → Br := if a.kind = 1 then onO a.index (endF a.by_ a.to a.day) else actR a
def doP (R : Rg) (a : At) : Rg := if a.kind = 0 then issM (issOf R a) else ⟨R.carrier, actM R.bills (akOf a) (actP a)⟩
theorem check_one {f t : ByteArray} {d : Int} (hf : nameB f = true) (ht : nameB t = true) (hn : ¬ t = f) (hd : dayB d = true) : (checkM f [⟨f, t, 0, d⟩]).1 = t := by
 have hm : edMay ⟨f, t, 0, d⟩ = true := by
  unfold dayB at hd
  unfold edMay
  dsimp only
  rw [hf, hd, ht, decide_eq_false hn]
  rfl
 have hw : wrongM f [] ⟨f, t, 0, d⟩ = 0 := by
  unfold wrongM
  dsimp only
  rw [hm]
  have k2 : kindB [] 2 = false := rfl
  have k1 : lateB [] d = false := rfl
  rw [k2, k1]
  simp
 unfold checkM
 rw [hf, if_neg (by decide), chkFrom, if_pos hw, chkFrom]
theorem endF_eq {h f t : ByteArray} {d : Int} {s : Int} {c : List Edm} (he : h = f) (hf : nameB h = true) (ht : nameB t = true) (hn : ¬ t = f) (hd : dayB d = true) : endF f t d ⟨s, h, c⟩ = endR f t d ⟨s, h, c⟩ := by
 subst he
 unfold endF endR
 dsimp only
 rw [check_one hf ht hn hd]
theorem actP_eq {n : Nat} {c : ByteArray} {b : Br} {a : At} (h : BrOk n c b) (he : askE b (akOf a) = 0) : actP a b = actR a b := by
 unfold actP
 split
 ·rename_i hk
  have hd := done_of he
  obtain ⟨kind, index, day, bill, by_, to, bb⟩ := a
  obtain ⟨b, st, ⟨s0, y0, c0⟩, ⟨s1, y1, c1⟩, ⟨s2, y2, c2⟩⟩ := b
  obtain ⟨hmay, hok, h0, h1, h2, hst⟩ := h
  obtain ⟨hix, hright, hday, hlive, hs3, hh3, hd3⟩ := hd
  obtain rfl : kind = 1 := hk
  have hw : wrongE by_ to = false := hright
  obtain ⟨w1, w2⟩ := wrongE_no hw
  have hdy : dayB day = true := hday rfl
  obtain ⟨q0, q1, q2⟩ := some3_hit hh3
  have hpick : ∀ (q : Bool) (s : Int) (y : ByteArray) (c : List Edm), (q = true → pHolder (akOf ⟨1, index, day, bill, by_, to, bb⟩) ⟨s, y, c⟩ = false) → nameB y = true → (bif q then endF by_ to day ⟨s, y, c⟩ else ⟨s, y, c⟩) = (bif q then endR by_ to day ⟨s, y, c⟩ else ⟨s, y, c⟩) := fun q s y c hq hy => by
   cases q with
   | false => rfl
   | true =>
    have h1 := hq rfl
    unfold pHolder at h1
    simp only [Bool.not_eq_false', decide_eq_true_eq] at h1
    exact endF_eq h1 hy w1 w2 hdy
  show onO index (endF by_ to day) ⟨b, st, ⟨s0, y0, c0⟩, ⟨s1, y1, c1⟩, ⟨s2, y2, c2⟩⟩ = onO index (endR by_ to day) ⟨b, st, ⟨s0, y0, c0⟩, ⟨s1, y1, c1⟩, ⟨s2, y2, c2⟩⟩
  have e0 := hpick (hitB index 0) s0 y0 c0 q0 h0.name
  have e1 := hpick (hitB index 1) s1 y1 c1 q1 h1.name
  have e2 := hpick (hitB index 2) s2 y2 c2 q2 h2.name
  unfold onO
  dsimp only
  rw [e0, e1, e2]
 ·rfl
theorem doP_eq {n : Nat} {R : Rg} (h : Inv n R) (a : At) : doP R a = (doR R a).1 := by
 unfold doP
 split
 ·rename_i hk; rw [doR_iss hk]
 ·rename_i hk
  rw [doR_act hk]
  by_cases h0 : askM R.bills (akOf a) = 0
  ·rw [actM_map h.nd _ _ h0, actM_map h.nd _ _ h0]
   congr 1
   refine List.map_congr_left fun b hb => ?_
   split
   ·rename_i hs
    exact actP_eq (h.all b hb) (ask_at h.nd h0 hb hs)
   ·rfl
  ·rw [actM_no _ _ h0, actM_no _ _ h0]
structure Alike (R R' : Rg) : Prop where
 carrier : R.carrier = R'.carrier
 perm : R.bills.Perm R'.bills
theorem Alike.refl (R : Rg) : Alike R R := ⟨rfl, .refl _⟩
theorem Alike.symm {R R' : Rg} (h : Alike R R') : Alike R' R := ⟨h.carrier.symm, h.perm.symm⟩
theorem any_perm {α : Type} {p : α → Bool} {l l' : List α} (h : l.Perm l') : l.any p = l'.any p := by
 rw [Bool.eq_iff_iff, List.any_eq_true, List.any_eq_true]
 exact ⟨fun ⟨x, hx, hp⟩ => ⟨x, h.mem_iff.1 hx, hp⟩, fun ⟨x, hx, hp⟩ => ⟨x, h.mem_iff.2 hx, hp⟩⟩
theorem ask_alike {R R' : Rg} (h : Alike R R') (hn : NodupN R.bills) (a : Ak) : askM R.bills a = askM R'.bills a := by rw [askM_lk, askM_lk, lk_perm h.perm hn]
theorem iss_alike {R R' : Rg} (h : Alike R R') (hn : NodupN R.bills) (a : At) : issE (issOf R a) = issE (issOf R' a) := by
 have e1 : i1 (issOf R a) = i1 (issOf R' a) := by unfold i1 issOf; dsimp only; rw [h.carrier]
 have e2 : i2 (issOf R a) = i2 (issOf R' a) := by rw [i2_lk, i2_lk]; show (lkN R.bills _).isSome = (lkN R'.bills _).isSome; rw [lk_perm h.perm hn]; rfl
 have e3 : i3 (issOf R a) = i3 (issOf R' a) := by
  rw [i3_any, i3_any]
  show (a.b.boxes.any fun x => R.bills.any (pBox x)) = a.b.boxes.any fun x => R'.bills.any (pBox x)
  congr 1
  funext x
  exact any_perm h.perm
 have e4 : i4 (issOf R a) = i4 (issOf R' a) := by unfold i4 issOf; dsimp only; rw [h.perm.length_eq]
 unfold issE
 rw [e1, e2, e3, e4]
theorem do_alike {R R' : Rg} (h : Alike R R') (hn : NodupN R.bills) (a : At) : Alike (doR R a).1 (doR R' a).1 ∧ (doR R a).2 = (doR R' a).2 := by
 by_cases h0 : a.kind = 0
 ·rw [doR_iss h0, doR_iss h0]
  have e := iss_alike h hn a
  refine ⟨⟨by rw [issM_carrier, issM_carrier]; exact h.carrier, ?_⟩, e⟩
  by_cases h1 : issE (issOf R a) = 0
  ·rw [issM_yes h1, issM_yes (e.symm.trans h1)]
   exact h.perm.append_right _
  ·rw [issM_no h1, issM_no (fun h2 => h1 (e.trans h2))]
   exact h.perm
 ·rw [doR_act h0, doR_act h0]
  have e := ask_alike h hn (akOf a)
  refine ⟨⟨h.carrier, ?_⟩, e⟩
  dsimp only
  by_cases h1 : askM R.bills (akOf a) = 0
  ·rw [actM_map hn _ _ h1, actM_map (nodupN_perm h.perm hn) _ _ (e.symm.trans h1)]
   exact h.perm.map _
  ·rw [actM_no _ _ h1, actM_no _ _ (fun h2 => h1 (e.trans h2))]
   exact h.perm
def leB (a b : ByteArray) : Prop := toL a ≤ toL b
theorem leB_trans {a b c : ByteArray} (h : leB a b) (k : leB b c) : leB a c := List.le_trans h k
theorem leB_anti {a b : ByteArray} (h : leB a b) (k : leB b a) : a = b := by
 have := List.le_antisymm h k
 rw [← ofL_toL a, ← ofL_toL b, this]
theorem lessB_yes {a b : ByteArray} (h : lessB a b = true) : leB a b := List.le_of_lt (of_decide_eq_true h)
theorem lessB_no {a b : ByteArray} (h : lessB a b = false) : leB b a := List.not_lt.1 (of_decide_eq_false h)
theorem sortB_sorted (l : List ByteArray) : (sortB l).Pairwise leB := by
 have ht : ∀ a b c : List UInt8, decide (a ≤ b) = true → decide (b ≤ c) = true → decide (a ≤ c) = true := fun a b c h1 h2 => decide_eq_true (List.le_trans (of_decide_eq_true h1) (of_decide_eq_true h2))
 have hs : ∀ a b : List UInt8, (decide (a ≤ b) || decide (b ≤ a)) = true := fun a b => by
  rcases List.le_total a b with h | h
  ·rw [decide_eq_true h]; rfl
  ·rw [decide_eq_true h]; exact Bool.or_true _
 unfold sortB
 rw [List.pairwise_map]
 refine (List.pairwise_mergeSort ht hs (l.map toL)).imp fun {a b} h => ?_
 show toL (ofL a) ≤ toL (ofL b)
 exact of_decide_eq_true h
theorem sortB_mem (l : List ByteArray) : (sortB l).Perm l := by
 unfold sortB
 have h := ((List.mergeSort_perm (l.map toL) fun x y => decide (x ≤ y)).map ofL)
 rw [List.map_map] at h
 have e : (ofL ∘ toL) = id := funext ofL_toL
 rw [e, List.map_id] at h
 exact h
theorem sorted_eq {l m : List ByteArray} (hl : l.Pairwise leB) (hm : m.Pairwise leB) (h : l.Perm m) : l = m := List.Perm.eq_of_pairwise (le := leB) (fun a b _ _ => leB_anti) hl hm h
theorem putM_perm (l : List ByteArray) (s : ByteArray) : (putM l s).Perm (s :: l) := by
 unfold putM
 refine List.perm_middle.trans ?_
 rw [List.takeWhile_append_dropWhile]
theorem putM_sorted {l : List ByteArray} (s : ByteArray) (h : l.Pairwise leB) : (putM l s).Pairwise leB := by
 induction l with
 | nil => exact List.pairwise_cons.2 ⟨fun x hx => (by cases hx), .nil⟩
 | cons x l ih =>
  obtain ⟨h1, h2⟩ := List.pairwise_cons.1 h
  unfold putM
  rw [List.takeWhile_cons, List.dropWhile_cons]
  cases hx : lessB x s with
  | true =>
   refine List.pairwise_cons.2 ⟨fun y hy => ?_, ih h2⟩
   have := (putM_perm l s).mem_iff.1 hy
   rcases List.mem_cons.1 this with rfl | h3
   ·exact lessB_yes hx
   ·exact h1 y h3
  | false =>
   refine List.pairwise_cons.2 ⟨fun y hy => ?_, h⟩
   rcases List.mem_cons.1 hy with rfl | h3
   ·exact lessB_no hx
   ·exact leB_trans (lessB_no hx) (h1 y h3)
theorem putAll_eq (l : List ByteArray) : putAll l = sortB l := by
 have h : ∀ (l a : List ByteArray), a.Pairwise leB → (l.foldl putM a).Pairwise leB ∧ (l.foldl putM a).Perm (a ++ l) := by
  intro l
  induction l with
  | nil => intro a ha; rw [List.append_nil]; exact ⟨ha, .refl _⟩
  | cons x l ih =>
   intro a ha
   rw [List.foldl_cons]
   obtain ⟨h1, h2⟩ := ih (putM a x) (putM_sorted x ha)
   exact ⟨h1, h2.trans (((putM_perm a x).append_right l).trans (List.perm_middle.symm))⟩
 obtain ⟨h1, h2⟩ := h l [] .nil
 exact sorted_eq h1 (sortB_sorted l) (h2.trans (sortB_mem l).symm)
theorem nums_eq (L : List Br) (p : Br → Bool) : ofM L p = numsM L p := putAll_eq _
theorem nums_perm {L L' : List Br} (h : L.Perm L') (p : Br → Bool) : numsM L p = numsM L' p := sortB_perm (h.filterMap _)
theorem nums_mem {L : List Br} {p : Br → Bool} {s : ByteArray} : s ∈ numsM L p ↔ ∃ b ∈ L, p b = true ∧ b.b.number = s := by
 unfold numsM
 rw [(sortB_mem _).mem_iff, List.mem_filterMap]
 constructor
 ·rintro ⟨b, hb, h⟩
  unfold gN at h
  cases hp : p b <;> rw [hp] at h
  ·cases h
  ·cases h; exact ⟨b, hb, hp, rfl⟩
 ·rintro ⟨b, hb, hp, rfl⟩
  exact ⟨b, hb, by unfold gN; rw [hp]; rfl⟩
theorem box_none {L : List Br} {x : ByteArray} (h : ∀ b ∈ L, pBox x b = false) : boxN L x = (⟨⟨[]⟩⟩, false) := by
 unfold boxN
 cases hn : numsM L (pBox x) with
 | nil => rfl
 | cons s l =>
  obtain ⟨b, hb, hp, _⟩ := nums_mem.1 (show s ∈ numsM L (pBox x) by rw [hn]; exact List.mem_cons_self ..)
  rw [h b hb] at hp
  cases hp
theorem box_some {n : Nat} {R : Rg} (h : Inv n R) {x : ByteArray} {b : Br} (hb : b ∈ R.bills) (hp : pBox x b = true) : boxN R.bills x = (b.b.number, true) := by
 unfold boxN
 cases hn : numsM R.bills (pBox x) with
 | nil =>
  have := nums_mem.2 ⟨b, hb, hp, rfl⟩
  rw [hn] at this
  cases this
 | cons s l =>
  obtain ⟨b2, hb2, hp2, rfl⟩ := nums_mem.1 (show s ∈ numsM R.bills (pBox x) by rw [hn]; exact List.mem_cons_self ..)
  obtain ⟨l1, x1⟩ := (pBox_iff x b).1 hp
  obtain ⟨l2, x2⟩ := (pBox_iff x b2).1 hp2
  rw [h.dis b2 hb2 b hb l2 l1 x x2 x1]
def acts (R : Rg) (l : List At) : Rg := l.foldl (fun R a => (doR R a).1) R
def ActOk (a : At) : Prop := (0 ≤ a.kind ∧ a.kind ≤ 5) ∧ SmallAt a
theorem SmallAt.ok {a : At} (h : SmallAt a) : okB a.b := ⟨by have := h.2.1; omega, by have := h.2.2.1; omega⟩
theorem acts_snoc (R : Rg) (l : List At) (a : At) : acts R (l ++ [a]) = (doR (acts R l) a).1 := by unfold acts; rw [List.foldl_append]; rfl
theorem inv_acts {n : Nat} {R : Rg} (h : Inv n R) : ∀ {l : List At}, (∀ a ∈ l, ActOk a) → Inv (n + l.length) (acts R l) := by
 intro l
 induction l generalizing n R with
 | nil => intro _; exact h
 | cons a l ih =>
  intro hl
  have ha := hl a (List.mem_cons_self ..)
  have := ih (inv_do h ha.1 ha.2.ok) fun b hb => hl b (List.mem_cons_of_mem _ hb)
  rw [List.length_cons, show n + (l.length + 1) = n + 1 + l.length by omega]
  exact this
def cS : ByteArray := ⟨⟨[99]⟩⟩
def playM (l : List At) : Rg := acts ⟨cS, []⟩ l
theorem inv_play {l : List At} (h : ∀ a ∈ l, ActOk a) : Inv l.length (playM l) := by
 have := inv_acts (inv_nil 0 cS) h
 rwa [Nat.zero_add] at this
set_option maxHeartbeats 4000000
inductive Stp where
 | ret (bill by_ : ByteArray) (day : Int)
 | iss (b : Bl) (holder : ByteArray)
def StA : Stp → AV
 | .ret bill by_ day => .clo 77 [.rp [.str bill] 0, .rp [.str by_] 0, .rp [.i day] 0]
 | .iss ⟨number, carrier, shipper, frm, to, boxes, parents, issued, clean⟩ holder => .clo 79 [.rp [.str number, .str carrier, .str shipper, .str frm, .str to, .sl 1 (mapA .str boxes), .sl 1 (mapA .str parents), .i issued, .bl clean] 0, .rp [.str holder] 0]
def RetSC : Ctr := spec (fun i : ByteArray × ByteArray × Int => [.str i.1, .str i.2.1, .i i.2.2]) (fun _ => []) (fun _ => True) (fun i => StA (.ret i.1 i.2.1 i.2.2)) fun _ => []
theorem retS_body (P : Program) : BodyOk P x44 RetSC := by
 intro args H K hc; obtain ⟨⟨bill, by_, day⟩, rfl, rfl, hp, hK⟩ := hc; refine ⟨nb9, ?_⟩; dsimp only at hp hK ⊢
 cbv
 refine FinK.mk ⟨_, ((Gh.pubB 0 rfl).trans (Gh.pubB 1 rfl)).trans (Gh.pubB 2 rfl), ?_⟩
 cbv
 exact .inl (CutK.pre [] (by rfl) nb9 (by rfl) (by rfl) le9 (LeH.refl _) hK)
def IssSC : Ctr := spec (fun i : Bl × ByteArray => [BlA i.1, .str i.2]) (fun _ => []) (fun _ => True) (fun i => StA (.iss i.1 i.2)) fun _ => []
theorem issS_body (P : Program) : BodyOk P x45 IssSC := by
 intro args H K hc; obtain ⟨⟨b, holder⟩, rfl, rfl, hp, hK⟩ := hc; refine ⟨nb9, ?_⟩; dsimp only at hp hK ⊢
 obtain ⟨nq1, cq1, sq1, frm1, to1, bq1, pq1, iq1, lq1⟩ := b
 cbv
 refine FinK.mk ⟨_, (Gh.pubB 0 rfl).trans (Gh.pubB 1 rfl), ?_⟩
 cbv
 exact .inl (CutK.pre [] (by rfl) nb9 (by rfl) (by rfl) le9 (LeH.refl _) hK)
def actS : Stp → At
 | .ret bill by_ day => ⟨5, 0, day, bill, by_, ⟨⟨[]⟩⟩, zeroB⟩
 | .iss b holder => ⟨0, 0, 0, ⟨⟨[]⟩⟩, ⟨⟨[]⟩⟩, holder, b⟩
def doS (R : Rg) (s : Stp) : Rg × Int := doR R (actS s)
def okS : Stp → Prop
 | .ret _ _ _ => True
 | .iss b _ => okB b
structure InR (R : Rg) : Prop where
 few : R.bills.length ≤ 256
 all : ∀ b ∈ R.bills, inB b
def Ret1C : Ctr := spec (fun i : Rg × ByteArray × ByteArray × Int => [.ptr 0 0, .rp [.str i.2.1] 0, .rp [.str i.2.2.1] 0, .rp [.i i.2.2.2] 0]) (fun i => RegH i.1) (fun i => InR i.1) (fun i => .i (doS i.1 (.ret i.2.1 i.2.2.1 i.2.2.2)).2) fun i => RegH (doS i.1 (.ret i.2.1 i.2.2.1 i.2.2.2)).1
theorem ret1_body (P : Program) (hr : FnOk P 78 RetireC) : BodyOk P x77 Ret1C := by
 intro args H K hc; obtain ⟨⟨⟨carrier, L⟩, bill, by_, day⟩, rfl, rfl, hp, hK⟩ := hc; refine ⟨nb9, ?_⟩; dsimp only at hp hK ⊢
 obtain ⟨e, he⟩ : ∃ e, e = askM L ⟨bill, -1, -1, by_, 0, day, true, false⟩ := ⟨_, rfl⟩
 obtain ⟨L1, hL1⟩ : ∃ l, l = actM L ⟨bill, -1, -1, by_, 0, day, true, false⟩ (retF ⟨bill, -1, -1, by_, 0, day, true, false⟩) := ⟨_, rfl⟩
 have hd : doS ⟨carrier, L⟩ (.ret bill by_ day) = (⟨carrier, L1⟩, e) := by rw [he, hL1]; rfl
 rw [hd] at hK
 clear hd
 cbv
 (refine cs9 hr ((⟨carrier, L⟩ : Rg), (⟨bill, -1, -1, by_, 0, day, true, false⟩ : Ak)) [0, 1] ⟨fun b hb => (hp.all b hb).1, rfl, rfl, rfl, rfl, rfl⟩ ?_; try dsimp only)
 rw [← he, ← hL1]
 cbv
 (refine .r9 (Gh.refl _) ?_; cbv; exact .inl (.f9 hK))
def Iss1C : Ctr := spec (fun i : Rg × Bl × ByteArray => [.ptr 0 0, .rp (BlL i.2.1) 0, .rp [.str i.2.2] 0]) (fun i => RegH i.1) (fun i => InR i.1 ∧ okB i.2.1) (fun i => .i (doS i.1 (.iss i.2.1 i.2.2)).2) fun i => RegH (doS i.1 (.iss i.2.1 i.2.2)).1
theorem iss1S_body (P : Program) (hi : FnOk P 7 IssueC) : BodyOk P x79 Iss1C := by
 intro args H K hc; obtain ⟨⟨⟨carrier, L⟩, b, holder⟩, rfl, rfl, hp, hK⟩ := hc; refine ⟨nb9, ?_⟩; dsimp only at hp hK ⊢
 obtain ⟨hp, hok⟩ := hp
 obtain ⟨e, he⟩ : ∃ e, e = issE ⟨⟨carrier, L⟩, b, holder⟩ := ⟨_, rfl⟩
 obtain ⟨⟨c1, L1⟩, hL1⟩ : ∃ l, l = issM ⟨⟨carrier, L⟩, b, holder⟩ := ⟨_, rfl⟩
 have hd : doS ⟨carrier, L⟩ (.iss b holder) = (⟨c1, L1⟩, e) := by rw [he, hL1]; rfl
 rw [hd] at hK
 clear hd
 obtain ⟨nq1, cq1, sq1, frm1, to1, bq1, pq1, iq1, lq1⟩ := b
 cbv
 (refine cs9 hi (⟨⟨carrier, L⟩, ⟨nq1, cq1, sq1, frm1, to1, bq1, pq1, iq1, lq1⟩, holder⟩ : Iss) [0, 1] ⟨hp.few, hp.all, hok⟩ ?_; try dsimp only)
 rw [← he, ← hL1]
 cbv
 (refine .r9 (Gh.refl _) ?_; cbv; exact .inl (.f9 hK))
def runM (R : Rg) : List Stp → Rg × Int
 | [] => (R, 0)
 | s :: r => if (doS R s).2 = 0 then runM (doS R s).1 r else doS R s
def allM (R : Rg) (l : List Stp) : Rg × Int := if (runM R l).2 = 0 then runM R l else (R, (runM R l).2)
theorem okS_ok {s : Stp} (h : okS s) : okB (actS s).b := by
 cases s with
 | ret _ _ _ => exact ⟨Nat.zero_le _, Nat.zero_le _⟩
 | iss b _ => exact h
theorem actS_kind (s : Stp) : 0 ≤ (actS s).kind ∧ (actS s).kind ≤ 5 := by cases s; (exact ⟨(by decide : (0 : Int) ≤ 5), (by decide : (5 : Int) ≤ 5)⟩); exact ⟨(by decide : (0 : Int) ≤ 0), (by decide : (0 : Int) ≤ 5)⟩
theorem inv_doS {n : Nat} {R : Rg} (h : Inv n R) {s : Stp} (hs : okS s) : Inv (n + 1) (doS R s).1 := inv_do h (actS_kind s) (okS_ok hs)
theorem Inv.inR {n : Nat} {R : Rg} (h : Inv n R) (hn : n ≤ 4500) : InR R := ⟨h.few, h.inB hn⟩
theorem doS_alike {R R' : Rg} (h : Alike R R') (hn : NodupN R.bills) (s : Stp) : Alike (doS R s).1 (doS R' s).1 ∧ (doS R s).2 = (doS R' s).2 := do_alike h hn _
theorem run_alike : ∀ {l : List Stp} {n : Nat} {R R' : Rg}, Alike R R' → Inv n R → (∀ s ∈ l, okS s) → Alike (runM R l).1 (runM R' l).1 ∧ (runM R l).2 = (runM R' l).2
 | [], _, _, _, h, _, _ => ⟨h, rfl⟩
 | s :: r, n, R, R', h, hi, hs => by
  obtain ⟨h1, h2⟩ := doS_alike h hi.nd s
  unfold runM
  rw [← h2]
  split
  ·exact run_alike h1 (inv_doS hi (hs s (List.mem_cons_self ..))) fun s hs' => hs s (List.mem_cons_of_mem _ hs')
  ·exact ⟨h1, h2⟩
theorem inv_run : ∀ {l : List Stp} {n : Nat} {R : Rg}, Inv n R → (∀ s ∈ l, okS s) → Inv (n + l.length) (runM R l).1
 | [], _, _, h, _ => h
 | s :: r, n, R, hi, hs => by
  have h1 := inv_doS hi (hs s (List.mem_cons_self ..))
  unfold runM
  split
  ·have := inv_run (l := r) h1 fun s hs' => hs s (List.mem_cons_of_mem _ hs')
   rw [List.length_cons, show n + (r.length + 1) = n + 1 + r.length by omega]
   exact this
  ·exact h1.mono (by rw [List.length_cons]; omega)
theorem inv_all {l : List Stp} {n : Nat} {R : Rg} (h : Inv n R) (hs : ∀ s ∈ l, okS s) : Inv (n + l.length) (allM R l).1 := by
 unfold allM
 split
 ·exact inv_run h hs
 ·exact h.mono (Nat.le_add_right _ _)
theorem all_alike {l : List Stp} {n : Nat} {R R' : Rg} (h : Alike R R') (hi : Inv n R) (hs : ∀ s ∈ l, okS s) : Alike (allM R l).1 (allM R' l).1 ∧ (allM R l).2 = (allM R' l).2 := by
 obtain ⟨h1, h2⟩ := run_alike h hi hs
 unfold allM
 rw [← h2]
 split
 ·exact ⟨h1, h2⟩
 ·exact ⟨h, rfl⟩
theorem run_at {l : List Stp} {k : Nat} {s : Stp} (h : l[k]? = some s) (R : Rg) : runM R (l.drop k) = if (doS R s).2 = 0 then runM (doS R s).1 (l.drop (k + 1)) else doS R s := by
 obtain ⟨hk, rfl⟩ := List.getElem?_eq_some_iff.1 h
 rw [List.drop_eq_getElem_cons hk, runM]
structure AllP (i : Rg × List Stp) : Prop where
 inv : ∃ n, n + i.2.length ≤ 4000 ∧ Inv n i.1
 ok : ∀ s ∈ i.2, okS s
def AllC : Ctr := spec (fun i : Rg × List Stp => [.ptr 0 0, .sl 1 (mapA StA i.2)]) (fun i => RegH i.1) AllP (fun i => .i (allM i.1 i.2).2) fun i => RegH (allM i.1 i.2).1
theorem all_body (P : Program) (hcp : FnOk P 80 CopyC) (hm1 : MayCall P 77) (hm2 : MayCall P 79) (h1 : FnOk P 77 Ret1C) (h2 : FnOk P 79 Iss1C) : BodyOk P x47 AllC := by
 intro args H K hc; obtain ⟨⟨⟨c, L⟩, l⟩, rfl, rfl, hp, hK⟩ := hc; refine ⟨nb9, ?_⟩; dsimp only at hp hK ⊢
 obtain ⟨⟨n, hn, hinv⟩, hok⟩ := hp
 dsimp only at hn hinv hok
 obtain ⟨⟨⟨c9, L9⟩, e9⟩, h9⟩ : ∃ x, x = allM ⟨c, L⟩ l := ⟨_, rfl⟩
 rw [← h9] at hK
 dsimp only at hK
 unfold allM at h9
 have hin := hinv.inR (by omega)
 obtain ⟨nl, hnl⟩ : ∃ m : Nat, m = l.length := ⟨_, rfl⟩
 cbv
 refine callG_specN hcp (⟨c, L⟩ : Rg) [0, 1] ⟨hinv.few, hin.all, hinv.nd⟩ rfl rfl (by decide) rfl rfl rfl rfl rfl ?_
 intro L1 hperm
 dsimp only at hperm ⊢
 have hal : Alike ⟨c, L⟩ ⟨c, L1⟩ := ⟨rfl, hperm.symm⟩
 have hinv1 := hinv.perm (R' := ⟨c, L1⟩) rfl hal.perm
 have hrl := (run_alike hal hinv hok).2
 clear hal hperm
 obtain ⟨e1, he1⟩ : ∃ e, e = (runM ⟨c, L⟩ l).2 := ⟨_, rfl⟩
 rw [← he1] at h9 hrl
 cbv; repeat' ((first | refine .k fun z hz => ?_ | fail) <;> cbv)
 refine xloopV [] (fun q : { q : Nat × ByteArray × List Br // q.1 ≤ l.length ∧ Inv (n + q.1) ⟨q.2.1, q.2.2⟩ ∧ e1 = (runM ⟨q.2.1, q.2.2⟩ (l.drop q.1)).2 } => [(16, .i (nI q.1.1))]) (fun q => [.blk 59 [.str c, .ph 1], .pool 57 (mapA PelA L) [], .blk 59 [.str q.1.2.1, .ph 3], .pool 57 (mapA PelA q.1.2.2) []]) (fun q => lft nl q.1.1) ⟨(0, c, L1), Nat.zero_le _, hinv1, hrl⟩ ?_
 rintro ⟨⟨k, c2, L2⟩, hk, hi2, hr2⟩
 dsimp only at hk hi2 hr2 ⊢
 have hin2 := hi2.inR (by omega)
 cbv; repeat' ((first | refine .mk (fun h => ?_) fun h => ?_ | refine .k fun z hz => ?_ | fail) <;> cbv)
 ·refine askEl_int om9 om9 fun i x hi hx => ?_
  obtain rfl : k = i := om9
  have hox := hok x (List.mem_of_getElem? hx)
  have hi3 := inv_doS hi2 hox
  rw [run_at hx] at hr2
  obtain ⟨⟨⟨c3, L3⟩, e3⟩, hd3⟩ : ∃ y, y = doS ⟨c2, L2⟩ x := ⟨_, rfl⟩
  rw [← hd3] at hr2 hi3
  dsimp only at hr2 hi3
  cases x with
  | ret bill by_ day =>
   cbv; repeat' ((first | refine And.intro ?_ ?_ | fail) <;> cbv)
   ·exact hm1
   ·(refine cs9 h1 ((⟨c2, L2⟩ : Rg), bill, by_, day) [2, 3] hin2 ?_; try dsimp only)
    rw [← hd3]
    cbv; repeat' ((first | refine .mk (fun h => ?_) fun h => ?_ | refine .k fun z hz => ?_ | fail) <;> cbv)
    ·rw [if_pos (by assumption)] at hr2
     obtain rfl : z = nI (k + 1) := om9
     exact roundV ⟨(k + 1, c3, L3), by exact om9, hi3, hr2⟩ (lft_lt om9)
    ·rw [if_neg (by assumption)] at hr2
     dsimp only at hr2
     rw [if_neg (by rw [hr2]; assumption)] at h9
     obtain ⟨⟨rfl, rfl⟩, rfl⟩ := Prod.mk.inj h9 |>.imp_left (fun h => Rg.mk.inj h)
     (refine .r9 (Gh.refl _) ?_; cbv; exact .inl (.f9 (K_i hK hr2.symm)))
  | iss b holder =>
   have hob : okB b := hox
   obtain ⟨nq1, cq1, sq1, frm1, to1, bq1, pq1, iq1, lq1⟩ := b
   cbv; repeat' ((first | refine And.intro ?_ ?_ | fail) <;> cbv)
   ·exact hm2
   ·(refine cs9 h2 ((⟨c2, L2⟩ : Rg), ⟨nq1, cq1, sq1, frm1, to1, bq1, pq1, iq1, lq1⟩, holder) [2, 3] ⟨hin2, hob⟩ ?_; try dsimp only)
    rw [← hd3]
    cbv; repeat' ((first | refine .mk (fun h => ?_) fun h => ?_ | refine .k fun z hz => ?_ | fail) <;> cbv)
    ·rw [if_pos (by assumption)] at hr2
     obtain rfl : z = nI (k + 1) := om9
     exact roundV ⟨(k + 1, c3, L3), by exact om9, hi3, hr2⟩ (lft_lt om9)
    ·rw [if_neg (by assumption)] at hr2
     dsimp only at hr2
     rw [if_neg (by rw [hr2]; assumption)] at h9
     obtain ⟨⟨rfl, rfl⟩, rfl⟩ := Prod.mk.inj h9 |>.imp_left (fun h => Rg.mk.inj h)
     (refine .r9 (Gh.refl _) ?_; cbv; exact .inl (.f9 (K_i hK hr2.symm)))
 ·have hdk : l.drop k = [] := List.drop_eq_nil_of_le om9
  rw [hdk] at hr2
  have he0 : e1 = 0 := hr2
  rw [if_pos he0] at h9
  clear hr2 hdk hrl hi2 hin2
  rw [he0] at he1
  refine xloopV [] (fun q : { q : Nat × ByteArray × List Br // q.1 ≤ l.length ∧ Inv (n + q.1) ⟨q.2.1, q.2.2⟩ ∧ (⟨⟨c9, L9⟩, e9⟩ : Rg × Int) = runM ⟨q.2.1, q.2.2⟩ (l.drop q.1) } => [(29, .i (nI q.1.1))]) (fun q => [.blk 59 [.str q.1.2.1, .ph 1], .pool 57 (mapA PelA q.1.2.2) [], .blk 59 [.str c2, .ph 3], .pool 57 (mapA PelA L2) []]) (fun q => lft nl q.1.1) ⟨(0, c, L), Nat.zero_le _, hinv, h9⟩ ?_
  rintro ⟨⟨k2, c4, L4⟩, hk2, hi4, hr4⟩
  dsimp only at hk2 hi4 hr4 ⊢
  have hin4 := hi4.inR (by omega)
  have he9 : e9 = 0 := by rw [← h9] at he1; exact he1.symm
  cbv; repeat' ((first | refine .mk (fun h => ?_) fun h => ?_ | fail) <;> cbv)
  ·refine askEl_int om9 om9 fun i x hi hx => ?_
   obtain rfl : k2 = i := om9
   have hox := hok x (List.mem_of_getElem? hx)
   have hi3 := inv_doS hi4 hox
   rw [run_at hx] at hr4
   obtain ⟨⟨⟨c3, L3⟩, e3⟩, hd3⟩ : ∃ y, y = doS ⟨c4, L4⟩ x := ⟨_, rfl⟩
   rw [← hd3] at hr4 hi3
   dsimp only at hr4 hi3
   have hz3 : e3 = 0 := by
    by_cases h : e3 = 0
    ·exact h
    ·rw [if_neg h] at hr4; rw [← (Prod.mk.inj hr4).2]; exact he9
   rw [if_pos hz3] at hr4
   subst hz3
   cases x with
   | ret bill by_ day =>
    cbv; repeat' ((first | refine And.intro ?_ ?_ | fail) <;> cbv)
    ·exact hm1
    ·(refine cs9 h1 ((⟨c4, L4⟩ : Rg), bill, by_, day) [0, 1] hin4 ?_; try dsimp only)
     rw [← hd3]
     cbv; repeat' ((first | refine .y fun h => ?_ | refine .k fun z hz => ?_ | fail) <;> cbv)
     obtain rfl : z = nI (k2 + 1) := om9
     exact roundV ⟨(k2 + 1, c3, L3), by exact om9, hi3, hr4⟩ (lft_lt om9)
   | iss b holder =>
    have hob : okB b := hox
    obtain ⟨nq1, cq1, sq1, frm1, to1, bq1, pq1, iq1, lq1⟩ := b
    cbv; repeat' ((first | refine And.intro ?_ ?_ | fail) <;> cbv)
    ·exact hm2
    ·(refine cs9 h2 ((⟨c4, L4⟩ : Rg), ⟨nq1, cq1, sq1, frm1, to1, bq1, pq1, iq1, lq1⟩, holder) [0, 1] ⟨hin4, hob⟩ ?_; try dsimp only)
     rw [← hd3]
     cbv; repeat' ((first | refine .y fun h => ?_ | refine .k fun z hz => ?_ | fail) <;> cbv)
     obtain rfl : z = nI (k2 + 1) := om9
     exact roundV ⟨(k2 + 1, c3, L3), by exact om9, hi3, hr4⟩ (lft_lt om9)
  ·have hdk : l.drop k2 = [] := List.drop_eq_nil_of_le om9
   rw [hdk] at hr4
   obtain ⟨⟨rfl, rfl⟩, rfl⟩ := Prod.mk.inj hr4 |>.imp_left (fun h => Rg.mk.inj h)
   (refine .r9 (Gh.refl _) ?_; cbv; exact .inl (.f9 hK))
def followM (b : Bl) (number : ByteArray) (day : Int) (boxes parents : List ByteArray) : Bl := ⟨number, b.carrier, b.shipper, b.frm, b.to, boxes, parents, day, b.clean⟩
structure Fol where
 b : Bl
 number : ByteArray
 day : Int
 boxes : List ByteArray
 parents : List ByteArray
def FollowC : Ctr := spec (fun i : Fol => [BlA i.b, .str i.number, .i i.day, .sl 1 (mapA .str i.boxes), .sl 1 (mapA .str i.parents)]) (fun _ => []) (fun _ => True) (fun i => BlA (followM i.b i.number i.day i.boxes i.parents)) fun _ => []
theorem follow_body (P : Program) : BodyOk P x46 FollowC := by
 intro args H K hc; obtain ⟨⟨b, number, day, boxes, parents⟩, rfl, rfl, hp, hK⟩ := hc; refine ⟨nb9, ?_⟩; dsimp only at hp hK ⊢
 obtain ⟨nq1, cq1, sq1, frm1, to1, bq1, pq1, iq1, lq1⟩ := b
 cbv
 (refine .r9 (Gh.refl _) ?_; cbv; exact .inl (.f9 hK))
theorem Inv.okR {n : Nat} {R : Rg} (h : Inv n R) (hn : n ≤ 4000) : OkR R := ⟨h.few, fun b hb => (h.inB (by omega) b hb).2, fun b hb => by
 have := h.all b hb
 exact ⟨Nat.le_trans this.h0.len (by omega), Nat.le_trans this.h1.len (by omega), Nat.le_trans this.h2.len (by omega)⟩⟩
theorem lk_inv {n : Nat} {R : Rg} (h : Inv n R) {s : ByteArray} {y : Br} (hl : lkN R.bills s = some y) : BrOk n R.carrier y ∧ y.b.number = s := by
 obtain ⟨h1, h2⟩ := lk_mem hl
 exact ⟨h.all y h1, h2⟩
theorem boxGo_dup : ∀ {ahead l : List ByteArray}, boxGo ahead l = true → dupGo ahead l = false
 | _, [], _ => rfl
 | ahead, b :: r, h => by
  rw [boxGo] at h
  simp only [Bool.and_eq_true, Bool.not_eq_true'] at h
  rw [dupGo, h.1.2, boxGo_dup h.2]
  rfl
theorem may_boxes {c : ByteArray} {b : Bl} (h : mayB c b = true) : 1 ≤ b.boxes.length ∧ b.boxes.length ≤ 64 ∧ b.parents.length ≤ 64 ∧ dupB b.boxes = false := by
 obtain ⟨nq1, cq1, sq1, frm1, to1, bq1, pq1, iq1, lq1⟩ := b
 unfold mayB at h
 simp only [Bool.and_eq_true, decide_eq_true_eq] at h
 obtain ⟨_, _, h1, h2, _⟩ := h
 exact ⟨h1.1, h1.2.1, h1.2.2, boxGo_dup h2⟩
structure SwI where
 R : Rg
 bill : ByteArray
 by_ : ByteArray
 number : ByteArray
 shipper : ByteArray
 frm : ByteArray
 day : Int
structure InvP (R : Rg) (m : Nat) : Prop where
 inv : ∃ n, n + m ≤ 4000 ∧ Inv n R
def switchS (b : Bl) (i : SwI) : List Stp := [.ret i.bill i.by_ i.day, .iss ⟨i.number, b.carrier, i.shipper, i.frm, b.to, b.boxes, [i.bill], i.day, b.clean⟩ i.by_]
def switchM (i : SwI) : Rg × Int := match lkN i.R.bills i.bill with
 | none => (i.R, 4)
 | some y => allM i.R (switchS y.b i)
def SwitchC : Ctr := spec (fun i : SwI => [.ptr 0 0, .str i.bill, .str i.by_, .str i.number, .str i.shipper, .str i.frm, .i i.day]) (fun i => RegH i.R) (fun i => InvP i.R 2) (fun i => .i (switchM i).2) fun i => RegH (switchM i).1
theorem switch_body (P : Program) (hget : FnOk P 11 GetC) (hfo : FnOk P 46 FollowC) (hrs : FnOk P 44 RetSC) (his : FnOk P 45 IssSC) (hall : FnOk P 47 AllC) : BodyOk P x15 SwitchC := by
 intro args H K hc; obtain ⟨⟨⟨c, L⟩, bill, by_, number, shipper, frm, day⟩, rfl, rfl, hp, hK⟩ := hc; refine ⟨nb9, ?_⟩; dsimp only at hp hK ⊢
 obtain ⟨n, hn, hinv⟩ := hp.inv
 obtain ⟨⟨⟨c9, L9⟩, e9⟩, h9⟩ : ∃ x, x = switchM ⟨⟨c, L⟩, bill, by_, number, shipper, frm, day⟩ := ⟨_, rfl⟩
 rw [← h9] at hK
 dsimp only at hK
 unfold switchM at h9
 try dsimp only at h9
 cbv
 (refine cs9 hget ((⟨c, L⟩ : Rg), bill) [0, 1] (hinv.okR (by omega)) ?_; try dsimp only)
 rw [getM_lk]
 cases hl : lkN L bill with
 | none =>
  rw [hl] at h9
  cases h9
  cbv
  (refine .r9 (Gh.refl _) ?_; cbv; exact .inl (.f9 hK))
 | some y =>
  rw [hl] at h9
  obtain ⟨hbo, hnu⟩ := lk_inv hinv hl
  have hmb := may_boxes hbo.may
  clear hbo
  dsimp only at h9
  obtain ⟨⟨nq1, cq1, sq1, frm1, to1, bq1, pq1, iq1, lq1⟩, st, o1, o2, o3⟩ := y
  dsimp only at h9 hmb hnu
  unfold switchS at h9
  dsimp only at h9
  cbv
  refine callG_publish 3 rfl ?_
  cbv
  (refine c09 hfo (⟨⟨nq1, cq1, sq1, frm1, to1, bq1, pq1, iq1, lq1⟩, number, day, bq1, [bill]⟩ : Fol) trivial ?_; try dsimp only)
  cbv
  repeat' (first | (((refine c09 hrs (bill, by_, day) trivial ?_; try dsimp only)); cbv) | (((refine c09 his ((⟨number, cq1, shipper, frm, to1, bq1, [bill], day, lq1⟩ : Bl), by_) trivial ?_; try dsimp only)); cbv))
  have hos : ∀ s ∈ [Stp.ret bill by_ day, .iss ⟨number, cq1, shipper, frm, to1, bq1, [bill], day, lq1⟩ by_], okS s := fun s hs => by
   rcases List.mem_cons.1 hs with rfl | hs
   ·exact trivial
   ·obtain rfl := List.mem_singleton.1 hs
    exact ⟨Nat.le_trans hmb.2.1 (by decide), (by decide : 1 ≤ 5000)⟩
  all_goals
   refine callG_publish 5 rfl ?_
   cbv
   (refine cs9 hall ((⟨c, L⟩ : Rg), [Stp.ret bill by_ day, .iss ⟨number, cq1, shipper, frm, to1, bq1, [bill], day, lq1⟩ by_]) [0, 1] ⟨⟨n, hn, hinv⟩, hos⟩ ?_; try dsimp only)
   rw [← h9]
   cbv
   (refine .r9 (Gh.refl _) ?_; cbv; exact .inl (.f9 hK))
structure SpI where
 R : Rg
 bill : ByteArray
 by_ : ByteArray
 parts : List Rc
 numbers : List ByteArray
 day : Int
def splF (b : Bl) (bill by_ : ByteArray) (day : Int) (p : Rc) (n : ByteArray) : Stp := .iss (followM b n day p.l [bill]) by_
def splitS (b : Bl) (i : SpI) : List Stp := .ret i.bill i.by_ i.day :: List.zipWith (splF b i.bill i.by_ i.day) i.parts i.numbers
def splitB (b : Bl) (i : SpI) : Bool := decide (2 ≤ i.parts.length ∧ i.parts.length ≤ 64 ∧ i.numbers.length = i.parts.length) && !((i.numbers.any fun s => !nameB s) || dupB i.numbers || !partGo b.boxes i.parts)
def splitM (i : SpI) : Rg × Int := match lkN i.R.bills i.bill with
 | none => (i.R, 4)
 | some y => if splitB y.b i = true then allM i.R (splitS y.b i) else (i.R, 1)
structure SpP (i : SpI) : Prop where
 inv : InvP i.R 65
 pl : i.parts.length ≤ 5000
 ps : ∀ p ∈ i.parts, p.l.length ≤ 5000
 nl : i.numbers.length ≤ 5000
def SplitC : Ctr := spec (fun i : SpI => [.ptr 0 0, .str i.bill, .str i.by_, .sl 1 (mapA RcA i.parts), .sl 1 (mapA .str i.numbers), .i i.day]) (fun i => RegH i.R) SpP (fun i => .i (splitM i).2) fun i => RegH (splitM i).1
theorem splitS_len {b : Bl} {i : SpI} (h : i.numbers.length = i.parts.length) : (splitS b i).length = i.parts.length + 1 := by
 unfold splitS
 rw [List.length_cons, List.length_zipWith, h, Nat.min_self]
theorem splitS_at {b : Bl} {i : SpI} {k : Nat} {p : Rc} {s : ByteArray} (hp : i.parts[k]? = some p) (hs : i.numbers[k]? = some s) : (splitS b i)[k + 1]? = some (splF b i.bill i.by_ i.day p s) := by
 unfold splitS
 rw [List.getElem?_cons_succ, List.getElem?_zipWith, hp, hs]
theorem splitS_ok {b : Bl} {i : SpI} (h : SpP i) : ∀ s ∈ splitS b i, okS s := fun s hs => by
 unfold splitS at hs
 rcases List.mem_cons.1 hs with rfl | hs
 ·exact trivial
 ·rw [List.zipWith_eq_zipWith_take_min, List.mem_iff_getElem] at hs
  obtain ⟨k, hk, rfl⟩ := hs
  rw [List.getElem_zipWith]
  have := h.ps _ (List.mem_of_mem_take (List.getElem_mem (l := i.parts.take (min i.parts.length i.numbers.length)) (by simpa using hk)))
  exact ⟨this, (by decide : 1 ≤ 5000)⟩
theorem split_body (P : Program) (hget : FnOk P 11 GetC) (hcon : FnOk P 30 (ConFC 41 fun s => !nameB s)) (htw : FnOk P 42 TwiceC) (hpa : FnOk P 43 PartedC)
  (hfo : FnOk P 46 FollowC) (hrs : FnOk P 44 RetSC) (his : FnOk P 45 IssSC) (hall : FnOk P 47 AllC) : BodyOk P x13 SplitC := by
 intro args H K hc; obtain ⟨⟨⟨c, L⟩, bill, by_, parts, numbers, day⟩, rfl, rfl, hp, hK⟩ := hc; refine ⟨nb9, ?_⟩; dsimp only at hp hK ⊢
 obtain ⟨⟨n, hn, hinv⟩, hpl, hps, hnl⟩ := id hp
 dsimp only at hn hinv hpl hps hnl
 obtain ⟨⟨⟨c9, L9⟩, e9⟩, h9⟩ : ∃ x, x = splitM ⟨⟨c, L⟩, bill, by_, parts, numbers, day⟩ := ⟨_, rfl⟩
 rw [← h9] at hK
 dsimp only at hK
 unfold splitM at h9
 dsimp only at h9
 obtain ⟨m, hm⟩ : ∃ m : Nat, m = parts.length := ⟨_, rfl⟩
 obtain ⟨m2, hm2⟩ : ∃ m : Nat, m = numbers.length := ⟨_, rfl⟩
 cbv
 (refine cs9 hget ((⟨c, L⟩ : Rg), bill) [0, 1] (hinv.okR (by omega)) ?_; try dsimp only)
 rw [getM_lk]
 cases hl : lkN L bill with
 | none =>
  rw [hl] at h9
  cases h9
  cbv
  (refine .r9 (Gh.refl _) ?_; cbv; exact .inl (.f9 hK))
 | some y =>
  rw [hl] at h9
  obtain ⟨hbo, hnu⟩ := lk_inv hinv hl
  have hmb := may_boxes hbo.may
  clear hbo
  dsimp only at h9
  obtain ⟨⟨nq1, cq1, sq1, frm1, to1, bq1, pq1, iq1, lq1⟩, st, o1, o2, o3⟩ := y
  dsimp only at h9 hmb hnu
  obtain ⟨q, hq⟩ : ∃ q, q = splitB ⟨nq1, cq1, sq1, frm1, to1, bq1, pq1, iq1, lq1⟩ ⟨⟨c, L⟩, bill, by_, parts, numbers, day⟩ := ⟨_, rfl⟩
  rw [← hq] at h9
  unfold splitB at hq
  dsimp only at hq
  have hbad : q = false → c9 = c ∧ L9 = L ∧ e9 = 1 := fun h => by
   rw [h, if_neg (by decide)] at h9
   cases h9
   exact ⟨rfl, rfl, rfl⟩
  obtain ⟨q1, hq1⟩ : ∃ q, q = numbers.any fun s => !nameB s := ⟨_, rfl⟩
  obtain ⟨q2, hq2⟩ : ∃ q, q = dupB numbers := ⟨_, rfl⟩
  obtain ⟨q3, hq3⟩ : ∃ q, q = partGo bq1 parts := ⟨_, rfl⟩
  rw [← hq1, ← hq2, ← hq3] at hq
  cbv; repeat' ((first | refine .mk (fun h => ?_) fun h => ?_ | refine .k fun z hz => ?_ | fail) <;> cbv)
  ·obtain ⟨rfl, rfl, rfl⟩ := hbad (by rw [hq, decide_eq_false om9]; rfl)
   (refine .r9 (Gh.refl _) ?_; cbv; exact .inl (.f9 hK))
  ·obtain ⟨rfl, rfl, rfl⟩ := hbad (by rw [hq, decide_eq_false om9]; rfl)
   (refine .r9 (Gh.refl _) ?_; cbv; exact .inl (.f9 hK))
  ·have hlen : numbers.length = parts.length := om9
   rw [decide_eq_true om9] at hq
   (refine c09 hcon numbers hnl ?_; try dsimp only)
   rw [← hq1]
   cases q1 with
   | true =>
    cbv
    obtain ⟨rfl, rfl, rfl⟩ := hbad (by rw [hq]; rfl)
    (refine .r9 (Gh.refl _) ?_; cbv; exact .inl (.f9 hK))
   | false =>
   cbv
   (refine c09 htw numbers hnl ?_; try dsimp only)
   rw [← hq2]
   cases q2 with
   | true =>
    cbv
    obtain ⟨rfl, rfl, rfl⟩ := hbad (by rw [hq]; rfl)
    (refine .r9 (Gh.refl _) ?_; cbv; exact .inl (.f9 hK))
   | false =>
   cbv
   (refine c09 hpa (bq1, parts) ⟨by dsimp only; omega, hpl, hps, hmb.2.2.2⟩ ?_; try dsimp only)
   rw [← hq3]
   cases q3 with
   | false =>
    cbv
    obtain ⟨rfl, rfl, rfl⟩ := hbad (by rw [hq]; rfl)
    (refine .r9 (Gh.refl _) ?_; cbv; exact .inl (.f9 hK))
   | true =>
   have hqt : q = true := hq
   rw [hqt, if_pos rfl] at h9
   have hat := fun k p s => splitS_at (b := ⟨nq1, cq1, sq1, frm1, to1, bq1, pq1, iq1, lq1⟩) (i := ⟨⟨c, L⟩, bill, by_, parts, numbers, day⟩) (k := k) (p := p) (s := s)
   have hos := splitS_ok (b := ⟨nq1, cq1, sq1, frm1, to1, bq1, pq1, iq1, lq1⟩) hp
   have hll := splitS_len (b := ⟨nq1, cq1, sq1, frm1, to1, bq1, pq1, iq1, lq1⟩) (i := ⟨⟨c, L⟩, bill, by_, parts, numbers, day⟩) hlen
   have hl0 : (splitS ⟨nq1, cq1, sq1, frm1, to1, bq1, pq1, iq1, lq1⟩ ⟨⟨c, L⟩, bill, by_, parts, numbers, day⟩).take 1 = [.ret bill by_ day] := rfl
   obtain ⟨ls, hls⟩ : ∃ l, l = splitS ⟨nq1, cq1, sq1, frm1, to1, bq1, pq1, iq1, lq1⟩ ⟨⟨c, L⟩, bill, by_, parts, numbers, day⟩ := ⟨_, rfl⟩
   rw [← hls] at h9 hat hos hll hl0
   clear hls hbad hq hqt hq1 hq2 hq3
   dsimp only at hat hll
   cbv
   (refine c09 hrs (bill, by_, day) trivial ?_; try dsimp only)
   cbv; repeat' ((first | refine .k fun z hz => ?_ | fail) <;> cbv)
   refine xloopG (Gh.cast [.blk 59 [.str c, .ph 1], .pool 57 (mapA PelA L) [], .blk 32 (BlL ⟨nq1, cq1, sq1, frm1, to1, bq1, pq1, iq1, lq1⟩), .row 90 1 (mapA StA (ls.take 1))] (by rw [hl0]; rfl)) ?_
   refine xloopV [3] (fun q : { k : Nat // k ≤ parts.length } => [(61, .i (nI q.1)), (15, .hd 3)]) (fun q => [.blk 59 [.str c, .ph 1], .pool 57 (mapA PelA L) [], .blk 32 (BlL ⟨nq1, cq1, sq1, frm1, to1, bq1, pq1, iq1, lq1⟩), .row 90 1 (mapA StA (ls.take (q.1 + 1)))]) (fun q => lft 5001 q.1) ⟨0, Nat.zero_le _⟩ ?_
   rintro ⟨k, hk⟩
   dsimp only at hk ⊢
   obtain ⟨ls1, hls1⟩ : ∃ l, l = ls.take (k + 1) := ⟨_, rfl⟩
   have hl1 : ls1.length ≤ 5001 := by rw [hls1, List.length_take]; omega
   rw [← hls1]
   cbv; repeat' ((first | refine .mk (fun h => ?_) fun h => ?_ | fail) <;> cbv)
   ·refine askEl_int om9 om9 fun i x hi hx => ?_
    obtain rfl : k = i := om9
    obtain ⟨x⟩ := x
    cbv
    refine askEl_int om9 om9 fun i y hi2 hy => ?_
    obtain rfl : k = i := om9
    have hxy := hat k _ y hx hy
    cbv
    refine callG_publish 4 rfl ?_
    cbv
    (refine c09 hfo (⟨⟨nq1, cq1, sq1, frm1, to1, bq1, pq1, iq1, lq1⟩, y, day, x, [bill]⟩ : Fol) trivial ?_; try dsimp only)
    cbv
    (refine c09 his (followM ⟨nq1, cq1, sq1, frm1, to1, bq1, pq1, iq1, lq1⟩ y day x [bill], by_) trivial ?_; try dsimp only)
    cbv; repeat' ((first | refine .k fun z hz => ?_ | refine .zl fun zs hzs hzl => ?_ | fail) <;> cbv)
    obtain rfl : zs = mapA StA (ls.take (k + 1 + 1)) := by rw [take_some hxy, ← hls1, mapA_app, mapA_one]; exact hzs
    obtain rfl : z = nI (k + 1) := om9
    exact roundV ⟨k + 1, by exact om9⟩ (lft_lt om9)
   ·have hls2 : ls1 = ls := by rw [hls1]; exact List.take_of_length_le om9
    subst hls2
    cbv
    refine callG_publish 3 rfl ?_
    cbv
    (refine cs9 hall ((⟨c, L⟩ : Rg), ls1) [0, 1] ⟨⟨n, by exact om9, hinv⟩, hos⟩ ?_; try dsimp only)
    rw [← h9]
    cbv
    (refine .r9 (Gh.refl _) ?_; cbv; exact .inl (.f9 hK))
  ·obtain ⟨rfl, rfl, rfl⟩ := hbad (by rw [hq, decide_eq_false om9]; rfl)
   (refine .r9 (Gh.refl _) ?_; cbv; exact .inl (.f9 hK))
set_option maxHeartbeats 1000000
theorem eraseIdx_perm_ {α : Type} : ∀ {l : List α} {i : Nat} (hi : i < l.length), l.Perm (l[i] :: l.eraseIdx i)
 | x :: l, 0, _ => .refl _
 | x :: l, i + 1, hi => by
  have := eraseIdx_perm_ (l := l) (i := i) (by simpa using hi)
  exact (this.cons x).trans (.swap ..)
theorem atS_id_some {l : List ByteArray} {x : ByteArray} {i : Nat} (h : atS id l x = some i) : l.Perm (x :: l.eraseIdx i) := by
 obtain ⟨y, hy, hk⟩ := atS_some h
 obtain rfl : y = x := hk
 obtain ⟨hi, rfl⟩ := List.getElem?_eq_some_iff.1 hy
 exact eraseIdx_perm_ hi
theorem atS_id_none {l : List ByteArray} {x : ByteArray} (h : atS id l x = none) : x ∉ l := fun hm => atS_none h x hm rfl
theorem takeAll_some : ∀ {p left m : List ByteArray}, takeAll left p = some m → left.Perm (p ++ m)
 | [], left, m, h => by cases h; exact .refl _
 | x :: r, left, m, h => by
  rw [takeAll] at h
  cases ha : atS id left x with
  | none => rw [ha] at h; cases h
  | some i =>
   rw [ha] at h
   exact (atS_id_some ha).trans ((takeAll_some h).cons x)
theorem takeAll_none : ∀ {p left m : List ByteArray}, takeAll left p = none → ¬ left.Perm (p ++ m)
 | [], left, m, h => by cases h
 | x :: r, left, m, h => fun hp => by
  rw [takeAll] at h
  cases ha : atS id left x with
  | none => exact atS_id_none ha (hp.mem_iff.2 (by simp))
  | some i =>
   rw [ha] at h
   exact takeAll_none h (List.Perm.cons_inv ((atS_id_some ha).symm.trans hp))
def flatR (ps : List Rc) : List ByteArray := ps.flatMap Rc.l
theorem partGo_iff : ∀ {ps : List Rc} {left : List ByteArray}, partGo left ps = true ↔ (∀ p ∈ ps, p.l ≠ []) ∧ left.Perm (flatR ps)
 | [], left => by
  rw [partGo]
  constructor
  ·intro h
   obtain rfl := List.isEmpty_iff.1 h
   exact ⟨(fun p hp => by cases hp), .refl _⟩
  ·rintro ⟨_, h⟩
   rw [List.isEmpty_iff]
   exact h.eq_nil
 | p :: r, left => by
  have hf : flatR (p :: r) = p.l ++ flatR r := by unfold flatR; rw [List.flatMap_cons]
  rw [partGo, hf, Bool.and_eq_true]
  cases ht : takeAll left p.l with
  | none =>
   constructor
   ·rintro ⟨_, h⟩; cases h
   ·rintro ⟨_, h⟩; exact absurd h (takeAll_none ht)
  | some m =>
   have hm := takeAll_some ht
   have ih := partGo_iff (ps := r) (left := m)
   dsimp only
   rw [ih]
   constructor
   ·rintro ⟨h1, h2, h3⟩
    refine ⟨fun x hx => ?_, hm.trans (h3.append_left _)⟩
    rcases List.mem_cons.1 hx with rfl | hx
    ·intro e; rw [e] at h1; cases h1
    ·exact h2 x hx
   ·rintro ⟨h1, h2⟩
    refine ⟨?_, fun x hx => h1 x (List.mem_cons_of_mem _ hx), (List.perm_append_left_iff _).1 (hm.symm.trans h2)⟩
    have := h1 p (List.mem_cons_self ..)
    cases hp : p.l with
    | nil => exact absurd hp this
    | cons a b => rfl
theorem dupGo_iff : ∀ {l ahead : List ByteArray}, ahead.Nodup → (dupGo ahead l = false ↔ (ahead ++ l).Nodup)
 | [], ahead, h => by rw [List.append_nil]; exact ⟨fun _ => h, fun _ => rfl⟩
 | x :: r, ahead, h => by
  rw [dupGo, Bool.or_eq_false_iff, show ahead ++ x :: r = (ahead ++ [x]) ++ r by simp]
  have hh : hasB ahead x = false ↔ x ∉ ahead := by
   unfold hasB
   cases ha : atS id ahead x with
   | none => exact ⟨fun _ => atS_id_none ha, fun _ => rfl⟩
   | some i =>
    obtain ⟨y, hy, hk⟩ := atS_some ha
    obtain rfl : y = x := hk
    exact ⟨fun h => (by cases h), fun h => absurd (List.mem_of_getElem? hy) h⟩
  by_cases hx : x ∈ ahead
  ·constructor
   ·rintro ⟨h1, _⟩; exact absurd hx (hh.1 h1)
   ·intro h1
    have := (List.nodup_append.1 h1).1
    rw [List.nodup_append] at this
    exact absurd rfl (this.2.2 x hx x (by simp))
  ·have hn : (ahead ++ [x]).Nodup := by
    rw [List.nodup_append]
    exact ⟨h, by simp, fun a ha b hb e => by obtain rfl := List.mem_singleton.1 hb; subst e; exact hx ha⟩
   rw [hh, dupGo_iff hn]
   exact ⟨fun h => h.2, fun h => ⟨hx, h⟩⟩
theorem dupB_iff {l : List ByteArray} : dupB l = false ↔ l.Nodup := dupGo_iff .nil
theorem sub_perm : ∀ {l m : List ByteArray}, l.Nodup → (∀ x ∈ l, x ∈ m) → ∃ r, m.Perm (l ++ r)
 | [], m, _, _ => ⟨m, .refl _⟩
 | x :: l, m, hn, hs => by
  have hx := hs x (List.mem_cons_self ..)
  obtain ⟨hn1, hn2⟩ := List.nodup_cons.1 hn
  obtain ⟨s, t, rfl⟩ := List.append_of_mem hx
  obtain ⟨r, hr⟩ := sub_perm (l := l) (m := s ++ t) hn2 fun y hy => by
   have := hs y (List.mem_cons_of_mem _ hy)
   rcases List.mem_append.1 this with h1 | h1
   ·exact List.mem_append_left _ h1
   ·rcases List.mem_cons.1 h1 with rfl | h1
    ·exact absurd hy hn1
    ·exact List.mem_append_right _ h1
  exact ⟨r, List.perm_middle.trans (hr.cons x)⟩
def partR (boxes : List ByteArray) (ps : List Rc) : Bool := (ps.all fun p => !p.l.isEmpty) && (decide ((flatR ps).length = boxes.length) && !dupB (flatR ps)) && (flatR ps).all fun x => boxes.any fun y => decide (x = y)
theorem partR_eq {boxes : List ByteArray} {ps : List Rc} (h : dupB boxes = false) : partR boxes ps = partGo boxes ps := by
 rw [Bool.eq_iff_iff, partGo_iff]
 have hb := dupB_iff.1 h
 unfold partR
 simp only [Bool.and_eq_true, List.all_eq_true, Bool.not_eq_true', decide_eq_true_eq, List.any_eq_true, List.isEmpty_eq_false_iff]
 constructor
 ·rintro ⟨⟨h1, h2, h3⟩, h4⟩
  refine ⟨h1, ?_⟩
  obtain ⟨r, hr⟩ := sub_perm (dupB_iff.1 h3) fun x hx => by
   obtain ⟨y, hy, rfl⟩ := h4 x hx
   exact hy
  have hl := hr.length_eq
  rw [List.length_append] at hl
  obtain rfl : r = [] := List.eq_nil_of_length_eq_zero (by omega)
  rwa [List.append_nil] at hr
 ·rintro ⟨h1, h2⟩
  exact ⟨⟨h1, h2.length_eq.symm, dupB_iff.2 (h2.nodup_iff.1 hb)⟩, fun x hx => ⟨x, h2.mem_iff.2 hx, rfl⟩⟩
def parOf (L : List Br) (x : ByteArray) : List ByteArray := (getM L x).1.parents
inductive Anc (L : List Br) (bill : ByteArray) : ByteArray → Prop where
 | base (y : ByteArray) (hy : y ∈ parOf L bill) (hne : y ≠ bill) : Anc L bill y
 | more (x y : ByteArray) (hx : Anc L bill x) (hy : y ∈ parOf L x) (hne : y ≠ bill) : Anc L bill y
theorem Anc.step {L : List Br} {bill : ByteArray} (x y : ByteArray) (hx : x = bill ∨ Anc L bill x) (hy : y ∈ parOf L x) (hne : y ≠ bill) : Anc L bill y := by
 rcases hx with rfl | hx
 ·exact .base y hy hne
 ·exact .more x y hx hy hne
theorem Anc.ind {L : List Br} {bill : ByteArray} {p : ByteArray → Prop} (h : ∀ x y, (x = bill ∨ (Anc L bill x ∧ p x)) → y ∈ parOf L x → y ≠ bill → p y) {y : ByteArray} (k : Anc L bill y) : p y := by
 induction k with
 | base y hy hne => exact h bill y (.inl rfl) hy hne
 | more x y hx hy hne ih => exact h x y (.inr ⟨hx, ih⟩) hy hne
structure IsPar (L : List Br) (bill : ByteArray) (l : List ByteArray) : Prop where
 so : l.Pairwise leB
 nd : l.Nodup
 mem : ∀ x, x ∈ l ↔ Anc L bill x
theorem IsPar.uniq {L : List Br} {bill : ByteArray} {l m : List ByteArray} (h : IsPar L bill l) (k : IsPar L bill m) : l = m :=
 sorted_eq h.so k.so ((List.perm_ext_iff_of_nodup h.nd k.nd).2 fun x => (h.mem x).trans (k.mem x).symm)
open Classical in
def parS (L : List Br) (bill : ByteArray) : List ByteArray := if h : ∃ l, IsPar L bill l then Classical.choose h else []
theorem parS_eq {L : List Br} {bill : ByteArray} {l : List ByteArray} (h : IsPar L bill l) : parS L bill = l := by
 unfold parS
 rw [dif_pos ⟨l, h⟩]
 exact (Classical.choose_spec (⟨l, h⟩ : ∃ l, IsPar L bill l)).uniq h
theorem anc_congr {L L' : List Br} (h : ∀ x, parOf L x = parOf L' x) {bill y : ByteArray} (k : Anc L bill y) : Anc L' bill y := k.ind fun x y hx hy hne => by
 refine .step x y ?_ (by rw [← h]; exact hy) hne
 rcases hx with rfl | ⟨_, hx⟩
 ·exact .inl rfl
 ·exact .inr hx
theorem parOf_alike {R R' : Rg} (h : Alike R R') (hn : NodupN R.bills) (x : ByteArray) : parOf R.bills x = parOf R'.bills x := by
 unfold parOf
 rw [getM_lk, getM_lk, lk_perm h.perm hn]
theorem parS_alike {R R' : Rg} (h : Alike R R') (hn : NodupN R.bills) (bill : ByteArray) : parS R.bills bill = parS R'.bills bill := by
 have e := parOf_alike h hn
 have hp : IsPar R.bills bill = IsPar R'.bills bill := funext fun l => propext ⟨fun k => ⟨k.so, k.nd, fun x => (k.mem x).trans ⟨anc_congr e, anc_congr fun x => (e x).symm⟩⟩, fun k => ⟨k.so, k.nd, fun x => (k.mem x).trans ⟨anc_congr fun x => (e x).symm, anc_congr e⟩⟩⟩
 unfold parS
 rw [hp]
def allPar (L : List Br) : List ByteArray := L.flatMap fun b => b.b.parents
theorem parOf_some {L : List Br} {x y : ByteArray} (h : y ∈ parOf L x) : ∃ b, lkN L x = some b ∧ y ∈ b.b.parents := by
 unfold parOf at h
 rw [getM_lk] at h
 cases hl : lkN L x with
 | none => rw [hl] at h; cases h
 | some b => rw [hl] at h; exact ⟨b, rfl, h⟩
theorem parOf_lk {L : List Br} {x : ByteArray} {b : Br} (h : lkN L x = some b) : parOf L x = b.b.parents := by
 unfold parOf
 rw [getM_lk, h]
theorem parOf_none {L : List Br} {x : ByteArray} (h : lkN L x = none) : parOf L x = [] := by
 unfold parOf
 rw [getM_lk, h]
 rfl
theorem anc_all {L : List Br} {bill y : ByteArray} (h : Anc L bill y) : y ∈ allPar L := h.ind fun x y _ hy _ => by
 obtain ⟨b, hb, hyb⟩ := parOf_some hy
 exact List.mem_flatMap.2 ⟨b, (lk_mem hb).1, hyb⟩
theorem flat_le {α β : Type} (f : α → List β) (n : Nat) : ∀ {l : List α}, (∀ x ∈ l, (f x).length ≤ n) → (l.flatMap f).length ≤ l.length * n
 | [], _ => by simp
 | x :: l, h => by
  rw [List.flatMap_cons, List.length_append, List.length_cons, Nat.succ_mul]
  have h1 := h x (List.mem_cons_self ..)
  have h2 := flat_le f n (l := l) fun y hy => h y (List.mem_cons_of_mem _ hy)
  omega
theorem allPar_len {L : List Br} (h1 : L.length ≤ 256) (h2 : ∀ b ∈ L, okB b.b) : (allPar L).length ≤ 1280000 := by
 have := flat_le (fun b : Br => b.b.parents) 5000 (l := L) fun b hb => (h2 b hb).2
 unfold allPar
 omega
theorem nodup_le {l m : List ByteArray} (hn : l.Nodup) (hs : ∀ x ∈ l, x ∈ m) : l.length ≤ m.length := by
 obtain ⟨r, hr⟩ := sub_perm hn hs
 have := hr.length_eq
 rw [List.length_append] at this
 omega
structure ParI (L : List Br) (bill : ByteArray) (ans : List ByteArray) (j : Nat) : Prop where
 nd : ans.Nodup
 nb : bill ∉ ans
 jl : j ≤ ans.length + 1
 anc : ∀ y ∈ ans, Anc L bill y
 cl : ∀ i x, i < j → (bill :: ans)[i]? = some x → ∀ y ∈ parOf L x, y ≠ bill → y ∈ ans
theorem ParI.zero (L : List Br) (bill : ByteArray) : ParI L bill [] 0 := ⟨.nil, by simp, Nat.zero_le _, by simp, fun i x h => absurd h (Nat.not_lt_zero i)⟩
theorem ParI.len {L : List Br} {bill : ByteArray} {ans : List ByteArray} {j : Nat} (h : ParI L bill ans j) : ans.length ≤ (allPar L).length := nodup_le h.nd fun x hx => anc_all (h.anc x hx)
theorem ParI.from_ {L : List Br} {bill : ByteArray} {ans : List ByteArray} {j i : Nat} (h : ParI L bill ans j) {x : ByteArray} (hx : (bill :: ans)[i]? = some x) : x = bill ∨ Anc L bill x := by
 rcases List.mem_cons.1 (List.mem_of_getElem? hx) with h1 | h1
 ·exact .inl h1
 ·exact .inr (h.anc x h1)
theorem ParI.add {L : List Br} {bill : ByteArray} {ans : List ByteArray} {j : Nat} (h : ParI L bill ans j) {p : ByteArray} (hp : Anc L bill p) (hb : p ≠ bill) (hn : p ∉ ans) : ParI L bill (ans ++ [p]) j := by
 refine ⟨?_, ?_, by rw [List.length_append]; have := h.jl; simp; omega, fun y hy => ?_, fun i x hi hx y hy hne => ?_⟩
 ·rw [List.nodup_append]
  exact ⟨h.nd, by simp, fun a ha b hb' e => by obtain rfl := List.mem_singleton.1 hb'; subst e; exact hn ha⟩
 ·intro hm
  rcases List.mem_append.1 hm with h1 | h1
  ·exact h.nb h1
  ·exact hb (List.mem_singleton.1 h1).symm
 ·rcases List.mem_append.1 hy with h1 | h1
  ·exact h.anc y h1
  ·obtain rfl := List.mem_singleton.1 h1; exact hp
 ·rw [← List.cons_append, List.getElem?_append_left (by have := h.jl; simp; omega)] at hx
  exact List.mem_append_left _ (h.cl i x hi hx y hy hne)
theorem ParI.next {L : List Br} {bill : ByteArray} {ans : List ByteArray} {j : Nat} (h : ParI L bill ans j) {x : ByteArray} (hx : (bill :: ans)[j]? = some x) (hc : ∀ y ∈ parOf L x, y ≠ bill → y ∈ ans) : ParI L bill ans (j + 1) := by
 refine ⟨h.nd, h.nb, ?_, h.anc, fun i z hi hz => ?_⟩
 ·have := (List.getElem?_eq_some_iff.1 hx).1
  rw [List.length_cons] at this
  omega
 ·rcases Nat.lt_or_ge i j with h1 | h1
  ·exact h.cl i z h1 hz
  ·obtain rfl : i = j := by omega
   rw [hx] at hz
   cases hz
   exact hc
theorem ParI.fin {L : List Br} {bill : ByteArray} {ans : List ByteArray} {j : Nat} (h : ParI L bill ans j) (hj : ans.length + 1 ≤ j) : IsPar L bill (sortB ans) := by
 refine ⟨sortB_sorted ans, (sortB_mem ans).nodup_iff.2 h.nd, fun x => ?_⟩
 rw [(sortB_mem ans).mem_iff]
 refine ⟨h.anc x, fun k => k.ind fun x y hx hy hne => ?_⟩
 have hm : x ∈ bill :: ans := by
  rcases hx with rfl | ⟨_, hx⟩
  ·exact List.mem_cons_self ..
  ·exact List.mem_cons_of_mem _ hx
 obtain ⟨i, hi, rfl⟩ := List.mem_iff_getElem.1 hm
 exact h.cl i _ (by simp at hi; omega) (List.getElem?_eq_getElem hi) y hy hne
structure RefI (L : List Br) (bill : ByteArray) (left done out : List ByteArray) : Prop where
 ls : ∀ x ∈ left, x = bill ∨ Anc L bill x
 ds : ∀ x ∈ done, (x = bill ∨ Anc L bill x) ∧ ∃ b ∈ L, b.b.number = x
 dn : done.Nodup
 om : ∀ y, y ∈ out ↔ ∃ x ∈ done, y ∈ parOf L x ∧ y ≠ bill
 so : out.Pairwise leB
 nd : out.Nodup
 st : bill ∈ left ∨ bill ∈ done ∨ lkN L bill = none
 cl : ∀ x ∈ done, ∀ y ∈ parOf L x, y ∈ left ∨ y ∈ done ∨ lkN L y = none
 ll : left.length ≤ 1 + 5000 * done.length
theorem RefI.zero (L : List Br) (bill : ByteArray) : RefI L bill [bill] [] [] := ⟨fun x hx => .inl (List.mem_singleton.1 hx), by simp, .nil, by simp, .nil, .nil, .inl (by simp), by simp, by simp⟩
theorem RefI.few {L : List Br} {bill : ByteArray} {left done out : List ByteArray} (h : RefI L bill left done out) : done.length ≤ L.length := by
 have := nodup_le (m := L.map fun b => b.b.number) h.dn fun x hx => by
  obtain ⟨b, hb, rfl⟩ := (h.ds x hx).2
  exact List.mem_map.2 ⟨b, hb, rfl⟩
 rwa [List.length_map] at this
theorem RefI.out_len {L : List Br} {bill : ByteArray} {left done out : List ByteArray} (h : RefI L bill left done out) : out.length ≤ (allPar L).length := nodup_le h.nd fun y hy => by
 obtain ⟨x, _, hyx, _⟩ := (h.om y).1 hy
 obtain ⟨b, hb, hyb⟩ := parOf_some hyx
 exact List.mem_flatMap.2 ⟨b, (lk_mem hb).1, hyb⟩
theorem RefI.skip {L : List Br} {bill : ByteArray} {x : ByteArray} {left done out : List ByteArray} (h : RefI L bill (x :: left) done out) (hx : x ∈ done ∨ lkN L x = none) : RefI L bill left done out := by
 have mv : ∀ y, y ∈ x :: left ∨ y ∈ done ∨ lkN L y = none → y ∈ left ∨ y ∈ done ∨ lkN L y = none := fun y hy => by
  rcases hy with h1 | h1
  ·rcases List.mem_cons.1 h1 with rfl | h1
   ·exact .inr hx
   ·exact .inl h1
  ·exact .inr h1
 exact ⟨fun y hy => h.ls y (List.mem_cons_of_mem _ hy), h.ds, h.dn, h.om, h.so, h.nd, mv _ h.st, fun z hz y hy => mv y (h.cl z hz y hy), by have := h.ll; rw [List.length_cons] at this; omega⟩
structure PutI (bill : ByteArray) (out ps : List ByteArray) (k : Nat) (o : List ByteArray) : Prop where
 so : o.Pairwise leB
 nd : o.Nodup
 mem : ∀ y, y ∈ o ↔ y ∈ out ∨ (y ∈ ps.take k ∧ y ≠ bill)
theorem PutI.next {bill : ByteArray} {out ps o : List ByteArray} {k : Nat} (h : PutI bill out ps k o) {p : ByteArray} (hp : ps[k]? = some p) : (p = bill → PutI bill out ps (k + 1) o) ∧ (p ≠ bill → PutI bill out ps (k + 1) (if (o.any fun x => decide (p = x)) = true then o else putM o p)) := by
 have ht := take_some hp
 refine ⟨fun e => ⟨h.so, h.nd, fun y => ?_⟩, fun e => ?_⟩
 ·rw [h.mem, ht, List.mem_append, List.mem_singleton]
  constructor
  ·rintro (h1 | ⟨h1, h2⟩)
   ·exact .inl h1
   ·exact .inr ⟨.inl h1, h2⟩
  ·rintro (h1 | ⟨h1 | h1, h2⟩)
   ·exact .inl h1
   ·exact .inr ⟨h1, h2⟩
   ·exact absurd (h1.trans e) h2
 ·have key : ∀ y, (y ∈ o ∨ y = p) ↔ y ∈ out ∨ (y ∈ ps.take (k + 1) ∧ y ≠ bill) := fun y => by
   rw [h.mem, ht, List.mem_append, List.mem_singleton]
   constructor
   ·rintro ((h1 | ⟨h1, h2⟩) | rfl)
    ·exact .inl h1
    ·exact .inr ⟨.inl h1, h2⟩
    ·exact .inr ⟨.inr rfl, e⟩
   ·rintro (h1 | ⟨h1 | h1, h2⟩)
    ·exact .inl (.inl h1)
    ·exact .inl (.inr ⟨h1, h2⟩)
    ·exact .inr h1
  by_cases ha : (o.any fun x => decide (p = x)) = true
  ·rw [if_pos ha]
   obtain ⟨x, hx, hxe⟩ := List.any_eq_true.1 ha
   obtain rfl : p = x := of_decide_eq_true hxe
   refine ⟨h.so, h.nd, fun y => ?_⟩
   rw [← key y]
   constructor
   ·exact .inl
   ·rintro (h1 | rfl)
    ·exact h1
    ·exact hx
  ·rw [if_neg ha]
   have hni : p ∉ o := fun hm => ha (List.any_eq_true.2 ⟨p, hm, decide_eq_true rfl⟩)
   refine ⟨putM_sorted p h.so, (putM_perm o p).nodup_iff.2 (List.nodup_cons.2 ⟨hni, h.nd⟩), fun y => ?_⟩
   rw [(putM_perm o p).mem_iff, List.mem_cons, ← key y]
   exact Or.comm
theorem RefI.step {L : List Br} {bill : ByteArray} {x : ByteArray} {left done out o : List ByteArray} {b : Br} (h : RefI L bill (x :: left) done out) (hnd : x ∉ done) (hb : lkN L x = some b) (hlen : b.b.parents.length ≤ 5000) (hp : PutI bill out b.b.parents b.b.parents.length o) : RefI L bill (left ++ b.b.parents) (done ++ [x]) o := by
 have hpx := parOf_lk hb
 have hxf := h.ls x (List.mem_cons_self ..)
 have mv : ∀ y, y ∈ x :: left ∨ y ∈ done ∨ lkN L y = none → y ∈ left ++ b.b.parents ∨ y ∈ done ++ [x] ∨ lkN L y = none := fun y hy => by
  rcases hy with h1 | h1 | h1
  ·rcases List.mem_cons.1 h1 with rfl | h1
   ·exact .inr (.inl (by simp))
   ·exact .inl (List.mem_append_left _ h1)
  ·exact .inr (.inl (List.mem_append_left _ h1))
  ·exact .inr (.inr h1)
 refine ⟨fun y hy => ?_, fun y hy => ?_, ?_, fun y => ?_, hp.so, hp.nd, mv _ h.st, fun z hz y hy => ?_, ?_⟩
 ·rcases List.mem_append.1 hy with h1 | h1
  ·exact h.ls y (List.mem_cons_of_mem _ h1)
  ·by_cases e : y = bill
   ·exact .inl e
   ·exact .inr (.step x y hxf (by rw [hpx]; exact h1) e)
 ·rcases List.mem_append.1 hy with h1 | h1
  ·exact h.ds y h1
  ·obtain rfl := List.mem_singleton.1 h1
   exact ⟨hxf, b, (lk_mem hb).1, (lk_mem hb).2⟩
 ·rw [List.nodup_append]
  exact ⟨h.dn, by simp, fun a ha c hc e => by obtain rfl := List.mem_singleton.1 hc; subst e; exact hnd ha⟩
 ·rw [hp.mem, List.take_length, h.om]
  constructor
  ·rintro (⟨z, hz, h1, h2⟩ | ⟨h1, h2⟩)
   ·exact ⟨z, List.mem_append_left _ hz, h1, h2⟩
   ·exact ⟨x, by simp, by rw [hpx]; exact h1, h2⟩
  ·rintro ⟨z, hz, h1, h2⟩
   rcases List.mem_append.1 hz with h3 | h3
   ·exact .inl ⟨z, h3, h1, h2⟩
   ·obtain rfl := List.mem_singleton.1 h3
    rw [hpx] at h1
    exact .inr ⟨h1, h2⟩
 ·rcases List.mem_append.1 hz with h3 | h3
  ·exact mv y (h.cl z h3 y hy)
  ·obtain rfl := List.mem_singleton.1 h3
   rw [hpx] at hy
   exact .inl (List.mem_append_right _ hy)
 ·have := h.ll
  rw [List.length_cons] at this
  rw [List.length_append, List.length_append, List.length_singleton]
  omega
theorem RefI.fin {L : List Br} {bill : ByteArray} {done out : List ByteArray} (h : RefI L bill [] done out) : IsPar L bill out := by
 refine ⟨h.so, h.nd, fun y => ?_⟩
 constructor
 ·intro hy
  obtain ⟨x, hx, h1, h2⟩ := (h.om y).1 hy
  exact .step x y (h.ds x hx).1 h1 h2
 ·intro k
  have key : ∀ x y, (x = bill ∨ x ∈ out) → y ∈ parOf L x → y ≠ bill → y ∈ out := fun x y hx hy hne => by
   obtain ⟨b, hb, _⟩ := parOf_some hy
   have hxd : x ∈ done := by
    rcases hx with rfl | hx
    ·rcases h.st with h1 | h1 | h1
     ·cases h1
     ·exact h1
     ·rw [hb] at h1; cases h1
    ·obtain ⟨z, hz, h1, _⟩ := (h.om x).1 hx
     rcases h.cl z hz x h1 with h2 | h2 | h2
     ·cases h2
     ·exact h2
     ·rw [hb] at h2; cases h2
   exact (h.om y).2 ⟨x, hxd, hy, hne⟩
  exact k.ind fun x y hx hy hne => key x y (by
   rcases hx with rfl | ⟨_, hx⟩
   ·exact .inl rfl
   ·exact .inr hx) hy hne
set_option maxHeartbeats 4000000
def InTC : Ctr := spec (fun i : List ByteArray × ByteArray => [.sl 1 (mapA .str i.1), .str i.2]) (fun _ => []) (fun i => i.1.length ≤ 2000000) (fun i => .bl (i.1.any fun x => decide (i.2 = x))) fun _ => []
def putT (l : List ByteArray) (s : ByteArray) : List ByteArray := if (l.any fun x => decide (s = x)) = true then l else putM l s
def PutTC : Ctr := spec (fun i : List ByteArray × ByteArray => [.sl 1 (mapA .str i.1), .str i.2]) (fun _ => []) (fun i => i.1.length ≤ 2000000) (fun i => .sl 1 (mapA .str (putT i.1 i.2))) fun _ => []
theorem all_not_any {α : Type} (f p : α → Bool) (h : ∀ x, p x = !f x) : ∀ l : List α, l.all f = !(l.any p)
 | [] => rfl
 | x :: l => by rw [List.all_cons, List.any_cons, all_not_any f p h l, h x]; cases f x <;> simp
def RCoversC : Ctr := spec (fun i : Rg × List ByteArray => [RgA i.1, .sl 1 (mapA .str i.2)]) (fun _ => []) (fun i => i.1.bills.length ≤ 256 ∧ (∀ b ∈ i.1.bills, okB b.b) ∧ i.2.length ≤ 5000) (fun i => .bl (i.2.all fun x => decide (0 ≤ idxG (pBox x) i.1.bills))) fun _ => []
theorem SliT.c {x : AV} {xs : List AV} {K1 K2 : List AV → Prop} (k : K2 xs) : SliT (x :: xs) (some 1) K1 K2 := ⟨.inr ⟨by decide, by simp only [Option.getD, List.length_cons]; omega, fun ys h => by subst h; exact k⟩⟩
def RParentsC : Ctr := spec (fun i : Rg × ByteArray => [RgA i.1, .str i.2]) (fun _ => []) (fun i => i.1.bills.length ≤ 256 ∧ (∀ b ∈ i.1.bills, okB b.b) ∧ NodupN i.1.bills) (fun i => .sl 1 (mapA .str (parS i.1.bills i.2))) fun _ => []
end Go.Proofs.YtjhncfkohmhnnaaGreatDoor
end
