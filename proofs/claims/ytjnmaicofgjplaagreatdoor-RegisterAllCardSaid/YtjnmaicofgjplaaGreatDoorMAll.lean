/-
  Texts of this proof, joined: UH, UI, KAll.
-/
import Derived.Test.YtjnmaicofgjplaaGreatDoorJ6
set_option linter.unusedVariables false
set_option linter.unusedSimpArgs false
namespace Go.Proofs.YtjnmaicofgjplaaGreatDoor
def x6 : XFn := ⟨93, .seq (.reg [(zs 10 (.mov (.c (.bl false))))]) (.seq (.seq (.reg [(zs 17 (.call 12 [])), (zs 18 (.not (.t 17)))]) (.cond (.t 18) (.seq (.reg [(zs 10 (.mov (.c (.bl false))))]) .ret) .skip)) (.seq (.seq (.reg [(zm 19 0), (zs 20 (.call 13 [.t 19])), (zs 21 (.not (.t 20))), (zm 22 21), (zh 23 22 false 1), (zg 24 22 false (.lens (.t 23))), (zh 25 22 false 2), (zg 26 22 false (.lens (.t 25))), (zg 27 22 false (.ari .add .i64 (.t 24) (.t 26))), (zh 28 22 false 3), (zg 29 22 false (.lens (.t 28))), (zg 30 22 false (.ari .add .i64 (.t 27) (.t 29))), (zg 31 22 false (.cmp .gtr (.t 30) (.c (.int .i64 200)))), (zs 32 (.pick (.t 22) (.c (.bl true)) (.t 31)))]) (.cond (.t 32) (.seq (.reg [(zs 10 (.mov (.c (.bl true))))]) .ret) .skip)) (.seq (.reg [(zm 34 0), (zs 35 (.call 14 [.t 34])), (zm 33 35), (zs 36 (.ext (.t 33) 0)), (zs 37 (.ext (.t 33) 1)), (zs 12 (.alloc 28 [.str ⟨#[]⟩, .v (.slice none 0 0)])), (zm 11 36), (zn (.st 2 (.t 12) (.t 37)))]) (.seq (.seq (.reg [(zm 38 11), (zs 39 (.cmn false (.t 38)))]) (.cond (.t 39) (.seq (.reg [(zs 10 (.mov (.c (.bl false))))]) .ret) .skip)) (.seq (.reg [(zm 40 11), (zs 41 (.call 31 [.t 40])), (zm 13 41)]) (.seq (.seq (.reg [(zm 42 13), (zs 43 (.cmn false (.t 42)))]) (.cond (.t 43) (.seq (.reg [(zs 10 (.mov (.c (.bl false))))]) .ret) .skip)) (.seq (.reg [(zs 14 (.mov (.c (.bl true))))]) (.seq (.seq (.reg [(zs 15 (.mov (.c (.int .i64 0))))]) (.block 0 (.loop (.seq (.seq (.reg [(zm 44 15), (zs 45 (.cmp .lss (.t 44) (.c (.int .i64 3))))]) (.cond (.t 45) .skip (.exit 0))) (.seq (.block 1 (.seq (.reg [(zm 48 13), (zm 49 1), (zm 50 15), (zm 51 2), (zm 52 3), (zm 53 4), (zs 54 (.call 18 [.t 48, .t 49, .t 50, .t 51, .t 52, .t 53])), (zs 55 (.cmp .neq (.t 54) (.c (.int .i64 0))))]) (.cond (.t 55) (.reg [(zs 14 (.mov (.c (.bl false))))]) .skip))) (.reg [(zm 46 15), (zs 47 (.ari .add .i64 (.t 46) (.c (.int .i64 1)))), (zm 15 47)])))))) (.seq (.reg [(zm 56 11), (zm 57 1), (zm 58 2), (zs 59 (.call 32 [.t 56, .t 57, .t 58])), (zm 16 59)]) (.seq (.seq (.reg [(zm 60 11), (zm 61 1), (zm 62 2), (zm 63 3), (zm 64 4), (zs 65 (.call 18 [.t 60, .t 61, .c (.int .i64 (-1)), .t 62, .t 63, .t 64])), (zs 66 (.cmp .eql (.t 65) (.c (.int .i64 0)))), (zm 67 14), (zs 68 (.cmb .neq (.t 66) (.t 67)))]) (.cond (.t 68) (.seq (.reg [(zs 10 (.mov (.c (.bl false))))]) .ret) .skip)) (.seq (.reg [(zm 69 14), (zs 70 (.not (.t 69))), (zm 71 70), (zh 72 71 false 16), (zh 73 71 false 72), (zh 74 73 true 11), (zh 75 73 true 1), (zh 76 73 true 3), (zg 77 73 true (.call 32 [.t 74, .t 75, .t 76])), (zg 78 71 false (.pick (.t 73) (.t 77) (.c (.bl false)))), (zh 79 71 false 78), (zh 80 79 true 13), (zh 81 79 true 1), (zh 82 79 true 3), (zg 83 79 true (.call 32 [.t 80, .t 81, .t 82])), (zg 84 71 false (.pick (.t 79) (.t 83) (.c (.bl false)))), (zh 85 71 false 84), (zh 86 85 true 11), (zh 87 85 true 1), (zh 88 85 true 2), (zg 89 85 true (.call 32 [.t 86, .t 87, .t 88])), (zg 90 85 true (.not (.t 89))), (zg 91 71 false (.pick (.t 85) (.t 90) (.c (.bl false)))), (zs 92 (.pick (.t 71) (.c (.bl true)) (.t 91))), (zm 10 92)]) .ret))))))))))), [.tmp 10]⟩
end Go.Proofs.YtjnmaicofgjplaaGreatDoor
namespace Go.Proofs.YtjnmaicofgjplaaGreatDoor
open Go.RowKit
set_option maxHeartbeats 4000000
set_option maxRecDepth 100000
/-! ### RegisterAll -/
def enA (bill by_ to : ByteArray) (day : Int) (k : Int) : At := ⟨1, k, day, bill, by_, to, zeroB⟩
def condK (by_ : ByteArray) (day : Int) (y : Br) (k : Int) : Prop := (onK k y).state = 0 ∧ (onK k y).holder = by_ ∧ ¬ day < lastM (onK k y) y.b.issued
theorem some3_no {idx : Int} {y : Br} {p : Og → Bool} : some3 idx y p = false ↔ ∀ k : Int, (k = 0 ∨ k = 1 ∨ k = 2) → hitB idx k = true → p (onK k y) = false := by
 constructor
 ·intro h k hk hh
  obtain ⟨q0, q1, q2⟩ := some3_hit h
  obtain ⟨_, _, _, _, _⟩ := y
  rcases hk with rfl | rfl | rfl
  ·exact q0 hh
  ·exact q1 hh
  ·exact q2 hh
 ·intro h
  have h0 := h 0 (.inl rfl)
  have h1 := h 1 (.inr (.inl rfl))
  have h2 := h 2 (.inr (.inr rfl))
  obtain ⟨_, _, o0, o1, o2⟩ := y
  have e0 : onK 0 ⟨‹_›, ‹_›, o0, o1, o2⟩ = o0 := rfl
  unfold some3
  show ((hitB idx 0 && p o0) || ((hitB idx 1 && p o1) || (hitB idx 2 && p o2))) = false
  have h0 : hitB idx 0 = true → p o0 = false := h0
  have h1 : hitB idx 1 = true → p o1 = false := h1
  have h2 : hitB idx 2 = true → p o2 = false := h2
  cases g0 : hitB idx 0 <;> cases g1 : hitB idx 1 <;> cases g2 : hitB idx 2 <;> simp_all
structure AskOk (by_ to : ByteArray) (day idx : Int) (y : Br) : Prop where
 w : wrongE by_ to = false
 d : dayB day = true
 s : y.st = 0
 i : -1 ≤ idx ∧ idx < 3
 c : ∀ k : Int, (k = 0 ∨ k = 1 ∨ k = 2) → hitB idx k = true → condK by_ day y k
theorem askOk_iff {bill by_ to : ByteArray} {day idx : Int} {y : Br} : askE y (akOf (enA bill by_ to day idx)) = 0 ↔ AskOk by_ to day idx y := by
 constructor
 ·intro h
  obtain ⟨h1, h2, h3, h4, h5, h6, h7⟩ := done_of h
  have h5 := some3_no.1 h5
  have h6 := some3_no.1 h6
  have h7 := some3_no.1 (h7 rfl)
  refine ⟨h2, h3 rfl, h4, h1, fun k hk hh => ⟨?_, ?_, ?_⟩⟩
  ·have := h5 k hk hh
   unfold pState at this
   simp only [Bool.not_eq_false', decide_eq_true_eq] at this
   exact this
  ·have := h6 k hk hh
   unfold pHolder at this
   simp only [Bool.not_eq_false', decide_eq_true_eq] at this
   exact this
  ·have := h7 k hk hh
   unfold pDay at this
   exact of_decide_eq_false this
 ·rintro ⟨h1, h2, h3, h4, h5⟩
  have e1 : k1 (akOf (enA bill by_ to day idx)) = false := by
   show (decide (idx < -1) || decide (3 ≤ idx)) = false
   rw [decide_eq_false (by omega), decide_eq_false (by omega)]
   rfl
  have e2 : k2 (akOf (enA bill by_ to day idx)) = false := by
   show ((true && wrongE by_ to) || (true && !dayB day)) = false
   rw [h1, h2]
   rfl
  have e3 : k3 y (akOf (enA bill by_ to day idx)) = false := by
   unfold k3
   rw [decide_eq_true h3, show some3 (akOf (enA bill by_ to day idx)).index y (pState (akOf (enA bill by_ to day idx))) = false from some3_no.2 fun k hk hh => by
    show (!decide ((onK k y).state = 0)) = false
    rw [decide_eq_true (h5 k hk hh).1]; rfl]
   rfl
  have e4 : k4 y (akOf (enA bill by_ to day idx)) = false := some3_no.2 fun k hk hh => by
   show (!decide ((onK k y).holder = by_)) = false
   rw [decide_eq_true (h5 k hk hh).2.1]; rfl
  have e5 : k5 y (akOf (enA bill by_ to day idx)) = false := by
   unfold k5
   rw [show some3 (akOf (enA bill by_ to day idx)).index y (pDay y (akOf (enA bill by_ to day idx))) = false from some3_no.2 fun k hk hh => by
    show decide (day < lastM (onK k y) y.b.issued) = false
    exact decide_eq_false (h5 k hk hh).2.2]
   exact Bool.and_false _
  unfold askE
  rw [e1, e2, e3, e4, e5]
  rfl
/-- What an endorsement does to an original. -/
theorem onK_end {idx : Int} {f : Og → Og} {y : Br} {k : Int} (hk : k = 0 ∨ k = 1 ∨ k = 2) : onK k (onO idx f y) = if hitB idx k = true then f (onK k y) else onK k y := by
 obtain ⟨_, _, _, _, _⟩ := y
 rcases hk with rfl | rfl | rfl
 ·show (bif hitB idx 0 then _ else _) = _; cases hitB idx 0 <;> rfl
 ·show (bif hitB idx 1 then _ else _) = _; cases hitB idx 1 <;> rfl
 ·show (bif hitB idx 2 then _ else _) = _; cases hitB idx 2 <;> rfl
theorem lk_act {L : List Br} (hn : NodupN L) (a : Ak) (f : Br → Br) (hf : ∀ b, (f b).b = b.b) (hn2 : NodupN (actM L a f)) : lkN (actM L a f) a.bill = (lkN L a.bill).map fun y => if askM L a = 0 then f y else y := by
 cases hl : lkN L a.bill with
 | none =>
  have h4 : ¬ askM L a = 0 := by rw [askM_lk, hl]; exact (by decide : ¬ (4 : Int) = 0)
  rw [actM_no _ _ h4, hl]
  rfl
 | some y =>
  obtain ⟨h1, h2⟩ := lk_mem hl
  rw [Option.map_some]
  by_cases h0 : askM L a = 0
  ·rw [if_pos h0]
   rw [actM_map hn _ _ h0] at hn2 ⊢
   exact lk_of hn2 (List.mem_map.2 ⟨y, h1, if_pos h2⟩) (by rw [hf]; exact h2)
  ·rw [if_neg h0, actM_no _ _ h0]; exact hl
theorem full_iff {L : List Br} {bill who : ByteArray} {y : Br} (hl : lkN L bill = some y) : fullM L bill who = true ↔ y.st = 0 ∧ ∀ k : Int, (k = 0 ∨ k = 1 ∨ k = 2) → (onK k y).state = 0 ∧ (onK k y).holder = who := by
 have hh : ∀ k, hitB (-1) k = true := fun k => hitB_yes (.inl rfl)
 rw [fullM_lk, hl]
 simp only [Bool.and_eq_true, decide_eq_true_eq, Bool.not_eq_true']
 rw [some3_no]
 constructor
 ·rintro ⟨h1, h2⟩
  refine ⟨h1, fun k hk => ?_⟩
  have := h2 k hk (hh k)
  unfold pFull at this
  simpa using this
 ·rintro ⟨h1, h2⟩
  refine ⟨h1, fun k hk _ => ?_⟩
  unfold pFull
  rw [decide_eq_true (h2 k hk).1, decide_eq_true (h2 k hk).2]
  rfl
/-- One endorsement, as the program does it. -/
structure EnS (bill by_ to : ByteArray) (day idx : Int) (L L' : List Br) (e : Int) : Prop where
 ask : askM L ⟨bill, idx, -1, by_, 0, day, true, wrongE by_ to⟩ = e
 act : actM L ⟨bill, idx, -1, by_, 0, day, true, wrongE by_ to⟩ (onO idx (endF by_ to day)) = L'
theorem enS_of {n : Nat} {c : ByteArray} {L : List Br} (h : Inv n ⟨c, L⟩) (bill by_ to : ByteArray) (day idx : Int) : ∃ L' e, EnS bill by_ to day idx L L' e ∧ Inv (n + 1) ⟨c, L'⟩ ∧ (lkN L bill = none → ¬ e = 0) ∧ ∀ y, lkN L bill = some y → (e = 0 ↔ AskOk by_ to day idx y) ∧ lkN L' bill = some (if e = 0 then onO idx (endR by_ to day) y else y) := by
 have h1 := doP_eq h (enA bill by_ to day idx)
 have h2 := inv_act h (a := enA bill by_ to day idx) ⟨by show (1 : Int) ≤ 1; decide, by show (1 : Int) ≤ 5; decide⟩
 have e1 : actM L ⟨bill, idx, -1, by_, 0, day, true, wrongE by_ to⟩ (onO idx (endF by_ to day)) = actM L (akOf (enA bill by_ to day idx)) (actR (enA bill by_ to day idx)) := by
  rw [doR_act (a := enA bill by_ to day idx) (by show ¬ (1 : Int) = 0; decide)] at h1
  exact congrArg Rg.bills h1
 refine ⟨_, _, ⟨rfl, e1⟩, h2, fun hl => ?_, fun y hl => ⟨?_, ?_⟩⟩
 ·rw [askM_lk]
  show ¬ (match lkN L bill with
   | some b => askE b ⟨bill, idx, -1, by_, 0, day, true, wrongE by_ to⟩
   | none => 4) = 0
  rw [hl]
  exact (by decide : ¬ (4 : Int) = 0)
 ·rw [askM_lk]
  show (match lkN L bill with
   | some b => askE b ⟨bill, idx, -1, by_, 0, day, true, wrongE by_ to⟩
   | none => 4) = 0 ↔ _
  rw [hl]
  exact askOk_iff (bill := bill)
 ·have h3 := lk_act h.nd (akOf (enA bill by_ to day idx)) (actR (enA bill by_ to day idx)) (actR_b _) h2.nd
  have h4 : lkN (actM L (akOf (enA bill by_ to day idx)) (actR (enA bill by_ to day idx))) bill = (lkN L bill).map fun y => if askM L (akOf (enA bill by_ to day idx)) = 0 then actR (enA bill by_ to day idx) y else y := h3
  rw [h4, hl, Option.map_some]
  rfl
theorem all_law {n : Nat} {c : ByteArray} {L C : List Br} (h : Inv n ⟨c, L⟩) (hp : C.Perm L) (bill by_ to : ByteArray) (day : Int) :
  ∃ L1 L2 L3 L' e0 e1 e2 e, EnS bill by_ to day 0 C L1 e0 ∧ EnS bill by_ to day 1 L1 L2 e1 ∧ EnS bill by_ to day 2 L2 L3 e2 ∧ EnS bill by_ to day (-1) L L' e ∧ (∀ b ∈ C, BrOk (n + 4) c b) ∧ (∀ b ∈ L1, BrOk (n + 4) c b) ∧ (∀ b ∈ L2, BrOk (n + 4) c b) ∧ (∀ b ∈ L3, BrOk (n + 4) c b) ∧ (∀ b ∈ L', BrOk (n + 4) c b) ∧
   (e = 0 ↔ e0 = 0 ∧ e1 = 0 ∧ e2 = 0) ∧ (e = 0 → fullM L bill by_ = true ∧ fullM L' bill to = true ∧ fullM L3 bill to = true ∧ fullM L' bill by_ = false) := by
 have hC : Inv n ⟨c, C⟩ := h.perm rfl hp.symm
 obtain ⟨L1, e0, s0, i1, n0, y0⟩ := enS_of hC bill by_ to day 0
 obtain ⟨L2, e1, s1, i2, n1, y1⟩ := enS_of i1 bill by_ to day 1
 obtain ⟨L3, e2, s2, i3, n2, y2⟩ := enS_of i2 bill by_ to day 2
 obtain ⟨L', e, s, i', nn, yy⟩ := enS_of h bill by_ to day (-1)
 refine ⟨L1, L2, L3, L', e0, e1, e2, e, s0, s1, s2, s, fun b hb => (hC.all b hb).mono (by omega), fun b hb => (i1.all b hb).mono (by omega), fun b hb => (i2.all b hb).mono (by omega), fun b hb => (i3.all b hb).mono (by omega), fun b hb => (i'.all b hb).mono (by omega), ?_⟩
 have hlk : lkN C bill = lkN L bill := lk_perm hp hC.nd bill
 cases hl : lkN L bill with
 | none =>
  have h0 := n0 (hlk.trans hl)
  have h9 := nn hl
  exact ⟨⟨fun h => absurd h h9, fun h => absurd h.1 h0⟩, fun h => absurd h h9⟩
 | some y =>
  obtain ⟨a0, b0⟩ := y0 y (hlk.trans hl)
  obtain ⟨a, b⟩ := yy y hl
  have hm : ∀ k : Int, hitB (-1) k = true := fun k => hitB_yes (.inl rfl)
  have h01 : hitB 0 1 = false := rfl
  have h02 : hitB 0 2 = false := rfl
  have h00 : hitB 0 0 = true := rfl
  have h10 : hitB 1 0 = false := rfl
  have h11 : hitB 1 1 = true := rfl
  have h12 : hitB 1 2 = false := rfl
  have h20 : hitB 2 0 = false := rfl
  have h21 : hitB 2 1 = false := rfl
  have h22 : hitB 2 2 = true := rfl
  have k0 : (0 : Int) = 0 ∨ (0 : Int) = 1 ∨ (0 : Int) = 2 := .inl rfl
  have k1 : (1 : Int) = 0 ∨ (1 : Int) = 1 ∨ (1 : Int) = 2 := .inr (.inl rfl)
  have k2 : (2 : Int) = 0 ∨ (2 : Int) = 1 ∨ (2 : Int) = 2 := .inr (.inr rfl)
  have key : e = 0 ↔ e0 = 0 ∧ e1 = 0 ∧ e2 = 0 := by
   constructor
   ·intro he
    obtain ⟨w, d, s, _, cc⟩ := a.1 he
    have z0 : e0 = 0 := a0.2 ⟨w, d, s, by decide, fun k hk _ => cc k hk (hm k)⟩
    rw [if_pos z0] at b0
    obtain ⟨a1, b1⟩ := y1 _ b0
    have z1 : e1 = 0 := a1.2 ⟨w, d, by rw [(onO_b _ _ _).2]; exact s, by decide, fun k hk hh => by
     rcases hk with rfl | rfl | rfl
     ·cases hh
     ·have := cc 1 k1 (hm 1)
      unfold condK at this ⊢
      rw [onK_end k1, h01, if_neg (by decide), (onO_b _ _ _).1]
      exact this
     ·cases hh⟩
    rw [if_pos z1] at b1
    obtain ⟨a2, b2⟩ := y2 _ b1
    have z2 : e2 = 0 := a2.2 ⟨w, d, by rw [(onO_b _ _ _).2, (onO_b _ _ _).2]; exact s, by decide, fun k hk hh => by
     rcases hk with rfl | rfl | rfl
     ·cases hh
     ·cases hh
     ·have := cc 2 k2 (hm 2)
      unfold condK at this ⊢
      rw [onK_end k2, h12, if_neg (by decide), onK_end k2, h02, if_neg (by decide), (onO_b _ _ _).1, (onO_b _ _ _).1]
      exact this⟩
    exact ⟨z0, z1, z2⟩
   ·rintro ⟨z0, z1, z2⟩
    rw [if_pos z0] at b0
    obtain ⟨a1, b1⟩ := y1 _ b0
    rw [if_pos z1] at b1
    obtain ⟨a2, b2⟩ := y2 _ b1
    obtain ⟨w, d, s, _, c0⟩ := a0.1 z0
    have c1 := (a1.1 z1).c 1 k1 h11
    have c2 := (a2.1 z2).c 2 k2 h22
    unfold condK at c1 c2
    rw [onK_end k1, h01, if_neg (by decide), (onO_b _ _ _).1] at c1
    rw [onK_end k2, h12, if_neg (by decide), onK_end k2, h02, if_neg (by decide), (onO_b _ _ _).1, (onO_b _ _ _).1] at c2
    refine a.2 ⟨w, d, s, by decide, fun k hk _ => ?_⟩
    rcases hk with rfl | rfl | rfl
    ·exact c0 0 k0 h00
    ·exact c1
    ·exact c2
  refine ⟨key, fun he => ?_⟩
  obtain ⟨z0, z1, z2⟩ := key.1 he
  obtain ⟨w, d, s, _, cc⟩ := a.1 he
  rw [if_pos z0] at b0
  obtain ⟨a1, b1⟩ := y1 _ b0
  rw [if_pos z1] at b1
  obtain ⟨a2, b2⟩ := y2 _ b1
  rw [if_pos z2] at b2
  rw [if_pos he] at b
  have hst : ∀ o : Og, o.state = 0 → (endR by_ to day o).state = 0 ∧ (endR by_ to day o).holder = to := fun o ho => by
   obtain ⟨_, _, _⟩ := o
   exact ⟨ho, rfl⟩
  have g1 : fullM L' bill to = true := (full_iff b).2 ⟨by rw [(onO_b _ _ _).2]; exact s, fun k hk => by rw [onK_end hk, if_pos (hm k)]; exact hst _ (cc k hk (hm k)).1⟩
  refine ⟨(full_iff hl).2 ⟨s, fun k hk => ⟨(cc k hk (hm k)).1, (cc k hk (hm k)).2.1⟩⟩, g1, (full_iff b2).2 ⟨by rw [(onO_b _ _ _).2, (onO_b _ _ _).2, (onO_b _ _ _).2]; exact s, fun k hk => ?_⟩, ?_⟩
  ·rcases hk with rfl | rfl | rfl
   ·rw [onK_end k0, h20, if_neg (by decide), onK_end k0, h10, if_neg (by decide), onK_end k0, if_pos h00]
    exact hst _ (cc 0 k0 (hm 0)).1
   ·rw [onK_end k1, h21, if_neg (by decide), onK_end k1, if_pos h11, onK_end k1, h01, if_neg (by decide)]
    exact hst _ (cc 1 k1 (hm 1)).1
   ·rw [onK_end k2, if_pos h22, onK_end k2, h12, if_neg (by decide), onK_end k2, h02, if_neg (by decide)]
    exact hst _ (cc 2 k2 (hm 2)).1
  ·cases hf : fullM L' bill by_ with
   | false => rfl
   | true =>
    have q1 := ((full_iff b).1 hf).2 0 k0
    have q2 := ((full_iff b).1 g1).2 0 k0
    exact absurd (q2.2.symm.trans q1.2) (wrongE_no w).2
end Go.Proofs.YtjnmaicofgjplaaGreatDoor
namespace Go.Proofs.YtjnmaicofgjplaaGreatDoor
open Go.RowKit
set_option maxHeartbeats 4000000
set_option maxRecDepth 100000
structure AllI where
 l : List At
 bill : ByteArray
 by_ : ByteArray
 to : ByteArray
 day : Int
noncomputable def AllC : Ctr := spec (fun i : AllI => [.sl 15 (mapA AtA i.l), .str i.bill, .str i.by_, .str i.to, .i i.day]) (fun _ => []) (fun i => InL i.l ∧ sz47 i.bill ∧ sz47 i.by_ ∧ sz47 i.to) (fun _ => .bl true) fun _ => []
theorem brOk_ch {c : ByteArray} {L : List Br} (h : ∀ b ∈ L, BrOk 45 c b) : ∀ b ∈ L, chOk b := fun b hb => ⟨Nat.le_trans (h b hb).h0.len (by decide), Nat.le_trans (h b hb).h1.len (by decide), Nat.le_trans (h b hb).h2.len (by decide)⟩
theorem all_body (P : Program) (haw : FnOk P 12 AwakeC) (hri : FnOk P 13 RightC) (hpl : FnOk P 14 PlayC) (hcp : FnOk P 31 CopyC) (hend : FnOk P 18 EndorseC) (hfull : FnOk P 32 FullC) : BodyOk P x6 AllC := by
 intro args H K hc; obtain ⟨⟨l, bill, by_, to, day⟩, rfl, rfl, hp, hK⟩ := hc; refine ⟨Nat.le_of_ble_eq_true rfl, ?_⟩; dsimp only at hp hK ⊢
 obtain ⟨⟨hlen, hgd⟩, hs1, hs2, hs3⟩ := hp
 unfold sz47 at hs1 hs2 hs3
 obtain ⟨q, hq⟩ : ∃ q, q = rightB l := ⟨_, rfl⟩
 cbv
 (refine callG_spec0 haw () trivial rfl rfl rfl ?_; try dsimp only)
 cbv
 (refine callG_spec0 hri l ⟨hlen, hgd⟩ rfl rfl rfl ?_; try dsimp only)
 rw [← hq]
 cases q with
 | false =>
  cbv
  (refine FinK.mk ⟨_, Gh.refl _, ?_⟩; cbv; exact .inl (CutK.pre _ (by rfl) (by exact Nat.le_of_ble_eq_true rfl) (by rfl) (by rfl) (Le.refl _) (LeH.refl _) hK))
 | true =>
 have hr := rightB_of hq.symm
 clear hq
 cbv; repeat' ((first | refine .mk (fun h => ?_) fun h => ?_ | refine .k fun z hz => ?_ | fail) <;> cbv)
 ·(refine FinK.mk ⟨_, Gh.refl _, ?_⟩; cbv; exact .inl (CutK.pre _ (by rfl) (by exact Nat.le_of_ble_eq_true rfl) (by rfl) (by rfl) (Le.refl _) (LeH.refl _) hK))
 have hinv := play_inv hr l.length
 rw [List.take_length] at hinv
 obtain ⟨⟨c, L⟩, hR⟩ : ∃ R, R = playM l := ⟨_, rfl⟩
 (refine callG_new hpl l ⟨hr, hgd⟩ rfl rfl ?_; try dsimp only)
 rw [← hR]
 rw [← hR] at hinv
 clear hR
 cbv
 refine callG_specN hcp (⟨c, L⟩ : Rg) [0, 1] ⟨hinv.few, hinv.inB (by decide), hinv.nd⟩ rfl rfl (by decide) rfl rfl rfl rfl rfl ?_
 intro C hperm
 dsimp only at hperm ⊢
 have hchL : ∀ b ∈ L, chOk b := fun b hb => (hinv.inB (by decide) b hb).1
 obtain ⟨L1, L2, L3, L', e0, e1, e2, e, ⟨a0, d0⟩, ⟨a1, d1⟩, ⟨a2, d2⟩, ⟨a9, d9⟩, kC, k1, k2, k3, k9, hiff, hfu⟩ := all_law hinv hperm bill by_ to day
 have hcC := brOk_ch kC
 have hc1 := brOk_ch k1
 have hc2 := brOk_ch k2
 have hc3 := brOk_ch k3
 have hc9 := brOk_ch k9
 clear kC k1 k2 k3 k9 hperm hinv
 obtain ⟨b1, hb1⟩ : ∃ b, b = decide (e0 = 0) := ⟨_, rfl⟩
 obtain ⟨b2, hb2⟩ : ∃ b, b = (b1 && decide (e1 = 0)) := ⟨_, rfl⟩
 obtain ⟨b3, hb3⟩ : ∃ b, b = (b2 && decide (e2 = 0)) := ⟨_, rfl⟩
 have hb : e = 0 ↔ b3 = true := by rw [hiff, hb3, hb2, hb1]; simp [and_assoc]
 clear hiff
 cbv
 refine xloopV [] (fun q : { k : Nat // k ≤ 3 } => [(15, .i (nI q.1)), (14, .bl (pick4 q.1 true b1 b2 b3))]) (fun q => [.blk 80 [.str c, .ph 1], .pool 78 (mapA PelA L) [], .blk 28 [.str c, .sl 11 (mapA RbA L)], .blk 80 [.str c, .ph 4], .pool 78 (mapA PelA (pick4 q.1 C L1 L2 L3)) []]) (fun q => lft 3 q.1) ⟨0, by decide⟩ ?_
 rintro ⟨k, hk⟩
 dsimp only at hk ⊢
 have hk4 : k = 0 ∨ k = 1 ∨ k = 2 ∨ k = 3 := by omega
 rcases hk4 with rfl | rfl | rfl | rfl
 ·cbv; repeat' ((first | refine .y fun h => ?_ | fail) <;> cbv)
  (refine callG_spec hend ((⟨c, C⟩ : Rg), (⟨bill, 0, -1, by_, 0, day, true, wrongE by_ to⟩ : Ak), to) [3, 4] ⟨hcC, rfl, rfl, rfl, rfl⟩ rfl rfl (by decide) rfl rfl rfl rfl rfl ?_; try dsimp only)
  rw [a0, d0]
  cbv; repeat' ((first | refine .mk (fun h => ?_) fun h => ?_ | refine .k fun z hz => ?_ | fail) <;> cbv)
  all_goals
   obtain rfl : z = nI 1 := by ((try simp only [vn] at *) <;> omega)
   first | (have hq : b1 = true := by rw [hb1]; exact decide_eq_true (by assumption)) | (have hq : b1 = false := by rw [hb1]; exact decide_eq_false (by assumption))
   rw [← hq]
   exact roundV ⟨1, by decide⟩ (lft_lt (by decide))
 ·cbv; repeat' ((first | refine .y fun h => ?_ | fail) <;> cbv)
  (refine callG_spec hend ((⟨c, L1⟩ : Rg), (⟨bill, 1, -1, by_, 0, day, true, wrongE by_ to⟩ : Ak), to) [3, 4] ⟨hc1, rfl, rfl, rfl, rfl⟩ rfl rfl (by decide) rfl rfl rfl rfl rfl ?_; try dsimp only)
  rw [a1, d1]
  cbv; repeat' ((first | refine .mk (fun h => ?_) fun h => ?_ | refine .k fun z hz => ?_ | fail) <;> cbv)
  all_goals
   obtain rfl : z = nI 2 := by ((try simp only [vn] at *) <;> omega)
   first | (have hq : b2 = b1 := by rw [hb2, decide_eq_true (by assumption)]; exact Bool.and_true _) | (have hq : b2 = false := by rw [hb2, decide_eq_false (by assumption)]; exact Bool.and_false _)
   rw [← hq]
   exact roundV ⟨2, by decide⟩ (lft_lt (by decide))
 ·cbv; repeat' ((first | refine .y fun h => ?_ | fail) <;> cbv)
  (refine callG_spec hend ((⟨c, L2⟩ : Rg), (⟨bill, 2, -1, by_, 0, day, true, wrongE by_ to⟩ : Ak), to) [3, 4] ⟨hc2, rfl, rfl, rfl, rfl⟩ rfl rfl (by decide) rfl rfl rfl rfl rfl ?_; try dsimp only)
  rw [a2, d2]
  cbv; repeat' ((first | refine .mk (fun h => ?_) fun h => ?_ | refine .k fun z hz => ?_ | fail) <;> cbv)
  all_goals
   obtain rfl : z = nI 3 := by ((try simp only [vn] at *) <;> omega)
   first | (have hq : b3 = b2 := by rw [hb3, decide_eq_true (by assumption)]; exact Bool.and_true _) | (have hq : b3 = false := by rw [hb3, decide_eq_false (by assumption)]; exact Bool.and_false _)
   rw [← hq]
   exact roundV ⟨3, by decide⟩ (lft_lt (by decide))
 ·by_cases he : e = 0
  ·obtain ⟨f1, f2, f3, f4⟩ := hfu he
   obtain rfl : b3 = true := hb.1 he
   subst he
   cbv; repeat' ((first | refine .n fun h => ?_ | fail) <;> cbv)
   (refine callG_spec hfull ((⟨c, L⟩ : Rg), bill, by_) [0, 1] hchL rfl rfl (by decide) rfl rfl rfl rfl rfl ?_; try dsimp only)
   rw [f1]
   cbv
   (refine callG_spec hend ((⟨c, L⟩ : Rg), (⟨bill, -1, -1, by_, 0, day, true, wrongE by_ to⟩ : Ak), to) [0, 1] ⟨hchL, rfl, rfl, rfl, rfl⟩ rfl rfl (by decide) rfl rfl rfl rfl rfl ?_; try dsimp only)
   rw [a9, d9]
   cbv; repeat' ((first | refine .y fun h => ?_ | fail) <;> cbv)
   (refine callG_spec hfull ((⟨c, L'⟩ : Rg), bill, to) [0, 1] hc9 rfl rfl (by decide) rfl rfl rfl rfl rfl ?_; try dsimp only)
   rw [f2]
   cbv
   (refine callG_spec hfull ((⟨c, L3⟩ : Rg), bill, to) [3, 4] hc3 rfl rfl (by decide) rfl rfl rfl rfl rfl ?_; try dsimp only)
   rw [f3]
   cbv
   (refine callG_spec hfull ((⟨c, L'⟩ : Rg), bill, by_) [0, 1] hc9 rfl rfl (by decide) rfl rfl rfl rfl rfl ?_; try dsimp only)
   rw [f4]
   cbv
   (refine FinK.mk ⟨_, Gh.refl _, ?_⟩; cbv; exact .inl (CutK.pre _ (by rfl) (by exact Nat.le_of_ble_eq_true rfl) (by rfl) (by rfl) (Le.refl _) (LeH.refl _) hK))
  ·obtain rfl : b3 = false := by
    cases b3 with
    | false => rfl
    | true => exact absurd (hb.2 rfl) he
   obtain ⟨w, hw⟩ : ∃ w, w = fullM L bill by_ := ⟨_, rfl⟩
   cbv; repeat' ((first | refine .n fun h => ?_ | fail) <;> cbv)
   (refine callG_spec hfull ((⟨c, L⟩ : Rg), bill, by_) [0, 1] hchL rfl rfl (by decide) rfl rfl rfl rfl rfl ?_; try dsimp only)
   rw [← hw]
   cbv
   (refine callG_spec hend ((⟨c, L⟩ : Rg), (⟨bill, -1, -1, by_, 0, day, true, wrongE by_ to⟩ : Ak), to) [0, 1] ⟨hchL, rfl, rfl, rfl, rfl⟩ rfl rfl (by decide) rfl rfl rfl rfl rfl ?_; try dsimp only)
   rw [a9, d9]
   cbv; repeat' ((first | refine .n fun h => ?_ | refine .y fun h => ?_ | fail) <;> cbv)
   all_goals first | contradiction | skip
   (refine FinK.mk ⟨_, Gh.refl _, ?_⟩; cbv; exact .inl (CutK.pre _ (by rfl) (by exact Nat.le_of_ble_eq_true rfl) (by rfl) (by rfl) (Le.refl _) (LeH.refl _) hK))
end Go.Proofs.YtjnmaicofgjplaaGreatDoor
namespace Go.Proofs.YtjnmaicofgjplaaGreatDoor
open Go.RowKit
set_option maxRecDepth 100000
theorem k_all : FnOk Tryz.prog 6 AllC := body_ok (by kernel_rfl) (all_body _ k_awake k_right23 k_play k_copy k_endorse k_full)
end Go.Proofs.YtjnmaicofgjplaaGreatDoor
