/-
  Texts of this proof, joined: SG4, SG5, UJ, VO, UD.
-/
import Derived.Test.YtjnmaicofgjplaaGreatDoorJ5
import Derived.KernelRfl
import Derived.Deep.Slices
import Derived.Deep.Fields
import Derived.ChangeSame
import Derived.ProofKit
import Derived.OpenShut
import Derived.ChangeOld
import Derived.Below
set_option linter.unusedVariables false
set_option linter.unusedSimpArgs false
namespace Go.Proofs.YtjnmaicofgjplaaGreatDoor
open Go.RowKit
set_option maxHeartbeats 4000000
set_option maxRecDepth 100000
theorem rwrong4_body (P : Program) (hf : FnOk P 36 FindC) (hd : FnOk P 103 DayC) (hn : FnOk P 101 (StrC (fun s => s.size ≤ maxLen) nameB)) (hw : FnOk P 89 WhichC) (hu : FnOk P 104 UntilC) : BodyOk P x88 (RWrongK 4) := by
 intro args H K hc; obtain ⟨⟨⟨carrier, L⟩, a⟩, rfl, rfl, hp, hK⟩ := hc; refine ⟨Nat.le_of_ble_eq_true rfl, ?_⟩; dsimp only at hp hK ⊢
 obtain ⟨hkind, hp, hch, hto⟩ := hp
 obtain ⟨q, hq⟩ : ∃ q, q = askM L (akOf a) := ⟨_, rfl⟩
 obtain ⟨e, he⟩ : ∃ e, e = idxG (fun b : Br => decide (b.b.number = a.bill)) L := ⟨_, rfl⟩
 rw [← hq] at hK
 obtain ⟨q1, hq1⟩ : ∃ q, q = k1 (akOf a) := ⟨_, rfl⟩
 obtain ⟨q2, hq2⟩ : ∃ q, q = k2 (akOf a) := ⟨_, rfl⟩
 have hwo := which_ok (a := a)
 have hq1' := hq1
 rw [k1_at] at hq1'
 have hq2' := hq2
 rw [k2_at] at hq2'
 rw [← hq1] at hwo
 have hbill : (akOf a).bill = a.bill := rfl
 obtain ⟨ws, hws⟩ : ∃ ws, ws = whichM a := ⟨_, rfl⟩
 have hwl : (if a.kind = 5 ∨ (a.kind = 1 ∧ a.index = -1) then [AV.i 0, .i 1, .i 2] else [.i a.index]) = mapA iA ws := by
  rw [hws]
  unfold whichM
  split <;> rfl
 obtain ⟨ms, hms⟩ : ∃ ms, ms = mapA iA ws := ⟨_, rfl⟩
 rw [← hms] at hwl
 have hwlen : ws.length ≤ 3 := by
  rw [hws]
  unfold whichM
  split
  ·exact Nat.le_refl 3
  ·exact Nat.le_add_left 1 2
 rw [← hws] at hwo
 have hq0 : q = match bAt L a.bill with
  | some i => match L[i]? with
   | some b => askE b (akOf a)
   | none => 4
  | none => 4 := hq
 clear hq
 cases hb : bAt L a.bill with
 | none =>
  rw [idxG_b, hb] at he
  subst he
  rw [hb] at hq0
  dsimp only at hq0
  subst hq0
  obtain ⟨kind, index, day, bill, by_, to, b⟩ := a
  obtain rfl : kind = 4 := hkind
  obtain ⟨number1, carrier1, shipper1, frm1, to1, boxes1, parents1, issued1, clean1⟩ := b
  cbv
  (refine callG_spec0 hf ((⟨carrier, L⟩ : Rg), bill) (by dsimp only; omega) rfl rfl rfl ?_; try dsimp only)
  rw [idxG_b, hb]
  cbv; repeat' ((first | refine .y fun h => ?_ | fail) <;> cbv)
  exact FinK.mk ⟨_, Gh.refl _, .inl (CutK.val rfl (Le.refl _) (K_of hK (by rfl)))⟩
 | some i =>
  obtain ⟨x, hx, _⟩ := atS_some hb
  have he2 := he
  rw [idxG_b, hb] at he2
  rw [hb] at hq0
  dsimp only at hq0
  rw [hx] at hq0
  dsimp only at hq0
  have hc := hch x (List.mem_of_getElem? hx)
  have hae : askE x (akOf a) = if k1 (akOf a) then 3 else if k2 (akOf a) then 1 else if k3 x (akOf a) then 9 else if k4 x (akOf a) then 8 else if k5 x (akOf a) then 6 else 0 := rfl
  rw [hae, ← hq1, ← hq2] at hq0
  clear hae
  obtain ⟨w1, hw1⟩ : ∃ w, w = k3 x (akOf a) := ⟨_, rfl⟩
  obtain ⟨w2, hw2⟩ : ∃ w, w = k4 x (akOf a) := ⟨_, rfl⟩
  obtain ⟨w3, hw3⟩ : ∃ w, w = k5 x (akOf a) := ⟨_, rfl⟩
  rw [← hw1, ← hw2, ← hw3] at hq0
  have hww : q1 = false → w1 = ws.any (pw1 x (if a.kind = 4 then 3 else 0)) ∧ w2 = ws.any (pw2 x a.by_) ∧ w3 = ws.any (pw3 x a.kind a.day) := fun h => by
   rw [hq1] at h
   rw [hws, hw1, hw2, hw3]
   exact ⟨wrong_w1 h x, wrong_w2 h x, wrong_w3 h x⟩
  clear hw1 hw2 hw3
  obtain ⟨d5, hd5⟩ : ∃ d, d = dayB a.day := ⟨_, rfl⟩
  obtain ⟨n5, hn5⟩ : ∃ d, d = nameB a.to := ⟨_, rfl⟩
  unfold wrongE at hq2'
  rw [← hd5, ← hn5] at hq2'
  obtain ⟨kind, index, day, bill, by_, to, b⟩ := a
  obtain rfl : kind = 4 := hkind
  obtain ⟨number2, carrier2, shipper2, frm2, to2, boxes2, parents2, issued2, clean2⟩ := b
  dsimp only at hq1' hq2' hto he he2 hd5 hn5 hwl hww
  cbv
  (refine callG_spec0 hf ((⟨carrier, L⟩ : Rg), bill) (by dsimp only; omega) rfl rfl rfl ?_; try dsimp only)
  rw [← he, he2]
  cbv; repeat' ((first | refine .n fun h => ?_ | refine .mk (fun h => ?_) fun h => ?_ | fail) <;> cbv)
  all_goals try
   ((refine callG_spec0 hd day trivial rfl rfl rfl ?_; try dsimp only)
    rw [← hd5]
    cases d5 <;> (cbv; repeat' ((first | refine .e ?_ | refine .n fun h => ?_ | refine And.intro ?_ ?_ | fail) <;> cbv)))
  all_goals try
   ((refine callG_spec0 hn to hto rfl rfl rfl ?_; try dsimp only)
    rw [← hn5]
    cases n5 <;> (cbv))
  all_goals try
   (have f1 : q1 = true := by (rw [hq1']; exact decide_eq_true (by omega))
    (refine FinK.mk ⟨_, Gh.refl _, ?_⟩; cbv; exact .inl (CutK.pre _ (by rfl) (by exact Nat.le_of_ble_eq_true rfl) (by rfl) (by rfl) (Le.refl _) (LeH.refl _) (K_i hK (by rw [hq0, f1]; rfl))))
    done)
  all_goals have f1 : q1 = false := by (rw [hq1']; exact decide_eq_false (by omega))
  all_goals try
   (have f2 : q2 = true := by
     rw [hq2']
     first
      | (rw [decide_eq_false (by decide : ¬ (4 : Int) = 3)]; rfl)
      | (rw [decide_eq_true (by decide : (4 : Int) = 1)]; exact Bool.or_true _)
      | (rw [decide_eq_true (by decide : (4 : Int) = 1), decide_eq_true (by assumption : to = by_)]; exact Bool.or_true _)
    (refine FinK.mk ⟨_, Gh.refl _, ?_⟩; cbv; exact .inl (CutK.pre _ (by rfl) (by exact Nat.le_of_ble_eq_true rfl) (by rfl) (by rfl) (Le.refl _) (LeH.refl _) (K_i hK (by rw [hq0, f1, f2]; rfl))))
    done)
  all_goals
   (have f2 : q2 = false := by
     rw [hq2']
     first
      | (rw [decide_eq_true (by decide : (4 : Int) = 3), decide_eq_false (by decide : ¬ (4 : Int) = 1)]; rfl)
      | (rw [decide_eq_false (by decide : ¬ (4 : Int) = 3), decide_eq_false (by decide : ¬ (4 : Int) = 1)]; rfl)
      | (rw [decide_eq_false (by decide : ¬ (4 : Int) = 3), decide_eq_true (by decide : (4 : Int) = 1), decide_eq_false (by assumption : ¬ to = by_)]; rfl)
    rw [f1, f2] at hq0)
  all_goals
   (have hwo := hwo f1
    (refine callG_spec0 hw (⟨4, index, day, bill, by_, to, ⟨number2, carrier2, shipper2, frm2, to2, boxes2, parents2, issued2, clean2⟩⟩ : At) trivial rfl rfl rfl ?_; try dsimp only)
    rw [hwl, hms]
    obtain ⟨g1, g2, g3⟩ := hww f1
    obtain ⟨sv, hsv⟩ : ∃ sv : Int, sv = if (4 : Int) = 4 then 3 else 0 := ⟨_, rfl⟩
    rw [← hsv] at g1)
  all_goals
   (rw [if_pos rfl] at hsv
    obtain ⟨⟨number1, carrier1, shipper1, frm1, to1, boxes1, parents1, issued1, clean1⟩, st1, ⟨sa1, ha1, ca1⟩, ⟨sb1, hb1, cb1⟩, ⟨sc1, hc1, cc1⟩⟩ := x
    obtain ⟨P1, hP1⟩ : ∃ p, p = pw1 ⟨⟨number1, carrier1, shipper1, frm1, to1, boxes1, parents1, issued1, clean1⟩, st1, ⟨sa1, ha1, ca1⟩, ⟨sb1, hb1, cb1⟩, ⟨sc1, hc1, cc1⟩⟩ sv := ⟨_, rfl⟩
    obtain ⟨P2, hP2⟩ : ∃ p, p = pw2 ⟨⟨number1, carrier1, shipper1, frm1, to1, boxes1, parents1, issued1, clean1⟩, st1, ⟨sa1, ha1, ca1⟩, ⟨sb1, hb1, cb1⟩, ⟨sc1, hc1, cc1⟩⟩ by_ := ⟨_, rfl⟩
    obtain ⟨P3, hP3⟩ : ∃ p, p = pw3 ⟨⟨number1, carrier1, shipper1, frm1, to1, boxes1, parents1, issued1, clean1⟩, st1, ⟨sa1, ha1, ca1⟩, ⟨sb1, hb1, cb1⟩, ⟨sc1, hc1, cc1⟩⟩ (4 : Int) day := ⟨_, rfl⟩
    rw [← hP1] at g1
    rw [← hP2] at g2
    rw [← hP3] at g3
    obtain ⟨v0, hv0⟩ : ∃ v, v = lastM ⟨sa1, ha1, ca1⟩ issued1 := ⟨_, rfl⟩
    have a0 : P1 0 = (!decide (st1 = 0) || !decide (sa1 = sv)) := by rw [hP1]; rfl
    have b0 : P2 0 = (!decide (ha1 = by_)) := by rw [hP2]; rfl
    have c0 : P3 0 = (!decide ((4 : Int) = 3) && decide (day < v0)) := by rw [hP3, hv0]; rfl
    obtain ⟨v1, hv1⟩ : ∃ v, v = lastM ⟨sb1, hb1, cb1⟩ issued1 := ⟨_, rfl⟩
    have a1 : P1 1 = (!decide (st1 = 0) || !decide (sb1 = sv)) := by rw [hP1]; rfl
    have b1 : P2 1 = (!decide (hb1 = by_)) := by rw [hP2]; rfl
    have c1 : P3 1 = (!decide ((4 : Int) = 3) && decide (day < v1)) := by rw [hP3, hv1]; rfl
    obtain ⟨v2, hv2⟩ : ∃ v, v = lastM ⟨sc1, hc1, cc1⟩ issued1 := ⟨_, rfl⟩
    have a2 : P1 2 = (!decide (st1 = 0) || !decide (sc1 = sv)) := by rw [hP1]; rfl
    have b2 : P2 2 = (!decide (hc1 = by_)) := by rw [hP2]; rfl
    have c2 : P3 2 = (!decide ((4 : Int) = 3) && decide (day < v2)) := by rw [hP3, hv2]; rfl
    have aP : ∀ k, P1 k = (!decide (st1 = 0) || !decide ((onK k ⟨⟨number1, carrier1, shipper1, frm1, to1, boxes1, parents1, issued1, clean1⟩, st1, ⟨sa1, ha1, ca1⟩, ⟨sb1, hb1, cb1⟩, ⟨sc1, hc1, cc1⟩⟩).state = sv)) := fun k => by rw [hP1]; rfl
    clear hP1 hP2 hP3
    subst hsv
    cbv; repeat' ((first | refine .y fun h => ?_ | fail) <;> cbv)
    refine xloopV [] (fun q : { j : Nat // j ≤ ws.length ∧ NoneG P1 ws j } => [(9, .i (nI q.1))]) (fun q => [.blk 28 [.str carrier, .sl 11 (mapA RbA L)], .blk 38 (AtL ⟨(4 : Int), index, day, bill, by_, to, ⟨number2, carrier2, shipper2, frm2, to2, boxes2, parents2, issued2, clean2⟩⟩), .blk 110 (RbL ⟨⟨number1, carrier1, shipper1, frm1, to1, boxes1, parents1, issued1, clean1⟩, st1, ⟨sa1, ha1, ca1⟩, ⟨sb1, hb1, cb1⟩, ⟨sc1, hc1, cc1⟩⟩)]) (fun q => lft 4 q.1) ⟨0, Nat.zero_le _, .zero⟩ ?_
    rintro ⟨j1, hj1, hn1⟩
    dsimp only at hj1 hn1 ⊢
    cbv; repeat' ((first | refine .mk (fun h => ?_) fun h => ?_ | refine .k fun z hz => ?_ | fail) <;> cbv)
    ·refine askEl_int (by ((try simp only [vn] at *) <;> omega)) (by ((try simp only [vn] at *) <;> omega)) fun i l hi hl => ?_
     obtain rfl : j1 = i := by ((try simp only [vn] at *) <;> omega)
     rcases hwo l (List.mem_of_getElem? hl) with rfl | rfl | rfl
     ·cbv; repeat' ((first | refine .mk (fun h => ?_) fun h => ?_ | refine .k fun z hz => ?_ | refine AskEl.i0 ?_ | fail) <;> cbv)
      ·have e : P1 0 = false := by rw [a0, decide_eq_true (by assumption : st1 = 0), decide_eq_true (by assumption : sa1 = _)]; rfl
       obtain rfl : z = nI (j1 + 1) := by ((try simp only [vn] at *) <;> omega)
       exact roundV ⟨j1 + 1, by ((try simp only [vn] at *) <;> omega), hn1.succ hl e⟩ (lft_lt (by ((try simp only [vn] at *) <;> omega)))
      ·have e : P1 0 = true := by rw [a0, decide_eq_false (by assumption : ¬ sa1 = _)]; exact Bool.or_true _
       (refine FinK.mk ⟨_, Gh.refl _, ?_⟩; cbv; exact .inl (CutK.pre _ (by rfl) (by exact Nat.le_of_ble_eq_true rfl) (by rfl) (by rfl) (Le.refl _) (LeH.refl _) (K_i hK (by rw [hq0, g1.trans (any_at hl e)]; rfl))))
     ·cbv; repeat' ((first | refine .mk (fun h => ?_) fun h => ?_ | refine .k fun z hz => ?_ | refine AskEl.i1 ?_ | fail) <;> cbv)
      ·have e : P1 1 = false := by rw [a1, decide_eq_true (by assumption : st1 = 0), decide_eq_true (by assumption : sb1 = _)]; rfl
       obtain rfl : z = nI (j1 + 1) := by ((try simp only [vn] at *) <;> omega)
       exact roundV ⟨j1 + 1, by ((try simp only [vn] at *) <;> omega), hn1.succ hl e⟩ (lft_lt (by ((try simp only [vn] at *) <;> omega)))
      ·have e : P1 1 = true := by rw [a1, decide_eq_false (by assumption : ¬ sb1 = _)]; exact Bool.or_true _
       (refine FinK.mk ⟨_, Gh.refl _, ?_⟩; cbv; exact .inl (CutK.pre _ (by rfl) (by exact Nat.le_of_ble_eq_true rfl) (by rfl) (by rfl) (Le.refl _) (LeH.refl _) (K_i hK (by rw [hq0, g1.trans (any_at hl e)]; rfl))))
     ·cbv; repeat' ((first | refine .mk (fun h => ?_) fun h => ?_ | refine .k fun z hz => ?_ | refine AskEl.i2 ?_ | fail) <;> cbv)
      ·have e : P1 2 = false := by rw [a2, decide_eq_true (by assumption : st1 = 0), decide_eq_true (by assumption : sc1 = _)]; rfl
       obtain rfl : z = nI (j1 + 1) := by ((try simp only [vn] at *) <;> omega)
       exact roundV ⟨j1 + 1, by ((try simp only [vn] at *) <;> omega), hn1.succ hl e⟩ (lft_lt (by ((try simp only [vn] at *) <;> omega)))
      ·have e : P1 2 = true := by rw [a2, decide_eq_false (by assumption : ¬ sc1 = _)]; exact Bool.or_true _
       (refine FinK.mk ⟨_, Gh.refl _, ?_⟩; cbv; exact .inl (CutK.pre _ (by rfl) (by exact Nat.le_of_ble_eq_true rfl) (by rfl) (by rfl) (Le.refl _) (LeH.refl _) (K_i hK (by rw [hq0, g1.trans (any_at hl e)]; rfl))))
    ·obtain ⟨l, hl⟩ := some_at (L := ws) (i := j1) (by ((try simp only [vn] at *) <;> omega))
     have e : P1 l = true := by rw [aP, decide_eq_false (by assumption : ¬ st1 = 0)]; rfl
     (refine FinK.mk ⟨_, Gh.refl _, ?_⟩; cbv; exact .inl (CutK.pre _ (by rfl) (by exact Nat.le_of_ble_eq_true rfl) (by rfl) (by rfl) (Le.refl _) (LeH.refl _) (K_i hK (by rw [hq0, g1.trans (any_at hl e)]; rfl))))
    ·have ej1 : j1 = ws.length := by ((try simp only [vn] at *) <;> omega)
     rw [ej1] at hn1
     have f1 := g1.trans (any_none hn1)
     rw [f1] at hq0
     refine xloopV [] (fun q : { j : Nat // j ≤ ws.length ∧ NoneG P2 ws j } => [(10, .i (nI q.1))]) (fun q => [.blk 28 [.str carrier, .sl 11 (mapA RbA L)], .blk 38 (AtL ⟨(4 : Int), index, day, bill, by_, to, ⟨number2, carrier2, shipper2, frm2, to2, boxes2, parents2, issued2, clean2⟩⟩), .blk 110 (RbL ⟨⟨number1, carrier1, shipper1, frm1, to1, boxes1, parents1, issued1, clean1⟩, st1, ⟨sa1, ha1, ca1⟩, ⟨sb1, hb1, cb1⟩, ⟨sc1, hc1, cc1⟩⟩)]) (fun q => lft 4 q.1) ⟨0, Nat.zero_le _, .zero⟩ ?_
     rintro ⟨j2, hj2, hn2⟩
     dsimp only at hj2 hn2 ⊢
     cbv; repeat' ((first | refine .mk (fun h => ?_) fun h => ?_ | refine .k fun z hz => ?_ | fail) <;> cbv)
     rotate_left
     ·have ej2 : j2 = ws.length := by ((try simp only [vn] at *) <;> omega)
      rw [ej2] at hn2
      have f2 := g2.trans (any_none hn2)
      rw [f2] at hq0
      refine xloopV [] (fun q : { j : Nat // j ≤ ws.length ∧ NoneG P3 ws j } => [(11, .i (nI q.1))]) (fun q => [.blk 28 [.str carrier, .sl 11 (mapA RbA L)], .blk 38 (AtL ⟨(4 : Int), index, day, bill, by_, to, ⟨number2, carrier2, shipper2, frm2, to2, boxes2, parents2, issued2, clean2⟩⟩), .blk 110 (RbL ⟨⟨number1, carrier1, shipper1, frm1, to1, boxes1, parents1, issued1, clean1⟩, st1, ⟨sa1, ha1, ca1⟩, ⟨sb1, hb1, cb1⟩, ⟨sc1, hc1, cc1⟩⟩)]) (fun q => lft 4 q.1) ⟨0, Nat.zero_le _, .zero⟩ ?_
      rintro ⟨j3, hj3, hn3⟩
      dsimp only at hj3 hn3 ⊢
      cbv; repeat' ((first | refine .n fun h => ?_ | refine .mk (fun h => ?_) fun h => ?_ | refine .k fun z hz => ?_ | fail) <;> cbv)
      rotate_left
      ·have ej3 : j3 = ws.length := by ((try simp only [vn] at *) <;> omega)
       rw [ej3] at hn3
       have f3 := g3.trans (any_none hn3)
       rw [f3] at hq0
       (refine FinK.mk ⟨_, Gh.refl _, ?_⟩; cbv; exact .inl (CutK.pre _ (by rfl) (by exact Nat.le_of_ble_eq_true rfl) (by rfl) (by rfl) (Le.refl _) (LeH.refl _) (K_i hK (by rw [hq0]; rfl))))
      ·refine askEl_int (by ((try simp only [vn] at *) <;> omega)) (by ((try simp only [vn] at *) <;> omega)) fun i l hi hl => ?_
       obtain rfl : j3 = i := by ((try simp only [vn] at *) <;> omega)
       rcases hwo l (List.mem_of_getElem? hl) with rfl | rfl | rfl
       ·have e3 : ¬ (4 : Int) = 3 := by decide
        cbv
        (refine callG_spec0 hu ((⟨⟨number1, carrier1, shipper1, frm1, to1, boxes1, parents1, issued1, clean1⟩, st1, ⟨sa1, ha1, ca1⟩, ⟨sb1, hb1, cb1⟩, ⟨sc1, hc1, cc1⟩⟩ : Br), 0) ⟨.inl rfl, hc⟩ rfl rfl rfl ?_; try dsimp only)
        have ev : lastM (onK 0 ⟨⟨number1, carrier1, shipper1, frm1, to1, boxes1, parents1, issued1, clean1⟩, st1, ⟨sa1, ha1, ca1⟩, ⟨sb1, hb1, cb1⟩, ⟨sc1, hc1, cc1⟩⟩) issued1 = v0 := hv0.symm
        rw [ev]
        cbv; repeat' ((first | refine .mk (fun h => ?_) fun h => ?_ | refine .k fun z hz => ?_ | fail) <;> cbv)
        ·have e : P3 0 = true := by rw [c0, decide_eq_false e3, decide_eq_true (by assumption : day < v0)]; rfl
         (refine FinK.mk ⟨_, Gh.refl _, ?_⟩; cbv; exact .inl (CutK.pre _ (by rfl) (by exact Nat.le_of_ble_eq_true rfl) (by rfl) (by rfl) (Le.refl _) (LeH.refl _) (K_i hK (by rw [hq0, g3.trans (any_at hl e)]; rfl))))
        ·have e : P3 0 = false := by rw [c0, decide_eq_false (by omega : ¬ day < v0)]; exact Bool.and_false _
         obtain rfl : z = nI (j3 + 1) := by ((try simp only [vn] at *) <;> omega)
         exact roundV ⟨j3 + 1, by ((try simp only [vn] at *) <;> omega), hn3.succ hl e⟩ (lft_lt (by ((try simp only [vn] at *) <;> omega)))
       ·have e3 : ¬ (4 : Int) = 3 := by decide
        cbv
        (refine callG_spec0 hu ((⟨⟨number1, carrier1, shipper1, frm1, to1, boxes1, parents1, issued1, clean1⟩, st1, ⟨sa1, ha1, ca1⟩, ⟨sb1, hb1, cb1⟩, ⟨sc1, hc1, cc1⟩⟩ : Br), 1) ⟨.inr (.inl rfl), hc⟩ rfl rfl rfl ?_; try dsimp only)
        have ev : lastM (onK 1 ⟨⟨number1, carrier1, shipper1, frm1, to1, boxes1, parents1, issued1, clean1⟩, st1, ⟨sa1, ha1, ca1⟩, ⟨sb1, hb1, cb1⟩, ⟨sc1, hc1, cc1⟩⟩) issued1 = v1 := hv1.symm
        rw [ev]
        cbv; repeat' ((first | refine .mk (fun h => ?_) fun h => ?_ | refine .k fun z hz => ?_ | fail) <;> cbv)
        ·have e : P3 1 = true := by rw [c1, decide_eq_false e3, decide_eq_true (by assumption : day < v1)]; rfl
         (refine FinK.mk ⟨_, Gh.refl _, ?_⟩; cbv; exact .inl (CutK.pre _ (by rfl) (by exact Nat.le_of_ble_eq_true rfl) (by rfl) (by rfl) (Le.refl _) (LeH.refl _) (K_i hK (by rw [hq0, g3.trans (any_at hl e)]; rfl))))
        ·have e : P3 1 = false := by rw [c1, decide_eq_false (by omega : ¬ day < v1)]; exact Bool.and_false _
         obtain rfl : z = nI (j3 + 1) := by ((try simp only [vn] at *) <;> omega)
         exact roundV ⟨j3 + 1, by ((try simp only [vn] at *) <;> omega), hn3.succ hl e⟩ (lft_lt (by ((try simp only [vn] at *) <;> omega)))
       ·have e3 : ¬ (4 : Int) = 3 := by decide
        cbv
        (refine callG_spec0 hu ((⟨⟨number1, carrier1, shipper1, frm1, to1, boxes1, parents1, issued1, clean1⟩, st1, ⟨sa1, ha1, ca1⟩, ⟨sb1, hb1, cb1⟩, ⟨sc1, hc1, cc1⟩⟩ : Br), 2) ⟨.inr (.inr rfl), hc⟩ rfl rfl rfl ?_; try dsimp only)
        have ev : lastM (onK 2 ⟨⟨number1, carrier1, shipper1, frm1, to1, boxes1, parents1, issued1, clean1⟩, st1, ⟨sa1, ha1, ca1⟩, ⟨sb1, hb1, cb1⟩, ⟨sc1, hc1, cc1⟩⟩) issued1 = v2 := hv2.symm
        rw [ev]
        cbv; repeat' ((first | refine .mk (fun h => ?_) fun h => ?_ | refine .k fun z hz => ?_ | fail) <;> cbv)
        ·have e : P3 2 = true := by rw [c2, decide_eq_false e3, decide_eq_true (by assumption : day < v2)]; rfl
         (refine FinK.mk ⟨_, Gh.refl _, ?_⟩; cbv; exact .inl (CutK.pre _ (by rfl) (by exact Nat.le_of_ble_eq_true rfl) (by rfl) (by rfl) (Le.refl _) (LeH.refl _) (K_i hK (by rw [hq0, g3.trans (any_at hl e)]; rfl))))
        ·have e : P3 2 = false := by rw [c2, decide_eq_false (by omega : ¬ day < v2)]; exact Bool.and_false _
         obtain rfl : z = nI (j3 + 1) := by ((try simp only [vn] at *) <;> omega)
         exact roundV ⟨j3 + 1, by ((try simp only [vn] at *) <;> omega), hn3.succ hl e⟩ (lft_lt (by ((try simp only [vn] at *) <;> omega)))
     ·refine askEl_int (by ((try simp only [vn] at *) <;> omega)) (by ((try simp only [vn] at *) <;> omega)) fun i l hi hl => ?_
      obtain rfl : j2 = i := by ((try simp only [vn] at *) <;> omega)
      rcases hwo l (List.mem_of_getElem? hl) with rfl | rfl | rfl
      ·cbv; repeat' ((first | refine .mk (fun h => ?_) fun h => ?_ | refine .k fun z hz => ?_ | refine AskEl.i0 ?_ | fail) <;> cbv)
       ·have e : P2 0 = false := by rw [b0, decide_eq_true (by assumption : ha1 = by_)]; rfl
        obtain rfl : z = nI (j2 + 1) := by ((try simp only [vn] at *) <;> omega)
        exact roundV ⟨j2 + 1, by ((try simp only [vn] at *) <;> omega), hn2.succ hl e⟩ (lft_lt (by ((try simp only [vn] at *) <;> omega)))
       ·have e : P2 0 = true := by rw [b0, decide_eq_false (by assumption : ¬ ha1 = by_)]; rfl
        (refine FinK.mk ⟨_, Gh.refl _, ?_⟩; cbv; exact .inl (CutK.pre _ (by rfl) (by exact Nat.le_of_ble_eq_true rfl) (by rfl) (by rfl) (Le.refl _) (LeH.refl _) (K_i hK (by rw [hq0, g2.trans (any_at hl e)]; rfl))))
      ·cbv; repeat' ((first | refine .mk (fun h => ?_) fun h => ?_ | refine .k fun z hz => ?_ | refine AskEl.i1 ?_ | fail) <;> cbv)
       ·have e : P2 1 = false := by rw [b1, decide_eq_true (by assumption : hb1 = by_)]; rfl
        obtain rfl : z = nI (j2 + 1) := by ((try simp only [vn] at *) <;> omega)
        exact roundV ⟨j2 + 1, by ((try simp only [vn] at *) <;> omega), hn2.succ hl e⟩ (lft_lt (by ((try simp only [vn] at *) <;> omega)))
       ·have e : P2 1 = true := by rw [b1, decide_eq_false (by assumption : ¬ hb1 = by_)]; rfl
        (refine FinK.mk ⟨_, Gh.refl _, ?_⟩; cbv; exact .inl (CutK.pre _ (by rfl) (by exact Nat.le_of_ble_eq_true rfl) (by rfl) (by rfl) (Le.refl _) (LeH.refl _) (K_i hK (by rw [hq0, g2.trans (any_at hl e)]; rfl))))
      ·cbv; repeat' ((first | refine .mk (fun h => ?_) fun h => ?_ | refine .k fun z hz => ?_ | refine AskEl.i2 ?_ | fail) <;> cbv)
       ·have e : P2 2 = false := by rw [b2, decide_eq_true (by assumption : hc1 = by_)]; rfl
        obtain rfl : z = nI (j2 + 1) := by ((try simp only [vn] at *) <;> omega)
        exact roundV ⟨j2 + 1, by ((try simp only [vn] at *) <;> omega), hn2.succ hl e⟩ (lft_lt (by ((try simp only [vn] at *) <;> omega)))
       ·have e : P2 2 = true := by rw [b2, decide_eq_false (by assumption : ¬ hc1 = by_)]; rfl
        (refine FinK.mk ⟨_, Gh.refl _, ?_⟩; cbv; exact .inl (CutK.pre _ (by rfl) (by exact Nat.le_of_ble_eq_true rfl) (by rfl) (by rfl) (Le.refl _) (LeH.refl _) (K_i hK (by rw [hq0, g2.trans (any_at hl e)]; rfl)))))
end Go.Proofs.YtjnmaicofgjplaaGreatDoor
namespace Go.Proofs.YtjnmaicofgjplaaGreatDoor
open Go.RowKit
set_option maxHeartbeats 4000000
set_option maxRecDepth 100000
theorem rwrong5_body (P : Program) (hf : FnOk P 36 FindC) (hd : FnOk P 103 DayC) (hn : FnOk P 101 (StrC (fun s => s.size ≤ maxLen) nameB)) (hw : FnOk P 89 WhichC) (hu : FnOk P 104 UntilC) : BodyOk P x88 (RWrongK 5) := by
 intro args H K hc; obtain ⟨⟨⟨carrier, L⟩, a⟩, rfl, rfl, hp, hK⟩ := hc; refine ⟨Nat.le_of_ble_eq_true rfl, ?_⟩; dsimp only at hp hK ⊢
 obtain ⟨hkind, hp, hch, hto⟩ := hp
 obtain ⟨q, hq⟩ : ∃ q, q = askM L (akOf a) := ⟨_, rfl⟩
 obtain ⟨e, he⟩ : ∃ e, e = idxG (fun b : Br => decide (b.b.number = a.bill)) L := ⟨_, rfl⟩
 rw [← hq] at hK
 obtain ⟨q1, hq1⟩ : ∃ q, q = k1 (akOf a) := ⟨_, rfl⟩
 obtain ⟨q2, hq2⟩ : ∃ q, q = k2 (akOf a) := ⟨_, rfl⟩
 have hwo := which_ok (a := a)
 have hq1' := hq1
 rw [k1_at] at hq1'
 have hq2' := hq2
 rw [k2_at] at hq2'
 rw [← hq1] at hwo
 have hbill : (akOf a).bill = a.bill := rfl
 obtain ⟨ws, hws⟩ : ∃ ws, ws = whichM a := ⟨_, rfl⟩
 have hwl : (if a.kind = 5 ∨ (a.kind = 1 ∧ a.index = -1) then [AV.i 0, .i 1, .i 2] else [.i a.index]) = mapA iA ws := by
  rw [hws]
  unfold whichM
  split <;> rfl
 obtain ⟨ms, hms⟩ : ∃ ms, ms = mapA iA ws := ⟨_, rfl⟩
 rw [← hms] at hwl
 have hwlen : ws.length ≤ 3 := by
  rw [hws]
  unfold whichM
  split
  ·exact Nat.le_refl 3
  ·exact Nat.le_add_left 1 2
 rw [← hws] at hwo
 have hq0 : q = match bAt L a.bill with
  | some i => match L[i]? with
   | some b => askE b (akOf a)
   | none => 4
  | none => 4 := hq
 clear hq
 cases hb : bAt L a.bill with
 | none =>
  rw [idxG_b, hb] at he
  subst he
  rw [hb] at hq0
  dsimp only at hq0
  subst hq0
  obtain ⟨kind, index, day, bill, by_, to, b⟩ := a
  obtain rfl : kind = 5 := hkind
  obtain ⟨number1, carrier1, shipper1, frm1, to1, boxes1, parents1, issued1, clean1⟩ := b
  cbv
  (refine callG_spec0 hf ((⟨carrier, L⟩ : Rg), bill) (by dsimp only; omega) rfl rfl rfl ?_; try dsimp only)
  rw [idxG_b, hb]
  cbv; repeat' ((first | refine .y fun h => ?_ | fail) <;> cbv)
  exact FinK.mk ⟨_, Gh.refl _, .inl (CutK.val rfl (Le.refl _) (K_of hK (by rfl)))⟩
 | some i =>
  obtain ⟨x, hx, _⟩ := atS_some hb
  have he2 := he
  rw [idxG_b, hb] at he2
  rw [hb] at hq0
  dsimp only at hq0
  rw [hx] at hq0
  dsimp only at hq0
  have hc := hch x (List.mem_of_getElem? hx)
  have hae : askE x (akOf a) = if k1 (akOf a) then 3 else if k2 (akOf a) then 1 else if k3 x (akOf a) then 9 else if k4 x (akOf a) then 8 else if k5 x (akOf a) then 6 else 0 := rfl
  rw [hae, ← hq1, ← hq2] at hq0
  clear hae
  obtain ⟨w1, hw1⟩ : ∃ w, w = k3 x (akOf a) := ⟨_, rfl⟩
  obtain ⟨w2, hw2⟩ : ∃ w, w = k4 x (akOf a) := ⟨_, rfl⟩
  obtain ⟨w3, hw3⟩ : ∃ w, w = k5 x (akOf a) := ⟨_, rfl⟩
  rw [← hw1, ← hw2, ← hw3] at hq0
  have hww : q1 = false → w1 = ws.any (pw1 x (if a.kind = 4 then 3 else 0)) ∧ w2 = ws.any (pw2 x a.by_) ∧ w3 = ws.any (pw3 x a.kind a.day) := fun h => by
   rw [hq1] at h
   rw [hws, hw1, hw2, hw3]
   exact ⟨wrong_w1 h x, wrong_w2 h x, wrong_w3 h x⟩
  clear hw1 hw2 hw3
  obtain ⟨d5, hd5⟩ : ∃ d, d = dayB a.day := ⟨_, rfl⟩
  obtain ⟨n5, hn5⟩ : ∃ d, d = nameB a.to := ⟨_, rfl⟩
  unfold wrongE at hq2'
  rw [← hd5, ← hn5] at hq2'
  obtain ⟨kind, index, day, bill, by_, to, b⟩ := a
  obtain rfl : kind = 5 := hkind
  obtain ⟨number2, carrier2, shipper2, frm2, to2, boxes2, parents2, issued2, clean2⟩ := b
  dsimp only at hq1' hq2' hto he he2 hd5 hn5 hwl hww
  cbv
  (refine callG_spec0 hf ((⟨carrier, L⟩ : Rg), bill) (by dsimp only; omega) rfl rfl rfl ?_; try dsimp only)
  rw [← he, he2]
  cbv; repeat' ((first | refine .n fun h => ?_ | refine .y fun h => ?_ | fail) <;> cbv)
  all_goals try
   ((refine callG_spec0 hd day trivial rfl rfl rfl ?_; try dsimp only)
    rw [← hd5]
    cases d5 <;> (cbv; repeat' ((first | refine .e ?_ | refine .n fun h => ?_ | refine And.intro ?_ ?_ | fail) <;> cbv)))
  all_goals try
   ((refine callG_spec0 hn to hto rfl rfl rfl ?_; try dsimp only)
    rw [← hn5]
    cases n5 <;> (cbv))
  all_goals try
   (have f1 : q1 = true := by (rw [hq1']; exact decide_eq_true (by omega))
    (refine FinK.mk ⟨_, Gh.refl _, ?_⟩; cbv; exact .inl (CutK.pre _ (by rfl) (by exact Nat.le_of_ble_eq_true rfl) (by rfl) (by rfl) (Le.refl _) (LeH.refl _) (K_i hK (by rw [hq0, f1]; rfl))))
    done)
  all_goals have f1 : q1 = false := by (rw [hq1']; exact decide_eq_false (by omega))
  all_goals try
   (have f2 : q2 = true := by
     rw [hq2']
     first
      | (rw [decide_eq_false (by decide : ¬ (5 : Int) = 3)]; rfl)
      | (rw [decide_eq_true (by decide : (5 : Int) = 1)]; exact Bool.or_true _)
      | (rw [decide_eq_true (by decide : (5 : Int) = 1), decide_eq_true (by assumption : to = by_)]; exact Bool.or_true _)
    (refine FinK.mk ⟨_, Gh.refl _, ?_⟩; cbv; exact .inl (CutK.pre _ (by rfl) (by exact Nat.le_of_ble_eq_true rfl) (by rfl) (by rfl) (Le.refl _) (LeH.refl _) (K_i hK (by rw [hq0, f1, f2]; rfl))))
    done)
  all_goals
   (have f2 : q2 = false := by
     rw [hq2']
     first
      | (rw [decide_eq_true (by decide : (5 : Int) = 3), decide_eq_false (by decide : ¬ (5 : Int) = 1)]; rfl)
      | (rw [decide_eq_false (by decide : ¬ (5 : Int) = 3), decide_eq_false (by decide : ¬ (5 : Int) = 1)]; rfl)
      | (rw [decide_eq_false (by decide : ¬ (5 : Int) = 3), decide_eq_true (by decide : (5 : Int) = 1), decide_eq_false (by assumption : ¬ to = by_)]; rfl)
    rw [f1, f2] at hq0)
  all_goals
   (have hwo := hwo f1
    (refine callG_spec0 hw (⟨5, index, day, bill, by_, to, ⟨number2, carrier2, shipper2, frm2, to2, boxes2, parents2, issued2, clean2⟩⟩ : At) trivial rfl rfl rfl ?_; try dsimp only)
    rw [hwl, hms]
    obtain ⟨g1, g2, g3⟩ := hww f1
    obtain ⟨sv, hsv⟩ : ∃ sv : Int, sv = if (5 : Int) = 4 then 3 else 0 := ⟨_, rfl⟩
    rw [← hsv] at g1)
  all_goals
   (rw [if_neg (by decide)] at hsv
    obtain ⟨⟨number1, carrier1, shipper1, frm1, to1, boxes1, parents1, issued1, clean1⟩, st1, ⟨sa1, ha1, ca1⟩, ⟨sb1, hb1, cb1⟩, ⟨sc1, hc1, cc1⟩⟩ := x
    obtain ⟨P1, hP1⟩ : ∃ p, p = pw1 ⟨⟨number1, carrier1, shipper1, frm1, to1, boxes1, parents1, issued1, clean1⟩, st1, ⟨sa1, ha1, ca1⟩, ⟨sb1, hb1, cb1⟩, ⟨sc1, hc1, cc1⟩⟩ sv := ⟨_, rfl⟩
    obtain ⟨P2, hP2⟩ : ∃ p, p = pw2 ⟨⟨number1, carrier1, shipper1, frm1, to1, boxes1, parents1, issued1, clean1⟩, st1, ⟨sa1, ha1, ca1⟩, ⟨sb1, hb1, cb1⟩, ⟨sc1, hc1, cc1⟩⟩ by_ := ⟨_, rfl⟩
    obtain ⟨P3, hP3⟩ : ∃ p, p = pw3 ⟨⟨number1, carrier1, shipper1, frm1, to1, boxes1, parents1, issued1, clean1⟩, st1, ⟨sa1, ha1, ca1⟩, ⟨sb1, hb1, cb1⟩, ⟨sc1, hc1, cc1⟩⟩ (5 : Int) day := ⟨_, rfl⟩
    rw [← hP1] at g1
    rw [← hP2] at g2
    rw [← hP3] at g3
    obtain ⟨v0, hv0⟩ : ∃ v, v = lastM ⟨sa1, ha1, ca1⟩ issued1 := ⟨_, rfl⟩
    have a0 : P1 0 = (!decide (st1 = 0) || !decide (sa1 = sv)) := by rw [hP1]; rfl
    have b0 : P2 0 = (!decide (ha1 = by_)) := by rw [hP2]; rfl
    have c0 : P3 0 = (!decide ((5 : Int) = 3) && decide (day < v0)) := by rw [hP3, hv0]; rfl
    obtain ⟨v1, hv1⟩ : ∃ v, v = lastM ⟨sb1, hb1, cb1⟩ issued1 := ⟨_, rfl⟩
    have a1 : P1 1 = (!decide (st1 = 0) || !decide (sb1 = sv)) := by rw [hP1]; rfl
    have b1 : P2 1 = (!decide (hb1 = by_)) := by rw [hP2]; rfl
    have c1 : P3 1 = (!decide ((5 : Int) = 3) && decide (day < v1)) := by rw [hP3, hv1]; rfl
    obtain ⟨v2, hv2⟩ : ∃ v, v = lastM ⟨sc1, hc1, cc1⟩ issued1 := ⟨_, rfl⟩
    have a2 : P1 2 = (!decide (st1 = 0) || !decide (sc1 = sv)) := by rw [hP1]; rfl
    have b2 : P2 2 = (!decide (hc1 = by_)) := by rw [hP2]; rfl
    have c2 : P3 2 = (!decide ((5 : Int) = 3) && decide (day < v2)) := by rw [hP3, hv2]; rfl
    have aP : ∀ k, P1 k = (!decide (st1 = 0) || !decide ((onK k ⟨⟨number1, carrier1, shipper1, frm1, to1, boxes1, parents1, issued1, clean1⟩, st1, ⟨sa1, ha1, ca1⟩, ⟨sb1, hb1, cb1⟩, ⟨sc1, hc1, cc1⟩⟩).state = sv)) := fun k => by rw [hP1]; rfl
    clear hP1 hP2 hP3
    subst hsv
    cbv; repeat' ((first | refine .n fun h => ?_ | fail) <;> cbv)
    refine xloopV [] (fun q : { j : Nat // j ≤ ws.length ∧ NoneG P1 ws j } => [(9, .i (nI q.1))]) (fun q => [.blk 28 [.str carrier, .sl 11 (mapA RbA L)], .blk 38 (AtL ⟨(5 : Int), index, day, bill, by_, to, ⟨number2, carrier2, shipper2, frm2, to2, boxes2, parents2, issued2, clean2⟩⟩), .blk 110 (RbL ⟨⟨number1, carrier1, shipper1, frm1, to1, boxes1, parents1, issued1, clean1⟩, st1, ⟨sa1, ha1, ca1⟩, ⟨sb1, hb1, cb1⟩, ⟨sc1, hc1, cc1⟩⟩)]) (fun q => lft 4 q.1) ⟨0, Nat.zero_le _, .zero⟩ ?_
    rintro ⟨j1, hj1, hn1⟩
    dsimp only at hj1 hn1 ⊢
    cbv; repeat' ((first | refine .mk (fun h => ?_) fun h => ?_ | refine .k fun z hz => ?_ | fail) <;> cbv)
    ·refine askEl_int (by ((try simp only [vn] at *) <;> omega)) (by ((try simp only [vn] at *) <;> omega)) fun i l hi hl => ?_
     obtain rfl : j1 = i := by ((try simp only [vn] at *) <;> omega)
     rcases hwo l (List.mem_of_getElem? hl) with rfl | rfl | rfl
     ·cbv; repeat' ((first | refine .mk (fun h => ?_) fun h => ?_ | refine .k fun z hz => ?_ | refine AskEl.i0 ?_ | fail) <;> cbv)
      ·have e : P1 0 = false := by rw [a0, decide_eq_true (by assumption : st1 = 0), decide_eq_true (by assumption : sa1 = _)]; rfl
       obtain rfl : z = nI (j1 + 1) := by ((try simp only [vn] at *) <;> omega)
       exact roundV ⟨j1 + 1, by ((try simp only [vn] at *) <;> omega), hn1.succ hl e⟩ (lft_lt (by ((try simp only [vn] at *) <;> omega)))
      ·have e : P1 0 = true := by rw [a0, decide_eq_false (by assumption : ¬ sa1 = _)]; exact Bool.or_true _
       (refine FinK.mk ⟨_, Gh.refl _, ?_⟩; cbv; exact .inl (CutK.pre _ (by rfl) (by exact Nat.le_of_ble_eq_true rfl) (by rfl) (by rfl) (Le.refl _) (LeH.refl _) (K_i hK (by rw [hq0, g1.trans (any_at hl e)]; rfl))))
     ·cbv; repeat' ((first | refine .mk (fun h => ?_) fun h => ?_ | refine .k fun z hz => ?_ | refine AskEl.i1 ?_ | fail) <;> cbv)
      ·have e : P1 1 = false := by rw [a1, decide_eq_true (by assumption : st1 = 0), decide_eq_true (by assumption : sb1 = _)]; rfl
       obtain rfl : z = nI (j1 + 1) := by ((try simp only [vn] at *) <;> omega)
       exact roundV ⟨j1 + 1, by ((try simp only [vn] at *) <;> omega), hn1.succ hl e⟩ (lft_lt (by ((try simp only [vn] at *) <;> omega)))
      ·have e : P1 1 = true := by rw [a1, decide_eq_false (by assumption : ¬ sb1 = _)]; exact Bool.or_true _
       (refine FinK.mk ⟨_, Gh.refl _, ?_⟩; cbv; exact .inl (CutK.pre _ (by rfl) (by exact Nat.le_of_ble_eq_true rfl) (by rfl) (by rfl) (Le.refl _) (LeH.refl _) (K_i hK (by rw [hq0, g1.trans (any_at hl e)]; rfl))))
     ·cbv; repeat' ((first | refine .mk (fun h => ?_) fun h => ?_ | refine .k fun z hz => ?_ | refine AskEl.i2 ?_ | fail) <;> cbv)
      ·have e : P1 2 = false := by rw [a2, decide_eq_true (by assumption : st1 = 0), decide_eq_true (by assumption : sc1 = _)]; rfl
       obtain rfl : z = nI (j1 + 1) := by ((try simp only [vn] at *) <;> omega)
       exact roundV ⟨j1 + 1, by ((try simp only [vn] at *) <;> omega), hn1.succ hl e⟩ (lft_lt (by ((try simp only [vn] at *) <;> omega)))
      ·have e : P1 2 = true := by rw [a2, decide_eq_false (by assumption : ¬ sc1 = _)]; exact Bool.or_true _
       (refine FinK.mk ⟨_, Gh.refl _, ?_⟩; cbv; exact .inl (CutK.pre _ (by rfl) (by exact Nat.le_of_ble_eq_true rfl) (by rfl) (by rfl) (Le.refl _) (LeH.refl _) (K_i hK (by rw [hq0, g1.trans (any_at hl e)]; rfl))))
    ·obtain ⟨l, hl⟩ := some_at (L := ws) (i := j1) (by ((try simp only [vn] at *) <;> omega))
     have e : P1 l = true := by rw [aP, decide_eq_false (by assumption : ¬ st1 = 0)]; rfl
     (refine FinK.mk ⟨_, Gh.refl _, ?_⟩; cbv; exact .inl (CutK.pre _ (by rfl) (by exact Nat.le_of_ble_eq_true rfl) (by rfl) (by rfl) (Le.refl _) (LeH.refl _) (K_i hK (by rw [hq0, g1.trans (any_at hl e)]; rfl))))
    ·have ej1 : j1 = ws.length := by ((try simp only [vn] at *) <;> omega)
     rw [ej1] at hn1
     have f1 := g1.trans (any_none hn1)
     rw [f1] at hq0
     refine xloopV [] (fun q : { j : Nat // j ≤ ws.length ∧ NoneG P2 ws j } => [(10, .i (nI q.1))]) (fun q => [.blk 28 [.str carrier, .sl 11 (mapA RbA L)], .blk 38 (AtL ⟨(5 : Int), index, day, bill, by_, to, ⟨number2, carrier2, shipper2, frm2, to2, boxes2, parents2, issued2, clean2⟩⟩), .blk 110 (RbL ⟨⟨number1, carrier1, shipper1, frm1, to1, boxes1, parents1, issued1, clean1⟩, st1, ⟨sa1, ha1, ca1⟩, ⟨sb1, hb1, cb1⟩, ⟨sc1, hc1, cc1⟩⟩)]) (fun q => lft 4 q.1) ⟨0, Nat.zero_le _, .zero⟩ ?_
     rintro ⟨j2, hj2, hn2⟩
     dsimp only at hj2 hn2 ⊢
     cbv; repeat' ((first | refine .mk (fun h => ?_) fun h => ?_ | refine .k fun z hz => ?_ | fail) <;> cbv)
     rotate_left
     ·have ej2 : j2 = ws.length := by ((try simp only [vn] at *) <;> omega)
      rw [ej2] at hn2
      have f2 := g2.trans (any_none hn2)
      rw [f2] at hq0
      refine xloopV [] (fun q : { j : Nat // j ≤ ws.length ∧ NoneG P3 ws j } => [(11, .i (nI q.1))]) (fun q => [.blk 28 [.str carrier, .sl 11 (mapA RbA L)], .blk 38 (AtL ⟨(5 : Int), index, day, bill, by_, to, ⟨number2, carrier2, shipper2, frm2, to2, boxes2, parents2, issued2, clean2⟩⟩), .blk 110 (RbL ⟨⟨number1, carrier1, shipper1, frm1, to1, boxes1, parents1, issued1, clean1⟩, st1, ⟨sa1, ha1, ca1⟩, ⟨sb1, hb1, cb1⟩, ⟨sc1, hc1, cc1⟩⟩)]) (fun q => lft 4 q.1) ⟨0, Nat.zero_le _, .zero⟩ ?_
      rintro ⟨j3, hj3, hn3⟩
      dsimp only at hj3 hn3 ⊢
      cbv; repeat' ((first | refine .n fun h => ?_ | refine .mk (fun h => ?_) fun h => ?_ | refine .k fun z hz => ?_ | fail) <;> cbv)
      rotate_left
      ·have ej3 : j3 = ws.length := by ((try simp only [vn] at *) <;> omega)
       rw [ej3] at hn3
       have f3 := g3.trans (any_none hn3)
       rw [f3] at hq0
       (refine FinK.mk ⟨_, Gh.refl _, ?_⟩; cbv; exact .inl (CutK.pre _ (by rfl) (by exact Nat.le_of_ble_eq_true rfl) (by rfl) (by rfl) (Le.refl _) (LeH.refl _) (K_i hK (by rw [hq0]; rfl))))
      ·refine askEl_int (by ((try simp only [vn] at *) <;> omega)) (by ((try simp only [vn] at *) <;> omega)) fun i l hi hl => ?_
       obtain rfl : j3 = i := by ((try simp only [vn] at *) <;> omega)
       rcases hwo l (List.mem_of_getElem? hl) with rfl | rfl | rfl
       ·have e3 : ¬ (5 : Int) = 3 := by decide
        cbv
        (refine callG_spec0 hu ((⟨⟨number1, carrier1, shipper1, frm1, to1, boxes1, parents1, issued1, clean1⟩, st1, ⟨sa1, ha1, ca1⟩, ⟨sb1, hb1, cb1⟩, ⟨sc1, hc1, cc1⟩⟩ : Br), 0) ⟨.inl rfl, hc⟩ rfl rfl rfl ?_; try dsimp only)
        have ev : lastM (onK 0 ⟨⟨number1, carrier1, shipper1, frm1, to1, boxes1, parents1, issued1, clean1⟩, st1, ⟨sa1, ha1, ca1⟩, ⟨sb1, hb1, cb1⟩, ⟨sc1, hc1, cc1⟩⟩) issued1 = v0 := hv0.symm
        rw [ev]
        cbv; repeat' ((first | refine .mk (fun h => ?_) fun h => ?_ | refine .k fun z hz => ?_ | fail) <;> cbv)
        ·have e : P3 0 = true := by rw [c0, decide_eq_false e3, decide_eq_true (by assumption : day < v0)]; rfl
         (refine FinK.mk ⟨_, Gh.refl _, ?_⟩; cbv; exact .inl (CutK.pre _ (by rfl) (by exact Nat.le_of_ble_eq_true rfl) (by rfl) (by rfl) (Le.refl _) (LeH.refl _) (K_i hK (by rw [hq0, g3.trans (any_at hl e)]; rfl))))
        ·have e : P3 0 = false := by rw [c0, decide_eq_false (by omega : ¬ day < v0)]; exact Bool.and_false _
         obtain rfl : z = nI (j3 + 1) := by ((try simp only [vn] at *) <;> omega)
         exact roundV ⟨j3 + 1, by ((try simp only [vn] at *) <;> omega), hn3.succ hl e⟩ (lft_lt (by ((try simp only [vn] at *) <;> omega)))
       ·have e3 : ¬ (5 : Int) = 3 := by decide
        cbv
        (refine callG_spec0 hu ((⟨⟨number1, carrier1, shipper1, frm1, to1, boxes1, parents1, issued1, clean1⟩, st1, ⟨sa1, ha1, ca1⟩, ⟨sb1, hb1, cb1⟩, ⟨sc1, hc1, cc1⟩⟩ : Br), 1) ⟨.inr (.inl rfl), hc⟩ rfl rfl rfl ?_; try dsimp only)
        have ev : lastM (onK 1 ⟨⟨number1, carrier1, shipper1, frm1, to1, boxes1, parents1, issued1, clean1⟩, st1, ⟨sa1, ha1, ca1⟩, ⟨sb1, hb1, cb1⟩, ⟨sc1, hc1, cc1⟩⟩) issued1 = v1 := hv1.symm
        rw [ev]
        cbv; repeat' ((first | refine .mk (fun h => ?_) fun h => ?_ | refine .k fun z hz => ?_ | fail) <;> cbv)
        ·have e : P3 1 = true := by rw [c1, decide_eq_false e3, decide_eq_true (by assumption : day < v1)]; rfl
         (refine FinK.mk ⟨_, Gh.refl _, ?_⟩; cbv; exact .inl (CutK.pre _ (by rfl) (by exact Nat.le_of_ble_eq_true rfl) (by rfl) (by rfl) (Le.refl _) (LeH.refl _) (K_i hK (by rw [hq0, g3.trans (any_at hl e)]; rfl))))
        ·have e : P3 1 = false := by rw [c1, decide_eq_false (by omega : ¬ day < v1)]; exact Bool.and_false _
         obtain rfl : z = nI (j3 + 1) := by ((try simp only [vn] at *) <;> omega)
         exact roundV ⟨j3 + 1, by ((try simp only [vn] at *) <;> omega), hn3.succ hl e⟩ (lft_lt (by ((try simp only [vn] at *) <;> omega)))
       ·have e3 : ¬ (5 : Int) = 3 := by decide
        cbv
        (refine callG_spec0 hu ((⟨⟨number1, carrier1, shipper1, frm1, to1, boxes1, parents1, issued1, clean1⟩, st1, ⟨sa1, ha1, ca1⟩, ⟨sb1, hb1, cb1⟩, ⟨sc1, hc1, cc1⟩⟩ : Br), 2) ⟨.inr (.inr rfl), hc⟩ rfl rfl rfl ?_; try dsimp only)
        have ev : lastM (onK 2 ⟨⟨number1, carrier1, shipper1, frm1, to1, boxes1, parents1, issued1, clean1⟩, st1, ⟨sa1, ha1, ca1⟩, ⟨sb1, hb1, cb1⟩, ⟨sc1, hc1, cc1⟩⟩) issued1 = v2 := hv2.symm
        rw [ev]
        cbv; repeat' ((first | refine .mk (fun h => ?_) fun h => ?_ | refine .k fun z hz => ?_ | fail) <;> cbv)
        ·have e : P3 2 = true := by rw [c2, decide_eq_false e3, decide_eq_true (by assumption : day < v2)]; rfl
         (refine FinK.mk ⟨_, Gh.refl _, ?_⟩; cbv; exact .inl (CutK.pre _ (by rfl) (by exact Nat.le_of_ble_eq_true rfl) (by rfl) (by rfl) (Le.refl _) (LeH.refl _) (K_i hK (by rw [hq0, g3.trans (any_at hl e)]; rfl))))
        ·have e : P3 2 = false := by rw [c2, decide_eq_false (by omega : ¬ day < v2)]; exact Bool.and_false _
         obtain rfl : z = nI (j3 + 1) := by ((try simp only [vn] at *) <;> omega)
         exact roundV ⟨j3 + 1, by ((try simp only [vn] at *) <;> omega), hn3.succ hl e⟩ (lft_lt (by ((try simp only [vn] at *) <;> omega)))
     ·refine askEl_int (by ((try simp only [vn] at *) <;> omega)) (by ((try simp only [vn] at *) <;> omega)) fun i l hi hl => ?_
      obtain rfl : j2 = i := by ((try simp only [vn] at *) <;> omega)
      rcases hwo l (List.mem_of_getElem? hl) with rfl | rfl | rfl
      ·cbv; repeat' ((first | refine .mk (fun h => ?_) fun h => ?_ | refine .k fun z hz => ?_ | refine AskEl.i0 ?_ | fail) <;> cbv)
       ·have e : P2 0 = false := by rw [b0, decide_eq_true (by assumption : ha1 = by_)]; rfl
        obtain rfl : z = nI (j2 + 1) := by ((try simp only [vn] at *) <;> omega)
        exact roundV ⟨j2 + 1, by ((try simp only [vn] at *) <;> omega), hn2.succ hl e⟩ (lft_lt (by ((try simp only [vn] at *) <;> omega)))
       ·have e : P2 0 = true := by rw [b0, decide_eq_false (by assumption : ¬ ha1 = by_)]; rfl
        (refine FinK.mk ⟨_, Gh.refl _, ?_⟩; cbv; exact .inl (CutK.pre _ (by rfl) (by exact Nat.le_of_ble_eq_true rfl) (by rfl) (by rfl) (Le.refl _) (LeH.refl _) (K_i hK (by rw [hq0, g2.trans (any_at hl e)]; rfl))))
      ·cbv; repeat' ((first | refine .mk (fun h => ?_) fun h => ?_ | refine .k fun z hz => ?_ | refine AskEl.i1 ?_ | fail) <;> cbv)
       ·have e : P2 1 = false := by rw [b1, decide_eq_true (by assumption : hb1 = by_)]; rfl
        obtain rfl : z = nI (j2 + 1) := by ((try simp only [vn] at *) <;> omega)
        exact roundV ⟨j2 + 1, by ((try simp only [vn] at *) <;> omega), hn2.succ hl e⟩ (lft_lt (by ((try simp only [vn] at *) <;> omega)))
       ·have e : P2 1 = true := by rw [b1, decide_eq_false (by assumption : ¬ hb1 = by_)]; rfl
        (refine FinK.mk ⟨_, Gh.refl _, ?_⟩; cbv; exact .inl (CutK.pre _ (by rfl) (by exact Nat.le_of_ble_eq_true rfl) (by rfl) (by rfl) (Le.refl _) (LeH.refl _) (K_i hK (by rw [hq0, g2.trans (any_at hl e)]; rfl))))
      ·cbv; repeat' ((first | refine .mk (fun h => ?_) fun h => ?_ | refine .k fun z hz => ?_ | refine AskEl.i2 ?_ | fail) <;> cbv)
       ·have e : P2 2 = false := by rw [b2, decide_eq_true (by assumption : hc1 = by_)]; rfl
        obtain rfl : z = nI (j2 + 1) := by ((try simp only [vn] at *) <;> omega)
        exact roundV ⟨j2 + 1, by ((try simp only [vn] at *) <;> omega), hn2.succ hl e⟩ (lft_lt (by ((try simp only [vn] at *) <;> omega)))
       ·have e : P2 2 = true := by rw [b2, decide_eq_false (by assumption : ¬ hc1 = by_)]; rfl
        (refine FinK.mk ⟨_, Gh.refl _, ?_⟩; cbv; exact .inl (CutK.pre _ (by rfl) (by exact Nat.le_of_ble_eq_true rfl) (by rfl) (by rfl) (Le.refl _) (LeH.refl _) (K_i hK (by rw [hq0, g2.trans (any_at hl e)]; rfl)))))
end Go.Proofs.YtjnmaicofgjplaaGreatDoor
namespace Go.Proofs.YtjnmaicofgjplaaGreatDoor
open Go.RowKit
set_option maxRecDepth 100000
/-! All functions of the chapter, by their contracts. -/
theorem k_isLetter : FnOk Tryz.prog 72 (ByC letB) := body_ok (by kernel_rfl) (isLetter_body _)
theorem k_isDigit : FnOk Tryz.prog 73 (ByC digB) := body_ok (by kernel_rfl) (isDigit_body _)
theorem k_rletter : FnOk Tryz.prog 119 (ByC letB) := body_ok (by kernel_rfl) (rletter_body _)
theorem k_rdigit : FnOk Tryz.prog 120 (ByC digB) := body_ok (by kernel_rfl) (rdigit_body _)
theorem k_name : FnOk Tryz.prog 43 (StrC (fun _ => True) nameB) := body_ok (by kernel_rfl) (name_body _ k_isLetter k_isDigit)
theorem k_small : FnOk Tryz.prog 132 SmallC := body_ok (by kernel_rfl) (small_body _)
theorem k_fmt : FnOk Tryz.prog 130 FmtC := body_ok (by kernel_rfl) (fmt_body _ k_small)
theorem k_itoa2 : FnOk Tryz.prog 121 SmallC := body_ok (by kernel_rfl) (itoa2_body _ k_fmt)
theorem k_itoa : FnOk Tryz.prog 105 SmallC := body_ok (by kernel_rfl) (itoa_body _ k_itoa2)
theorem k_digits : FnOk Tryz.prog 97 DigC := body_ok (by kernel_rfl) (digits_body _ k_itoa)
theorem k_sum : FnOk Tryz.prog 96 SumC := body_ok (by kernel_rfl) (sum_body _ k_isLetter k_isDigit)
theorem k_right : FnOk Tryz.prog 70 (StrC (fun _ => True) markB) := body_ok (by kernel_rfl) (right_body _ k_sum k_digits)
theorem k_rname : FnOk Tryz.prog 101 (StrC (fun s => s.size ≤ maxLen) nameB) := body_ok (by kernel_rfl) (rname_body _ k_rletter k_rdigit)
theorem k_rhead : FnOk Tryz.prog 128 (StrC (fun _ => True) headB) := body_ok (by kernel_rfl) (rhead_body _ k_rletter k_rdigit)
theorem k_rsum : FnOk Tryz.prog 129 SumC := body_ok (by kernel_rfl) (rsum_body _ k_rhead)
theorem k_rright : FnOk Tryz.prog 118 (StrC (fun _ => True) markB) := body_ok (by kernel_rfl) (rright_body _ k_rhead k_rdigit k_rsum)
theorem k_new : FnOk Tryz.prog 26 NewC := body_ok (by kernel_rfl) (new_body _)
theorem k_state : FnOk Tryz.prog 15 StateC := body_ok (by kernel_rfl) (state_body _)
theorem k_cloneS : FnOk Tryz.prog 52 (CloneC 1 16) := body_ok (by kernel_rfl) (cloneS_body _)
theorem k_cloneE : FnOk Tryz.prog 60 (CloneC 4 48) := body_ok (by kernel_rfl) (cloneE_body _)
theorem k_cloneER : FnOk Tryz.prog 60 (CloneR 98 4 48) := body_ok (by kernel_rfl) (cloneER_body _)
theorem k_copyBill : FnOk Tryz.prog 39 CopyBC := body_ok (by kernel_rfl) (copyBill_body _ k_cloneS)
theorem k_get : FnOk Tryz.prog 16 GetC := body_ok (by kernel_rfl) (get_body _ k_copyBill)
theorem k_last : FnOk Tryz.prog 84 LastC := body_ok (by kernel_rfl) (last_body _)
theorem k_c41 : FnOk Tryz.prog 79 (CloA pState) := body_ok (by kernel_rfl) (c41_body _)
theorem k_c51 : FnOk Tryz.prog 81 (CloA pHolder) := body_ok (by kernel_rfl) (c51_body _)
theorem k_full1 : FnOk Tryz.prog 63 (CloW pFull) := body_ok (by kernel_rfl) (full1_body _)
theorem k_of11 : FnOk Tryz.prog 94 (CloW pOf) := body_ok (by kernel_rfl) (of11_body _)
theorem k_c61 : FnOk Tryz.prog 83 CloE := body_ok (by kernel_rfl) (c61_body _ k_last)
theorem k_isDay : FnOk Tryz.prog 69 DayC := body_ok (by kernel_rfl) (isDay_body _)
theorem k_ask1 : FnOk Tryz.prog 75 (KEntC [.ptr 1 0] fun _ _ => false) := body_ok (by kernel_rfl) (ask1_body _)
theorem k_ask2 : FnOk Tryz.prog 76 (KActC k1) := body_ok (by kernel_rfl) (ask2_body _)
theorem k_ask3 : FnOk Tryz.prog 77 (KActC k2) := body_ok (by kernel_rfl) (ask3_body _ k_isDay)
theorem k_someA_1 : FnOk Tryz.prog 62 (SomeA 79 pState) := body_ok (by kernel_rfl) (someA_body _ 79 pState ⟨by kernel_rfl⟩ k_c41)
theorem k_ask4 : FnOk Tryz.prog 78 (KEntC [.ptr 1 0, .ptr 0 0] k3) := body_ok (by kernel_rfl) (ask4_body _ k_someA_1)
theorem k_someA_2 : FnOk Tryz.prog 62 (SomeA 81 pHolder) := body_ok (by kernel_rfl) (someA_body _ 81 pHolder ⟨by kernel_rfl⟩ k_c51)
theorem k_ask5 : FnOk Tryz.prog 80 (KEntC [.ptr 1 0, .ptr 0 0] k4) := body_ok (by kernel_rfl) (ask5_body _ k_someA_2)
theorem k_someE_3 : FnOk Tryz.prog 62 (SomeE 83) := body_ok (by kernel_rfl) (someE_body _ 83 ⟨by kernel_rfl⟩ k_c61)
theorem k_ask6 : FnOk Tryz.prog 82 (KEntC [.ptr 0 0, .ptr 1 0] k5) := body_ok (by kernel_rfl) (ask6_body _ k_someE_3)
theorem k_first : FnOk Tryz.prog 40 FirC := body_ok (by kernel_rfl) (first_body _ ⟨⟨by kernel_rfl⟩, ⟨by kernel_rfl⟩, ⟨by kernel_rfl⟩, ⟨by kernel_rfl⟩, ⟨by kernel_rfl⟩, ⟨by kernel_rfl⟩, k_ask1, k_ask2, k_ask3, k_ask4, k_ask5, k_ask6⟩)
theorem k_ask1n : FnOk Tryz.prog 75 (spec (fun _ : Unit => [.ptr 0 0]) (fun _ => [.blk 77 [.v (.pointer none)]]) (fun _ => True) (fun _ => .bl true) fun _ => [.blk 77 [.v (.pointer none)]]) := body_ok (by kernel_rfl) (ask1n_body _)
theorem k_firstN : FnOk Tryz.prog 40 FirN := body_ok (by kernel_rfl) (firstN_body _ ⟨by kernel_rfl⟩ k_ask1n)
theorem k_ask : FnOk Tryz.prog 49 AskC := body_ok (by kernel_rfl) (ask_body _ k_first k_firstN)
theorem k_blank : FnOk Tryz.prog 30 (KindC 1) := body_ok (by kernel_rfl) (blank_body _)
theorem k_closed : FnOk Tryz.prog 91 (KindC 2) := body_ok (by kernel_rfl) (closed_body _)
theorem k_edmay : FnOk Tryz.prog 90 EdMayC := body_ok (by kernel_rfl) (edmay_body _ k_name)
theorem k_wrong : FnOk Tryz.prog 61 WrongC := body_ok (by kernel_rfl) (wrong_body _ k_edmay k_blank k_closed)
theorem k_check : FnOk Tryz.prog 29 CheckC := body_ok (by kernel_rfl) (check_body _ k_name k_wrong)
theorem k_holderE : FnOk Tryz.prog 50 HolderC := body_ok (by kernel_rfl) (holderE_body _ k_check)
theorem k_end : FnOk Tryz.prog 51 EndC := body_ok (by kernel_rfl) (end_body _)
theorem k_lose : FnOk Tryz.prog 20 LoseC := body_ok (by kernel_rfl) (lose_body _ k_ask)
theorem k_replace : FnOk Tryz.prog 21 ReplaceC := body_ok (by kernel_rfl) (replace_body _ k_ask)
theorem k_retire : FnOk Tryz.prog 22 RetireC := body_ok (by kernel_rfl) (retire_body _ k_end k_ask)
theorem k_surrender : FnOk Tryz.prog 19 SurrenderC := body_ok (by kernel_rfl) (surrender_body _ k_end k_cloneS k_ask)
theorem k_endorse : FnOk Tryz.prog 18 EndorseC := body_ok (by kernel_rfl) (endorse_body _ k_name k_ask k_holderE)
theorem k_original : FnOk Tryz.prog 59 OrigC := body_ok (by kernel_rfl) (original_body _)
theorem k_chain : FnOk Tryz.prog 28 ChainC := body_ok (by kernel_rfl) (chain_body _ k_original k_cloneE)
theorem k_holder : FnOk Tryz.prog 33 HoldC := body_ok (by kernel_rfl) (holder_body _ k_original k_state)
theorem k_someW_4 : FnOk Tryz.prog 62 (SomeW 63 pFull) := body_ok (by kernel_rfl) (someW_body _ 63 pFull ⟨by kernel_rfl⟩ k_full1)
theorem k_full : FnOk Tryz.prog 32 FullC := body_ok (by kernel_rfl) (full_body _ k_someW_4)
theorem k_originals : FnOk Tryz.prog 23 OriginalsC := body_ok (by kernel_rfl) (originals_body _)
theorem k_index : FnOk Tryz.prog 86 IndexC := body_ok (by kernel_rfl) (index_body _)
theorem k_contains : FnOk Tryz.prog 55 ContainsC := body_ok (by kernel_rfl) (contains_body _ k_index)
theorem k_may1 : FnOk Tryz.prog 71 (CloN fun s => !nameB s) := body_ok (by kernel_rfl) (may1_body _ k_name)
theorem k_bills1 : FnOk Tryz.prog 56 (CloB fun _ => true) := body_ok (by kernel_rfl) (bills1_body _)
theorem k_someW_5 : FnOk Tryz.prog 62 (SomeW 94 pOf) := body_ok (by kernel_rfl) (someW_body _ 94 pOf ⟨by kernel_rfl⟩ k_of11)
theorem k_of1 : FnOk Tryz.prog 93 (CloBW pOfB) := body_ok (by kernel_rfl) (of1_body _ k_someW_5)
theorem k_box1 : FnOk Tryz.prog 54 (CloBW pBox) := body_ok (by kernel_rfl) (box1_body _ k_contains)
theorem k_numbers_6 : FnOk Tryz.prog 53 (NumC 56 fun _ => true) := body_ok (by kernel_rfl) (numbers_body _ 56 (fun _ => true) ⟨by kernel_rfl⟩ k_bills1 sort_ok)
theorem k_bills : FnOk Tryz.prog 25 BillsC := body_ok (by kernel_rfl) (bills_body _ k_numbers_6)
theorem k_numbersW_7 : FnOk Tryz.prog 53 (NumW 93 pOfB) := body_ok (by kernel_rfl) (numbersW_body _ 93 pOfB ⟨by kernel_rfl⟩ k_of1 sort_ok)
theorem k_of : FnOk Tryz.prog 65 OfC := body_ok (by kernel_rfl) (of_body _ k_numbersW_7)
theorem k_numbersW_8 : FnOk Tryz.prog 53 (NumW 54 pBox) := body_ok (by kernel_rfl) (numbersW_body _ 54 pBox ⟨by kernel_rfl⟩ k_box1 sort_ok)
theorem k_box : FnOk Tryz.prog 24 BoxC := body_ok (by kernel_rfl) (box_body _ k_numbersW_8)
theorem k_idxF_9 : FnOk Tryz.prog 74 (IdxFC 71 fun s => !nameB s) := body_ok (by kernel_rfl) (idxF_body _ 71 (fun s => !nameB s) ⟨by kernel_rfl⟩ k_may1)
theorem k_conF_10 : FnOk Tryz.prog 46 (ConFC 71 fun s => !nameB s) := body_ok (by kernel_rfl) (conF_body _ 71 (fun s => !nameB s) k_idxF_9)
theorem k_may : FnOk Tryz.prog 42 MayC := body_ok (by kernel_rfl) (may_body _ k_name k_right k_isDay k_conF_10)
theorem k_iss1 : FnOk Tryz.prog 41 (IssC [.ptr 2 0, .ptr 3 0, .ptr 4 0] i1) := body_ok (by kernel_rfl) (iss1_body _ k_may k_name)
theorem k_iss2 : FnOk Tryz.prog 44 (IssC [.ptr 2 0, .ptr 3 0] i2) := body_ok (by kernel_rfl) (iss2_body _)
theorem k_iss31 : FnOk Tryz.prog 47 (spec (fun i : Iss × ByteArray => [.str i.2, .ptr 2 0]) (fun i => IssH i.1) (fun i => IssP i.1) (fun i => .bl (iBox i.1 i.2)) fun i => IssH i.1) := body_ok (by kernel_rfl) (iss31_body _ k_box)
theorem k_iss4 : FnOk Tryz.prog 48 (IssC [.ptr 2 0] i4) := body_ok (by kernel_rfl) (iss4_body _)
theorem k_idxI : FnOk Tryz.prog 74 IdxIC := body_ok (by kernel_rfl) (idxI_body _ ⟨by kernel_rfl⟩ k_iss31)
theorem k_conI : FnOk Tryz.prog 46 ConIC := body_ok (by kernel_rfl) (conI_body _ k_idxI)
theorem k_iss3 : FnOk Tryz.prog 45 (IssC [.ptr 3 0, .ptr 2 0] i3) := body_ok (by kernel_rfl) (iss3_body _ k_conI)
theorem k_firstI : FnOk Tryz.prog 40 FirIC := body_ok (by kernel_rfl) (firstI_body _ ⟨⟨by kernel_rfl⟩, ⟨by kernel_rfl⟩, ⟨by kernel_rfl⟩, ⟨by kernel_rfl⟩, k_iss1, k_iss2, k_iss3, k_iss4⟩)
theorem k_issue : FnOk Tryz.prog 17 IssueC := body_ok (by kernel_rfl) (issue_body _ k_firstI k_copyBill)
theorem k_copy : FnOk Tryz.prog 31 CopyC := body_ok (by kernel_rfl) (copy_body _ k_new k_copyBill k_cloneER)
theorem k_rday : FnOk Tryz.prog 103 DayC := body_ok (by kernel_rfl) (rday_body _)
theorem k_in : FnOk Tryz.prog 95 InC := body_ok (by kernel_rfl) (in_body _)
theorem k_names : FnOk Tryz.prog 117 NamesC := body_ok (by kernel_rfl) (names_body _ k_rname)
theorem k_find : FnOk Tryz.prog 36 FindC := body_ok (by kernel_rfl) (find_body _)
theorem k_rbox : FnOk Tryz.prog 67 RBoxC := body_ok (by kernel_rfl) (rbox_body _ k_in)
theorem k_same : FnOk Tryz.prog 58 SameC := body_ok (by kernel_rfl) (same_body _)
theorem k_chains : FnOk Tryz.prog 34 ChainsC := body_ok (by kernel_rfl) (chains_body _)
theorem k_same23 : FnOk Tryz.prog 37 Same23C := body_ok (by kernel_rfl) (same23_body _ k_same)
theorem k_rcopy : FnOk Tryz.prog 102 RCopyC := body_ok (by kernel_rfl) (rcopy_body _)
theorem k_until : FnOk Tryz.prog 104 UntilC := body_ok (by kernel_rfl) (until_body _)
theorem k_which : FnOk Tryz.prog 89 WhichC := body_ok (by kernel_rfl) (which_body _)
theorem k_put : FnOk Tryz.prog 92 PutC := body_ok (by kernel_rfl) (put_body _)
theorem k_rbills : FnOk Tryz.prog 64 RBillsC := body_ok (by kernel_rfl) (rbills_body _ k_put)
theorem k_rof : FnOk Tryz.prog 66 ROfC := body_ok (by kernel_rfl) (rof_body _ k_put)
theorem k_rfull : FnOk Tryz.prog 68 RFullC := body_ok (by kernel_rfl) (rfull_body _ k_find)
theorem k_rmay : FnOk Tryz.prog 100 RMayC := body_ok (by kernel_rfl) (rmay_body _ k_names k_rday k_rright k_in)
theorem k_rissue : FnOk Tryz.prog 87 RIssueC := body_ok (by kernel_rfl) (rissue_body _ k_rmay k_rname k_find k_rbox k_rcopy)
theorem k_rwrong1 : FnOk Tryz.prog 88 (RWrongK 1) := body_ok (by kernel_rfl) (rwrong1_body _ k_find k_rday k_rname k_which k_until)
theorem k_rwrong2 : FnOk Tryz.prog 88 (RWrongK 2) := body_ok (by kernel_rfl) (rwrong2_body _ k_find k_rday k_rname k_which k_until)
theorem k_rwrong3 : FnOk Tryz.prog 88 (RWrongK 3) := body_ok (by kernel_rfl) (rwrong3_body _ k_find k_rday k_rname k_which k_until)
theorem k_rwrong4 : FnOk Tryz.prog 88 (RWrongK 4) := body_ok (by kernel_rfl) (rwrong4_body _ k_find k_rday k_rname k_which k_until)
theorem k_rwrong5 : FnOk Tryz.prog 88 (RWrongK 5) := body_ok (by kernel_rfl) (rwrong5_body _ k_find k_rday k_rname k_which k_until)
theorem k_few : FnOk Tryz.prog 38 FewC := body_ok (by kernel_rfl) (few_body _)
theorem k_rdo0 : FnOk Tryz.prog 57 (RDoK 0) := body_ok (by kernel_rfl) (rdo0_body _ k_rissue)
theorem k_rwrong_ok : FnOk Tryz.prog 88 RWrongC := rwrong_ok k_rwrong1 k_rwrong2 k_rwrong3 k_rwrong4 k_rwrong5
theorem k_rdo3 : FnOk Tryz.prog 57 (RDoK 3) := body_ok (by kernel_rfl) (rdo3_body _ k_rwrong_ok k_find k_which)
theorem k_rdo4 : FnOk Tryz.prog 57 (RDoK 4) := body_ok (by kernel_rfl) (rdo4_body _ k_rwrong_ok k_find k_which)
theorem k_rdo1 : FnOk Tryz.prog 57 (RDoK 1) := body_ok (by kernel_rfl) (rdo1_body _ k_rwrong_ok k_find k_which)
theorem k_rdo2 : FnOk Tryz.prog 57 (RDoK 2) := body_okS (by kernel_rfl) (rdo2_body _ k_rwrong_ok k_find k_which)
theorem k_rdo5 : FnOk Tryz.prog 57 (RDoK 5) := body_ok (by kernel_rfl) (rdo5_body _ k_rwrong_ok k_find k_which)
theorem k_rdo_ok : FnOk Tryz.prog 57 RDoC := rdo_ok k_rdo0 k_rdo1 k_rdo2 k_rdo3 k_rdo4 k_rdo5
theorem k_ldo0 : FnOk Tryz.prog 27 (LDoK 0) := body_ok (by kernel_rfl) (ldo0_body _ k_rdo_ok k_issue)
theorem k_ldo1 : FnOk Tryz.prog 27 (LDoK 1) := body_ok (by kernel_rfl) (ldo1_body _ k_rdo_ok k_endorse)
theorem k_ldo3 : FnOk Tryz.prog 27 (LDoK 3) := body_ok (by kernel_rfl) (ldo3_body _ k_rdo_ok k_lose)
theorem k_ldo4 : FnOk Tryz.prog 27 (LDoK 4) := body_ok (by kernel_rfl) (ldo4_body _ k_rdo_ok k_replace)
theorem k_ldo5 : FnOk Tryz.prog 27 (LDoK 5) := body_ok (by kernel_rfl) (ldo5_body _ k_rdo_ok k_retire)
theorem k_ldo2 : FnOk Tryz.prog 27 (LDoK 2) := body_ok (by kernel_rfl) (ldo2_body _ k_rdo_ok k_surrender k_find k_same)
theorem k_right23 : FnOk Tryz.prog 13 RightC := body_ok (by kernel_rfl) (right23_body _ k_few)
theorem k_ldo_ok : FnOk Tryz.prog 27 LDoC := ldo_ok k_ldo0 k_ldo1 k_ldo2 k_ldo3 k_ldo4 k_ldo5
theorem k_play : FnOk Tryz.prog 14 PlayC := body_ok (by kernel_rfl) (play_body _ k_new k_ldo_ok)
theorem k_awake : FnOk Tryz.prog 12 AwakeC := body_ok (by kernel_rfl) (awake_body _ k_new k_issue k_endorse k_surrender k_state k_originals)
theorem k_unlike : FnOk Tryz.prog 35 UnlikeC := body_okS (by kernel_rfl) (unlike_body _ k_bills k_rbills k_same k_of k_rof k_rbox k_box k_get k_originals k_same23 k_state k_full k_rfull k_holder k_chain k_chains)
end Go.Proofs.YtjnmaicofgjplaaGreatDoor
/-
 The door: arguments as they come in, as abstract values, by their type's shape; a contract as what a row asks.
-/
namespace Go.Proofs.YtjnmaicofgjplaaGreatDoor
open Go.ChangeShapes Go.WideShapes Go.Deep Go.RowKit

inductive Sh where
 | int (k : IntKind)
 | str
 | bl
 | sl (sz : Nat) (e : Sh)
 | st (l : List Sh)
mutual
def Sh.width : Sh → Nat
 | .int _ => 1
 | .str => 1
 | .bl => 1
 | .sl _ _ => 1
 | .st l => Sh.widthL l
def Sh.widthL : List Sh → Nat
 | [] => 0
 | s :: l => s.width + Sh.widthL l
end
mutual
/-- The cells of a value of that shape. -/
def Op (B : Nat) : Sh → List AV → Prop
 | .int k, cs => ∃ n, cs = [.int k n] ∧ (Lit.int k n).wf = true
 | .str, cs => ∃ s, cs = [.str s] ∧ s.size ≤ maxLen ∧ s.size ≤ B
 | .bl, cs => ∃ b, cs = [.bl b]
 | .sl sz e, cs => ∃ xs, cs = [.sl sz xs] ∧ xs.length ≤ maxLen ∧ ∀ x ∈ xs, x = elemAV sz x.cells ∧ Op B e x.cells
 | .st l, cs => OpL B l cs
def OpL (B : Nat) : List Sh → List AV → Prop
 | [], cs => cs = []
 | s :: l, cs => ∃ a b, cs = a ++ b ∧ Op B s a ∧ OpL B l b
end
mutual
theorem Op.one {B : Nat} : ∀ (s : Sh) (cs : List AV), Op B s cs → cs.all AV.one = true
 | .int k, cs, h => by unfold Op at h; obtain ⟨n, rfl, _⟩ := h; rfl
 | .str, cs, h => by unfold Op at h; obtain ⟨n, rfl, _⟩ := h; rfl
 | .bl, cs, h => by unfold Op at h; obtain ⟨n, rfl⟩ := h; rfl
 | .sl sz e, cs, h => by unfold Op at h; obtain ⟨xs, rfl, _⟩ := h; rfl
 | .st l, cs, h => by unfold Op at h; exact OpL.one l cs h
theorem OpL.one {B : Nat} : ∀ (l : List Sh) (cs : List AV), OpL B l cs → cs.all AV.one = true
 | [], cs, h => by unfold OpL at h; subst h; rfl
 | s :: l, cs, h => by
  unfold OpL at h
  obtain ⟨a, b, rfl, h1, h2⟩ := h
  rw [List.all_append, Op.one s a h1, OpL.one l b h2]
  rfl
end
def shFs (P : Program) (g : TypeId → Option Sh) : List Field → Nat → Nat → Option (List Sh)
 | [], off, tot => if off = tot then some [] else none
 | f :: l, off, tot => if f.offset = off then match g f.type, shFs P g l (off + P.cellsOf f.type) tot with
   | some s, some r => some (s :: r)
   | _, _ => none
  else none
mutual
theorem Op.len {B : Nat} : ∀ (s : Sh) (cs : List AV), Op B s cs → cs.length = s.width
 | .int k, cs, h => by unfold Op at h; obtain ⟨n, rfl, _⟩ := h; rfl
 | .str, cs, h => by unfold Op at h; obtain ⟨n, rfl, _⟩ := h; rfl
 | .bl, cs, h => by unfold Op at h; obtain ⟨n, rfl⟩ := h; rfl
 | .sl sz e, cs, h => by unfold Op at h; obtain ⟨xs, rfl, _⟩ := h; rfl
 | .st l, cs, h => by unfold Op at h; exact OpL.len l cs h
theorem OpL.len {B : Nat} : ∀ (l : List Sh) (cs : List AV), OpL B l cs → cs.length = Sh.widthL l
 | [], cs, h => by unfold OpL at h; subst h; rfl
 | s :: l, cs, h => by
  unfold OpL at h
  obtain ⟨a, b, rfl, h1, h2⟩ := h
  rw [List.length_append, Op.len s a h1, OpL.len l b h2]
  rfl
end
/-- A type's shape, as the program tells it: structs' fields one behind the other. -/
def shOf (P : Program) : Nat → TypeId → Option Sh
 | 0, _ => none
 | n + 1, t => match P.underlying t with
  | some .bool => some .bl
  | some (.int k) => some (.int k)
  | some .string => some .str
  | some (.slice e) => match shOf P n e with
   | some s => if s.width = P.cellsOf e then some (.sl (P.cellsOf e) s) else none
   | none => none
  | some (.struct fs) => (shFs P (shOf P n) fs.toList 0 (P.cellsOf t)).map .st
  | _ => none
/-- All of memory is published. -/
def pubW (w : World) : Pub := fun b => match w.heap[b]? with
 | some (.cells arr _ _) => arr.size
 | _ => 0
theorem pubW_cell {w : World} {b i : Nat} {u : Value} (h : w.cell? ⟨b, i, none⟩ = some u) : i < pubW w b := by
 unfold World.cell? at h
 unfold pubW
 cases hb : w.heap[b]? with
 | none => simp [hb] at h
 | some o =>
  cases o <;> simp [hb] at h ⊢
  rename_i arr _ _
  rcases Nat.lt_or_ge i arr.size with h1 | h1
  ·exact h1
  ·rw [Array.getElem?_eq_none h1] at h; simp at h
theorem pubW_there {w : World} {b i : Nat} (h : i < pubW w b) : ∃ u, w.cell? ⟨b, i, none⟩ = some u := by
 unfold pubW at h
 cases hb : w.heap[b]? with
 | none => simp [hb] at h
 | some o =>
  cases o <;> simp [hb] at h
  rename_i arr _ _
  exact ⟨arr[i], by unfold World.cell?; simp [hb, Array.getElem?_eq_getElem h]⟩
theorem Mod.door (w : World) : Mod (pubW w) w rho0 [] :=
 ⟨fun k e he => (by simp at he), fun _ _ => rfl, (fun _ _ _ _ _ h => by cases h), (fun b hb => by unfold pubW; rw [Array.getElem?_eq_none hb]), fun b i hi => pubW_there hi⟩
theorem elemAV_cells_ {sz : Nat} {l : List AV} (hl : l.length = sz) (h1 : l.all AV.one = true) : (elemAV sz l).cells = l := elemAV_cells hl h1
theorem of_each_ {α : Type} {p : Nat → α → Prop} : ∀ (n : Nat), (∀ i, i < n → ∃ a, p i a) → ∃ l : List α, l.length = n ∧ ∀ i (h : i < l.length), p i l[i]
 | 0, _ => ⟨[], rfl, fun i h => by simp at h⟩
 | n + 1, h => by
  obtain ⟨l, hl, hp⟩ := of_each_ n (fun i hi => h i (by omega))
  obtain ⟨a, ha⟩ := h n (by omega)
  refine ⟨l ++ [a], by simp [hl], fun i hi => ?_⟩
  by_cases h1 : i < l.length
  ·rw [List.getElem_append_left h1]; exact hp i h1
  ·simp at hi
   obtain rfl : i = n := by omega
   subst hl
   simpa using ha
theorem Addr_add_none (b o n : Nat) : (⟨b, o, none⟩ : Addr).add n = ⟨b, o + n, none⟩ := by unfold Addr.add; split <;> simp_all
/-- What is handed in is as light as memory allows, where that is known. -/
def LtD (B : Nat) (P : Program) {H : Type} (t : TypeId) (d : DataW H) : Prop := maxLen ≤ B ∨ (reachBytes ≤ B ∧ ∀ n ∈ d.weights P t, n ≤ reachBytes)
theorem each_mem {P : Program} {H : Type} : ∀ {ts : List TypeId} {ds : List (DataW H)} {i : Nat} {t : TypeId} {d : DataW H}, ts[i]? = some t → ds[i]? = some d → ∀ n ∈ d.weights P t, n ∈ DataW.weightsEach P ts ds
 | [], _, i, t, d, h, _ => by simp at h
 | _ :: _, [], i, t, d, _, h => by simp at h
 | u :: ts, e :: ds, 0, t, d, h, k => by
  intro n hn
  simp at h k
  subst h k
  unfold DataW.weightsEach
  exact List.mem_append_left _ hn
 | u :: ts, e :: ds, i + 1, t, d, h, k => by
  intro n hn
  unfold DataW.weightsEach
  exact List.mem_append_right _ (each_mem (by simpa using h) (by simpa using k) n hn)
theorem all_mem {P : Program} {H : Type} {e : TypeId} : ∀ {ds : List (DataW H)} {i : Nat} {d : DataW H}, ds[i]? = some d → ∀ n ∈ d.weights P e, n ∈ DataW.weightsAll P e ds
 | [], i, d, h => by simp at h
 | x :: ds, 0, d, h => by
  intro n hn
  simp at h
  subst h
  unfold DataW.weightsAll
  exact List.mem_append_left _ hn
 | x :: ds, i + 1, d, h => by
  intro n hn
  unfold DataW.weightsAll
  exact List.mem_append_right _ (all_mem (by simpa using h) n hn)
section
variable {B : Nat}
variable {H : Type} {enc : TypeId × Value → H} {P : Program} {w : World} {base : Nat} {spare : Nat → Bool} {held : Bool}
theorem open_fs {g : TypeId → Option Sh} {cs : List Value} (hg : ∀ t s, g t = some s → ∀ fuel cs x, DataW.trod enc P w base spare held fuel t cs = some x → LtD B P t x.1 → ∃ cz, Op B s cz ∧ VRels (pubW w) w rho0 cz cs) :
  ∀ (l : List Field) (off tot : Nat) (ss : List Sh), shFs P g l off tot = some ss → cs.length = tot → (∀ f ∈ l, ∃ fuel y, DataW.trod enc P w base spare held fuel f.type ((cs.drop f.offset).take (P.cellsOf f.type)) = some y ∧ LtD B P f.type y.1) →
   ∃ cz, OpL B ss cz ∧ VRels (pubW w) w rho0 cz (cs.drop off)
 | [], off, tot, ss, h, hl, _ => by
  unfold shFs at h
  split at h
  ·cases h
   rename_i e
   refine ⟨[], by unfold OpL; rfl, ?_⟩
   rw [List.drop_eq_nil_of_le (by omega)]
   exact .nil
  ·cases h
 | f :: l, off, tot, ss, h, hl, hf => by
  unfold shFs at h
  split at h
  ·rename_i e
   split at h
   ·rename_i s r hs hr
    cases h
    obtain ⟨fuel, y, hy, hly⟩ := hf f (List.mem_cons_self ..)
    obtain ⟨cz1, h1, h2⟩ := hg _ _ hs _ _ _ hy hly
    obtain ⟨cz2, h3, h4⟩ := open_fs hg l _ tot r hr hl (fun f hm => hf f (List.mem_cons_of_mem _ hm))
    refine ⟨cz1 ++ cz2, by unfold OpL; exact ⟨cz1, cz2, rfl, h1, h3⟩, ?_⟩
    rw [e] at h2
    have := h2.app h4
    rw [← List.drop_drop, List.take_append_drop] at this
    exact this
   ·cases h
  ·cases h
theorem VRels.single {x : AV} {u : Value} {pub : Pub} {r : Rho} (h : VRel pub w r x u) : VRels pub w r [x] [u] := .cons h .nil
theorem open_cells : ∀ (n : Nat) (t : TypeId) (s : Sh), shOf P n t = some s → ∀ (fuel : Nat) (cs : List Value) (x : DataW H × List MemPlace), DataW.trod enc P w base spare held fuel t cs = some x → LtD B P t x.1 → ∃ cz, Op B s cz ∧ VRels (pubW w) w rho0 cz cs
 | 0, t, s, h => by cases h
 | n + 1, t, s, h => by
  intro fuel cs x hx hlt
  have ih := open_cells n
  unfold shOf at h
  split at h
  ·rename_i ht
   cases h
   obtain ⟨b, rfl, _⟩ := DataW.trod_bool ht hx
   exact ⟨[.bl b], by unfold Op; exact ⟨b, rfl⟩, .single (.bl b)⟩
  ·rename_i k ht
   cases h
   obtain ⟨b, rfl, _, hw⟩ := DataW.trod_int ht hx
   exact ⟨[.int k b], by unfold Op; exact ⟨b, rfl, hw⟩, .single (.int k b)⟩
  ·rename_i ht
   cases h
   obtain ⟨b, rfl, rfl, hw⟩ := DataW.trod_string ht hx
   have hb : b.size ≤ B := by
    rcases hlt with h1 | ⟨h1, h2⟩
    ·omega
    ·have h3 := h2 b.data.toList.length (by dsimp only; unfold DataW.weights; exact List.mem_cons_self ..)
     have h4 : b.data.toList.length = b.size := by rw [Array.length_toList]; rfl
     omega
   exact ⟨[.str b], by unfold Op; exact ⟨b, rfl, hw, hb⟩, .single (.str b)⟩
  ·rename_i e ht
   split at h
   ·rename_i se hse
    split at h
    ·rename_i hwd
     cases h
     rcases open_slice ht hx with ⟨rfl, _⟩ | ⟨a, len, cap, m, n', D, Pl, rfl, _, hl, hm, hmm, rfl, hi⟩
     ·refine ⟨[.sl (P.cellsOf e) []], by unfold Op; exact ⟨[], rfl, Nat.zero_le _, fun x hx => by cases hx⟩, .single (.sl (A := none) (c := 0) (xs := []) (Nat.le_refl _) (by unfold maxLen; omega) (fun _ => ⟨rfl, rfl⟩) (fun x hx => by cases hx) (fun _ _ => undef) (fun i x j u hx => by simp at hx) (fun i x j u hx => by simp at hx))⟩
     ·have hle : len ≤ m := by rw [hmm]; split <;> omega
      have each : ∀ i, i < len → ∃ cz, Op B se cz ∧ ∃ vs : List Value, VRels (pubW w) w rho0 cz vs ∧ ∀ j v, vs[j]? = some v → w.cell? ((a.add (i * P.cellsOf e)).add j) = some v := fun i hil => by
       obtain ⟨cs', hc, ht'⟩ := hi i (by omega)
       have hli : LtD B P e (D i) := by
        rcases hlt with h1 | ⟨h1, h2⟩
        ·exact .inl h1
        ·refine .inr ⟨h1, fun n hn => h2 n ?_⟩
         unfold DataW.weights
         rw [ht]
         refine List.mem_cons_of_mem _ (List.mem_append_left _ (all_mem (i := i) (d := D i) ?_ n hn))
         rw [List.getElem?_map, List.getElem?_range hil]
         rfl
       obtain ⟨cz, h1, h2⟩ := ih e se hse _ _ _ ht' hli
       obtain ⟨_, hcl, hat⟩ := World.cells?_some hc
       exact ⟨cz, h1, cs', h2, fun j v hv => by rw [hat j (by rw [← hcl]; exact (List.getElem?_eq_some_iff.1 hv).1), hv]⟩
      obtain ⟨A, hAl, hA⟩ : ∃ A : List (List AV), A.length = len ∧ ∀ i (h : i < A.length), Op B se A[i] ∧ ∃ vs : List Value, VRels (pubW w) w rho0 A[i] vs ∧ ∀ j v, vs[j]? = some v → w.cell? ((a.add (i * P.cellsOf e)).add j) = some v := of_each_ len (p := fun i cz => Op B se cz ∧ ∃ vs : List Value, VRels (pubW w) w rho0 cz vs ∧ ∀ j v, vs[j]? = some v → w.cell? ((a.add (i * P.cellsOf e)).add j) = some v) each
      have hcells : ∀ (cz : List AV), Op B se cz → (elemAV (P.cellsOf e) cz).cells = cz := fun cz ho => elemAV_cells_ ((Op.len _ _ ho).trans hwd) (Op.one _ _ ho)
      refine ⟨[.sl (P.cellsOf e) (A.map (elemAV (P.cellsOf e)))], ?_, ?_⟩
      ·unfold Op
       refine ⟨_, rfl, by rw [List.length_map, hAl]; omega, fun x hx => ?_⟩
       obtain ⟨cz, has, rfl⟩ := List.mem_map.1 hx
       obtain ⟨i, hil, rfl⟩ := List.getElem_of_mem has
       rw [hcells _ (hA i hil).1]
       exact ⟨rfl, (hA i hil).1⟩
      ·refine .single ?_
       rw [← hAl, ← List.length_map (f := elemAV (P.cellsOf e))]
       have get : ∀ (i : Nat) (x : AV) (j : Nat) (u : AV), (A.map (elemAV (P.cellsOf e)))[i]? = some x → x.cells[j]? = some u → ∃ v, w.cell? ((a.add (i * P.cellsOf e)).add j) = some v ∧ VRel (pubW w) w rho0 u v := fun i x j u hx hu => by
        rw [List.getElem?_map] at hx
        rcases Nat.lt_or_ge i A.length with hil | hil
        ·rw [List.getElem?_eq_getElem hil] at hx
         cases hx
         obtain ⟨ho, vs, hvs, hc⟩ := hA i hil
         rw [hcells _ ho] at hu
         obtain ⟨v, hv, hr⟩ := hvs.get hu
         exact ⟨v, hc j v hv, hr⟩
        ·rw [List.getElem?_eq_none hil] at hx; cases hx
       refine .sl (by rw [List.length_map]; omega) (by omega) (fun h => by cases h) (fun x hx => ?_) (fun i j => (w.cell? ((a.add (i * P.cellsOf e)).add j)).getD undef) (fun i x j u hx hu => ?_) (fun i x j u hx hu => ?_)
       ·obtain ⟨cz, has, rfl⟩ := List.mem_map.1 hx
        obtain ⟨i, hil, rfl⟩ := List.getElem_of_mem has
        rw [hcells _ (hA i hil).1]
        exact ⟨(Op.len _ _ (hA i hil).1).trans hwd, Op.one _ _ (hA i hil).1⟩
       ·obtain ⟨v, hv, hr⟩ := get i x j u hx hu
        rw [hv]
        exact hr
       ·obtain ⟨v, hv, hr⟩ := get i x j u hx hu
        have hsp : a.spot = none := by
         rw [List.getElem?_map] at hx
         cases hAi : A[i]? with
         | none => rw [hAi] at hx; cases hx
         | some cz =>
          rw [hAi] at hx
          cases hx
          obtain ⟨hil, rfl⟩ := List.getElem?_eq_some_iff.1 hAi
          have hju : j < A[i].length := by rw [hcells _ (hA i hil).1] at hu; exact (List.getElem?_eq_some_iff.1 hu).1
          have hli := Op.len _ _ (hA i hil).1
          obtain ⟨ho, vs, hvs, hc⟩ := hA 0 (by omega)
          have hl0 := Op.len _ _ ho
          have hv0 : 0 < vs.length := by rw [hvs.len]; omega
          have := World.cell?_spot (hc 0 vs[0] (List.getElem?_eq_getElem hv0))
          simpa [Addr.add] using this
        obtain ⟨b, o, spot⟩ := a
        dsimp only at hsp
        subst hsp
        rw [hv]
        have e1 : ((⟨b, o, none⟩ : Addr).add (i * P.cellsOf e)).add j = ⟨b, o + i * P.cellsOf e + j, none⟩ := by
         rw [Addr_add_none, Addr_add_none]
        rw [e1] at hv
        exact ⟨b, o, rfl, pubW_cell hv, hv⟩
    ·cases h
   ·cases h
  ·rename_i fs ht
   obtain ⟨ss, hss, rfl⟩ := map_some h
   obtain ⟨xs, n', _, hxa, hl, hlen, hf⟩ := DataW.trod_struct ht hx
   obtain ⟨cz, h1, h2⟩ := open_fs (cs := cs) ih fs.toList 0 _ ss hss hl (fun f hm => by
    obtain ⟨j, hj⟩ := List.getElem?_of_mem hm
    have hjl : j < xs.length := by rw [hlen]; simpa using (List.getElem?_eq_some_iff.1 hj).1
    refine ⟨n', xs[j], by rw [hf j f (by simpa using hj), List.getElem?_eq_getElem hjl], ?_⟩
    rcases hlt with h1 | ⟨h1, h2⟩
    ·exact .inl h1
    ·refine .inr ⟨h1, fun n hn => h2 n ?_⟩
     rw [hxa]
     unfold DataW.weights
     rw [ht]
     exact each_mem (i := j) (t := f.type) (d := xs[j].1) (by rw [List.getElem?_map, hj]; rfl) (by rw [List.getElem?_map, List.getElem?_eq_getElem hjl]; rfl) n hn)
   exact ⟨cz, by unfold Op; exact h1, by simpa using h2⟩
  ·cases h
def topAV : Sh → List AV → AV
 | .st _, cz => .agg cz
 | _, cz => cz.headD .any
theorem cells_one_ {v : Value} (h : ∀ cs, v ≠ .agg cs) : v.cells.toList = [v] := by
 cases v with
 | agg cs => exact absurd rfl (h cs)
 | _ => rfl
theorem open_val {n : Nat} {t : TypeId} {s : Sh} {r : Reach} {b0 : Nat} {v : Value} {d : DataW H} {p : List MemPlace} (hs : shOf P n t = some s) (hv : Value.okWide P w r b0 t v) (hd : DataW.Trod enc P w base spare held t v d p) (hlt : LtD B P t d) :
  ∃ cz, Op B s cz ∧ VRel (pubW w) w rho0 (topAV s cz) v := by
 obtain ⟨fuel, hf⟩ := hd
 obtain ⟨cz, h1, h2⟩ := open_cells (B := B) n t s hs _ _ _ hf hlt
 refine ⟨cz, h1, ?_⟩
 have scal : (∀ cs, v ≠ .agg cs) → ∀ a, cz = [a] → VRel (pubW w) w rho0 a v := fun hne a ha => by
  rw [cells_one_ hne, ha] at h2
  exact h2.at_ 0 a v rfl rfl
 cases n with
 | zero => cases hs
 | succ n =>
  unfold shOf at hs
  split at hs
  ·rename_i ht
   cases hs
   unfold Op at h1
   obtain ⟨b, rfl⟩ := h1
   exact scal (fun cs hc => by subst hc; simp [Value.okWide, ht, Cell.okWide, Cell.ok] at hv) _ rfl
  ·rename_i k ht
   cases hs
   unfold Op at h1
   obtain ⟨b, rfl, _⟩ := h1
   exact scal (fun cs hc => by subst hc; simp [Value.okWide, ht, Cell.okWide, Cell.ok] at hv) _ rfl
  ·rename_i ht
   cases hs
   unfold Op at h1
   obtain ⟨b, rfl, _⟩ := h1
   exact scal (fun cs hc => by subst hc; simp [Value.okWide, ht, Cell.okWide, Cell.ok] at hv) _ rfl
  ·rename_i e ht
   split at hs
   ·split at hs
    ·cases hs
     unfold Op at h1
     obtain ⟨b, rfl, _⟩ := h1
     exact scal (fun cs hc => by subst hc; simp [Value.okWide, ht, Cell.okWide, Cell.ok] at hv) _ rfl
    ·cases hs
   ·cases hs
  ·rename_i fs ht
   obtain ⟨ss, hss, rfl⟩ := map_some hs
   simp only [Value.okWide, ht] at hv
   obtain ⟨cs, rfl, _⟩ := hv
   exact .agg (by simpa [Value.cells] using h2.len) fun i x u hx hu => h2.at_ i x u hx (by simpa [Value.cells] using hu)
  ·cases hs
theorem op_list {α : Type} {sz : Nat} {e : Sh} {f : α → AV} {q : α → Prop} (h : ∀ cz, Op B e cz → ∃ x : α, elemAV sz cz = f x ∧ q x) {cs : List AV} (ho : Op B (.sl sz e) cs) : ∃ L : List α, cs = [.sl sz (mapA f L)] ∧ L.length ≤ maxLen ∧ ∀ x ∈ L, q x := by
 unfold Op at ho
 obtain ⟨xs, rfl, hl, hx⟩ := ho
 have key : ∀ xs : List AV, (∀ x ∈ xs, x = elemAV sz x.cells ∧ Op B e x.cells) → ∃ L : List α, xs = mapA f L ∧ ∀ x ∈ L, q x := fun xs => by
  induction xs with
  | nil => exact fun _ => ⟨[], rfl, fun x hx => by cases hx⟩
  | cons y ys ih =>
   intro hx
   obtain ⟨L, rfl, hL⟩ := ih fun x hm => hx x (List.mem_cons_of_mem _ hm)
   obtain ⟨e1, e2⟩ := hx y (List.mem_cons_self ..)
   obtain ⟨x, hf, hq⟩ := h _ e2
   refine ⟨x :: L, ?_, fun z hz => ?_⟩
   ·show y :: mapA f L = f x :: mapA f L
    rw [e1, hf]
   ·rcases List.mem_cons.1 hz with rfl | hz
    ·exact hq
    ·exact hL z hz
 obtain ⟨L, rfl, hL⟩ := key xs hx
 exact ⟨L, rfl, by rwa [mapA_len] at hl, hL⟩
theorem wf_i64 {n : Int} (h : (Lit.int .i64 n).wf = true) : -9223372036854775808 ≤ n ∧ n ≤ 9223372036854775807 := by
 simp only [Lit.wf, Bool.and_eq_true, decide_eq_true_eq] at h
 have h1 : IntKind.i64.min = -9223372036854775808 := rfl
 have h2 : IntKind.i64.max = 9223372036854775807 := rfl
 omega
theorem wf_u8 {n : Int} (h : (Lit.int .u8 n).wf = true) : 0 ≤ n ∧ n ≤ 255 := by
 simp only [Lit.wf, Bool.and_eq_true, decide_eq_true_eq] at h
 have h1 : IntKind.u8.min = 0 := rfl
 have h2 : IntKind.u8.max = 255 := rfl
 omega
/-- A contract as what a row asks: true, and all that came in as it was. -/
theorem walk_of {f : Nat} {c : Ctr} (hf : FnOk P f c) {args : List AV} {vals : Array Value} (hv : VRels (pubW w) w rho0 args vals.toList) (hc : c args [] fun x _ => x = .bl true) :
  Calls P f vals w fun e w' => e = .returned (.bool true) ∧ Below w.heap.size w w' := by
 refine (hf args [] _ hc w rho0 (pubW w) vals (Mod.door w) hv).mono fun e w' ⟨v, x, H', r', pub', he, hx, hvx, _, hfr, _⟩ => ?_
 subst he
 subst hx
 cases hvx
 exact ⟨rfl, hfr.os, hfr.tape, hfr.output, hfr.size, fun j hj => (hfr.keep j hj (fun ⟨_, _, h, _⟩ => by cases h)).1⟩
end
end Go.Proofs.YtjnmaicofgjplaaGreatDoor
namespace Go.Proofs.YtjnmaicofgjplaaGreatDoor
open Go.RowKit
/-! ### Acts as they come in -/
def actSh : Sh := .st [.int .i64, .int .i64, .int .i64, .str, .str, .str, .st [.str, .str, .str, .str, .str, .sl 1 .str, .sl 1 .str, .int .i64, .bl]]
theorem reach47 : reachBytes ≤ 140737488355328 := by decide
theorem op_strs {B : Nat} {cs : List AV} (h : Op B (.sl 1 .str) cs) : ∃ L : List ByteArray, cs = [.sl 1 (mapA .str L)] ∧ L.length ≤ maxLen ∧ ∀ s ∈ L, s.size ≤ maxLen :=
 op_list (f := .str) (q := fun s => s.size ≤ maxLen) (fun cz h => by unfold Op at h; obtain ⟨s, rfl, h1, _⟩ := h; exact ⟨s, rfl, h1⟩) h
theorem op_act {cz : List AV} (h : Op reachBytes actSh cz) : ∃ x : At, cz = AtL x ∧ GdAt x := by
 have hr := reach47
 unfold actSh Op at h
 (unfold OpL at h; obtain ⟨_, _, rfl, h1, h⟩ := h; unfold Op at h1; obtain ⟨kind, rfl, _⟩ := h1)
 (unfold OpL at h; obtain ⟨_, _, rfl, h1, h⟩ := h; unfold Op at h1; obtain ⟨index, rfl, _⟩ := h1)
 (unfold OpL at h; obtain ⟨_, _, rfl, h1, h⟩ := h; unfold Op at h1; obtain ⟨day, rfl, _⟩ := h1)
 (unfold OpL at h; obtain ⟨_, _, rfl, h1, h⟩ := h; unfold Op at h1; obtain ⟨bill, rfl, ⟨_, w1⟩⟩ := h1)
 (unfold OpL at h; obtain ⟨_, _, rfl, h1, h⟩ := h; unfold Op at h1; obtain ⟨by_, rfl, ⟨_, w2⟩⟩ := h1)
 (unfold OpL at h; obtain ⟨_, _, rfl, h1, h⟩ := h; unfold Op at h1; obtain ⟨to, rfl, ⟨_, w3⟩⟩ := h1)
 unfold OpL at h
 obtain ⟨_, _, rfl, hb, h⟩ := h
 (unfold OpL at h; subst h)
 unfold Op at hb
 have h := hb
 clear hb
 (unfold OpL at h; obtain ⟨_, _, rfl, h1, h⟩ := h; unfold Op at h1; obtain ⟨number, rfl, ⟨_, w4⟩⟩ := h1)
 (unfold OpL at h; obtain ⟨_, _, rfl, h1, h⟩ := h; unfold Op at h1; obtain ⟨carrier, rfl, _⟩ := h1)
 (unfold OpL at h; obtain ⟨_, _, rfl, h1, h⟩ := h; unfold Op at h1; obtain ⟨shipper, rfl, ⟨_, w5⟩⟩ := h1)
 (unfold OpL at h; obtain ⟨_, _, rfl, h1, h⟩ := h; unfold Op at h1; obtain ⟨frm, rfl, ⟨_, w6⟩⟩ := h1)
 (unfold OpL at h; obtain ⟨_, _, rfl, h1, h⟩ := h; unfold Op at h1; obtain ⟨to2, rfl, ⟨_, w7⟩⟩ := h1)
 unfold OpL at h
 obtain ⟨_, _, rfl, h1, h⟩ := h
 obtain ⟨boxes, rfl, _, _⟩ := op_strs h1
 unfold OpL at h
 obtain ⟨_, _, rfl, h1, h⟩ := h
 obtain ⟨parents, rfl, _, wp⟩ := op_strs h1
 (unfold OpL at h; obtain ⟨_, _, rfl, h1, h⟩ := h; unfold Op at h1; obtain ⟨issued, rfl, _⟩ := h1)
 unfold OpL at h
 obtain ⟨_, _, rfl, h1, h⟩ := h
 unfold Op at h1
 obtain ⟨clean, rfl⟩ := h1
 (unfold OpL at h; subst h)
 exact ⟨⟨kind, index, day, bill, by_, to, ⟨number, carrier, shipper, frm, to2, boxes, parents, issued, clean⟩⟩, rfl, ⟨⟨Nat.le_trans w1 hr, Nat.le_trans w2 hr, Nat.le_trans w3 hr, Nat.le_trans w4 hr, Nat.le_trans w5 hr, Nat.le_trans w6 hr, Nat.le_trans w7 hr⟩, wp⟩⟩
theorem op_acts {cs : List AV} (h : Op reachBytes (.sl 15 actSh) cs) : ∃ L : List At, cs = [.sl 15 (mapA AtA L)] ∧ L.length ≤ maxLen ∧ ∀ a ∈ L, GdAt a :=
 op_list (f := AtA) (q := GdAt) (fun cz h => by
  obtain ⟨x, rfl, hx⟩ := op_act h
  exact ⟨x, by obtain ⟨kind, index, day, bill, by_, to, ⟨number, carrier, shipper, frm, to2, boxes, parents, issued, clean⟩⟩ := x; rfl, hx⟩) h
section
open Go.ChangeShapes Go.WideShapes Go.Deep
theorem light_len {P : Program} {H : Type} {enc : TypeId × Value → H} {w : World} {base : Nat} {spare : Nat → Bool} {held : Bool} {t e : TypeId} {v : Value} {d : DataW H} {p : List MemPlace} {pub : Pub} {r : Rho} {sz : Nat} {xs : List AV} (ht : P.underlying t = some (.slice e)) (h : DataW.Trod enc P w base spare held t v d p) (hl : LtD reachBytes P t d) (hv : VRel pub w r (.sl sz xs) v) : xs.length * P.bytesOf e ≤ reachBytes := by
 have hw : ∀ n ∈ d.weights P t, n ≤ reachBytes := by
  rcases hl with h1 | h1
  ·exact absurd h1 (by decide)
  ·exact h1.2
 obtain ⟨fuel, hf⟩ := h
 cases hv with
 | sl =>
  rcases open_slice ht hf with ⟨h1, _⟩ | ⟨a, len, cap, m, n', D, Pl, h1, _, hlc, _, hmm, h2, _⟩
  ·have h3 := (List.cons.inj h1).1
   injection h3 with _ h4 _
   rw [h4, Nat.zero_mul]
   exact Nat.zero_le _
  ·have h3 := (List.cons.inj h1).1
   injection h3 with _ h4 _
   have h5 := congrArg Prod.fst h2
   dsimp only at h5
   subst h5
   unfold DataW.weights at hw
   rw [ht] at hw
   have h6 := hw _ (List.mem_cons_self ..)
   rw [List.length_map, List.length_range] at h6
   rw [h4]
   exact Nat.le_trans (Nat.mul_le_mul_right _ (Nat.le_add_right _ _)) h6
end
theorem sh_acts : shOf Tryz.prog 9 22 = some (.sl 15 actSh) := by kernel_rfl
theorem by_act : Tryz.prog.bytesOf 38 = 216 := by kernel_rfl
theorem sh_act : shOf Tryz.prog 9 38 = some actSh := by kernel_rfl
end Go.Proofs.YtjnmaicofgjplaaGreatDoor
