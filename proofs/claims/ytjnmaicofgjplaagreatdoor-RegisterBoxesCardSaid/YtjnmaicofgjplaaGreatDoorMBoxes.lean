/-
  Texts of this proof, joined: UG, KBoxes.
-/
import Derived.Test.YtjnmaicofgjplaaGreatDoorJ6
set_option linter.unusedVariables false
set_option linter.unusedSimpArgs false
namespace Go.Proofs.YtjnmaicofgjplaaGreatDoor
def x4 : XFn := ⟨117, .seq (.reg [(zs 2 (.mov (.c (.bl false))))]) (.seq (.seq (.reg [(zs 13 (.call 12 [])), (zs 14 (.not (.t 13)))]) (.cond (.t 14) (.seq (.reg [(zs 2 (.mov (.c (.bl false))))]) .ret) .skip)) (.seq (.seq (.reg [(zm 15 0), (zs 16 (.call 13 [.t 15])), (zs 17 (.not (.t 16)))]) (.cond (.t 17) (.seq (.reg [(zs 2 (.mov (.c (.bl true))))]) .ret) .skip)) (.seq (.reg [(zm 19 0), (zs 20 (.call 14 [.t 19])), (zm 18 20), (zs 21 (.ext (.t 18) 0)), (zs 22 (.ext (.t 18) 1)), (zs 4 (.alloc 28 [.str ⟨#[]⟩, .v (.slice none 0 0)])), (zm 3 21), (zn (.st 2 (.t 4) (.t 22)))]) (.seq (.seq (.reg [(zm 23 3), (zs 24 (.cmn false (.t 23)))]) (.cond (.t 24) (.seq (.reg [(zs 2 (.mov (.c (.bl false))))]) .ret) .skip)) (.seq (.reg [(zs 25 (.mkm 54)), (zm 5 25)]) (.seq (.reg [(zm 26 3), (zs 27 (.call 25 [.t 26])), (zm 6 27)]) (.seq (.seq (.reg [(zs 7 (.mov (.c (.int .i64 0))))]) (.block 0 (.loop (.seq (.seq (.reg [(zm 28 7), (zm 29 6), (zs 30 (.lenl (.t 29))), (zs 31 (.cmp .lss (.t 28) (.t 30)))]) (.cond (.t 31) .skip (.exit 0))) (.seq (.block 1 (.seq (.seq (.dreg (.take 0 (zm 34 7) (.take 1 (zs 35 (.cmp .gtr (.t 34) (.c (.int .i64 0)))) (.take 2 (zm 36 35) (.take 3 (zh 37 36 true 6) (.take 4 (zh 38 36 true 7) (.take 5 (zg 39 36 true (.ari .sub .i64 (.t 38) (.c (.int .i64 1)))) (.take 6 (zg 40 36 true (.iad 1 (.t 37) (.t 39))) (.take 7 (zg 41 36 true (.ld false 1 (.t 40))) (.take 8 (zh 42 36 true 6) (.take 9 (zh 43 36 true 7) (.take 10 (zg 44 36 true (.iad 1 (.t 42) (.t 43))) (.take 11 (zg 45 36 true (.ld false 1 (.t 44))) (.take 12 (zg 46 36 true (.cmp .geq (.t 41) (.t 45))) (.take 13 (zs 47 (.pick (.t 36) (.t 46) (.c (.bl false)))) .nil)))))))))))))) 0 [6]) (.cond (.t 47) (.seq (.reg [(zs 2 (.mov (.c (.bl false))))]) .ret) .skip)) (.seq (.reg [(zm 49 3), (zm 50 6), (zm 51 7), (zs 52 (.iad 1 (.t 50) (.t 51))), (zl 53 52), (zs 54 (.call 16 [.t 49, .t 53])), (zm 48 54), (zs 55 (.ext (.t 48) 0)), (zs 56 (.ext (.t 48) 1)), (zs 8 (.alloc 34 [.str ⟨#[]⟩, .str ⟨#[]⟩, .str ⟨#[]⟩, .str ⟨#[]⟩, .str ⟨#[]⟩, .v (.slice none 0 0), .v (.slice none 0 0), .int .i64 0, .bl false])), (zn (.st 9 (.t 8) (.t 55))), (zm 9 56)]) (.seq (.seq (.dreg (.take 0 (zm 57 9) (.take 1 (zs 58 (.not (.t 57))) (.take 2 (zm 59 58) (.take 3 (zg 60 59 false (.fad 0 (.t 8))) (.take 4 (zg 61 59 false (.ld false 1 (.t 60))) (.take 5 (zh 62 59 false 6) (.take 6 (zh 63 59 false 7) (.take 7 (zg 64 59 false (.iad 1 (.t 62) (.t 63))) (.take 8 (zg 65 59 false (.ld false 1 (.t 64))) (.take 9 (zg 66 59 false (.cmp .neq (.t 61) (.t 65))) (.take 10 (zs 67 (.pick (.t 59) (.c (.bl true)) (.t 66))) .nil))))))))))) 0 [8, 6]) (.cond (.t 67) (.seq (.reg [(zs 2 (.mov (.c (.bl false))))]) .ret) .skip)) (.seq (.seq (.reg [(zm 68 3), (zm 69 6), (zm 70 7), (zs 71 (.iad 1 (.t 69) (.t 70))), (zl 72 71), (zs 73 (.call 15 [.t 68, .t 72])), (zs 74 (.cmp .neq (.t 73) (.c (.int .i64 0))))]) (.cond (.t 74) (.exit 1) .skip)) (.seq (.reg [(zs 10 (.mov (.c (.int .i64 0))))]) (.block 2 (.loop (.seq (.seq (.reg [(zm 75 10), (zf 76 5 8), (zl 77 76), (zs 78 (.lenl (.t 77))), (zs 79 (.cmp .lss (.t 75) (.t 78)))]) (.cond (.t 79) .skip (.exit 2))) (.seq (.block 3 (.seq (.reg [(zm 83 3), (zf 84 5 8), (zl 85 84), (zm 86 10), (zs 87 (.iad 1 (.t 85) (.t 86))), (zl 88 87), (zs 89 (.call 24 [.t 83, .t 88])), (zm 82 89), (zs 90 (.ext (.t 82) 0)), (zs 91 (.ext (.t 82) 1)), (zm 11 90), (zm 12 91)]) (.seq (.seq (.reg [(zm 92 12), (zs 93 (.not (.t 92))), (zm 94 93), (zh 95 94 false 11), (zh 96 94 false 6), (zh 97 94 false 7), (zg 98 94 false (.iad 1 (.t 96) (.t 97))), (zg 99 94 false (.ld false 1 (.t 98))), (zg 100 94 false (.cmp .neq (.t 95) (.t 99))), (zs 101 (.pick (.t 94) (.c (.bl true)) (.t 100))), (zm 102 101), (zh 103 102 false 5), (zg 104 102 false (.fad 5 (.t 8))), (zg 105 102 false (.ld false 1 (.t 104))), (zh 106 102 false 10), (zg 107 102 false (.iad 1 (.t 105) (.t 106))), (zg 108 102 false (.ld false 1 (.t 107))), (zg 109 102 false (.lkp none false (.bl false) (.t 103) (.t 108))), (zs 110 (.pick (.t 102) (.c (.bl true)) (.t 109)))]) (.cond (.t 110) (.seq (.reg [(zs 2 (.mov (.c (.bl false))))]) .ret) .skip)) (.reg [(zm 111 5), (zf 112 5 8), (zl 113 112), (zm 114 10), (zs 115 (.iad 1 (.t 113) (.t 114))), (zl 116 115), (zn (.upd none (.t 111) (.t 116) (.c (.bl true))))])))) (.reg [(zm 80 10), (zs 81 (.ari .add .i64 (.t 80) (.c (.int .i64 1)))), (zm 10 81)]))))))))))) (.reg [(zm 32 7), (zs 33 (.ari .add .i64 (.t 32) (.c (.int .i64 1)))), (zm 7 33)])))))) (.seq (.reg [(zs 2 (.mov (.c (.bl true))))]) .ret)))))))), [.tmp 2]⟩
end Go.Proofs.YtjnmaicofgjplaaGreatDoor
namespace Go.Proofs.YtjnmaicofgjplaaGreatDoor
open Go.RowKit
set_option maxHeartbeats 4000000
set_option maxRecDepth 100000
/-! ### RegisterBoxes -/
theorem boxGo_nodup : ∀ {l a : List ByteArray}, boxGo a l = true → l.Nodup ∧ ∀ x ∈ l, ¬ x ∈ a
 | [], _, _ => ⟨.nil, fun x hx => by cases hx⟩
 | b :: l, a, h => by
  unfold boxGo at h
  simp only [Bool.and_eq_true, Bool.not_eq_true'] at h
  obtain ⟨⟨_, h1⟩, h2⟩ := h
  obtain ⟨i1, i2⟩ := boxGo_nodup h2
  have hb : ¬ b ∈ a := fun hm => by
   unfold hasB at h1
   cases hn : atS id a b with
   | none => exact atS_none hn b hm rfl
   | some i => rw [hn] at h1; cases h1
  refine ⟨List.nodup_cons.2 ⟨fun hm => i2 b hm (List.mem_append_right _ (List.mem_cons_self ..)), i1⟩, fun x hx => ?_⟩
  rcases List.mem_cons.1 hx with rfl | h3
  ·exact hb
  ·exact fun hm => i2 x h3 (List.mem_append_left _ hm)
theorem may_nodup {c : ByteArray} {b : Bl} (h : mayB c b = true) : b.boxes.Nodup := by
 obtain ⟨number, car, shipper, frm, to, boxes, parents, issued, clean⟩ := b
 unfold mayB at h
 simp only [Bool.and_eq_true] at h
 exact (boxGo_nodup h.2.2.2.1).1
theorem lessB_irr (a : ByteArray) : lessB a a = false := decide_eq_false (List.lt_irrefl _)
theorem nums_all (L : List Br) : (L.filterMap (gN fun _ => true)) = L.map fun b => b.b.number := by
 induction L with
 | nil => rfl
 | cons b L ih => rw [List.filterMap_cons, List.map_cons, ih]; rfl
theorem nums_strict {L : List Br} (h : NodupN L) : (numsM L fun _ => true).Pairwise fun a b => lessB a b = true := by
 have h1 : (numsM L fun _ => true).Pairwise leB := sortB_sorted _
 have h2 : (numsM L fun _ => true).Nodup := by
  unfold numsM
  rw [nums_all]
  exact (sortB_mem _).nodup_iff.2 h
 refine (List.pairwise_and_iff.2 ⟨h1, h2⟩).imp fun {a b} ⟨h3, h4⟩ => ?_
 cases hl : lessB a b with
 | true => rfl
 | false => exact absurd (leB_anti h3 (lessB_no hl)) h4
theorem strict_at {W : List ByteArray} (h : W.Pairwise fun a b => lessB a b = true) {i j : Nat} {a b : ByteArray} (hi : W[i]? = some a) (hj : W[j]? = some b) (hij : i < j) : lessB a b = true := by
 obtain ⟨h1, rfl⟩ := List.getElem?_eq_some_iff.1 hi
 obtain ⟨h2, rfl⟩ := List.getElem?_eq_some_iff.1 hj
 exact List.pairwise_iff_getElem.1 h i j h1 h2 hij
/-- The boxes of the bills ahead of the i-th one, and the first k ones of that one. -/
def SeenX (L : List Br) (W : List ByteArray) (i : Nat) (t S : List ByteArray) : Prop := ∀ x ∈ S, (∃ b ∈ L, b.st = 0 ∧ x ∈ b.b.boxes ∧ ∃ j, j < i ∧ W[j]? = some b.b.number) ∨ x ∈ t
theorem seenX_no {n : Nat} {R : Rg} {W S : List ByteArray} {i k : Nat} {y : Br} {x : ByteArray} (h : Inv n R) (hW : W.Pairwise fun a b => lessB a b = true) (hs : SeenX R.bills W i (y.b.boxes.take k) S) (hy : y ∈ R.bills) (hl : y.st = 0) (hi : W[i]? = some y.b.number) (hx : y.b.boxes[k]? = some x) : atS id S x = none := by
 cases ha : atS id S x with
 | none => rfl
 | some j =>
  obtain ⟨z, hz, hzx⟩ := atS_some ha
  obtain rfl : z = x := hzx
  exfalso
  rcases hs z (List.mem_of_getElem? hz) with ⟨b, hb, hbl, hbx, j, hj, hwj⟩ | h2
  ·have e := h.dis b hb y hy hbl hl z hbx (List.mem_of_getElem? hx)
   have h3 := strict_at hW hwj hi hj
   rw [e, lessB_irr] at h3
   cases h3
  ·obtain ⟨hk, rfl⟩ := List.getElem?_eq_some_iff.1 hx
   obtain ⟨j, hj, e⟩ := List.mem_iff_getElem.1 h2
   rw [List.length_take] at hj
   rw [List.getElem_take] at e
   have := nodup_inj2 (may_nodup (h.all y hy).may) e
   omega
theorem seenX_step {L : List Br} {W S : List ByteArray} {i k : Nat} {l : List ByteArray} {x : ByteArray} (hs : SeenX L W i (l.take k) S) (hx : l[k]? = some x) : SeenX L W i (l.take (k + 1)) (S ++ [x]) := fun z hz => by
 rw [take_some hx]
 rcases List.mem_append.1 hz with h | h
 ·rcases hs z h with h1 | h1
  ·exact .inl h1
  ·exact .inr (List.mem_append_left _ h1)
 ·exact .inr (List.mem_append_right _ h)
theorem seenX_end {L : List Br} {W S : List ByteArray} {i k : Nat} {y : Br} (hs : SeenX L W i (y.b.boxes.take k) S) (hy : y ∈ L) (hl : y.st = 0) (hi : W[i]? = some y.b.number) : SeenX L W (i + 1) [] S := fun z hz => by
 rcases hs z hz with ⟨b, hb, h1, h2, j, hj, h3⟩ | h1
 ·exact .inl ⟨b, hb, h1, h2, j, by omega, h3⟩
 ·exact .inl ⟨y, hy, hl, List.mem_of_mem_take h1, i, by omega, hi⟩
theorem seenX_skip {L : List Br} {W S : List ByteArray} {i : Nat} (hs : SeenX L W i [] S) : SeenX L W (i + 1) [] S := fun z hz => by
 rcases hs z hz with ⟨b, hb, h1, h2, j, hj, h3⟩ | h1
 ·exact .inl ⟨b, hb, h1, h2, j, by omega, h3⟩
 ·cases h1
noncomputable def BoxesC : Ctr := spec (fun l : List At => [.sl 15 (mapA AtA l)]) (fun _ => []) InL (fun _ => .bl true) fun _ => []
theorem boxes_body (P : Program) (haw : FnOk P 12 AwakeC) (hri : FnOk P 13 RightC) (hpl : FnOk P 14 PlayC) (hb : FnOk P 25 BillsC) (hget : FnOk P 16 GetC) (hst : FnOk P 15 StateC) (hbox : FnOk P 24 BoxC) : BodyOk P x4 BoxesC := by
 intro args H K hc; obtain ⟨l, rfl, rfl, hp, hK⟩ := hc; refine ⟨Nat.le_of_ble_eq_true rfl, ?_⟩; dsimp only at hp hK ⊢
 obtain ⟨hlen, hgd⟩ := hp
 obtain ⟨q, hq⟩ : ∃ q, q = rightB l := ⟨_, rfl⟩
 cbv
 (refine callG_spec0 haw () trivial rfl rfl rfl ?_; try dsimp only)
 cbv
 (refine callG_spec0 hri l ⟨hlen, hgd⟩ rfl rfl rfl ?_; try dsimp only)
 rw [← hq]
 cases q with
 | false =>
  cbv
  (refine FinK.mk ⟨_, Gh.refl _, ?_⟩; cbv; exact .inl (CutK.pre _ (by rfl) (by exact Nat.le_of_ble_eq_true rfl) (by rfl) (by rfl) (Le.refl _) (LeH.refl _) hK))
 | true =>
 have hr := rightB_of hq.symm
 clear hq
 cbv
 have hinv := play_inv hr l.length
 rw [List.take_length] at hinv
 obtain ⟨⟨c, L⟩, hR⟩ : ∃ R, R = playM l := ⟨_, rfl⟩
 (refine callG_new hpl l ⟨hr, hgd⟩ rfl rfl ?_; try dsimp only)
 rw [← hR]
 rw [← hR] at hinv
 clear hR
 have hfew : L.length ≤ 256 := hinv.few
 have hall : ∀ b ∈ L, inB b := hinv.inB (by decide)
 have hok : OkR ⟨c, L⟩ := ⟨hinv.few, fun b hb => (hall b hb).2, fun b hb => by
  have := hinv.all b hb
  exact ⟨Nat.le_trans this.h0.len (by decide), Nat.le_trans this.h1.len (by decide), Nat.le_trans this.h2.len (by decide)⟩⟩
 have hWs := nums_strict hinv.nd
 have hWm := fun s (h : s ∈ numsM L fun _ => true) => nums_mem.1 h
 have hWl : (numsM L fun _ => true).length ≤ 256 := box_len hfew
 dsimp only at hWs
 obtain ⟨W, hW⟩ : ∃ W, W = numsM L fun _ => true := ⟨_, rfl⟩
 rw [← hW] at hWs hWm hWl
 cbv
 (refine callG_spec hb (⟨c, L⟩ : Rg) [0, 1] ⟨hfew, hall⟩ rfl rfl (by decide) rfl rfl rfl rfl rfl ?_; try dsimp only)
 rw [← hW]
 clear hW
 cbv
 refine xloopV [] (fun q : { q : Nat × List ByteArray // q.1 ≤ W.length ∧ SeenX L W q.1 [] q.2 } => [(7, .i (nI q.1.1))]) (fun q => [.blk 80 [.str c, .ph 1], .pool 78 (mapA PelA L) [], .blk 28 [.str c, .sl 11 (mapA RbA L)], .map 54 (mapA setF q.1.2)]) (fun q => lft 257 q.1.1) ⟨(0, []), Nat.zero_le _, fun x hx => by cases hx⟩ ?_
 rintro ⟨⟨k, S⟩, hk, hS⟩
 dsimp only at hk hS ⊢
 by_cases hkl : k < W.length
 ·obtain ⟨s, hs⟩ : ∃ s, W[k]? = some s := ⟨_, List.getElem?_eq_getElem hkl⟩
  obtain ⟨y, hyL, _, hys⟩ := hWm s (List.mem_of_getElem? hs)
  have lk := lk_of hinv.nd hyL hys
  have e4 : getM L s = (y.b, true) := by rw [getM_lk, lk]
  have e3 : stateM L s = y.st := by rw [stateM_lk, lk]
  have hyo := (hall y hyL).2
  clear lk
  obtain ⟨⟨number2, carrier2, shipper2, frm2, to2, boxes2, parents2, issued2, clean2⟩, st2, ⟨sa2, ha2, ca2⟩, ⟨sb2, hb2, cb2⟩, ⟨sc2, hc2, cc2⟩⟩ := y
  unfold okB at hyo
  dsimp only at hys e3 e4 hyo
  subst hys
  obtain ⟨hyo1, hyo2⟩ := hyo
  rcases k with _ | k
  ·cbv; repeat' ((first | refine .e ?_ | refine .n fun h => ?_ | refine .y fun h => ?_ | refine .k fun z hz => ?_ | fail) <;> cbv)
   (refine callG_spec hget ((⟨c, L⟩ : Rg), number2) [0, 1] hok rfl rfl (by decide) rfl rfl rfl rfl rfl ?_; try dsimp only)
   rw [e4]
   cbv; repeat' ((first | refine .e ?_ | refine .mk (fun h => ?_) fun h => ?_ | fail) <;> cbv)
   all_goals first | contradiction | skip
   (refine callG_spec hst ((⟨c, L⟩ : Rg), number2) [0, 1] trivial rfl rfl (by decide) rfl rfl rfl rfl rfl ?_; try dsimp only)
   rw [e3]
   by_cases hl : st2 = 0
   ·have hfr := fun kk S x (h : SeenX L W 0 (boxes2.take kk) S) (hx : boxes2[kk]? = some x) => seenX_no (y := ⟨⟨number2, carrier2, shipper2, frm2, to2, boxes2, parents2, issued2, clean2⟩, st2, ⟨sa2, ha2, ca2⟩, ⟨sb2, hb2, cb2⟩, ⟨sc2, hc2, cc2⟩⟩) hinv hWs h hyL hl hs hx
    have hen := fun kk S (h : SeenX L W 0 (boxes2.take kk) S) => seenX_end (y := ⟨⟨number2, carrier2, shipper2, frm2, to2, boxes2, parents2, issued2, clean2⟩, st2, ⟨sa2, ha2, ca2⟩, ⟨sb2, hb2, cb2⟩, ⟨sc2, hc2, cc2⟩⟩) h hyL hl hs
    have hbx := fun kk x (hx : boxes2[kk]? = some x) => box_some hinv hyL ((pBox_iff x ⟨⟨number2, carrier2, shipper2, frm2, to2, boxes2, parents2, issued2, clean2⟩, st2, ⟨sa2, ha2, ca2⟩, ⟨sb2, hb2, cb2⟩, ⟨sc2, hc2, cc2⟩⟩).2 ⟨hl, List.mem_of_getElem? hx⟩)
    dsimp only at hbx
    clear hyL e3 e4
    cbv; repeat' ((first | refine .y fun h => ?_ | fail) <;> cbv)
    refine xloopV [] (fun q : { q : Nat × List ByteArray // q.1 ≤ boxes2.length ∧ SeenX L W 0 (boxes2.take q.1) q.2 } => [(10, .i (nI q.1.1))]) (fun q => [.blk 80 [.str c, .ph 1], .pool 78 (mapA PelA L) [], .blk 28 [.str c, .sl 11 (mapA RbA L)], .map 54 (mapA setF q.1.2), .blk 34 (BlL ⟨number2, carrier2, shipper2, frm2, to2, boxes2, parents2, issued2, clean2⟩)]) (fun q => lft 101 q.1.1) ⟨(0, S), Nat.zero_le _, hS⟩ ?_
    rintro ⟨⟨w, S1⟩, hw, hS1⟩
    dsimp only at hw hS1 ⊢
    cbv; repeat' ((first | refine .mk (fun h => ?_) fun h => ?_ | refine .k fun z hz => ?_ | fail) <;> cbv)
    ·refine askEl_int (by ((try simp only [vn] at *) <;> omega)) (by ((try simp only [vn] at *) <;> omega)) fun i x hi hx => ?_
     obtain rfl : w = i := by ((try simp only [vn] at *) <;> omega)
     have hat := hfr w S1 x hS1 hx
     have hb1 := hbx w x hx
     have hS2 := seenX_step hS1 hx
     have hwl := (List.getElem?_eq_some_iff.1 hx).1
     cbv
     (refine callG_spec hbox ((⟨c, L⟩ : Rg), x) [0, 1] ⟨hfew, hall⟩ rfl rfl (by decide) rfl rfl rfl rfl rfl ?_; try dsimp only)
     rw [hb1]
     cbv; repeat' ((first | refine .e ?_ | refine .mk (fun h => ?_) fun h => ?_ | fail) <;> cbv)
     all_goals first | contradiction | skip
     refine find_set (fun j hj => ?_) (fun hj => ?_)
     ·rw [hat] at hj
      cases hj
     cbv; repeat' ((first | refine .e ?_ | fail) <;> cbv)
     refine find_set (fun j hj => ?_) (fun hj => ?_)
     ·rw [hat] at hj
      cases hj
     cbv; repeat' ((first | refine .k fun z hz => ?_ | refine .ms fun ms hms => ?_ | fail) <;> cbv)
     obtain rfl : ms = mapA setF (S1 ++ [x]) := by
      rw [mapA_app, mapA_one]
      exact hms
     obtain rfl : z = nI (w + 1) := by ((try simp only [vn] at *) <;> omega)
     exact roundV ⟨(w + 1, S1 ++ [x]), by ((try simp only [vn] at *) <;> omega), hS2⟩ (lft_lt (by ((try simp only [vn] at *) <;> omega)))
    ·have hS2 := hen w S1 hS1
     obtain rfl : z = nI (0 + 1) := by ((try simp only [vn] at *) <;> omega)
     exact roundV ⟨(0 + 1, S1), by ((try simp only [vn] at *) <;> omega), hS2⟩ (lft_lt (by ((try simp only [vn] at *) <;> omega)))
   ·cbv; repeat' ((first | refine .n fun h => ?_ | refine .k fun z hz => ?_ | fail) <;> cbv)
    all_goals first | contradiction | skip
    obtain rfl : z = nI (0 + 1) := by ((try simp only [vn] at *) <;> omega)
    exact roundV ⟨(0 + 1, S), by ((try simp only [vn] at *) <;> omega), seenX_skip hS⟩ (lft_lt (by ((try simp only [vn] at *) <;> omega)))
  ·have hprev : ∃ p, W[k]? = some p := ⟨_, List.getElem?_eq_getElem (by omega)⟩
   obtain ⟨p, hp⟩ := hprev
   have hlt := strict_at hWs hp hs (Nat.lt_succ_self k)
   rw [← lessB_eq] at hlt
   cbv; repeat' ((first | refine .y fun h => ?_ | refine .k fun z hz => ?_ | fail) <;> cbv)
   refine askEl_int (by ((try simp only [vn] at *) <;> omega)) (by ((try simp only [vn] at *) <;> omega)) fun i p' hi hp' => ?_
   obtain rfl : k = i := by ((try simp only [vn] at *) <;> omega)
   obtain rfl : p = p' := Option.some.inj (hp.symm.trans hp')
   cbv; repeat' ((first | refine .e ?_ | refine .mk (fun h => ?_) fun h => ?_ | fail) <;> cbv)
   all_goals first | (exfalso; rw [hlt] at *; contradiction) | skip
   all_goals first | (simp_all; done) | skip
   (refine callG_spec hget ((⟨c, L⟩ : Rg), number2) [0, 1] hok rfl rfl (by decide) rfl rfl rfl rfl rfl ?_; try dsimp only)
   rw [e4]
   cbv; repeat' ((first | refine .e ?_ | refine .mk (fun h => ?_) fun h => ?_ | fail) <;> cbv)
   all_goals first | contradiction | skip
   (refine callG_spec hst ((⟨c, L⟩ : Rg), number2) [0, 1] trivial rfl rfl (by decide) rfl rfl rfl rfl rfl ?_; try dsimp only)
   rw [e3]
   by_cases hl : st2 = 0
   ·have hfr := fun kk S x (h : SeenX L W (k + 1) (boxes2.take kk) S) (hx : boxes2[kk]? = some x) => seenX_no (y := ⟨⟨number2, carrier2, shipper2, frm2, to2, boxes2, parents2, issued2, clean2⟩, st2, ⟨sa2, ha2, ca2⟩, ⟨sb2, hb2, cb2⟩, ⟨sc2, hc2, cc2⟩⟩) hinv hWs h hyL hl hs hx
    have hen := fun kk S (h : SeenX L W (k + 1) (boxes2.take kk) S) => seenX_end (y := ⟨⟨number2, carrier2, shipper2, frm2, to2, boxes2, parents2, issued2, clean2⟩, st2, ⟨sa2, ha2, ca2⟩, ⟨sb2, hb2, cb2⟩, ⟨sc2, hc2, cc2⟩⟩) h hyL hl hs
    have hbx := fun kk x (hx : boxes2[kk]? = some x) => box_some hinv hyL ((pBox_iff x ⟨⟨number2, carrier2, shipper2, frm2, to2, boxes2, parents2, issued2, clean2⟩, st2, ⟨sa2, ha2, ca2⟩, ⟨sb2, hb2, cb2⟩, ⟨sc2, hc2, cc2⟩⟩).2 ⟨hl, List.mem_of_getElem? hx⟩)
    dsimp only at hbx
    clear hyL e3 e4
    cbv; repeat' ((first | refine .y fun h => ?_ | fail) <;> cbv)
    refine xloopV [] (fun q : { q : Nat × List ByteArray // q.1 ≤ boxes2.length ∧ SeenX L W (k + 1) (boxes2.take q.1) q.2 } => [(10, .i (nI q.1.1))]) (fun q => [.blk 80 [.str c, .ph 1], .pool 78 (mapA PelA L) [], .blk 28 [.str c, .sl 11 (mapA RbA L)], .map 54 (mapA setF q.1.2), .blk 34 (BlL ⟨number2, carrier2, shipper2, frm2, to2, boxes2, parents2, issued2, clean2⟩)]) (fun q => lft 101 q.1.1) ⟨(0, S), Nat.zero_le _, hS⟩ ?_
    rintro ⟨⟨w, S1⟩, hw, hS1⟩
    dsimp only at hw hS1 ⊢
    cbv; repeat' ((first | refine .mk (fun h => ?_) fun h => ?_ | refine .k fun z hz => ?_ | fail) <;> cbv)
    ·refine askEl_int (by ((try simp only [vn] at *) <;> omega)) (by ((try simp only [vn] at *) <;> omega)) fun i x hi hx => ?_
     obtain rfl : w = i := by ((try simp only [vn] at *) <;> omega)
     have hat := hfr w S1 x hS1 hx
     have hb1 := hbx w x hx
     have hS2 := seenX_step hS1 hx
     have hwl := (List.getElem?_eq_some_iff.1 hx).1
     cbv
     (refine callG_spec hbox ((⟨c, L⟩ : Rg), x) [0, 1] ⟨hfew, hall⟩ rfl rfl (by decide) rfl rfl rfl rfl rfl ?_; try dsimp only)
     rw [hb1]
     cbv; repeat' ((first | refine .e ?_ | refine .mk (fun h => ?_) fun h => ?_ | fail) <;> cbv)
     all_goals first | contradiction | skip
     refine find_set (fun j hj => ?_) (fun hj => ?_)
     ·rw [hat] at hj
      cases hj
     cbv; repeat' ((first | refine .e ?_ | fail) <;> cbv)
     refine find_set (fun j hj => ?_) (fun hj => ?_)
     ·rw [hat] at hj
      cases hj
     cbv; repeat' ((first | refine .k fun z hz => ?_ | refine .ms fun ms hms => ?_ | fail) <;> cbv)
     obtain rfl : ms = mapA setF (S1 ++ [x]) := by
      rw [mapA_app, mapA_one]
      exact hms
     obtain rfl : z = nI (w + 1) := by ((try simp only [vn] at *) <;> omega)
     exact roundV ⟨(w + 1, S1 ++ [x]), by ((try simp only [vn] at *) <;> omega), hS2⟩ (lft_lt (by ((try simp only [vn] at *) <;> omega)))
    ·have hS2 := hen w S1 hS1
     obtain rfl : z = nI ((k + 1) + 1) := by ((try simp only [vn] at *) <;> omega)
     exact roundV ⟨((k + 1) + 1, S1), by ((try simp only [vn] at *) <;> omega), hS2⟩ (lft_lt (by ((try simp only [vn] at *) <;> omega)))
   ·cbv; repeat' ((first | refine .n fun h => ?_ | refine .k fun z hz => ?_ | fail) <;> cbv)
    all_goals first | contradiction | skip
    obtain rfl : z = nI ((k + 1) + 1) := by ((try simp only [vn] at *) <;> omega)
    exact roundV ⟨((k + 1) + 1, S), by ((try simp only [vn] at *) <;> omega), seenX_skip hS⟩ (lft_lt (by ((try simp only [vn] at *) <;> omega)))
 ·cbv; repeat' ((first | refine .n fun h => ?_ | refine .k fun z hz => ?_ | fail) <;> cbv)
  (refine FinK.mk ⟨_, Gh.refl _, ?_⟩; cbv; exact .inl (CutK.pre _ (by rfl) (by exact Nat.le_of_ble_eq_true rfl) (by rfl) (by rfl) (Le.refl _) (LeH.refl _) hK))
end Go.Proofs.YtjnmaicofgjplaaGreatDoor
namespace Go.Proofs.YtjnmaicofgjplaaGreatDoor
open Go.RowKit
set_option maxRecDepth 100000
theorem k_boxes : FnOk Tryz.prog 4 BoxesC := body_ok (by kernel_rfl) (boxes_body _ k_awake k_right23 k_play k_bills k_get k_state k_box)
end Go.Proofs.YtjnmaicofgjplaaGreatDoor
