/-
  Texts of this proof, joined: UA, KPlays.
-/
import Derived.Test.YtjnmaicofgjplaaGreatDoorJ6
namespace Go.Proofs.YtjnmaicofgjplaaGreatDoor
def x8 : XFn := ⟨131, .seq (.reg [(zs 10 (.mov (.c (.bl false))))]) (.seq (.seq (.reg [(zs 19 (.call 12 [])), (zs 20 (.not (.t 19)))]) (.cond (.t 20) (.seq (.reg [(zs 10 (.mov (.c (.bl false))))]) .ret) .skip)) (.seq (.seq (.reg [(zm 21 0), (zs 22 (.call 13 [.t 21])), (zs 23 (.not (.t 22))), (zm 24 23), (zh 25 24 false 1), (zg 26 24 false (.lens (.t 25))), (zh 27 24 false 2), (zg 28 24 false (.lens (.t 27))), (zg 29 24 false (.ari .add .i64 (.t 26) (.t 28))), (zh 30 24 false 3), (zg 31 24 false (.lens (.t 30))), (zg 32 24 false (.ari .add .i64 (.t 29) (.t 31))), (zg 33 24 false (.cmp .gtr (.t 32) (.c (.int .i64 300)))), (zs 34 (.pick (.t 24) (.c (.bl true)) (.t 33)))]) (.cond (.t 34) (.seq (.reg [(zs 10 (.mov (.c (.bl true))))]) .ret) .skip)) (.seq (.reg [(zm 36 0), (zs 37 (.call 14 [.t 36])), (zm 35 37), (zs 38 (.ext (.t 35) 0)), (zs 39 (.ext (.t 35) 1)), (zs 12 (.alloc 28 [.str ⟨#[]⟩, .v (.slice none 0 0)])), (zm 11 38), (zn (.st 2 (.t 12) (.t 39)))]) (.seq (.seq (.reg [(zm 40 11), (zs 41 (.cmn false (.t 40))), (zm 42 41), (zh 43 42 false 11), (zg 44 42 false (.ld true 2 (.t 12))), (zh 45 42 false 1), (zh 46 42 false 2), (zg 47 42 false (.call 35 [.t 43, .t 44, .t 45, .t 46])), (zg 48 42 false (.cmp .neq (.t 47) (.c (.str ⟨#[]⟩)))), (zs 49 (.pick (.t 42) (.c (.bl true)) (.t 48)))]) (.cond (.t 49) (.seq (.reg [(zs 10 (.mov (.c (.bl false))))]) .ret) .skip)) (.seq (.seq (.reg [(zs 50 (.ld true 2 (.t 12))), (zm 51 3), (zs 52 (.call 36 [.t 50, .t 51])), (zs 53 (.cmp .geq (.t 52) (.c (.int .i64 0))))]) (.cond (.t 53) (.seq (.reg [(zm 55 11), (zm 56 3), (zm 57 4), (zs 58 (.call 33 [.t 55, .t 56, .t 57])), (zm 54 58), (zs 59 (.ext (.t 54) 0)), (zs 60 (.ext (.t 54) 1)), (zm 13 59), (zm 14 60)]) (.seq (.reg [(zm 61 4), (zs 62 (.cmp .geq (.t 61) (.c (.int .i64 0)))), (zm 63 62), (zh 64 63 true 4), (zg 65 63 true (.cmp .leq (.t 64) (.c (.int .i64 2)))), (zs 66 (.pick (.t 63) (.t 65) (.c (.bl false)))), (zm 67 66), (zh 68 67 false 14), (zg 69 67 false (.not (.t 68))), (zh 70 67 false 69), (zh 71 70 true 11), (zh 72 70 true 3), (zh 73 70 true 4), (zg 74 70 true (.call 28 [.t 71, .t 72, .t 73])), (zg 75 70 true (.lenl (.t 74))), (zg 76 70 true (.cmp .eql (.t 75) (.c (.int .i64 0)))), (zg 77 67 false (.pick (.t 70) (.t 76) (.c (.bl false)))), (zs 78 (.pick (.t 67) (.c (.bl true)) (.t 77))), (zm 10 78)]) .ret)) .skip)) (.seq (.reg [(zm 80 11), (zm 81 3), (zs 82 (.call 16 [.t 80, .t 81])), (zm 79 82), (zs 83 (.ext (.t 79) 0)), (zs 84 (.ext (.t 79) 1)), (zs 15 (.alloc 34 [.str ⟨#[]⟩, .str ⟨#[]⟩, .str ⟨#[]⟩, .str ⟨#[]⟩, .str ⟨#[]⟩, .v (.slice none 0 0), .v (.slice none 0 0), .int .i64 0, .bl false])), (zn (.st 9 (.t 15) (.t 83))), (zm 16 84)]) (.seq (.reg [(zm 86 11), (zm 87 3), (zm 88 4), (zs 89 (.call 33 [.t 86, .t 87, .t 88])), (zm 85 89), (zs 90 (.ext (.t 85) 0)), (zs 91 (.ext (.t 85) 1)), (zm 17 90), (zm 18 91)]) (.seq (.reg [(zm 92 16), (zs 93 (.not (.t 92))), (zm 94 93), (zg 95 94 true (.ld true 9 (.t 15))), (zg 96 94 true (.bld [.str ⟨#[]⟩, .str ⟨#[]⟩, .str ⟨#[]⟩, .str ⟨#[]⟩, .str ⟨#[]⟩, .v (.slice none 0 0), .v (.slice none 0 0), .int .i64 0, .bl false] [])), (zg 97 94 true (.call 37 [.t 95, .t 96])), (zs 98 (.pick (.t 94) (.t 97) (.c (.bl false)))), (zm 99 98), (zh 100 99 true 18), (zg 101 99 true (.not (.t 100))), (zs 102 (.pick (.t 99) (.t 101) (.c (.bl false)))), (zm 103 102), (zh 104 103 true 11), (zh 105 103 true 3), (zg 106 103 true (.call 15 [.t 104, .t 105])), (zg 107 103 true (.cmp .eql (.t 106) (.c (.int .i64 (-1))))), (zs 108 (.pick (.t 103) (.t 107) (.c (.bl false)))), (zm 109 108), (zh 110 109 true 11), (zh 111 109 true 3), (zg 112 109 true (.call 23 [.t 110, .t 111])), (zg 113 109 true (.lenl (.t 112))), (zg 114 109 true (.cmp .eql (.t 113) (.c (.int .i64 0)))), (zs 115 (.pick (.t 109) (.t 114) (.c (.bl false)))), (zm 116 115), (zh 117 116 true 11), (zh 118 116 true 3), (zh 119 116 true 4), (zg 120 116 true (.call 28 [.t 117, .t 118, .t 119])), (zg 121 116 true (.lenl (.t 120))), (zg 122 116 true (.cmp .eql (.t 121) (.c (.int .i64 0)))), (zs 123 (.pick (.t 116) (.t 122) (.c (.bl false)))), (zm 124 123), (zh 125 124 true 11), (zh 126 124 true 3), (zh 127 124 true 1), (zg 128 124 true (.call 32 [.t 125, .t 126, .t 127])), (zg 129 124 true (.not (.t 128))), (zs 130 (.pick (.t 124) (.t 129) (.c (.bl false)))), (zm 10 130)]) .ret)))))))), [.tmp 10]⟩
end Go.Proofs.YtjnmaicofgjplaaGreatDoor
namespace Go.Proofs.YtjnmaicofgjplaaGreatDoor
open Go.RowKit
set_option maxHeartbeats 4000000
set_option maxRecDepth 100000
/-! ### RegisterPlays -/
structure PlaysI where
 l : List At
 who : ByteArray
 box : ByteArray
 bill : ByteArray
 index : Int
noncomputable def PlaysC : Ctr := spec (fun i : PlaysI => [.sl 15 (mapA AtA i.l), .str i.who, .str i.box, .str i.bill, .i i.index]) (fun _ => []) (fun i => InL i.l ∧ sz47 i.who ∧ sz47 i.box ∧ sz47 i.bill) (fun _ => .bl true) fun _ => []
theorem plays_body (P : Program) (haw : FnOk P 12 AwakeC) (hri : FnOk P 13 RightC) (hpl : FnOk P 14 PlayC) (hul : FnOk P 35 UnlikeC) (hf : FnOk P 36 FindC)
  (hhold : FnOk P 33 HoldC) (hchain : FnOk P 28 ChainC) (hget : FnOk P 16 GetC) (hs23 : FnOk P 37 Same23C) (hst : FnOk P 15 StateC)
  (horn : FnOk P 23 OriginalsC) (hfull : FnOk P 32 FullC) : BodyOk P x8 PlaysC := by
 intro args H K hc; obtain ⟨⟨l, who, box, bill, index⟩, rfl, rfl, hp, hK⟩ := hc; refine ⟨Nat.le_of_ble_eq_true rfl, ?_⟩; dsimp only at hp hK ⊢
 obtain ⟨⟨hlen, hgd⟩, hs1, hs2, hs3⟩ := hp
 unfold sz47 at hs1 hs2 hs3
 obtain ⟨q, hq⟩ : ∃ q, q = rightB l := ⟨_, rfl⟩
 cbv
 (refine callG_spec0 haw () trivial rfl rfl rfl ?_; try dsimp only)
 cbv
 (refine callG_spec0 hri l ⟨hlen, hgd⟩ rfl rfl rfl ?_; try dsimp only)
 rw [← hq]
 cases q with
 | false =>
  cbv
  (refine FinK.mk ⟨_, Gh.refl _, ?_⟩; cbv; exact .inl (CutK.pre _ (by rfl) (by exact Nat.le_of_ble_eq_true rfl) (by rfl) (by rfl) (Le.refl _) (LeH.refl _) hK))
 | true =>
  have hr := rightB_of hq.symm
  cbv; repeat' ((first | refine .mk (fun h => ?_) fun h => ?_ | refine .k fun z hz => ?_ | fail) <;> cbv)
  ·(refine FinK.mk ⟨_, Gh.refl _, ?_⟩; cbv; exact .inl (CutK.pre _ (by rfl) (by exact Nat.le_of_ble_eq_true rfl) (by rfl) (by rfl) (Le.refl _) (LeH.refl _) hK))
  ·have hup := ulP_play hr
   have hinv := hup.inv
   obtain ⟨⟨c, L⟩, hR⟩ : ∃ R, R = playM l := ⟨_, rfl⟩
   (refine callG_new hpl l ⟨hr, hgd⟩ rfl rfl ?_; try dsimp only)
   rw [← hR]
   rw [← hR] at hup hinv
   clear hR
   obtain ⟨n, hn, hinv⟩ := hinv
   have hfew : L.length ≤ 256 := hinv.few
   have hall : ∀ b ∈ L, inB b := hinv.inB (by omega)
   have hok : OkR ⟨c, L⟩ := ⟨hfew, fun b hb => (hall b hb).2, fun b hb => by
    have := hinv.all b hb
    exact ⟨Nat.le_trans this.h0.len (by omega), Nat.le_trans this.h1.len (by omega), Nat.le_trans this.h2.len (by omega)⟩⟩
   have hch : ∀ b ∈ L, chOk b := fun b hb => (hall b hb).1
   cbv
   (refine callG_spec hul ((⟨c, L⟩ : Rg), (⟨c, L⟩ : Rg), who, box) [0, 1] hup rfl rfl (by decide) rfl rfl rfl rfl rfl ?_; try dsimp only)
   cbv; repeat' ((first | refine .mk (fun h => ?_) fun h => ?_ | fail) <;> cbv)
   all_goals first | contradiction | skip
   obtain ⟨f, hf1⟩ : ∃ f, f = idxG (fun b : Br => decide (b.b.number = bill)) L := ⟨_, rfl⟩
   (refine callG_spec0 hf ((⟨c, L⟩ : Rg), bill) (by dsimp only; omega) rfl rfl rfl ?_; try dsimp only)
   rw [← hf1]
   rw [idxG_b] at hf1
   rcases lk_cases L bill with ⟨i, y, h1, h2, h3, h4⟩ | ⟨h1, h3⟩
   ·rw [h1] at hf1
    dsimp only at hf1
    subst hf1
    obtain ⟨hd, hhd⟩ : ∃ x, x = holdM L bill index := ⟨_, rfl⟩
    have hpk : ¬ (0 ≤ index ∧ index ≤ 2) → hd = (⟨⟨[]⟩⟩, false) ∧ (origM L bill index).1.chain = [] := fun h => by
     have hz : pickO index y = (zeroO, false) := by
      obtain ⟨_, _, _, _, _⟩ := y
      unfold pickO
      dsimp only
      rw [if_neg (by omega), if_neg (by omega), if_neg (by omega)]
     rw [hhd, hold_lk h3, hz, origM_lk, h3]
     exact ⟨if_pos (.inl rfl), by dsimp only; rw [hz]; rfl⟩
    cbv; repeat' ((first | refine .y fun h => ?_ | fail) <;> cbv)
    (refine callG_spec hhold ((⟨c, L⟩ : Rg), bill, index) [0, 1] trivial rfl rfl (by decide) rfl rfl rfl rfl rfl ?_; try dsimp only)
    rw [← hhd]
    clear hhd
    by_cases hix : 0 ≤ index ∧ index ≤ 2
    ·obtain ⟨hs, hb⟩ := hd
     cbv; repeat' ((first | refine .y fun h => ?_ | fail) <;> cbv)
     (refine FinK.mk ⟨_, Gh.refl _, ?_⟩; cbv; exact .inl (CutK.pre _ (by rfl) (by exact Nat.le_of_ble_eq_true rfl) (by rfl) (by rfl) (Le.refl _) (LeH.refl _) hK))
    ·obtain ⟨rfl, hc⟩ := hpk hix
     cbv; repeat' ((first | refine .n fun h => ?_ | refine .mk (fun h => ?_) fun h => ?_ | fail) <;> cbv)
     all_goals first | (exfalso; omega) | skip
     all_goals
      (refine callG_spec hchain ((⟨c, L⟩ : Rg), bill, index) [0, 1] hch rfl rfl (by decide) rfl rfl rfl rfl rfl ?_; try dsimp only)
      rw [hc]
      cbv; repeat' ((first | refine .y fun h => ?_ | refine .k fun z hz => ?_ | fail) <;> cbv)
      (refine FinK.mk ⟨_, Gh.refl _, ?_⟩; cbv; exact .inl (CutK.pre _ (by rfl) (by exact Nat.le_of_ble_eq_true rfl) (by rfl) (by rfl) (Le.refl _) (LeH.refl _) hK))
   ·rw [h1] at hf1
    dsimp only at hf1
    subst hf1
    have e1 : getM L bill = (zeroB, false) := by rw [getM_lk, h3]
    have e2 : origM L bill index = (zeroO, false) := by rw [origM_lk, h3]
    have e3 : stateM L bill = -1 := by rw [stateM_lk, h3]
    have e4 : holdM L bill index = (⟨⟨[]⟩⟩, false) := by unfold holdM; rw [e2, if_pos (.inl rfl)]
    have e5 : ornM L bill = [] := by rw [ornM_lk, h3]
    have e6 : fullM L bill who = false := by rw [fullM_lk, h3]
    have e7 : (origM L bill index).1.chain = [] := by rw [e2]; rfl
    cbv; repeat' ((first | refine .n fun h => ?_ | fail) <;> cbv)
    (refine callG_spec hget ((⟨c, L⟩ : Rg), bill) [0, 1] hok rfl rfl (by decide) rfl rfl rfl rfl rfl ?_; try dsimp only)
    rw [e1]
    cbv
    (refine callG_spec hhold ((⟨c, L⟩ : Rg), bill, index) [0, 1] trivial rfl rfl (by decide) rfl rfl rfl rfl rfl ?_; try dsimp only)
    rw [e4]
    cbv
    refine callG_le [BlA zeroB, BlA zeroB] (by unfold BlA BlL zeroB; repeat' (first | exact LeL.nil | exact LeL0.nil | exact LeH.nil | exact LeE.refl _ | exact Le.refl _ | exact Le0.one (.refl _) | exact Le0.one (.nil _) | exact Le1.refl _ | exact Le1.nil _ | refine LeH.cons ?_ ?_ | refine LeE.row ?_ | refine LeE.blk ?_ | refine LeL0.cons ?_ ?_ | refine LeL.cons ?_ ?_ | refine Le0.agg ?_ | refine Le.tup ?_ | exact Le.one (.one (.nil _)) | refine Le.one (.agg ?_))) ?_
    (refine callG_spec0 hs23 (zeroB, zeroB) ⟨⟨Nat.zero_le _, Nat.zero_le _⟩, Nat.zero_le _, Nat.zero_le _⟩ rfl rfl rfl ?_; try dsimp only)
    rw [decide_eq_true rfl]
    cbv
    (refine callG_spec hst ((⟨c, L⟩ : Rg), bill) [0, 1] trivial rfl rfl (by decide) rfl rfl rfl rfl rfl ?_; try dsimp only)
    rw [e3]
    cbv; repeat' ((first | refine .y fun h => ?_ | fail) <;> cbv)
    (refine callG_spec horn ((⟨c, L⟩ : Rg), bill) [0, 1] trivial rfl rfl (by decide) rfl rfl rfl rfl rfl ?_; try dsimp only)
    rw [e5]
    cbv; repeat' ((first | refine .y fun h => ?_ | refine .k fun z hz => ?_ | fail) <;> cbv)
    (refine callG_spec hchain ((⟨c, L⟩ : Rg), bill, index) [0, 1] hch rfl rfl (by decide) rfl rfl rfl rfl rfl ?_; try dsimp only)
    rw [e7]
    cbv; repeat' ((first | refine .y fun h => ?_ | refine .k fun z hz => ?_ | fail) <;> cbv)
    (refine callG_spec hfull ((⟨c, L⟩ : Rg), bill, who) [0, 1] hch rfl rfl (by decide) rfl rfl rfl rfl rfl ?_; try dsimp only)
    rw [e6]
    cbv
    (refine FinK.mk ⟨_, Gh.refl _, ?_⟩; cbv; exact .inl (CutK.pre _ (by rfl) (by exact Nat.le_of_ble_eq_true rfl) (by rfl) (by rfl) (Le.refl _) (LeH.refl _) hK))
end Go.Proofs.YtjnmaicofgjplaaGreatDoor
namespace Go.Proofs.YtjnmaicofgjplaaGreatDoor
open Go.RowKit
set_option maxRecDepth 100000
theorem k_plays : FnOk Tryz.prog 8 PlaysC := body_ok (by kernel_rfl) (plays_body _ k_awake k_right23 k_play k_unlike k_find k_holder k_chain k_get k_same23 k_state k_originals k_full)
end Go.Proofs.YtjnmaicofgjplaaGreatDoor
