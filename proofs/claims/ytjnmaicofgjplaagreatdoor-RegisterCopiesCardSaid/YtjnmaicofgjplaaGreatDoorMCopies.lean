/-
  Texts of this proof, joined: UF, KCopies.
-/
import Derived.Test.YtjnmaicofgjplaaGreatDoorJ6
set_option linter.unusedVariables false
set_option linter.unusedSimpArgs false
namespace Go.Proofs.YtjnmaicofgjplaaGreatDoor
def x11 : XFn := ⟨79, .seq (.reg [(zs 8 (.mov (.c (.bl false))))]) (.seq (.seq (.reg [(zs 16 (.call 12 [])), (zs 17 (.not (.t 16)))]) (.cond (.t 17) (.seq (.reg [(zs 8 (.mov (.c (.bl false))))]) .ret) .skip)) (.seq (.seq (.reg [(zm 18 0), (zs 19 (.call 13 [.t 18])), (zs 20 (.not (.t 19))), (zm 21 20), (zh 22 21 false 1), (zg 23 21 false (.call 13 [.t 22])), (zg 24 21 false (.not (.t 23))), (zs 25 (.pick (.t 21) (.c (.bl true)) (.t 24))), (zm 26 25), (zh 27 26 false 2), (zg 28 26 false (.lens (.t 27))), (zh 29 26 false 3), (zg 30 26 false (.lens (.t 29))), (zg 31 26 false (.ari .add .i64 (.t 28) (.t 30))), (zg 32 26 false (.cmp .gtr (.t 31) (.c (.int .i64 200)))), (zs 33 (.pick (.t 26) (.c (.bl true)) (.t 32)))]) (.cond (.t 33) (.seq (.reg [(zs 8 (.mov (.c (.bl true))))]) .ret) .skip)) (.seq (.reg [(zm 35 0), (zs 36 (.call 14 [.t 35])), (zm 34 36), (zs 37 (.ext (.t 34) 0)), (zs 38 (.ext (.t 34) 1)), (zs 10 (.alloc 28 [.str ⟨#[]⟩, .v (.slice none 0 0)])), (zm 9 37), (zn (.st 2 (.t 10) (.t 38)))]) (.seq (.seq (.reg [(zm 39 9), (zs 40 (.cmn false (.t 39)))]) (.cond (.t 40) (.seq (.reg [(zs 8 (.mov (.c (.bl false))))]) .ret) .skip)) (.seq (.reg [(zm 41 9), (zs 42 (.call 31 [.t 41])), (zm 11 42)]) (.seq (.seq (.reg [(zm 43 11), (zs 44 (.cmn false (.t 43)))]) (.cond (.t 44) (.seq (.reg [(zs 8 (.mov (.c (.bl false))))]) .ret) .skip)) (.seq (.reg [(zs 45 (.ld true 2 (.t 10))), (zs 12 (.alloc 28 [.str ⟨#[]⟩, .v (.slice none 0 0)])), (zn (.st 2 (.t 12) (.t 45)))]) (.seq (.seq (.reg [(zs 13 (.mov (.c (.int .i64 0))))]) (.block 0 (.loop (.seq (.seq (.reg [(zm 46 13), (zm 47 1), (zs 48 (.lenl (.t 47))), (zs 49 (.cmp .lss (.t 46) (.t 48)))]) (.cond (.t 49) .skip (.exit 0))) (.seq (.block 1 (.seq (.dreg (.take 0 (zm 53 11) (.take 1 (zs 54 (.ld true 2 (.t 12))) (.take 2 (zm 55 1) (.take 3 (zm 56 13) (.take 4 (zs 57 (.iad 15 (.t 55) (.t 56))) (.take 5 (zs 58 (.ld true 15 (.t 57))) (.fork (.eff 6 0 true (zs 59 (.call 27 [.t 53, .t 54, .t 58])) (.take 7 (zm 52 59) (.take 8 (zs 60 (.ext (.t 52) 0)) (.take 9 (zs 61 (.ext (.t 52) 1)) (.eff 10 0 true (zs 14 (.alloc 28 [.str ⟨#[]⟩, .v (.slice none 0 0)])) (.eff 11 1 false (zn (.st 2 (.t 14) (.t 60))) (.take 12 (zm 15 61) .nil))))))) (.eff 10 0 true (zs 14 (.alloc 28 [.str ⟨#[]⟩, .v (.slice none 0 0)])) (.eff 6 0 false (zs 59 (.call 27 [.t 53, .t 54, .t 58])) (.take 7 (zm 52 59) (.take 8 (zs 60 (.ext (.t 52) 0)) (.take 9 (zs 61 (.ext (.t 52) 1)) (.eff 11 1 false (zn (.st 2 (.t 14) (.t 60))) (.take 12 (zm 15 61) .nil)))))))))))))) 1 [12, 1]) (.seq (.reg [(zs 62 (.ld true 2 (.t 14))), (zn (.st 2 (.t 12) (.t 62)))]) (.seq (.reg [(zm 63 15), (zs 64 (.not (.t 63)))]) (.cond (.t 64) (.seq (.reg [(zs 8 (.mov (.c (.bl false))))]) .ret) .skip))))) (.reg [(zm 50 13), (zs 51 (.ari .add .i64 (.t 50) (.c (.int .i64 1)))), (zm 13 51)])))))) (.seq (.reg [(zm 65 11), (zs 66 (.ld true 2 (.t 12))), (zm 67 2), (zm 68 3), (zs 69 (.call 35 [.t 65, .t 66, .t 67, .t 68])), (zs 70 (.cmp .eql (.t 69) (.c (.str ⟨#[]⟩)))), (zm 71 70), (zh 72 71 true 9), (zg 73 71 true (.ld true 2 (.t 10))), (zh 74 71 true 2), (zh 75 71 true 3), (zg 76 71 true (.call 35 [.t 72, .t 73, .t 74, .t 75])), (zg 77 71 true (.cmp .eql (.t 76) (.c (.str ⟨#[]⟩)))), (zs 78 (.pick (.t 71) (.t 77) (.c (.bl false)))), (zm 8 78)]) .ret))))))))), [.tmp 8]⟩
end Go.Proofs.YtjnmaicofgjplaaGreatDoor
namespace Go.Proofs.YtjnmaicofgjplaaGreatDoor
open Go.RowKit
set_option maxHeartbeats 4000000
set_option maxRecDepth 100000
/-! ### RegisterCopies -/
structure CopiesI where
 l : List At
 m : List At
 who : ByteArray
 box : ByteArray
noncomputable def CopiesC : Ctr := spec (fun i : CopiesI => [.sl 15 (mapA AtA i.l), .sl 15 (mapA AtA i.m), .str i.who, .str i.box]) (fun _ => []) (fun i => InL i.l ∧ InL i.m ∧ sz47 i.who ∧ sz47 i.box) (fun _ => .bl true) fun _ => []
theorem copies_body (P : Program) (haw : FnOk P 12 AwakeC) (hri : FnOk P 13 RightC) (hpl : FnOk P 14 PlayC) (hcp : FnOk P 31 CopyC) (hdo : FnOk P 27 LDoC) (hul : FnOk P 35 UnlikeC) : BodyOk P x11 CopiesC := by
 intro args H K hc; obtain ⟨⟨l, m, who, box⟩, rfl, rfl, hp, hK⟩ := hc; refine ⟨Nat.le_of_ble_eq_true rfl, ?_⟩; dsimp only at hp hK ⊢
 obtain ⟨⟨hlen, hgd⟩, ⟨hlen2, hgd2⟩, hs1, hs2⟩ := hp
 unfold sz47 at hs1 hs2
 obtain ⟨q, hq⟩ : ∃ q, q = rightB l := ⟨_, rfl⟩
 obtain ⟨p, hp⟩ : ∃ q, q = rightB m := ⟨_, rfl⟩
 obtain ⟨nm, hnm⟩ : ∃ n : Nat, n = m.length := ⟨_, rfl⟩
 cbv
 (refine callG_spec0 haw () trivial rfl rfl rfl ?_; try dsimp only)
 cbv
 (refine callG_spec0 hri l ⟨hlen, hgd⟩ rfl rfl rfl ?_; try dsimp only)
 rw [← hq]
 cases q with
 | false =>
  cbv
  (refine FinK.mk ⟨_, Gh.refl _, ?_⟩; cbv; exact .inl (CutK.pre _ (by rfl) (by exact Nat.le_of_ble_eq_true rfl) (by rfl) (by rfl) (Le.refl _) (LeH.refl _) hK))
 | true =>
 cbv
 (refine callG_spec0 hri m ⟨hlen2, hgd2⟩ rfl rfl rfl ?_; try dsimp only)
 rw [← hp]
 cases p with
 | false =>
  cbv
  (refine FinK.mk ⟨_, Gh.refl _, ?_⟩; cbv; exact .inl (CutK.pre _ (by rfl) (by exact Nat.le_of_ble_eq_true rfl) (by rfl) (by rfl) (Le.refl _) (LeH.refl _) hK))
 | true =>
 have hr := rightB_of hq.symm
 have hr2 := rightB_of hp.symm
 clear hq hp
 have hml := hr2.2.1
 cbv; repeat' ((first | refine .mk (fun h => ?_) fun h => ?_ | refine .k fun z hz => ?_ | fail) <;> cbv)
 ·(refine FinK.mk ⟨_, Gh.refl _, ?_⟩; cbv; exact .inl (CutK.pre _ (by rfl) (by exact Nat.le_of_ble_eq_true rfl) (by rfl) (by rfl) (Le.refl _) (LeH.refl _) hK))
 have hinv := play_inv hr l.length
 rw [List.take_length] at hinv
 obtain ⟨⟨c, L0⟩, hR⟩ : ∃ R, R = playM l := ⟨_, rfl⟩
 (refine callG_new hpl l ⟨hr, hgd⟩ rfl rfl ?_; try dsimp only)
 rw [← hR]
 rw [← hR] at hinv
 clear hR
 have hup : UlP ⟨c, L0⟩ ⟨c, L0⟩ := ulP_of hinv (by decide)
 cbv
 refine callG_specN hcp (⟨c, L0⟩ : Rg) [0, 1] ⟨hinv.few, hinv.inB (by decide), hinv.nd⟩ rfl rfl (by decide) rfl rfl rfl rfl rfl ?_
 intro L1 hperm
 dsimp only at hperm ⊢
 cbv
 refine xloopV [] (fun q : { q : Nat × List Br × List Br // q.1 ≤ m.length ∧ Inv (41 + q.1) ⟨c, q.2.2⟩ ∧ Alike ⟨c, q.2.1⟩ ⟨c, q.2.2⟩ } => [(13, .i (nI q.1.1))]) (fun q => [.blk 80 [.str c, .ph 1], .pool 78 (mapA PelA L0) [], .blk 28 [.str c, .sl 11 (mapA RbA L0)], .blk 80 [.str c, .ph 4], .pool 78 (mapA PelA q.1.2.1) [], .blk 28 [.str c, .sl 11 (mapA RbA q.1.2.2)]]) (fun q => lft nm q.1.1) ⟨(0, L1, L0), Nat.zero_le _, hinv, ⟨rfl, hperm⟩⟩ ?_
 rintro ⟨⟨k, L, M⟩, hk, hinv, hal⟩
 dsimp only at hk hinv hal ⊢
 have hinvL := hinv.perm hal.symm.carrier hal.symm.perm
 cbv; repeat' ((first | refine .mk (fun h => ?_) fun h => ?_ | refine .k fun z hz => ?_ | fail) <;> cbv)
 ·refine askEl_int (by ((try simp only [vn] at *) <;> omega)) (by ((try simp only [vn] at *) <;> omega)) fun i x hi hx => ?_
  obtain rfl : k = i := by ((try simp only [vn] at *) <;> omega)
  have hxm := List.mem_of_getElem? hx
  have hact := hr2.act x hxm
  have hpre : LDoP ((⟨c, L⟩ : Rg), (⟨c, M⟩ : Rg), x) := ldoP_of hinv hal (by omega) hact (hgd2 x hxm)
  have hda := do_alike hal hinvL.nd x
  have hin2 := inv_do hinv hact.1 hact.2.ok
  obtain ⟨⟨c1, L'⟩, hL'⟩ : ∃ R', R' = (doR ⟨c, L⟩ x).1 := ⟨_, rfl⟩
  obtain ⟨⟨c2, M'⟩, hM'⟩ : ∃ R', R' = (doR ⟨c, M⟩ x).1 := ⟨_, rfl⟩
  obtain rfl : c1 = c := (congrArg Rg.carrier hL').trans (doR_carrier _ _)
  obtain rfl : c2 = c1 := (congrArg Rg.carrier hM').trans (doR_carrier _ _)
  have hdp : doP ⟨c2, L⟩ x = ⟨c2, L'⟩ := (doP_eq hinvL x).trans hL'.symm
  have hep : decide (eP ⟨c2, L⟩ x = (doR ⟨c2, M⟩ x).2) = true := decide_eq_true (eP_eq hal hinvL.nd x)
  rw [← hL', ← hM'] at hda
  rw [← hM'] at hin2
  have hal2 := hda.1
  clear hda
  obtain ⟨kind, index, day, bill, by_, to, b⟩ := x
  obtain ⟨number1, carrier1, shipper1, frm1, to1, boxes1, parents1, issued1, clean1⟩ := b
  cbv; repeat' ((first | refine And.intro ?_ ?_ | fail) <;> cbv)
  all_goals
   (refine callG_spec hdo ((⟨c2, L⟩ : Rg), (⟨c2, M⟩ : Rg), (⟨kind, index, day, bill, by_, to, ⟨number1, carrier1, shipper1, frm1, to1, boxes1, parents1, issued1, clean1⟩⟩ : At)) [3, 4] hpre rfl rfl (by decide) rfl rfl rfl rfl rfl ?_; try dsimp only)
   rw [hep, hdp, ← hM']
   cbv; repeat' ((first | refine .k fun z hz => ?_ | fail) <;> cbv)
   obtain rfl : z = nI (k + 1) := by ((try simp only [vn] at *) <;> omega)
   exact roundV ⟨(k + 1, L', M'), by ((try simp only [vn] at *) <;> omega), hin2.mono (by omega), hal2⟩ (lft_lt (by ((try simp only [vn] at *) <;> omega)))
 ·have hup2 : UlP ⟨c, L⟩ ⟨c, M⟩ := ⟨⟨41 + k, by omega, hinv⟩, hal⟩
  (refine callG_spec hul ((⟨c, L⟩ : Rg), (⟨c, M⟩ : Rg), who, box) [3, 4] hup2 rfl rfl (by decide) rfl rfl rfl rfl rfl ?_; try dsimp only)
  cbv; repeat' ((first | refine .mk (fun h => ?_) fun h => ?_ | fail) <;> cbv)
  all_goals first | contradiction | skip
  (refine callG_spec hul ((⟨c, L0⟩ : Rg), (⟨c, L0⟩ : Rg), who, box) [0, 1] hup rfl rfl (by decide) rfl rfl rfl rfl rfl ?_; try dsimp only)
  cbv; repeat' ((first | refine .mk (fun h => ?_) fun h => ?_ | fail) <;> cbv)
  all_goals first | contradiction | skip
  (refine FinK.mk ⟨_, Gh.refl _, ?_⟩; cbv; exact .inl (CutK.pre _ (by rfl) (by exact Nat.le_of_ble_eq_true rfl) (by rfl) (by rfl) (Le.refl _) (LeH.refl _) hK))
end Go.Proofs.YtjnmaicofgjplaaGreatDoor
namespace Go.Proofs.YtjnmaicofgjplaaGreatDoor
open Go.RowKit
set_option maxRecDepth 100000
theorem k_copies : FnOk Tryz.prog 11 CopiesC := body_ok (by kernel_rfl) (copies_body _ k_awake k_right23 k_play k_copy k_ldo_ok k_unlike)
end Go.Proofs.YtjnmaicofgjplaaGreatDoor
