/-
  Texts of this proof, joined: UB, KSteps.
-/
import Derived.Test.YtjnmaicofgjplaaGreatDoorJ6
set_option linter.unusedVariables false
set_option linter.unusedSimpArgs false
namespace Go.Proofs.YtjnmaicofgjplaaGreatDoor
def x9 : XFn := ⟨61, .seq (.reg [(zs 6 (.mov (.c (.bl false))))]) (.seq (.seq (.reg [(zs 12 (.call 12 [])), (zs 13 (.not (.t 12)))]) (.cond (.t 13) (.seq (.reg [(zs 6 (.mov (.c (.bl false))))]) .ret) .skip)) (.seq (.seq (.reg [(zm 14 0), (zs 15 (.call 13 [.t 14])), (zs 16 (.not (.t 15))), (zm 17 16), (zh 18 17 false 0), (zg 19 17 false (.lenl (.t 18))), (zg 20 17 false (.cmp .gtr (.t 19) (.c (.int .i64 12)))), (zs 21 (.pick (.t 17) (.c (.bl true)) (.t 20))), (zm 22 21), (zh 23 22 false 1), (zg 24 22 false (.lens (.t 23))), (zh 25 22 false 2), (zg 26 22 false (.lens (.t 25))), (zg 27 22 false (.ari .add .i64 (.t 24) (.t 26))), (zg 28 22 false (.cmp .gtr (.t 27) (.c (.int .i64 200)))), (zs 29 (.pick (.t 22) (.c (.bl true)) (.t 28)))]) (.cond (.t 29) (.seq (.reg [(zs 6 (.mov (.c (.bl true))))]) .ret) .skip)) (.seq (.reg [(zs 30 (.call 26 [.c (.str ⟨#[99]⟩)])), (zs 31 (.bld [.str ⟨#[]⟩, .v (.slice none 0 0)] [(0, (1, .c (.str ⟨#[99]⟩)))])), (zs 8 (.alloc 28 [.str ⟨#[]⟩, .v (.slice none 0 0)])), (zm 7 30), (zn (.st 2 (.t 8) (.t 31)))]) (.seq (.seq (.reg [(zm 32 7), (zs 33 (.cmn false (.t 32)))]) (.cond (.t 33) (.seq (.reg [(zs 6 (.mov (.c (.bl false))))]) .ret) .skip)) (.seq (.seq (.reg [(zs 9 (.mov (.c (.int .i64 0))))]) (.block 0 (.loop (.seq (.seq (.reg [(zm 34 9), (zm 35 0), (zs 36 (.lenl (.t 35))), (zs 37 (.cmp .lss (.t 34) (.t 36)))]) (.cond (.t 37) .skip (.exit 0))) (.seq (.block 1 (.seq (.dreg (.take 0 (zm 41 7) (.take 1 (zs 42 (.ld true 2 (.t 8))) (.take 2 (zm 43 0) (.take 3 (zm 44 9) (.take 4 (zs 45 (.iad 15 (.t 43) (.t 44))) (.take 5 (zs 46 (.ld true 15 (.t 45))) (.fork (.eff 6 0 true (zs 47 (.call 27 [.t 41, .t 42, .t 46])) (.take 7 (zm 40 47) (.take 8 (zs 48 (.ext (.t 40) 0)) (.take 9 (zs 49 (.ext (.t 40) 1)) (.eff 10 0 true (zs 10 (.alloc 28 [.str ⟨#[]⟩, .v (.slice none 0 0)])) (.eff 11 1 false (zn (.st 2 (.t 10) (.t 48))) (.take 12 (zm 11 49) .nil))))))) (.eff 10 0 true (zs 10 (.alloc 28 [.str ⟨#[]⟩, .v (.slice none 0 0)])) (.eff 6 0 false (zs 47 (.call 27 [.t 41, .t 42, .t 46])) (.take 7 (zm 40 47) (.take 8 (zs 48 (.ext (.t 40) 0)) (.take 9 (zs 49 (.ext (.t 40) 1)) (.eff 11 1 false (zn (.st 2 (.t 10) (.t 48))) (.take 12 (zm 11 49) .nil)))))))))))))) 1 [8, 0]) (.seq (.reg [(zs 50 (.ld true 2 (.t 10))), (zn (.st 2 (.t 8) (.t 50)))]) (.seq (.reg [(zm 51 11), (zs 52 (.not (.t 51))), (zm 53 52), (zh 54 53 false 7), (zg 55 53 false (.ld true 2 (.t 8))), (zh 56 53 false 1), (zh 57 53 false 2), (zg 58 53 false (.call 35 [.t 54, .t 55, .t 56, .t 57])), (zg 59 53 false (.cmp .neq (.t 58) (.c (.str ⟨#[]⟩)))), (zs 60 (.pick (.t 53) (.c (.bl true)) (.t 59)))]) (.cond (.t 60) (.seq (.reg [(zs 6 (.mov (.c (.bl false))))]) .ret) .skip))))) (.reg [(zm 38 9), (zs 39 (.ari .add .i64 (.t 38) (.c (.int .i64 1)))), (zm 9 39)])))))) (.seq (.reg [(zs 6 (.mov (.c (.bl true))))]) .ret)))))), [.tmp 6]⟩
end Go.Proofs.YtjnmaicofgjplaaGreatDoor
namespace Go.Proofs.YtjnmaicofgjplaaGreatDoor
open Go.RowKit
set_option maxHeartbeats 4000000
set_option maxRecDepth 100000
/-! ### RegisterSteps -/
structure StepsI where
 l : List At
 who : ByteArray
 box : ByteArray
noncomputable def StepsC : Ctr := spec (fun i : StepsI => [.sl 15 (mapA AtA i.l), .str i.who, .str i.box]) (fun _ => []) (fun i => InL i.l ∧ sz47 i.who ∧ sz47 i.box) (fun _ => .bl true) fun _ => []
theorem steps_body (P : Program) (haw : FnOk P 12 AwakeC) (hri : FnOk P 13 RightC) (hnew : FnOk P 26 NewC) (hdo : FnOk P 27 LDoC) (hul : FnOk P 35 UnlikeC) : BodyOk P x9 StepsC := by
 intro args H K hc; obtain ⟨⟨l, who, box⟩, rfl, rfl, hp, hK⟩ := hc; refine ⟨Nat.le_of_ble_eq_true rfl, ?_⟩; dsimp only at hp hK ⊢
 obtain ⟨⟨hlen, hgd⟩, hs1, hs2⟩ := hp
 unfold sz47 at hs1 hs2
 obtain ⟨q, hq⟩ : ∃ q, q = rightB l := ⟨_, rfl⟩
 obtain ⟨n, hn⟩ : ∃ n : Nat, n = l.length := ⟨_, rfl⟩
 cbv
 (refine callG_spec0 haw () trivial rfl rfl rfl ?_; try dsimp only)
 cbv
 (refine callG_spec0 hri l ⟨hlen, hgd⟩ rfl rfl rfl ?_; try dsimp only)
 rw [← hq]
 cases q with
 | false =>
  cbv
  (refine FinK.mk ⟨_, Gh.refl _, ?_⟩; cbv; exact .inl (CutK.pre _ (by rfl) (by exact Nat.le_of_ble_eq_true rfl) (by rfl) (by rfl) (Le.refl _) (LeH.refl _) hK))
 | true =>
  have hr := rightB_of hq.symm
  have hlen2 := hr.2.1
  cbv; repeat' ((first | refine .mk (fun h => ?_) fun h => ?_ | refine .k fun z hz => ?_ | fail) <;> cbv)
  ·(refine FinK.mk ⟨_, Gh.refl _, ?_⟩; cbv; exact .inl (CutK.pre _ (by rfl) (by exact Nat.le_of_ble_eq_true rfl) (by rfl) (by rfl) (Le.refl _) (LeH.refl _) hK))
  ·(refine FinK.mk ⟨_, Gh.refl _, ?_⟩; cbv; exact .inl (CutK.pre _ (by rfl) (by exact Nat.le_of_ble_eq_true rfl) (by rfl) (by rfl) (Le.refl _) (LeH.refl _) hK))
  ·(refine callG_new hnew cS trivial rfl rfl ?_; try dsimp only)
   cbv
   refine xloopG (Gh.le [.blk 80 [.str cS, .ph 1], .pool 78 [] [], .blk 28 [.str cS, .sl 11 []]] (by unfold cS; repeat' (first | exact LeL.nil | exact LeL0.nil | exact LeH.nil | exact LeE.refl _ | exact Le.refl _ | exact Le0.one (.refl _) | exact Le0.one (.nil _) | exact Le1.refl _ | exact Le1.nil _ | refine LeH.cons ?_ ?_ | refine LeE.row ?_ | refine LeE.blk ?_ | refine LeL0.cons ?_ ?_ | refine LeL.cons ?_ ?_ | refine Le0.agg ?_ | refine Le.tup ?_ | exact Le.one (.one (.nil _)) | refine Le.one (.agg ?_)))) ?_
   cbv
   refine xloopV [] (fun q : { q : Nat × ByteArray × List Br // q.1 ≤ l.length ∧ (⟨q.2.1, q.2.2⟩ : Rg) = playM (l.take q.1) } => [(9, .i (nI q.1.1))]) (fun q => [.blk 80 [.str q.1.2.1, .ph 1], .pool 78 (mapA PelA q.1.2.2) [], .blk 28 [.str q.1.2.1, .sl 11 (mapA RbA q.1.2.2)]]) (fun q => lft n q.1.1) ⟨(0, cS, []), Nat.zero_le _, rfl⟩ ?_
   rintro ⟨⟨k, c, L⟩, hk, hR⟩
   dsimp only at hk hR ⊢
   have hinv := play_inv hr k
   have hinv2 := play_inv hr (k + 1)
   have hsn := fun (a : At) (h : l[k]? = some a) => play_snoc h
   rw [← hR] at hinv hsn
   cbv; repeat' ((first | refine .mk (fun h => ?_) fun h => ?_ | refine .k fun z hz => ?_ | fail) <;> cbv)
   ·refine askEl_int (by ((try simp only [vn] at *) <;> omega)) (by ((try simp only [vn] at *) <;> omega)) fun i x hi hx => ?_
    obtain rfl : k = i := by ((try simp only [vn] at *) <;> omega)
    have hx2 := hsn x hx
    have hxm := List.mem_of_getElem? hx
    have hpre : LDoP ((⟨c, L⟩ : Rg), (⟨c, L⟩ : Rg), x) := ldoP_of hinv (Alike.refl _) (by decide) (hr.act x hxm) (hgd x hxm)
    obtain ⟨⟨c', L'⟩, hR'⟩ : ∃ R', R' = (doR ⟨c, L⟩ x).1 := ⟨_, rfl⟩
    have hdp : doP ⟨c, L⟩ x = ⟨c', L'⟩ := (doP_eq hinv x).trans hR'.symm
    have hep : decide (eP ⟨c, L⟩ x = (doR ⟨c, L⟩ x).2) = true := decide_eq_true (eP_eq (Alike.refl _) hinv.nd x)
    rw [← hR'] at hx2
    rw [hx2] at hinv2
    have hup : UlP ⟨c', L'⟩ ⟨c', L'⟩ := ulP_of hinv2 (by decide)
    obtain ⟨kind, index, day, bill, by_, to, b⟩ := x
    obtain ⟨number1, carrier1, shipper1, frm1, to1, boxes1, parents1, issued1, clean1⟩ := b
    cbv; repeat' ((first | refine And.intro ?_ ?_ | fail) <;> cbv)
    all_goals
     (refine callG_spec hdo ((⟨c, L⟩ : Rg), (⟨c, L⟩ : Rg), (⟨kind, index, day, bill, by_, to, ⟨number1, carrier1, shipper1, frm1, to1, boxes1, parents1, issued1, clean1⟩⟩ : At)) [0, 1] hpre rfl rfl (by decide) rfl rfl rfl rfl rfl ?_; try dsimp only)
     rw [hep, hdp, ← hR']
     cbv
     (refine callG_spec hul ((⟨c', L'⟩ : Rg), (⟨c', L'⟩ : Rg), who, box) [0, 1] hup rfl rfl (by decide) rfl rfl rfl rfl rfl ?_; try dsimp only)
     cbv; repeat' ((first | refine .mk (fun h => ?_) fun h => ?_ | refine .k fun z hz => ?_ | fail) <;> cbv)
     all_goals first | contradiction | skip
     obtain rfl : z = nI (k + 1) := by ((try simp only [vn] at *) <;> omega)
     exact roundV ⟨(k + 1, c', L'), by ((try simp only [vn] at *) <;> omega), hx2.symm⟩ (lft_lt (by ((try simp only [vn] at *) <;> omega)))
   ·(refine FinK.mk ⟨_, Gh.refl _, ?_⟩; cbv; exact .inl (CutK.pre _ (by rfl) (by exact Nat.le_of_ble_eq_true rfl) (by rfl) (by rfl) (Le.refl _) (LeH.refl _) hK))
end Go.Proofs.YtjnmaicofgjplaaGreatDoor
namespace Go.Proofs.YtjnmaicofgjplaaGreatDoor
open Go.RowKit
set_option maxRecDepth 100000
theorem k_steps : FnOk Tryz.prog 9 StepsC := body_ok (by kernel_rfl) (steps_body _ k_awake k_right23 k_new k_ldo_ok k_unlike)
end Go.Proofs.YtjnmaicofgjplaaGreatDoor
