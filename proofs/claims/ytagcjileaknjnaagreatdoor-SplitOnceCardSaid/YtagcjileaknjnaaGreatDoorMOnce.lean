/-
  Texts of this proof, joined: SPV, SKOnce.
-/
import Derived.Test.YtagcjileaknjnaaGreatDoorA6
import Derived.KernelRfl
set_option linter.unusedVariables false
set_option linter.unusedSimpArgs false
namespace Go.Proofs.YtagcjileaknjnaaGreatDoor
def x4 : XFn := ⟨121, zr [zs 5 (.box 45 (.t 1)), yb 8 false] (.seq (zr [zs 17 (.call 10 []), yo 18 17, zm 19 18, zh 20 19 false 0, zg 21 19 false (.call 11 [.t 20]), go 22 19 false 21, yq 23 19 true 22, zm 24 23, zg 25 24 false (.ld true 9 (.t 5)), zg 26 24 false (.bsl 45 9 1 [.int .u8 0, .str ⟨#[]⟩, .str ⟨#[]⟩, .str ⟨#[]⟩, .str ⟨#[]⟩, .str ⟨#[]⟩, .v (.slice none 0 0), .v (.slice none 0 0), .int .i64 0] [(0, .t 25)]), zg 27 24 false (.call 19 [.t 26]), go 28 24 false 27, yq 29 24 true 28] (.cond (.t 29) (zr [zs 30 (.call 10 []), zm 8 30] .ret) .skip)) (zr [zm 32 0, zs 33 (.call 12 [.t 32]), zm 31 33, yx 34 31 0, yx 35 31 1, zs 10 (.alloc 28 [.str ⟨#[]⟩, .v (.slice none 0 0)]), zm 9 34, ys 2 10 35] (.seq (zr [zm 36 9, yt 37 9 5, zs 38 (.call 20 [.t 36, .t 37]), yk 39 .neq 38 0] (.cond (.t 39) (zr [yb 8 true] .ret) .skip)) (zr [zf 40 1 5, zl 41 40, zs 42 (.bsl 9 1 1 [.str ⟨#[]⟩] [(0, .t 41)]), zm 11 42] (.seq (zr [zf 43 0 5, zl 44 43, zs 45 (.ari .rem .u8 (.t 44) (.c (.int .u8 3))), zs 46 (.cmp .eql (.t 45) (.c (.int .u8 1)))] (.cond (.t 46) (.reg [zf 47 7 5, zl 48 47, zm 11 48]) .skip)) (.seq (zr [zm 49 11, yl 50 49, yn 51 0] (.block 0 (.loop (zr [yc 52 .lss 51 50] (.seq (.cond (.t 52) .skip (.exit 0)) (.seq (.block 1 (zr [yi 53 1 49 51, zl 54 53, zm 13 54] (zr [zm 56 9, zm 57 13, zs 58 (.call 13 [.t 56, .t 57]), zm 55 58, yx 59 55 0, yx 60 55 1, zs 14 (.alloc 33 [.str ⟨#[]⟩, .str ⟨#[]⟩, .str ⟨#[]⟩, .str ⟨#[]⟩, .str ⟨#[]⟩, .v (.slice none 0 0), .v (.slice none 0 0), .int .i64 0, .bl false]), ys 9 14 59, zm 15 60] (.seq (zr [zm 61 15, yo 62 61, zm 63 62, zh 64 63 false 9, zh 65 63 false 13, zg 66 63 false (.call 17 [.t 64, .t 65]), gk 67 63 false .neq 66 4, yq 68 63 true 67] (.cond (.t 68) (zr [yb 8 false] .ret) .skip)) (zr [zm 69 9, zs 70 (.call 21 [.t 69]), yl 71 70, zm 16 71] (.seq (zr [zm 72 9, zm 73 13, zm 74 2, zf 75 2 14, zl 76 75, zf 77 3 14, zl 78 77, zm 79 3, zs 80 (.call 22 [.t 72, .t 73, .t 74, .c (.str ⟨#[111, 110, 99, 101, 45, 109, 111, 114, 101]⟩), .t 76, .t 78, .t 79]), yk 81 .eql 80 0, zm 82 81, zh 83 82 false 9, zh 84 82 false 13, gf 85 82 false 3 5, gl 86 82 false 85, zg 87 82 false (.bsl 9 1 2 [.str ⟨#[]⟩] [(0, .t 84), (1, .t 86)]), zh 88 82 false 2, zh 89 82 false 3, zg 90 82 false (.call 16 [.t 83, .t 87, .t 88, .c (.str ⟨#[116, 119, 105, 99, 101]⟩), .t 89]), gk 91 82 false .eql 90 0, yq 92 82 true 91] (.cond (.t 92) (zr [yb 8 false] .ret) .skip)) (.seq (.dreg (.take 0 (zf 93 5 14) (.take 1 (zl 94 93) (.take 2 (yl 95 94) (.take 3 (yk 96 .gtr 95 1) (.take 4 (zm 97 96) (.take 5 (zh 98 97 true 9) (.take 6 (zh 99 97 true 13) (.take 7 (zh 100 97 true 2) (.take 8 (gf 101 97 true 5 14) (.take 9 (gl 102 97 true 101) (.take 10 (zg 103 97 true (.sli 1 (.t 102) none (some (.c (.int .i64 1))))) (.take 11 (gf 104 97 true 5 14) (.take 12 (gl 105 97 true 104) (.take 13 (zg 106 97 true (.sli 1 (.t 105) (some (.c (.int .i64 1))) none)) (.take 16 (zh 109 97 true 3) (.fork (.eff 14 0 true (zg 107 97 true (.bsl 31 1 2 [.v (.slice none 0 0)] [(0, .t 103), (1, .t 106)])) (.eff 15 1 true (zg 108 97 true (.bsl 9 1 2 [.str ⟨#[]⟩] [(0, .c (.str ⟨#[108, 101, 102, 116]⟩)), (1, .c (.str ⟨#[114, 105, 103, 104, 116]⟩))])) (.eff 17 2 false (zg 110 97 true (.call 15 [.t 98, .t 99, .t 100, .t 107, .t 108, .t 109])) (.phase [1, 9, 12] (.take 18 (gk 111 97 true .eql 110 0) (.take 19 (yr 112 97 111 false) (.take 20 (zm 113 112) (.take 21 (zh 114 113 false 9) (.take 24 (zh 117 113 false 16) (.eff 22 2 false (zg 115 113 false (.call 21 [.t 114])) (.take 23 (ge 116 113 false 115) (.take 25 (gc 118 113 false .neq 116 117) (.take 26 (yq 119 113 true 118) .nil))))))))))))) (.eff 15 1 true (zg 108 97 true (.bsl 9 1 2 [.str ⟨#[]⟩] [(0, .c (.str ⟨#[108, 101, 102, 116]⟩)), (1, .c (.str ⟨#[114, 105, 103, 104, 116]⟩))])) (.eff 14 0 false (zg 107 97 true (.bsl 31 1 2 [.v (.slice none 0 0)] [(0, .t 103), (1, .t 106)])) (.eff 17 2 false (zg 110 97 true (.call 15 [.t 98, .t 99, .t 100, .t 107, .t 108, .t 109])) (.phase [1, 9, 12] (.take 18 (gk 111 97 true .eql 110 0) (.take 19 (yr 112 97 111 false) (.take 20 (zm 113 112) (.take 21 (zh 114 113 false 9) (.take 24 (zh 117 113 false 16) (.eff 22 2 false (zg 115 113 false (.call 21 [.t 114])) (.take 23 (ge 116 113 false 115) (.take 25 (gc 118 113 false .neq 116 117) (.take 26 (yq 119 113 true 118) .nil))))))))))))))))))))))))))))) 2 [14]) (.cond (.t 119) (zr [yb 8 false] .ret) .skip)))))))) (.reg [yp 120 51, zm 51 120]))))))) (zr [yb 8 true] .ret))))))), [.tmp 8]⟩
end Go.Proofs.YtagcjileaknjnaaGreatDoor
noncomputable section
namespace Go.Proofs.YtagcjileaknjnaaGreatDoor
open Go.RowKit
set_option maxHeartbeats 4000000
set_option maxRecDepth 100000
structure OnceI where
 l : List At
 a : Sa
 by_ : ByteArray
 day : Int
def sOnce : ByteArray := ⟨⟨[111, 110, 99, 101, 45, 109, 111, 114, 101]⟩⟩
def sTwice : ByteArray := ⟨⟨[116, 119, 105, 99, 101]⟩⟩
def sLeft : ByteArray := ⟨⟨[108, 101, 102, 116]⟩⟩
def sRight : ByteArray := ⟨⟨[114, 105, 103, 104, 116]⟩⟩
def OnceC : Ctr := spec (fun i : OnceI => [.sl 15 (mapA AtA i.l), SaA i.a, .str i.by_, .i i.day]) (fun _ => []) (fun i => InL i.l ∧ SaZ i.a) (fun _ => .bl true) fun _ => []
theorem once_body (P : Program) (haw : FnOk P 10 AwakeSC) (hf : FnOk P 11 FewC) (hfs : FnOk P 19 FewSC) (hb : FnOk P 12 BeginC)
  (hd : FnOk P 20 DoAC) (hget : FnOk P 13 GetC) (hst : FnOk P 17 StateC) (hbl : FnOk P 21 BillsC)
  (hsw : FnOk P 22 SwitchC) (hjo : FnOk P 16 JoinC) (hsp : FnOk P 15 SplitC) : BodyOk P x4 OnceC := by
 intro args H K hc; obtain ⟨⟨l, ⟨kind, bill, by1, number, shipper, frm, parts, names, day1⟩, by_, day⟩, rfl, rfl, hp, hK⟩ := hc; refine ⟨nb9, ?_⟩; dsimp only at hp hK ⊢
 obtain ⟨hin, hsz⟩ := hp
 try dsimp only at hin hsz
 have hk0 : 0 ≤ kind := hsz.kind
 obtain ⟨q, hq⟩ : ∃ q, q = fewB l := ⟨_, rfl⟩
 obtain ⟨q2, hq2⟩ : ∃ q, q = fewS [(⟨kind, bill, by1, number, shipper, frm, parts, names, day1⟩ : Sa)] := ⟨_, rfl⟩
 cbv
 (refine c09 haw () trivial ?_; try dsimp only)
 cbv
 (refine c09 hf l (fun a ha => (hin.gd a ha).sz) ?_; try dsimp only)
 rw [← hq]
 cases q with
 | false =>
  cbv
  (refine c09 haw () trivial ?_; try dsimp only)
  cbv
  (refine .r9 (Gh.refl _) ?_; cbv; exact .inl (.f9 hK))
 | true =>
 cbv
 refine callG_publish 1 rfl ?_
 cbv
 (refine c09 hfs [(⟨kind, bill, by1, number, shipper, frm, parts, names, day1⟩ : Sa)] (show 1 ≤ maxLen by decide) ?_; try dsimp only)
 rw [← hq2]
 cases q2 with
 | false =>
  cbv
  (refine c09 haw () trivial ?_; try dsimp only)
  cbv
  (refine .r9 (Gh.refl _) ?_; cbv; exact .inl (.f9 hK))
 | true =>
 have hbp := begP_of hq.symm hin
 have hfs2 := fewS_of hq2.symm
 have hsa := hfs2.all _ (List.mem_cons_self ..)
 clear hq hq2
 have hinv := beg_inv hbp
 cbv
 (refine cn9 hb l hbp ?_; try dsimp only)
 obtain ⟨⟨c, L⟩, hR⟩ : ∃ R, R = beginM l := ⟨_, rfl⟩
 rw [← hR] at hinv ⊢
 clear hR
 have hiP : InvP ⟨c, L⟩ 65 := ⟨41, by decide, hinv⟩
 have hinv3 := inv_doM (a := ⟨kind, bill, by1, number, shipper, frm, parts, names, day1⟩) hinv (by decide) hsa
 have hgone := do_gone (a := ⟨kind, bill, by1, number, shipper, frm, parts, names, day1⟩) hinv.nd hk0
 unfold goneS at hgone
 dsimp only at hgone
 obtain ⟨⟨⟨c3, L3⟩, e3⟩, hd3⟩ : ∃ y, y = doM ⟨c, L⟩ ⟨kind, bill, by1, number, shipper, frm, parts, names, day1⟩ := ⟨_, rfl⟩
 rw [← hd3] at hinv3 hgone
 dsimp only at hinv3 hgone
 have hnm := hsa.names
 dsimp only at hnm
 have hok3 := hinv3.okR (by decide)
 have hin3 := hinv3.inR (by decide)
 have hiP3 : InvP ⟨c3, L3⟩ 65 := ⟨41 + 65, by decide, hinv3⟩
 have hiP2 : InvP ⟨c3, L3⟩ 2 := ⟨41 + 65, by decide, hinv3⟩
 cbv
 (refine cs9 hd ((⟨c, L⟩ : Rg), (⟨kind, bill, by1, number, shipper, frm, parts, names, day1⟩ : Sa)) [2, 3] ⟨hiP, hsa⟩ ?_; try dsimp only)
 rw [← hd3]
 cbv; repeat' ((first | refine .q fun z hz hz0 hz1 => ?_ | refine .mk (fun h => ?_) fun h => ?_ | refine .k fun z hz => ?_ | fail) <;> cbv)
 ·have hg3 := hgone (by assumption)
  rw [if_pos (by omega)] at hg3
  refine xloopV [5] (fun q : { k : Nat // k ≤ names.length } => [(51, .i (nI q.1))]) (fun q => [.blk 45 (SaL ⟨kind, bill, by1, number, shipper, frm, parts, names, day1⟩), .tip 45 9 [SaA ⟨kind, bill, by1, number, shipper, frm, parts, names, day1⟩], .blk 79 [.str c3, .ph 3], .pool 77 (mapA PelA L3) [], .blk 28 [.str c, .sl 11 (mapA RbA L)]]) (fun q => lft 71 q.1) ⟨0, Nat.zero_le _⟩ ?_
  rintro ⟨k, hk⟩
  dsimp only at hk ⊢
  cbv; repeat' ((first | refine .mk (fun h => ?_) fun h => ?_ | fail) <;> cbv)
  ·refine askEl_int om9 om9 fun i s hi hs => ?_
   obtain rfl : k = i := om9
   obtain ⟨w, hl3, hw4⟩ : ∃ w, lkN L3 s = some w ∧ w.st = 4 := by
    obtain ⟨y, _, h2, _⟩ := hg3 s (List.mem_of_getElem? hs)
    exact ⟨_, h2, (endM_b 4 y).2⟩
   have hbx := may_boxes (lk_inv hinv3 hl3).1.may
   have hwn : ¬ w.st = 0 := by rw [hw4]; decide
   have d1 := switch_dead (i := ⟨⟨c3, L3⟩, s, by_, sOnce, w.b.shipper, w.b.frm, day⟩) hl3 hwn
   obtain ⟨e4, he4, hm4⟩ : ∃ e, ¬ e = 0 ∧ switchM ⟨⟨c3, L3⟩, s, by_, sOnce, w.b.shipper, w.b.frm, day⟩ = (⟨c3, L3⟩, e) := ⟨_, d1, Prod.ext (switch_err d1) rfl⟩
   have d2 := join_dead (i := ⟨⟨c3, L3⟩, [s, number], by_, sTwice, day⟩) (s := s) (r := [number]) rfl hl3 hwn
   obtain ⟨e5, he5, hm5⟩ : ∃ e, ¬ e = 0 ∧ joinM ⟨⟨c3, L3⟩, [s, number], by_, sTwice, day⟩ = (⟨c3, L3⟩, e) := ⟨_, d2, Prod.ext (join_err d2) rfl⟩
   have d3 := fun (ps : List Rc) => split_dead (i := ⟨⟨c3, L3⟩, s, by_, ps, [sLeft, sRight], day⟩) hl3 hwn
   have hm6 : ∀ ps : List Rc, ∃ e, ¬ e = 0 ∧ splitM ⟨⟨c3, L3⟩, s, by_, ps, [sLeft, sRight], day⟩ = (⟨c3, L3⟩, e) := fun ps => ⟨_, d3 ps, Prod.ext (split_err (d3 ps)) rfl⟩
   clear d1 d2 d3 hwn
   have hgt : getM L3 s = (w.b, true) := by rw [getM_lk, hl3]
   have hst3 : stateM L3 s = 4 := by rw [stateM_lk, hl3]; exact hw4
   obtain ⟨bn, hbn⟩ : ∃ m, m = numsM L3 fun _ => true := ⟨_, rfl⟩
   clear hl3 hw4
   obtain ⟨⟨nq3, cq3, sq3, frm3, to3, bq3, pq3, iq3, lq3⟩, st3, ⟨sa3, ha3, ca3⟩, ⟨sb3, hb3, cb3⟩, ⟨sc3, hc3, cc3⟩⟩ := w
   dsimp only at hm4 hbx hgt
   cbv
   (refine cs9 hget ((⟨c3, L3⟩ : Rg), s) [2, 3] hok3 ?_; try dsimp only)
   rw [hgt]
   cbv
   (refine cs9 hst ((⟨c3, L3⟩ : Rg), s) [2, 3] trivial ?_; try dsimp only)
   rw [hst3]
   cbv; repeat' ((first | refine .y fun h => ?_ | fail) <;> cbv)
   (refine cs9 hbl (⟨c3, L3⟩ : Rg) [2, 3] ⟨hin3.few, hin3.all⟩ ?_; try dsimp only)
   rw [← hbn]
   cbv; repeat' ((first | refine .k fun z hz => ?_ | fail) <;> cbv)
   (refine cs9 hsw (⟨⟨c3, L3⟩, s, by_, sOnce, sq3, frm3, day⟩ : SwI) [2, 3] hiP2 ?_; try dsimp only)
   rw [hm4]
   cbv; repeat' ((first | refine .n fun h => ?_ | fail) <;> cbv)
   refine callG_publish 6 rfl ?_
   cbv
   (refine cs9 hjo (⟨⟨c3, L3⟩, [s, number], by_, sTwice, day⟩ : JoI) [2, 3] ⟨hiP3, (show 2 ≤ 5000 by decide)⟩ ?_; try dsimp only)
   rw [hm5]
   cbv; repeat' ((first | refine .n fun h => ?_ | refine .mk (fun h => ?_) fun h => ?_ | refine .k fun z hz => ?_ | refine .l fun ys hys hyl => ?_ | refine And.intro ?_ ?_ | fail) <;> cbv)
   ·rename_i ys1 hys1 hyl1
    have hly : ys1.length ≤ 64 ∧ ys.length ≤ 64 := by
     constructor
     ·rw [hys1]
      have := List.length_take_le (Option.getD (some 1) (bq3.length : Int)).toNat bq3
      rw [List.length_drop, List.length_take]
      omega
     ·rw [hys, List.length_drop, List.length_take]
      omega
    obtain ⟨e6, he6, hm7⟩ := hm6 [⟨ys1⟩, ⟨ys⟩]
    have hpre : SpP ⟨⟨c3, L3⟩, s, by_, [⟨ys1⟩, ⟨ys⟩], [sLeft, sRight], day⟩ := ⟨hiP3, (show 2 ≤ 5000 by decide), fun p hp => by
     rcases List.mem_cons.1 hp with rfl | hp
     ·exact Nat.le_trans hly.1 (by decide)
     ·obtain rfl := List.mem_singleton.1 hp
      exact Nat.le_trans hly.2 (by decide), (show 2 ≤ 5000 by decide)⟩
    refine callG_publish 7 rfl ?_
    cbv
    refine callG_publish 8 rfl ?_
    cbv
    (refine cs9 hsp (⟨⟨c3, L3⟩, s, by_, [⟨ys1⟩, ⟨ys⟩], [sLeft, sRight], day⟩ : SpI) [2, 3] hpre ?_; try dsimp only)
    rw [hm7]
    cbv; repeat' ((first | refine .n fun h => ?_ | fail) <;> cbv)
    (refine cs9 hbl (⟨c3, L3⟩ : Rg) [2, 3] ⟨hin3.few, hin3.all⟩ ?_; try dsimp only)
    rw [← hbn]
    cbv; repeat' ((first | refine .y fun h => ?_ | refine .k fun z hz => ?_ | fail) <;> cbv)
    obtain rfl : z = nI (k + 1) := om9
    exact roundV ⟨k + 1, by exact om9⟩ (lft_lt om9)
   ·rename_i ys1 hys1 hyl1
    have hly : ys1.length ≤ 64 ∧ ys.length ≤ 64 := by
     constructor
     ·rw [hys1]
      have := List.length_take_le (Option.getD (some 1) (bq3.length : Int)).toNat bq3
      rw [List.length_drop, List.length_take]
      omega
     ·rw [hys, List.length_drop, List.length_take]
      omega
    obtain ⟨e6, he6, hm7⟩ := hm6 [⟨ys1⟩, ⟨ys⟩]
    have hpre : SpP ⟨⟨c3, L3⟩, s, by_, [⟨ys1⟩, ⟨ys⟩], [sLeft, sRight], day⟩ := ⟨hiP3, (show 2 ≤ 5000 by decide), fun p hp => by
     rcases List.mem_cons.1 hp with rfl | hp
     ·exact Nat.le_trans hly.1 (by decide)
     ·obtain rfl := List.mem_singleton.1 hp
      exact Nat.le_trans hly.2 (by decide), (show 2 ≤ 5000 by decide)⟩
    refine callG_publish 7 rfl ?_
    cbv
    refine callG_publish 8 rfl ?_
    cbv
    (refine cs9 hsp (⟨⟨c3, L3⟩, s, by_, [⟨ys1⟩, ⟨ys⟩], [sLeft, sRight], day⟩ : SpI) [2, 3] hpre ?_; try dsimp only)
    rw [hm7]
    cbv; repeat' ((first | refine .n fun h => ?_ | fail) <;> cbv)
    (refine cs9 hbl (⟨c3, L3⟩ : Rg) [2, 3] ⟨hin3.few, hin3.all⟩ ?_; try dsimp only)
    rw [← hbn]
    cbv; repeat' ((first | refine .y fun h => ?_ | refine .k fun z hz => ?_ | fail) <;> cbv)
    obtain rfl : z = nI (k + 1) := om9
    exact roundV ⟨k + 1, by exact om9⟩ (lft_lt om9)
   ·(refine cs9 hbl (⟨c3, L3⟩ : Rg) [2, 3] ⟨hin3.few, hin3.all⟩ ?_; try dsimp only)
    rw [← hbn]
    cbv; repeat' ((first | refine .y fun h => ?_ | refine .k fun z hz => ?_ | fail) <;> cbv)
    obtain rfl : z = nI (k + 1) := om9
    exact roundV ⟨k + 1, by exact om9⟩ (lft_lt om9)
   ·(refine cs9 hbl (⟨c3, L3⟩ : Rg) [2, 3] ⟨hin3.few, hin3.all⟩ ?_; try dsimp only)
    rw [← hbn]
    cbv; repeat' ((first | refine .y fun h => ?_ | refine .k fun z hz => ?_ | fail) <;> cbv)
    obtain rfl : z = nI (k + 1) := om9
    exact roundV ⟨k + 1, by exact om9⟩ (lft_lt om9)
  ·(refine .r9 (Gh.refl _) ?_; cbv; exact .inl (.f9 hK))
 ·have hg3 := hgone (by assumption)
  rw [if_neg (by omega)] at hg3
  refine xloopG (Gh.plain 5 rfl) ?_
  cbv
  have hgl : ∃ gs : List ByteArray, gs = [bill] := ⟨_, rfl⟩
  obtain ⟨gs, hgs⟩ := hgl
  have hg1 : gs.length = 1 := by rw [hgs]; rfl
  rw [← hgs] at hg3
  rw [show ([.str bill] : List AV) = mapA .str gs by rw [hgs]]
  refine xloopV [5] (fun q : { k : Nat // k ≤ gs.length } => [(51, .i (nI q.1))]) (fun q => [.blk 45 (SaL ⟨kind, bill, by1, number, shipper, frm, parts, names, day1⟩), .tip 45 9 [SaA ⟨kind, bill, by1, number, shipper, frm, parts, names, day1⟩], .blk 79 [.str c3, .ph 3], .pool 77 (mapA PelA L3) [], .blk 28 [.str c, .sl 11 (mapA RbA L)]]) (fun q => lft 71 q.1) ⟨0, Nat.zero_le _⟩ ?_
  rintro ⟨k, hk⟩
  dsimp only at hk ⊢
  cbv; repeat' ((first | refine .mk (fun h => ?_) fun h => ?_ | fail) <;> cbv)
  ·refine askEl_int om9 om9 fun i s hi hs => ?_
   obtain rfl : k = i := om9
   obtain ⟨w, hl3, hw4⟩ : ∃ w, lkN L3 s = some w ∧ w.st = 4 := by
    obtain ⟨y, _, h2, _⟩ := hg3 s (List.mem_of_getElem? hs)
    exact ⟨_, h2, (endM_b 4 y).2⟩
   have hbx := may_boxes (lk_inv hinv3 hl3).1.may
   have hwn : ¬ w.st = 0 := by rw [hw4]; decide
   have d1 := switch_dead (i := ⟨⟨c3, L3⟩, s, by_, sOnce, w.b.shipper, w.b.frm, day⟩) hl3 hwn
   obtain ⟨e4, he4, hm4⟩ : ∃ e, ¬ e = 0 ∧ switchM ⟨⟨c3, L3⟩, s, by_, sOnce, w.b.shipper, w.b.frm, day⟩ = (⟨c3, L3⟩, e) := ⟨_, d1, Prod.ext (switch_err d1) rfl⟩
   have d2 := join_dead (i := ⟨⟨c3, L3⟩, [s, number], by_, sTwice, day⟩) (s := s) (r := [number]) rfl hl3 hwn
   obtain ⟨e5, he5, hm5⟩ : ∃ e, ¬ e = 0 ∧ joinM ⟨⟨c3, L3⟩, [s, number], by_, sTwice, day⟩ = (⟨c3, L3⟩, e) := ⟨_, d2, Prod.ext (join_err d2) rfl⟩
   have d3 := fun (ps : List Rc) => split_dead (i := ⟨⟨c3, L3⟩, s, by_, ps, [sLeft, sRight], day⟩) hl3 hwn
   have hm6 : ∀ ps : List Rc, ∃ e, ¬ e = 0 ∧ splitM ⟨⟨c3, L3⟩, s, by_, ps, [sLeft, sRight], day⟩ = (⟨c3, L3⟩, e) := fun ps => ⟨_, d3 ps, Prod.ext (split_err (d3 ps)) rfl⟩
   clear d1 d2 d3 hwn
   have hgt : getM L3 s = (w.b, true) := by rw [getM_lk, hl3]
   have hst3 : stateM L3 s = 4 := by rw [stateM_lk, hl3]; exact hw4
   obtain ⟨bn, hbn⟩ : ∃ m, m = numsM L3 fun _ => true := ⟨_, rfl⟩
   clear hl3 hw4
   obtain ⟨⟨nq3, cq3, sq3, frm3, to3, bq3, pq3, iq3, lq3⟩, st3, ⟨sa3, ha3, ca3⟩, ⟨sb3, hb3, cb3⟩, ⟨sc3, hc3, cc3⟩⟩ := w
   dsimp only at hm4 hbx hgt
   cbv
   (refine cs9 hget ((⟨c3, L3⟩ : Rg), s) [2, 3] hok3 ?_; try dsimp only)
   rw [hgt]
   cbv
   (refine cs9 hst ((⟨c3, L3⟩ : Rg), s) [2, 3] trivial ?_; try dsimp only)
   rw [hst3]
   cbv; repeat' ((first | refine .y fun h => ?_ | fail) <;> cbv)
   (refine cs9 hbl (⟨c3, L3⟩ : Rg) [2, 3] ⟨hin3.few, hin3.all⟩ ?_; try dsimp only)
   rw [← hbn]
   cbv; repeat' ((first | refine .k fun z hz => ?_ | fail) <;> cbv)
   (refine cs9 hsw (⟨⟨c3, L3⟩, s, by_, sOnce, sq3, frm3, day⟩ : SwI) [2, 3] hiP2 ?_; try dsimp only)
   rw [hm4]
   cbv; repeat' ((first | refine .n fun h => ?_ | fail) <;> cbv)
   refine callG_publish 6 rfl ?_
   cbv
   (refine cs9 hjo (⟨⟨c3, L3⟩, [s, number], by_, sTwice, day⟩ : JoI) [2, 3] ⟨hiP3, (show 2 ≤ 5000 by decide)⟩ ?_; try dsimp only)
   rw [hm5]
   cbv; repeat' ((first | refine .n fun h => ?_ | refine .mk (fun h => ?_) fun h => ?_ | refine .k fun z hz => ?_ | refine .l fun ys hys hyl => ?_ | refine And.intro ?_ ?_ | fail) <;> cbv)
   ·rename_i ys1 hys1 hyl1
    have hly : ys1.length ≤ 64 ∧ ys.length ≤ 64 := by
     constructor
     ·rw [hys1]
      have := List.length_take_le (Option.getD (some 1) (bq3.length : Int)).toNat bq3
      rw [List.length_drop, List.length_take]
      omega
     ·rw [hys, List.length_drop, List.length_take]
      omega
    obtain ⟨e6, he6, hm7⟩ := hm6 [⟨ys1⟩, ⟨ys⟩]
    have hpre : SpP ⟨⟨c3, L3⟩, s, by_, [⟨ys1⟩, ⟨ys⟩], [sLeft, sRight], day⟩ := ⟨hiP3, (show 2 ≤ 5000 by decide), fun p hp => by
     rcases List.mem_cons.1 hp with rfl | hp
     ·exact Nat.le_trans hly.1 (by decide)
     ·obtain rfl := List.mem_singleton.1 hp
      exact Nat.le_trans hly.2 (by decide), (show 2 ≤ 5000 by decide)⟩
    refine callG_publish 7 rfl ?_
    cbv
    refine callG_publish 8 rfl ?_
    cbv
    (refine cs9 hsp (⟨⟨c3, L3⟩, s, by_, [⟨ys1⟩, ⟨ys⟩], [sLeft, sRight], day⟩ : SpI) [2, 3] hpre ?_; try dsimp only)
    rw [hm7]
    cbv; repeat' ((first | refine .n fun h => ?_ | fail) <;> cbv)
    (refine cs9 hbl (⟨c3, L3⟩ : Rg) [2, 3] ⟨hin3.few, hin3.all⟩ ?_; try dsimp only)
    rw [← hbn]
    cbv; repeat' ((first | refine .y fun h => ?_ | refine .k fun z hz => ?_ | fail) <;> cbv)
    obtain rfl : z = nI (k + 1) := om9
    exact roundV ⟨k + 1, by exact om9⟩ (lft_lt om9)
   ·rename_i ys1 hys1 hyl1
    have hly : ys1.length ≤ 64 ∧ ys.length ≤ 64 := by
     constructor
     ·rw [hys1]
      have := List.length_take_le (Option.getD (some 1) (bq3.length : Int)).toNat bq3
      rw [List.length_drop, List.length_take]
      omega
     ·rw [hys, List.length_drop, List.length_take]
      omega
    obtain ⟨e6, he6, hm7⟩ := hm6 [⟨ys1⟩, ⟨ys⟩]
    have hpre : SpP ⟨⟨c3, L3⟩, s, by_, [⟨ys1⟩, ⟨ys⟩], [sLeft, sRight], day⟩ := ⟨hiP3, (show 2 ≤ 5000 by decide), fun p hp => by
     rcases List.mem_cons.1 hp with rfl | hp
     ·exact Nat.le_trans hly.1 (by decide)
     ·obtain rfl := List.mem_singleton.1 hp
      exact Nat.le_trans hly.2 (by decide), (show 2 ≤ 5000 by decide)⟩
    refine callG_publish 7 rfl ?_
    cbv
    refine callG_publish 8 rfl ?_
    cbv
    (refine cs9 hsp (⟨⟨c3, L3⟩, s, by_, [⟨ys1⟩, ⟨ys⟩], [sLeft, sRight], day⟩ : SpI) [2, 3] hpre ?_; try dsimp only)
    rw [hm7]
    cbv; repeat' ((first | refine .n fun h => ?_ | fail) <;> cbv)
    (refine cs9 hbl (⟨c3, L3⟩ : Rg) [2, 3] ⟨hin3.few, hin3.all⟩ ?_; try dsimp only)
    rw [← hbn]
    cbv; repeat' ((first | refine .y fun h => ?_ | refine .k fun z hz => ?_ | fail) <;> cbv)
    obtain rfl : z = nI (k + 1) := om9
    exact roundV ⟨k + 1, by exact om9⟩ (lft_lt om9)
   ·(refine cs9 hbl (⟨c3, L3⟩ : Rg) [2, 3] ⟨hin3.few, hin3.all⟩ ?_; try dsimp only)
    rw [← hbn]
    cbv; repeat' ((first | refine .y fun h => ?_ | refine .k fun z hz => ?_ | fail) <;> cbv)
    obtain rfl : z = nI (k + 1) := om9
    exact roundV ⟨k + 1, by exact om9⟩ (lft_lt om9)
   ·(refine cs9 hbl (⟨c3, L3⟩ : Rg) [2, 3] ⟨hin3.few, hin3.all⟩ ?_; try dsimp only)
    rw [← hbn]
    cbv; repeat' ((first | refine .y fun h => ?_ | refine .k fun z hz => ?_ | fail) <;> cbv)
    obtain rfl : z = nI (k + 1) := om9
    exact roundV ⟨k + 1, by exact om9⟩ (lft_lt om9)
  ·(refine .r9 (Gh.refl _) ?_; cbv; exact .inl (.f9 hK))
 ·(refine .r9 (Gh.refl _) ?_; cbv; exact .inl (.f9 hK))
theorem kl_once : FnOk Tryz.prog 4 OnceC := body_ok (by kernel_rfl) (once_body _ k_awake k_few k_fewS k_begin k_doA k_get k_state k_bills k_switch k_join k_split)
end Go.Proofs.YtagcjileaknjnaaGreatDoor
end
