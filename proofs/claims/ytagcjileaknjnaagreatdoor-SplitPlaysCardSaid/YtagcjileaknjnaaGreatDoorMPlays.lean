/-
  Texts of this proof, joined: SPP, SKPlays.
-/
import Derived.Test.YtagcjileaknjnaaGreatDoorB6
import Derived.KernelRfl
set_option linter.unusedVariables false
set_option linter.unusedSimpArgs false
namespace Go.Proofs.YtagcjileaknjnaaGreatDoor
def x7 : XFn := ⟨66, zr [yb 8 false] (.seq (zr [zs 15 (.call 10 []), yo 16 15, zm 17 16, zh 18 17 false 0, zg 19 17 false (.call 11 [.t 18]), go 20 17 false 19, yq 21 17 true 20, zm 22 21, zh 23 22 false 1, zg 24 22 false (.call 19 [.t 23]), go 25 22 false 24, yq 26 22 true 25] (.cond (.t 26) (zr [zs 27 (.call 10 []), zm 8 27] .ret) .skip)) (zr [zm 29 0, zs 30 (.call 12 [.t 29]), zm 28 30, yx 31 28 0, yx 32 28 1, zs 10 (.alloc 28 [.str ⟨#[]⟩, .v (.slice none 0 0)]), zm 9 31, ys 2 10 32] (.seq (zr [zm 33 1, yl 34 33, yn 35 0] (.block 0 (.loop (zr [yc 36 .lss 35 34] (.seq (.cond (.t 36) .skip (.exit 0)) (.seq (.block 1 (zr [yi 37 9 33 35, yt 38 9 37, zs 12 (.alloc 45 [.int .u8 0, .str ⟨#[]⟩, .str ⟨#[]⟩, .str ⟨#[]⟩, .str ⟨#[]⟩, .str ⟨#[]⟩, .v (.slice none 0 0), .v (.slice none 0 0), .int .i64 0]), ys 9 12 38] (zr [yt 40 2 10, yt 41 9 12, zs 42 (.call 23 [.t 40, .t 41]), zm 39 42, yx 43 39 0, yx 44 39 1, zs 13 (.alloc 28 [.str ⟨#[]⟩, .v (.slice none 0 0)]), ys 2 13 43, zm 14 44] (zr [yt 45 2 13, ys 2 10 45] (zr [zm 46 9, yt 47 9 12, zs 48 (.call 20 [.t 46, .t 47]), zm 49 14, yc 50 .neq 48 49, zm 51 50, zh 52 51 false 9, zg 53 51 false (.ld true 2 (.t 10)), zh 54 51 false 2, zh 55 51 false 3, zg 56 51 false (.call 29 [.t 52, .t 53, .t 54, .t 55]), zg 57 51 false (.cmp .neq (.t 56) (.c (.str ⟨#[]⟩))), yq 58 51 true 57] (.cond (.t 58) (zr [yb 8 false] .ret) .skip)))))) (.reg [yp 59 35, zm 35 59]))))))) (zr [zm 60 9, yt 61 2 10, zm 62 2, zm 63 3, zs 64 (.call 29 [.t 60, .t 61, .t 62, .t 63]), zs 65 (.cmp .eql (.t 64) (.c (.str ⟨#[]⟩))), zm 8 65] .ret)))), [.tmp 8]⟩
end Go.Proofs.YtagcjileaknjnaaGreatDoor
noncomputable section
namespace Go.Proofs.YtagcjileaknjnaaGreatDoor
open Go.RowKit
set_option maxHeartbeats 4000000
set_option maxRecDepth 100000
structure PlaysI where
 l : List At
 acts : List Sa
 who : ByteArray
 box : ByteArray
def PlaysC : Ctr := spec (fun i : PlaysI => [.sl 15 (mapA AtA i.l), .sl 9 (mapA SaA i.acts), .str i.who, .str i.box]) (fun _ => []) (fun i => InL i.l ∧ i.acts.length ≤ maxLen ∧ ∀ a ∈ i.acts, SaZ a) (fun _ => .bl true) fun _ => []
theorem plays_body (P : Program) (haw : FnOk P 10 AwakeSC) (hf : FnOk P 11 FewC) (hfs : FnOk P 19 FewSC) (hb : FnOk P 12 BeginC)
  (hw : FnOk P 23 WantC) (hd : FnOk P 20 DoAC) (hul : FnOk P 29 UnlikeC) : BodyOk P x7 PlaysC := by
 intro args H K hc; obtain ⟨⟨l, acts, who, box⟩, rfl, rfl, hp, hK⟩ := hc; refine ⟨nb9, ?_⟩; dsimp only at hp hK ⊢
 obtain ⟨hin, hal, haz⟩ := hp
 try dsimp only at hin hal haz
 obtain ⟨q, hq⟩ : ∃ q, q = fewB l := ⟨_, rfl⟩
 obtain ⟨q2, hq2⟩ : ∃ q, q = fewS acts := ⟨_, rfl⟩
 cbv
 (refine c09 haw () trivial ?_; try dsimp only)
 cbv
 (refine c09 hf l (fun a ha => (hin.gd a ha).sz) ?_; try dsimp only)
 rw [← hq]
 cases q with
 | false =>
  cbv
  (refine c09 haw () trivial ?_; try dsimp only)
  cbv
  (refine .r9 (Gh.refl _) ?_; cbv; exact .inl (.f9 hK))
 | true =>
 cbv
 (refine c09 hfs acts hal ?_; try dsimp only)
 rw [← hq2]
 cases q2 with
 | false =>
  cbv
  (refine c09 haw () trivial ?_; try dsimp only)
  cbv
  (refine .r9 (Gh.refl _) ?_; cbv; exact .inl (.f9 hK))
 | true =>
 have hbp := begP_of hq.symm hin
 have hfs2 := fewS_of hq2.symm
 have hlen := hfs2.len
 clear hq hq2
 have hinv := beg_inv hbp
 cbv
 (refine cn9 hb l hbp ?_; try dsimp only)
 obtain ⟨⟨c, L⟩, hR⟩ : ∃ R, R = beginM l := ⟨_, rfl⟩
 rw [← hR] at hinv ⊢
 clear hR
 obtain ⟨na, hna⟩ : ∃ n : Nat, n = acts.length := ⟨_, rfl⟩
 cbv; repeat' ((first | refine .k fun z hz => ?_ | fail) <;> cbv)
 refine xloopV [] (fun q : { q : Nat × ByteArray × List Br // q.1 ≤ acts.length ∧ (⟨q.2.1, q.2.2⟩ : Rg) = stM ⟨c, L⟩ (acts.take q.1) } => [(35, .i (nI q.1.1))]) (fun q => [.blk 79 [.str q.1.2.1, .ph 1], .pool 77 (mapA PelA q.1.2.2) [], .blk 28 [.str q.1.2.1, .sl 11 (mapA RbA q.1.2.2)]]) (fun q => lft na q.1.1) ⟨(0, c, L), Nat.zero_le _, rfl⟩ ?_
 rintro ⟨⟨k, c2, L2⟩, hk, hR⟩
 dsimp only at hk hR ⊢
 have hinv2 := stM_inv hinv hfs2.all k hk (by omega) (by decide)
 have hsn := fun (a : Sa) (h : acts[k]? = some a) => stM_snoc (R := ⟨c, L⟩) h
 rw [← hR] at hinv2 hsn
 cbv; repeat' ((first | refine .mk (fun h => ?_) fun h => ?_ | fail) <;> cbv)
 ·refine askEl_int om9 om9 fun i x hi hx => ?_
  obtain rfl : k = i := om9
  have hx2 := hsn x hx
  have hxm := List.mem_of_getElem? hx
  have hsa := hfs2.all x hxm
  have hsz := haz x hxm
  have hiP : InvP ⟨c2, L2⟩ 65 := ⟨_, by omega, hinv2⟩
  have hinv3 := inv_doM hinv2 (by omega) hsa
  obtain ⟨⟨⟨c3, L3⟩, e3⟩, hd3⟩ : ∃ y, y = doM ⟨c2, L2⟩ x := ⟨_, rfl⟩
  rw [← hd3] at hx2 hinv3
  have hul3 : UlP ⟨c3, L3⟩ ⟨c3, L3⟩ := ulS hinv3 (by omega)
  obtain ⟨kind, bill, by_, number, shipper, frm, parts, names, day⟩ := x
  cbv
  (refine c09 hw ((⟨c2, L2⟩ : Rg), (⟨kind, bill, by_, number, shipper, frm, parts, names, day⟩ : Sa)) ⟨hiP, hsa, hsz⟩ ?_; try dsimp only)
  rw [← hd3]
  cbv
  (refine cs9 hd ((⟨c2, L2⟩ : Rg), (⟨kind, bill, by_, number, shipper, frm, parts, names, day⟩ : Sa)) [0, 1] ⟨hiP, hsa⟩ ?_; try dsimp only)
  rw [← hd3]
  cbv; repeat' ((first | refine .y fun h => ?_ | fail) <;> cbv)
  (refine cs9 hul ((⟨c3, L3⟩ : Rg), (⟨c3, L3⟩ : Rg), who, box) [0, 1] hul3 ?_; try dsimp only)
  cbv; repeat' ((first | refine .mk (fun h => ?_) fun h => ?_ | refine .k fun z hz => ?_ | fail) <;> cbv)
  ·obtain rfl : z = nI (k + 1) := om9
   exact roundV ⟨(k + 1, c3, L3), by exact om9, hx2.symm⟩ (lft_lt om9)
  ·exact absurd rfl h
 ·have hul2 : UlP ⟨c2, L2⟩ ⟨c2, L2⟩ := ulS hinv2 (by omega)
  (refine cs9 hul ((⟨c2, L2⟩ : Rg), (⟨c2, L2⟩ : Rg), who, box) [0, 1] hul2 ?_; try dsimp only)
  cbv; repeat' ((first | refine .mk (fun h => ?_) fun h => ?_ | fail) <;> cbv)
  ·(refine .r9 (Gh.refl _) ?_; cbv; exact .inl (.f9 hK))
  ·exact absurd rfl h
theorem kl_plays : FnOk Tryz.prog 7 PlaysC := body_ok (by kernel_rfl) (plays_body _ k_awake k_few k_fewS k_begin k_want k_doA k_unlike)
end Go.Proofs.YtagcjileaknjnaaGreatDoor
end
