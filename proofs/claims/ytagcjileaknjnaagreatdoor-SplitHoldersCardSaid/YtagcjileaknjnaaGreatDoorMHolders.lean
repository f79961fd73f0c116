/-
  Texts of this proof, joined: SPT, SKHolders.
-/
import Derived.Test.YtagcjileaknjnaaGreatDoorB6
import Derived.KernelRfl
set_option linter.unusedVariables false
set_option linter.unusedSimpArgs false
namespace Go.Proofs.YtagcjileaknjnaaGreatDoor
def x8 : XFn := ⟨68, zr [zs 3 (.box 45 (.t 1)), yb 4 false] (.seq (zr [zs 11 (.call 10 []), yo 12 11, zm 13 12, zh 14 13 false 0, zg 15 13 false (.call 11 [.t 14]), go 16 13 false 15, yq 17 13 true 16, zm 18 17, zg 19 18 false (.ld true 9 (.t 3)), zg 20 18 false (.bsl 45 9 1 [.int .u8 0, .str ⟨#[]⟩, .str ⟨#[]⟩, .str ⟨#[]⟩, .str ⟨#[]⟩, .str ⟨#[]⟩, .v (.slice none 0 0), .v (.slice none 0 0), .int .i64 0] [(0, .t 19)]), zg 21 18 false (.call 19 [.t 20]), go 22 18 false 21, yq 23 18 true 22] (.cond (.t 23) (zr [zs 24 (.call 10 []), zm 4 24] .ret) .skip)) (zr [zm 26 0, zs 27 (.call 12 [.t 26]), zm 25 27, yx 28 25 0, yx 29 25 1, zs 6 (.alloc 28 [.str ⟨#[]⟩, .v (.slice none 0 0)]), zm 5 28, ys 2 6 29] (zr [zm 30 5, zf 31 1 3, zl 32 31, zf 33 2 3, zl 34 33, zs 35 (.call 14 [.t 30, .t 32, .t 34]), zm 7 35] (.seq (zr [zf 36 0 3, zl 37 36, zs 38 (.ari .rem .u8 (.t 37) (.c (.int .u8 3))), zs 39 (.cmp .eql (.t 38) (.c (.int .u8 1)))] (.cond (.t 39) (zr [yb 7 true] (zr [zf 40 7 3, zl 41 40, yl 42 41, yn 43 0] (.block 0 (.loop (zr [yc 44 .lss 43 42] (.seq (.cond (.t 44) .skip (.exit 0)) (.seq (.block 1 (zr [yi 45 1 41 43, zl 46 45, zm 9 46] (.reg [zm 47 7, zm 48 47, zh 49 48 true 5, zh 50 48 true 9, gf 51 48 true 2 3, gl 52 48 true 51, zg 53 48 true (.call 14 [.t 49, .t 50, .t 52]), yr 54 48 53 false, zm 7 54]))) (.reg [yp 55 43, zm 43 55])))))))) .skip)) (zr [zm 56 5, yt 57 9 3, zs 58 (.call 20 [.t 56, .t 57]), zm 10 58] (.seq (zr [zm 59 10, yk 60 .eql 59 0] (.cond (.t 60) (zr [zm 61 7, zm 4 61] .ret) .skip)) (zr [zm 62 5, yt 63 2 6, zf 64 2 3, zl 65 64, zs 66 (.call 29 [.t 62, .t 63, .t 65, .c (.str ⟨#[]⟩)]), zs 67 (.cmp .eql (.t 66) (.c (.str ⟨#[]⟩))), zm 4 67] .ret))))))), [.tmp 4]⟩
end Go.Proofs.YtagcjileaknjnaaGreatDoor
noncomputable section
namespace Go.Proofs.YtagcjileaknjnaaGreatDoor
open Go.RowKit
set_option maxHeartbeats 4000000
set_option maxRecDepth 100000
def allF (L : List Br) (by_ : ByteArray) (l : List ByteArray) : Bool := l.all fun s => fullM L s by_
theorem allF_snoc {L : List Br} {by_ : ByteArray} {l : List ByteArray} {k : Nat} {s : ByteArray} (h : l[k]? = some s) : allF L by_ (l.take (k + 1)) = (allF L by_ (l.take k) && fullM L s by_) := by
 unfold allF
 rw [take_some h, List.all_append]
 simp
structure HoldI where
 l : List At
 a : Sa
def HoldersC : Ctr := spec (fun i : HoldI => [.sl 15 (mapA AtA i.l), SaA i.a]) (fun _ => []) (fun i => InL i.l ∧ SaZ i.a) (fun _ => .bl true) fun _ => []
theorem holders_body (P : Program) (haw : FnOk P 10 AwakeSC) (hf : FnOk P 11 FewC) (hfs : FnOk P 19 FewSC) (hb : FnOk P 12 BeginC)
  (hfull : FnOk P 14 FullC) (hd : FnOk P 20 DoAC) (hul : FnOk P 29 UnlikeC) : BodyOk P x8 HoldersC := by
 intro args H K hc; obtain ⟨⟨l, ⟨kind, bill, by_, number, shipper, frm, parts, names, day⟩⟩, rfl, rfl, hp, hK⟩ := hc; refine ⟨nb9, ?_⟩; dsimp only at hp hK ⊢
 obtain ⟨hin, hsz⟩ := hp
 try dsimp only at hin hsz
 have hk0 : 0 ≤ kind := hsz.kind
 obtain ⟨q, hq⟩ : ∃ q, q = fewB l := ⟨_, rfl⟩
 obtain ⟨q2, hq2⟩ : ∃ q, q = fewS [(⟨kind, bill, by_, number, shipper, frm, parts, names, day⟩ : Sa)] := ⟨_, rfl⟩
 cbv
 (refine c09 haw () trivial ?_; try dsimp only)
 cbv
 (refine c09 hf l (fun a ha => (hin.gd a ha).sz) ?_; try dsimp only)
 rw [← hq]
 cases q with
 | false =>
  cbv
  (refine c09 haw () trivial ?_; try dsimp only)
  cbv
  (refine .r9 (Gh.refl _) ?_; cbv; exact .inl (.f9 hK))
 | true =>
 cbv
 refine callG_publish 1 rfl ?_
 cbv
 (refine c09 hfs [(⟨kind, bill, by_, number, shipper, frm, parts, names, day⟩ : Sa)] (show 1 ≤ maxLen by decide) ?_; try dsimp only)
 rw [← hq2]
 cases q2 with
 | false =>
  cbv
  (refine c09 haw () trivial ?_; try dsimp only)
  cbv
  (refine .r9 (Gh.refl _) ?_; cbv; exact .inl (.f9 hK))
 | true =>
 have hbp := begP_of hq.symm hin
 have hfs2 := fewS_of hq2.symm
 have hsa := hfs2.all _ (List.mem_cons_self ..)
 clear hq hq2
 have hinv := beg_inv hbp
 cbv
 (refine cn9 hb l hbp ?_; try dsimp only)
 obtain ⟨⟨c, L⟩, hR⟩ : ∃ R, R = beginM l := ⟨_, rfl⟩
 rw [← hR] at hinv ⊢
 clear hR
 have hch : ∀ b ∈ L, chOk b := fun b hb => (hinv.inB (by decide) b hb).1
 have hiP : InvP ⟨c, L⟩ 65 := ⟨41, by decide, hinv⟩
 have hul2 : UlP ⟨c, L⟩ ⟨c, L⟩ := ulS hinv (by decide)
 have hok := do_full (a := ⟨kind, bill, by_, number, shipper, frm, parts, names, day⟩) hinv.nd hk0
 have herr := do_err (R := ⟨c, L⟩) (a := ⟨kind, bill, by_, number, shipper, frm, parts, names, day⟩)
 unfold goneS at hok
 dsimp only at hok
 obtain ⟨⟨⟨c3, L3⟩, e3⟩, hd3⟩ : ∃ y, y = doM ⟨c, L⟩ ⟨kind, bill, by_, number, shipper, frm, parts, names, day⟩ := ⟨_, rfl⟩
 rw [← hd3] at hok herr
 dsimp only at hok herr
 obtain ⟨f1, hf1⟩ : ∃ f, f = fullM L bill by_ := ⟨_, rfl⟩
 obtain ⟨na, hna⟩ : ∃ n : Nat, n = names.length := ⟨_, rfl⟩
 have hnm := hsa.names
 dsimp only at hnm
 cbv
 (refine cs9 hfull ((⟨c, L⟩ : Rg), bill, by_) [2, 3] hch ?_; try dsimp only)
 rw [← hf1]
 cbv; repeat' ((first | refine .q fun z hz hz0 hz1 => ?_ | refine .mk (fun h => ?_) fun h => ?_ | refine .k fun z hz => ?_ | fail) <;> cbv)
 ·refine xloopV [] (fun q : { k : Nat // k ≤ names.length } => [(43, .i (nI q.1)), (7, .bl (allF L by_ (names.take q.1)))]) (fun q => [.blk 45 (SaL ⟨kind, bill, by_, number, shipper, frm, parts, names, day⟩), .tip 45 9 [SaA ⟨kind, bill, by_, number, shipper, frm, parts, names, day⟩], .blk 79 [.str c, .ph 3], .pool 77 (mapA PelA L) [], .blk 28 [.str c, .sl 11 (mapA RbA L)]]) (fun q => lft na q.1) ⟨0, Nat.zero_le _⟩ ?_
  rintro ⟨k, hk⟩
  dsimp only at hk ⊢
  obtain ⟨f, hf2⟩ : ∃ f, f = allF L by_ (names.take k) := ⟨_, rfl⟩
  rw [← hf2]
  cbv; repeat' ((first | refine .mk (fun h => ?_) fun h => ?_ | fail) <;> cbv)
  ·refine askEl_int om9 om9 fun i s hi hs => ?_
   obtain rfl : k = i := om9
   have hsn := allF_snoc (L := L) (by_ := by_) hs
   rw [← hf2] at hsn
   obtain ⟨f2, hf3⟩ : ∃ f, f = fullM L s by_ := ⟨_, rfl⟩
   rw [← hf3] at hsn
   cases f with
   | true =>
    cbv
    (refine cs9 hfull ((⟨c, L⟩ : Rg), s, by_) [2, 3] hch ?_; try dsimp only)
    rw [← hf3]
    cbv; repeat' ((first | refine .k fun z hz => ?_ | fail) <;> cbv)
    obtain rfl : z = nI (k + 1) := om9
    obtain rfl : f2 = allF L by_ (names.take (k + 1)) := by rw [hsn]; rfl
    exact roundV ⟨k + 1, by exact om9⟩ (lft_lt om9)
   | false =>
    have hff : false = allF L by_ (names.take (k + 1)) := by rw [hsn]; rfl
    cbv; repeat' ((first | refine .k fun z hz => ?_ | fail) <;> cbv)
    obtain rfl : z = nI (k + 1) := om9
    rw [hff]
    exact roundV ⟨k + 1, by exact om9⟩ (lft_lt om9)
  ·have hft : e3 = 0 → f = true := fun h => by
    rw [hf2, List.take_of_length_le om9]
    have := hok h
    rw [if_pos (by omega)] at this
    exact List.all_eq_true.2 this
   (refine cs9 hd ((⟨c, L⟩ : Rg), (⟨kind, bill, by_, number, shipper, frm, parts, names, day⟩ : Sa)) [2, 3] ⟨hiP, hsa⟩ ?_; try dsimp only)
   rw [← hd3]
   cbv; repeat' ((first | refine .mk (fun h => ?_) fun h => ?_ | fail) <;> cbv)
   ·obtain rfl : f = true := hft (by assumption)
    (refine .r9 (Gh.refl _) ?_; cbv; exact .inl (.f9 hK))
   ·obtain ⟨rfl, rfl⟩ := Rg.mk.inj (herr (by assumption))
    (refine cs9 hul ((⟨c3, L3⟩ : Rg), (⟨c3, L3⟩ : Rg), by_, ⟨⟨[]⟩⟩) [2, 3] hul2 ?_; try dsimp only)
    cbv; repeat' ((first | refine .mk (fun h => ?_) fun h => ?_ | fail) <;> cbv)
    ·(refine .r9 (Gh.refl _) ?_; cbv; exact .inl (.f9 hK))
    ·exact absurd rfl h
 ·have hft : e3 = 0 → f1 = true := fun h => by
   rw [hf1]
   have := hok h
   rw [if_neg (by omega)] at this
   exact this _ (List.mem_singleton.2 rfl)
  obtain ⟨f, hff⟩ : ∃ f, f = f1 := ⟨_, rfl⟩
  rw [← hff] at hft ⊢
  (refine cs9 hd ((⟨c, L⟩ : Rg), (⟨kind, bill, by_, number, shipper, frm, parts, names, day⟩ : Sa)) [2, 3] ⟨hiP, hsa⟩ ?_; try dsimp only)
  rw [← hd3]
  cbv; repeat' ((first | refine .mk (fun h => ?_) fun h => ?_ | fail) <;> cbv)
  ·obtain rfl : f = true := hft (by assumption)
   (refine .r9 (Gh.refl _) ?_; cbv; exact .inl (.f9 hK))
  ·obtain ⟨rfl, rfl⟩ := Rg.mk.inj (herr (by assumption))
   (refine cs9 hul ((⟨c3, L3⟩ : Rg), (⟨c3, L3⟩ : Rg), by_, ⟨⟨[]⟩⟩) [2, 3] hul2 ?_; try dsimp only)
   cbv; repeat' ((first | refine .mk (fun h => ?_) fun h => ?_ | fail) <;> cbv)
   ·(refine .r9 (Gh.refl _) ?_; cbv; exact .inl (.f9 hK))
   ·exact absurd rfl h
theorem kl_holders : FnOk Tryz.prog 8 HoldersC := body_ok (by kernel_rfl) (holders_body _ k_awake k_few k_fewS k_begin k_full k_doA k_unlike)
end Go.Proofs.YtagcjileaknjnaaGreatDoor
end
