/-
  Texts of this proof, joined: SPW, SKComes, SQE.
-/
import Derived.Test.YtagcjileaknjnaaGreatDoorB6
import Derived.KernelRfl
set_option linter.unusedVariables false
set_option linter.unusedSimpArgs false
namespace Go.Proofs.YtagcjileaknjnaaGreatDoor
def x5 : XFn := ⟨89, zr [yb 6 false] (.seq (zr [zs 13 (.call 10 []), yo 14 13, zm 15 14, zh 16 15 false 0, zg 17 15 false (.call 11 [.t 16]), go 18 15 false 17, yq 19 15 true 18, zm 20 19, zh 21 20 false 1, zg 22 20 false (.call 19 [.t 21]), go 23 20 false 22, yq 24 20 true 23, zm 25 24, zh 26 25 false 2, ge 27 25 false 26, gk 28 25 false .gtr 27 20, yq 29 25 true 28] (.cond (.t 29) (zr [zs 30 (.call 10 []), zm 6 30] .ret) .skip)) (zr [zm 32 0, zs 33 (.call 12 [.t 32]), zm 31 33, yx 34 31 0, yx 35 31 1, zs 8 (.alloc 28 [.str ⟨#[]⟩, .v (.slice none 0 0)]), zm 7 34, ys 2 8 35] (.seq (zr [zm 36 1, yl 37 36, yn 38 0] (.block 0 (.loop (zr [yc 39 .lss 38 37] (.seq (.cond (.t 39) .skip (.exit 0)) (.seq (.block 1 (zr [yi 40 9 36 38, yt 41 9 40, zs 10 (.alloc 45 [.int .u8 0, .str ⟨#[]⟩, .str ⟨#[]⟩, .str ⟨#[]⟩, .str ⟨#[]⟩, .str ⟨#[]⟩, .v (.slice none 0 0), .v (.slice none 0 0), .int .i64 0]), ys 9 10 41] (zr [yt 43 2 8, yt 44 9 10, zs 45 (.call 23 [.t 43, .t 44]), zm 42 45, yx 46 42 0, yx 47 42 1, ys 2 8 46] (.reg [zm 48 7, yt 49 9 10, zs 50 (.call 20 [.t 48, .t 49])])))) (.reg [yp 51 38, zm 38 51]))))))) (.seq (zr [zf 52 1 8, zl 53 52, yl 54 53, yn 55 0] (.block 2 (.loop (zr [yc 56 .lss 55 54] (.seq (.cond (.t 56) .skip (.exit 2)) (.seq (.block 3 (zr [yi 57 11 53 55, yt 58 11 57, zs 12 (.alloc 56 [.str ⟨#[]⟩, .str ⟨#[]⟩, .str ⟨#[]⟩, .str ⟨#[]⟩, .str ⟨#[]⟩, .v (.slice none 0 0), .v (.slice none 0 0), .int .i64 0, .bl false, .int .i64 0, .v (.slice none 0 0)]), ys 11 12 58] (.seq (.dreg (.take 0 (zm 59 7) (.take 1 (zf 60 0 12) (.take 2 (zf 61 0 60) (.take 3 (zl 62 61) (.take 5 (yt 64 2 8) (.take 6 (zf 65 0 12) (.take 7 (zf 66 0 65) (.take 8 (zl 67 66) (.eff 4 0 true (zs 63 (.call 24 [.t 59, .t 62])) (.eff 9 0 false (zs 68 (.call 25 [.t 64, .t 67])) (.phase [3, 5, 8] (.eff 10 0 false (zs 69 (.call 18 [.t 63, .t 68])) (.phase [3, 5, 8] (.take 11 (yo 70 69) .nil)))))))))))))) 0 [12, 8]) (.cond (.t 70) (zr [yb 6 false] .ret) .skip)))) (.reg [yp 71 55, zm 55 71]))))))) (.seq (.dreg (.take 0 (zm 72 7) (.eff 1 0 false (zs 73 (.call 24 [.t 72, .c (.str ⟨#[110, 111, 32, 115, 117, 99, 104, 32, 98, 105, 108, 108]⟩)])) (.phase [8] (.take 2 (yl 74 73) (.take 3 (yk 75 .eql 74 0) (.take 4 (zm 76 75) (.take 5 (zh 77 76 true 7) (.take 6 (zh 78 76 true 2) (.take 8 (zg 80 76 true (.ld true 2 (.t 8))) (.take 9 (zh 81 76 true 2) (.eff 7 0 true (zg 79 76 true (.call 26 [.t 77, .t 78])) (.eff 10 0 false (zg 82 76 true (.call 27 [.t 80, .t 81])) (.phase [8] (.take 11 (zg 83 76 true (.cmb .eql (.t 79) (.t 82))) (.take 12 (yr 84 76 83 false) (.take 13 (zm 85 84) (.take 14 (zh 86 85 true 7) (.eff 15 0 false (zg 87 85 true (.call 26 [.t 86, .c (.v (.slice none 0 0))])) (.phase [8] (.take 16 (yr 88 85 87 false) (.take 17 (zm 6 88) .nil))))))))))))))))))))) 0 [8]) .ret))))), [.tmp 6]⟩
end Go.Proofs.YtagcjileaknjnaaGreatDoor
noncomputable section
namespace Go.Proofs.YtagcjileaknjnaaGreatDoor
open Go.RowKit
set_option maxHeartbeats 4000000
set_option maxRecDepth 100000
def sNone : ByteArray := ⟨⟨[110, 111, 32, 115, 117, 99, 104, 32, 98, 105, 108, 108]⟩⟩
theorem none_lk {n : Nat} {R : Rg} (h : Inv n R) : lkN R.bills sNone = none := by
 cases hl : lkN R.bills sNone with
 | none => rfl
 | some y =>
  exfalso
  obtain ⟨hb, hn⟩ := lk_inv h hl
  have hm := hb.may
  obtain ⟨b, st, o0, o1, o2⟩ := y
  obtain ⟨nq1, cq1, sq1, frm1, to1, bq1, pq1, iq1, lq1⟩ := b
  unfold mayB at hm
  simp only [Bool.and_eq_true] at hm
  have h1 : nameB nq1 = true := hm.1.1.1
  have h2 : nq1 = sNone := hn
  rw [h2] at h1
  exact absurd h1 (by decide +kernel)
theorem none_par {n : Nat} {R : Rg} (h : Inv n R) : parS R.bills sNone = [] := by
 have hp := parOf_none (none_lk h)
 refine parS_eq ⟨.nil, .nil, fun x => ⟨fun h => (by cases h), fun k => ?_⟩⟩
 have : False := by
  refine k.ind (p := fun _ => False) fun x y hx hy _ => ?_
  rcases hx with rfl | ⟨_, hx⟩
  ·rw [hp] at hy; cases hy
  ·exact hx
 exact this.elim
theorem par_len {n : Nat} {R : Rg} (h : Inv n R) (hn : n ≤ 4000) (bill : ByteArray) : (parS R.bills bill).length ≤ 2000000 := by
 unfold parS
 split
 ·rename_i hx
  have hs := Classical.choose_spec hx
  have h1 := nodup_le (m := allPar R.bills) hs.nd fun x hx2 => anc_all ((hs.mem x).1 hx2)
  have h2 := allPar_len h.few fun b hb => ((h.inB (by omega) b hb).2)
  omega
 ·exact Nat.zero_le _
theorem cov_eq (R : Rg) (l : List ByteArray) : covM R l = l.all fun x => decide (0 ≤ idxG (pBox x) R.bills) := by
 unfold covM
 refine (all_not_any (fun x => decide (0 ≤ idxG (pBox x) R.bills)) (covB R) (fun x => ?_) l).symm
 unfold covB
 congr 1
 rw [boxN_any]
 unfold idxG
 cases hf : R.bills.findIdx? (pBox x) with
 | none =>
  rw [List.findIdx?_eq_none_iff] at hf
  rw [List.any_eq_false.2 fun y hy => by rw [hf y hy]; decide]
  rfl
 | some i =>
  obtain ⟨hi, hp, _⟩ := List.findIdx?_eq_some_iff_getElem.1 hf
  rw [List.any_eq_true.2 ⟨_, List.getElem_mem hi, hp⟩]
  exact (decide_eq_true (Int.natCast_nonneg i)).symm
structure ComI where
 l : List At
 acts : List Sa
 boxes : List ByteArray
def ComesC : Ctr := spec (fun i : ComI => [.sl 15 (mapA AtA i.l), .sl 9 (mapA SaA i.acts), .sl 1 (mapA .str i.boxes)]) (fun _ => []) (fun i => InL i.l ∧ i.acts.length ≤ maxLen ∧ (∀ a ∈ i.acts, SaZ a) ∧ i.boxes.length ≤ maxLen) (fun _ => .bl true) fun _ => []
theorem comes_body (P : Program) (haw : FnOk P 10 AwakeSC) (hf : FnOk P 11 FewC) (hfs : FnOk P 19 FewSC) (hb : FnOk P 12 BeginC)
  (hw : FnOk P 23 WantC) (hd : FnOk P 20 DoAC) (hpar : FnOk P 24 ParentsC) (hrpar : FnOk P 25 RParentsC) (hsame : FnOk P 18 SameTC)
  (hcov : FnOk P 26 CoversC) (hrcov : FnOk P 27 RCoversC) : BodyOk P x5 ComesC := by
 intro args H K hc; obtain ⟨⟨l, acts, boxes⟩, rfl, rfl, hp, hK⟩ := hc; refine ⟨nb9, ?_⟩; dsimp only at hp hK ⊢
 obtain ⟨hin, hal, haz, hbx⟩ := hp
 try dsimp only at hin hal haz hbx
 obtain ⟨q, hq⟩ : ∃ q, q = fewB l := ⟨_, rfl⟩
 obtain ⟨q2, hq2⟩ : ∃ q, q = fewS acts := ⟨_, rfl⟩
 cbv
 (refine c09 haw () trivial ?_; try dsimp only)
 cbv
 (refine c09 hf l (fun a ha => (hin.gd a ha).sz) ?_; try dsimp only)
 rw [← hq]
 cases q with
 | false =>
  cbv
  (refine c09 haw () trivial ?_; try dsimp only)
  cbv
  (refine .r9 (Gh.refl _) ?_; cbv; exact .inl (.f9 hK))
 | true =>
 cbv
 (refine c09 hfs acts hal ?_; try dsimp only)
 rw [← hq2]
 cases q2 with
 | false =>
  cbv
  (refine c09 haw () trivial ?_; try dsimp only)
  cbv
  (refine .r9 (Gh.refl _) ?_; cbv; exact .inl (.f9 hK))
 | true =>
 have hbp := begP_of hq.symm hin
 have hfs2 := fewS_of hq2.symm
 have hlen := hfs2.len
 clear hq hq2
 have hinv := beg_inv hbp
 cbv; repeat' ((first | refine .mk (fun h => ?_) fun h => ?_ | refine .k fun z hz => ?_ | fail) <;> cbv)
 ·(refine c09 haw () trivial ?_; try dsimp only)
  cbv
  (refine .r9 (Gh.refl _) ?_; cbv; exact .inl (.f9 hK))
 have hbx2 : boxes.length ≤ 20 := om9
 (refine cn9 hb l hbp ?_; try dsimp only)
 obtain ⟨⟨c, L⟩, hR⟩ : ∃ R, R = beginM l := ⟨_, rfl⟩
 rw [← hR] at hinv ⊢
 clear hR
 obtain ⟨na, hna⟩ : ∃ n : Nat, n = acts.length := ⟨_, rfl⟩
 cbv; repeat' ((first | refine .k fun z hz => ?_ | fail) <;> cbv)
 refine xloopV [] (fun q : { q : Nat × ByteArray × List Br // q.1 ≤ acts.length ∧ (⟨q.2.1, q.2.2⟩ : Rg) = stM ⟨c, L⟩ (acts.take q.1) } => [(38, .i (nI q.1.1))]) (fun q => [.blk 79 [.str q.1.2.1, .ph 1], .pool 77 (mapA PelA q.1.2.2) [], .blk 28 [.str q.1.2.1, .sl 11 (mapA RbA q.1.2.2)]]) (fun q => lft na q.1.1) ⟨(0, c, L), Nat.zero_le _, rfl⟩ ?_
 rintro ⟨⟨k, c2, L2⟩, hk, hR⟩
 dsimp only at hk hR ⊢
 have hinv2 := stM_inv hinv hfs2.all k hk (by omega) (by decide)
 have hsn := fun (a : Sa) (h : acts[k]? = some a) => stM_snoc (R := ⟨c, L⟩) h
 rw [← hR] at hinv2 hsn
 cbv; repeat' ((first | refine .mk (fun h => ?_) fun h => ?_ | refine .k fun z hz => ?_ | fail) <;> cbv)
 ·refine askEl_int om9 om9 fun i x hi hx => ?_
  obtain rfl : k = i := om9
  have hx2 := hsn x hx
  have hxm := List.mem_of_getElem? hx
  have hsa := hfs2.all x hxm
  have hsz := haz x hxm
  have hiP : InvP ⟨c2, L2⟩ 65 := ⟨_, by omega, hinv2⟩
  obtain ⟨⟨⟨c3, L3⟩, e3⟩, hd3⟩ : ∃ y, y = doM ⟨c2, L2⟩ x := ⟨_, rfl⟩
  rw [← hd3] at hx2
  obtain ⟨kind, bill, by_, number, shipper, frm, parts, names, day⟩ := x
  cbv
  (refine c09 hw ((⟨c2, L2⟩ : Rg), (⟨kind, bill, by_, number, shipper, frm, parts, names, day⟩ : Sa)) ⟨hiP, hsa, hsz⟩ ?_; try dsimp only)
  rw [← hd3]
  cbv
  (refine cs9 hd ((⟨c2, L2⟩ : Rg), (⟨kind, bill, by_, number, shipper, frm, parts, names, day⟩ : Sa)) [0, 1] ⟨hiP, hsa⟩ ?_; try dsimp only)
  rw [← hd3]
  cbv; repeat' ((first | refine .k fun z hz => ?_ | fail) <;> cbv)
  obtain rfl : z = nI (k + 1) := om9
  exact roundV ⟨(k + 1, c3, L3), by exact om9, hx2.symm⟩ (lft_lt om9)
 ·have hn0 := none_par hinv2
  have hfew := hinv2.few
  have hin2 := hinv2.inR (by omega)
  have hpl := par_len hinv2 (by omega)
  have hiP0 : InvP ⟨c2, L2⟩ 0 := ⟨_, by omega, hinv2⟩
  obtain ⟨nl, hnl⟩ : ∃ n : Nat, n = L2.length := ⟨_, rfl⟩
  dsimp only at hn0 hfew hpl
  clear hsn hR
  have hrp : ∀ bill : ByteArray, (⟨c2, L2⟩ : Rg).bills.length ≤ 256 ∧ (∀ b ∈ (⟨c2, L2⟩ : Rg).bills, okB b.b) ∧ NodupN (⟨c2, L2⟩ : Rg).bills := fun _ => ⟨hinv2.few, fun b hb => (hin2.all b hb).2, hinv2.nd⟩
  refine xloopV [] (fun q : { k : Nat // k ≤ L2.length } => [(55, .i (nI q.1))]) (fun q => [.blk 79 [.str c2, .ph 1], .pool 77 (mapA PelA L2) [], .blk 28 [.str c2, .sl 11 (mapA RbA L2)]]) (fun q => lft nl q.1) ⟨0, Nat.zero_le _⟩ ?_
  rintro ⟨k2, hk2⟩
  dsimp only at hk2 ⊢
  cbv; repeat' ((first | refine .mk (fun h => ?_) fun h => ?_ | fail) <;> cbv)
  ·refine askEl_int om9 om9 fun i b hi hx => ?_
   obtain rfl : k2 = i := om9
   obtain ⟨⟨nq1, cq1, sq1, frm1, to1, bq1, pq1, iq1, lq1⟩, st1, ⟨sa1, ha1, ca1⟩, ⟨sb1, hb1, cb1⟩, ⟨sc1, hc1, cc1⟩⟩ := b
   have hp1 := hpl nq1
   obtain ⟨ps, hps⟩ : ∃ m, m = parS L2 nq1 := ⟨_, rfl⟩
   rw [← hps] at hp1
   cbv
   repeat' (first | (((refine cs9 hpar ((⟨c2, L2⟩ : Rg), nq1) [0, 1] hiP0 ?_; try dsimp only)); rw [← hps]; cbv) | (((refine c09 hrpar ((⟨c2, L2⟩ : Rg), nq1) (hrp nq1) ?_; try dsimp only)); rw [← hps]; cbv))
   all_goals
    (refine c09 hsame (ps, ps) ⟨hp1, hp1⟩ ?_; try dsimp only)
    rw [show decide (ps = ps) = true from decide_eq_true rfl]
    cbv; repeat' ((first | refine .k fun z hz => ?_ | fail) <;> cbv)
    obtain rfl : z = nI (k2 + 1) := om9
    exact roundV ⟨k2 + 1, by exact om9⟩ (lft_lt om9)
  ·have hc1 := cov_eq ⟨c2, L2⟩ boxes
   have hc2 : covM ⟨c2, L2⟩ [] = true := rfl
   obtain ⟨cv, hcv⟩ : ∃ m, m = covM ⟨c2, L2⟩ boxes := ⟨_, rfl⟩
   rw [← hcv] at hc1
   dsimp only at hc1
   (refine cs9 hpar ((⟨c2, L2⟩ : Rg), sNone) [0, 1] hiP0 ?_; try dsimp only)
   rw [hn0]
   cases cv
   all_goals
    cbv; repeat' ((first | refine .y fun h => ?_ | refine .k fun z hz => ?_ | fail) <;> cbv)
    repeat' (first | (((refine cs9 hcov ((⟨c2, L2⟩ : Rg), boxes) [0, 1] ⟨hin2, (by dsimp only; omega)⟩ ?_; try dsimp only)); rw [← hcv]; cbv) | (((refine c09 hrcov ((⟨c2, L2⟩ : Rg), boxes) ⟨hfew, fun b hb => (hin2.all b hb).2, (by dsimp only; omega)⟩ ?_; try dsimp only)); rw [← hc1]; cbv; repeat' ((first | refine .y fun h => ?_ | fail) <;> cbv)))
   all_goals
    refine callG_le [.ptr 0 0, .sl 1 (mapA .str [])] le9 ?_
    (refine cs9 hcov ((⟨c2, L2⟩ : Rg), []) [0, 1] ⟨hin2, Nat.zero_le _⟩ ?_; try dsimp only)
    rw [hc2]
    cbv
    (refine .r9 (Gh.refl _) ?_; cbv; exact .inl (.f9 hK))
theorem kl_comes : FnOk Tryz.prog 5 ComesC := body_ok (by kernel_rfl) (comes_body _ k_awake k_few k_fewS k_begin k_want k_doA k_parents k_rparents k_sameT k_covers k_rcovers)
theorem sh_strs : shOf Tryz.prog 9 31 = some (.sl 1 .str) := by kernel_rfl
end Go.Proofs.YtagcjileaknjnaaGreatDoor
end
