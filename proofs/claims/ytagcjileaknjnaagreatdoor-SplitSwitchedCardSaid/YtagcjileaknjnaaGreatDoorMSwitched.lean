/-
  Texts of this proof, joined: SPU, SKSwitched.
-/
import Derived.Test.YtagcjileaknjnaaGreatDoorB6
import Derived.KernelRfl
set_option linter.unusedVariables false
set_option linter.unusedSimpArgs false
namespace Go.Proofs.YtagcjileaknjnaaGreatDoor
def x9 : XFn := ⟨109, zr [yb 12 false] (.seq (zr [zs 21 (.call 10 []), yo 22 21, zm 23 22, zh 24 23 false 0, zg 25 23 false (.call 11 [.t 24]), go 26 23 false 25, yq 27 23 true 26] (.cond (.t 27) (zr [zs 28 (.call 10 []), zm 12 28] .ret) .skip)) (zr [zm 30 0, zs 31 (.call 12 [.t 30]), zm 29 31, yx 32 29 0, yx 33 29 1, zs 14 (.alloc 28 [.str ⟨#[]⟩, .v (.slice none 0 0)]), zm 13 32, ys 2 14 33] (zr [zm 35 13, zm 36 1, zs 37 (.call 13 [.t 35, .t 36]), zm 34 37, yx 38 34 0, yx 39 34 1, zs 15 (.alloc 33 [.str ⟨#[]⟩, .str ⟨#[]⟩, .str ⟨#[]⟩, .str ⟨#[]⟩, .str ⟨#[]⟩, .v (.slice none 0 0), .v (.slice none 0 0), .int .i64 0, .bl false]), ys 9 15 38, zm 16 39] (zr [zm 40 13, zm 41 1, zm 42 2, zm 43 3, zm 44 4, zm 45 5, zs 46 (.call 22 [.t 40, .t 41, .t 42, .c (.str ⟨#[111, 116, 104, 101, 114]⟩), .t 43, .t 44, .t 45]), zm 17 46] (.seq (zr [zm 47 17, yk 48 .neq 47 0] (.cond (.t 48) (zr [zm 49 13, yt 50 2 14, zm 51 2, zs 52 (.call 29 [.t 49, .t 50, .t 51, .c (.str ⟨#[]⟩)]), zs 53 (.cmp .eql (.t 52) (.c (.str ⟨#[]⟩))), zm 12 53] .ret) .skip)) (zr [zm 55 13, zs 56 (.call 13 [.t 55, .c (.str ⟨#[111, 116, 104, 101, 114]⟩)]), zm 54 56, yx 57 54 0, yx 58 54 1, zs 18 (.alloc 33 [.str ⟨#[]⟩, .str ⟨#[]⟩, .str ⟨#[]⟩, .str ⟨#[]⟩, .str ⟨#[]⟩, .v (.slice none 0 0), .v (.slice none 0 0), .int .i64 0, .bl false]), ys 9 18 57, zm 19 58] (zr [zm 59 13, zm 60 1, zm 61 2, zm 62 5, zs 63 (.call 30 [.t 59, .t 60, .c (.int .i64 0), .t 61, .c (.str ⟨#[115, 111, 109, 101, 98, 111, 100, 121]⟩), .t 62]), zm 20 63] (zr [zm 64 16, zm 65 64, zh 66 65 true 19, yr 67 65 66 false, zm 68 67, gf 69 68 true 5 18, gl 70 68 true 69, gf 71 68 true 5 15, gl 72 68 true 71, zg 73 68 true (.call 18 [.t 70, .t 72]), yr 74 68 73 false, zm 75 74, gf 76 75 true 2 18, gl 77 75 true 76, zh 78 75 true 3, gc 79 75 true .eql 77 78, yr 80 75 79 false, zm 81 80, gf 82 81 true 3 18, gl 83 81 true 82, zh 84 81 true 4, gc 85 81 true .eql 83 84, yr 86 81 85 false, zm 87 86, gf 88 87 true 4 18, gl 89 87 true 88, gf 90 87 true 4 15, gl 91 87 true 90, gc 92 87 true .eql 89 91, yr 93 87 92 false, zm 94 93, zh 95 94 true 13, zh 96 94 true 2, zg 97 94 true (.call 14 [.t 95, .c (.str ⟨#[111, 116, 104, 101, 114]⟩), .t 96]), yr 98 94 97 false, zm 99 98, zh 100 99 true 20, gk 101 99 true .neq 100 0, yr 102 99 101 false, zm 103 102, zh 104 103 true 13, zh 105 103 true 1, zg 106 103 true (.call 17 [.t 104, .t 105]), gk 107 103 true .eql 106 4, yr 108 103 107 false, zm 12 108] .ret)))))))), [.tmp 12]⟩
end Go.Proofs.YtagcjileaknjnaaGreatDoor
noncomputable section
namespace Go.Proofs.YtagcjileaknjnaaGreatDoor
open Go.RowKit
set_option maxHeartbeats 4000000
set_option maxRecDepth 100000
def sOther : ByteArray := ⟨⟨[111, 116, 104, 101, 114]⟩⟩
def sSomeb : ByteArray := ⟨⟨[115, 111, 109, 101, 98, 111, 100, 121]⟩⟩
structure SwdI where
 l : List At
 bill : ByteArray
 by_ : ByteArray
 shipper : ByteArray
 frm : ByteArray
 day : Int
def akE (bill by_ : ByteArray) (day : Int) : Ak := ⟨bill, 0, -1, by_, 0, day, true, wrongE by_ sSomeb⟩
def SwitchedC : Ctr := spec (fun i : SwdI => [.sl 15 (mapA AtA i.l), .str i.bill, .str i.by_, .str i.shipper, .str i.frm, .i i.day]) (fun _ => []) (fun i => InL i.l) (fun _ => .bl true) fun _ => []
theorem switched_body (P : Program) (haw : FnOk P 10 AwakeSC) (hf : FnOk P 11 FewC) (hb : FnOk P 12 BeginC) (hget : FnOk P 13 GetC)
  (hsw : FnOk P 22 SwitchC) (hend : FnOk P 30 EndorseC) (hsame : FnOk P 18 SameTC) (hfull : FnOk P 14 FullC) (hst : FnOk P 17 StateC)
  (hul : FnOk P 29 UnlikeC) : BodyOk P x9 SwitchedC := by
 intro args H K hc; obtain ⟨⟨l, bill, by_, shipper, frm, day⟩, rfl, rfl, hp, hK⟩ := hc; refine ⟨nb9, ?_⟩; dsimp only at hp hK ⊢
 have hin : InL l := hp
 obtain ⟨q, hq⟩ : ∃ q, q = fewB l := ⟨_, rfl⟩
 cbv
 (refine c09 haw () trivial ?_; try dsimp only)
 cbv
 (refine c09 hf l (fun a ha => (hin.gd a ha).sz) ?_; try dsimp only)
 rw [← hq]
 cases q with
 | false =>
  cbv
  (refine c09 haw () trivial ?_; try dsimp only)
  cbv
  (refine .r9 (Gh.refl _) ?_; cbv; exact .inl (.f9 hK))
 | true =>
 have hbp := begP_of hq.symm hin
 clear hq
 have hinv := beg_inv hbp
 cbv
 (refine cn9 hb l hbp ?_; try dsimp only)
 obtain ⟨⟨c, L⟩, hR⟩ : ∃ R, R = beginM l := ⟨_, rfl⟩
 rw [← hR] at hinv ⊢
 clear hR
 have hok := hinv.okR (by decide)
 have hiP : InvP ⟨c, L⟩ 2 := ⟨41, by decide, hinv⟩
 have hul2 : UlP ⟨c, L⟩ ⟨c, L⟩ := ulS hinv (by decide)
 have hinv3 := inv_switchM (i := ⟨⟨c, L⟩, bill, by_, sOther, shipper, frm, day⟩) hinv
 have herr := switch_err (i := ⟨⟨c, L⟩, bill, by_, sOther, shipper, frm, day⟩)
 have hsok := switch_ok (i := ⟨⟨c, L⟩, bill, by_, sOther, shipper, frm, day⟩) hinv.nd
 obtain ⟨⟨⟨c3, L3⟩, e3⟩, hd3⟩ : ∃ y, y = switchM ⟨⟨c, L⟩, bill, by_, sOther, shipper, frm, day⟩ := ⟨_, rfl⟩
 rw [← hd3] at hinv3 herr hsok
 dsimp only at hinv3 herr hsok
 have hok3 := hinv3.okR (by decide)
 have hch3 : ∀ b ∈ L3, chOk b := fun b hb => (hinv3.inB (by decide) b hb).1
 cbv
 (refine cs9 hget ((⟨c, L⟩ : Rg), bill) [0, 1] hok ?_; try dsimp only)
 rw [getM_lk]
 cases hl : lkN L bill with
 | none =>
  have h3 : ¬ e3 = 0 := fun h => by
   obtain ⟨y, hy, _⟩ := hsok h
   rw [hl] at hy
   cases hy
  have h4 := herr h3
  obtain ⟨rfl, rfl⟩ := Rg.mk.inj h4
  cbv
  (refine cs9 hsw (⟨⟨c3, L3⟩, bill, by_, sOther, shipper, frm, day⟩ : SwI) [0, 1] hiP ?_; try dsimp only)
  rw [← hd3]
  cbv; repeat' ((first | refine .n fun h => ?_ | fail) <;> cbv)
  (refine cs9 hul ((⟨c3, L3⟩ : Rg), (⟨c3, L3⟩ : Rg), by_, ⟨⟨[]⟩⟩) [0, 1] hul2 ?_; try dsimp only)
  cbv; repeat' ((first | refine .mk (fun h => ?_) fun h => ?_ | fail) <;> cbv)
  ·(refine .r9 (Gh.refl _) ?_; cbv; exact .inl (.f9 hK))
  ·exact absurd rfl h
 | some y =>
  have hbx := may_boxes (lk_inv hinv hl).1.may
  have hgo : e3 = 0 → lkN L3 sOther = some (newM (swO y.b ⟨⟨c, L⟩, bill, by_, sOther, shipper, frm, day⟩) by_) ∧ lkN L3 bill = some (endM 4 y) := fun h => by
   obtain ⟨y2, hy2, hg⟩ := hsok h
   have hy2 : lkN L bill = some y2 := hy2
   rw [hl] at hy2
   cases hy2
   have h1 := hg.one.1
   obtain ⟨y3, g1, g2, _⟩ := hg.gone (List.mem_singleton.2 rfl)
   have g1 : lkN L bill = some y3 := g1
   rw [hl] at g1
   cases g1
   exact ⟨h1, g2⟩
  clear hsok
  obtain ⟨⟨nq1, cq1, sq1, frm1, to1, bq1, pq1, iq1, lq1⟩, st1, ⟨sa1, ha1, ca1⟩, ⟨sb1, hb1, cb1⟩, ⟨sc1, hc1, cc1⟩⟩ := y
  dsimp only at hgo hbx
  cbv
  (refine cs9 hsw (⟨⟨c, L⟩, bill, by_, sOther, shipper, frm, day⟩ : SwI) [0, 1] hiP ?_; try dsimp only)
  rw [← hd3]
  cbv; repeat' ((first | refine .mk (fun h => ?_) fun h => ?_ | fail) <;> cbv)
  ·obtain ⟨g1, g2⟩ := hgo h
   have hask : ¬ askM L3 (akE bill by_ day) = 0 := by
    rw [askM_lk, show (akE bill by_ day).bill = bill from rfl, g2]
    exact ask_dead (by rw [(endM_b 4 _).2]; decide)
   have hact := fun f => actM_no (L := L3) (a := akE bill by_ day) f hask
   have hful : fullM L3 sOther by_ = true := full_new (b := swO ⟨nq1, cq1, sq1, frm1, to1, bq1, pq1, iq1, lq1⟩ ⟨⟨c, L⟩, bill, by_, sOther, shipper, frm, day⟩) g1
   have hst3 : stateM L3 bill = 4 := by rw [stateM_lk, g2]; dsimp only; rw [(endM_b 4 _).2]
   (refine cs9 hget ((⟨c3, L3⟩ : Rg), sOther) [0, 1] hok3 ?_; try dsimp only)
   rw [getM_lk, g1]
   cbv
   obtain ⟨e5, he5⟩ : ∃ e, e = askM L3 (akE bill by_ day) := ⟨_, rfl⟩
   rw [← he5] at hask
   (refine cs9 hend ((⟨c3, L3⟩ : Rg), akE bill by_ day, sSomeb) [0, 1] ⟨hch3, rfl, rfl, rfl, rfl⟩ ?_; try dsimp only)
   rw [hact, ← he5]
   cbv
   (refine c09 hsame (bq1, bq1) ⟨by dsimp only; omega, by dsimp only; omega⟩ ?_; try dsimp only)
   rw [show decide (bq1 = bq1) = true from decide_eq_true rfl]
   cbv; repeat' ((first | refine .mk (fun h => ?_) fun h => ?_ | fail) <;> cbv)
   all_goals try (exact absurd rfl h)
   (refine cs9 hfull ((⟨c3, L3⟩ : Rg), sOther, by_) [0, 1] hch3 ?_; try dsimp only)
   rw [hful]
   cbv; repeat' ((first | refine .n fun h => ?_ | fail) <;> cbv)
   (refine cs9 hst ((⟨c3, L3⟩ : Rg), bill) [0, 1] trivial ?_; try dsimp only)
   rw [hst3]
   cbv; repeat' ((first | refine .y fun h => ?_ | fail) <;> cbv)
   (refine .r9 (Gh.refl _) ?_; cbv; exact .inl (.f9 hK))
  ·obtain ⟨rfl, rfl⟩ := Rg.mk.inj (herr h)
   (refine cs9 hul ((⟨c3, L3⟩ : Rg), (⟨c3, L3⟩ : Rg), by_, ⟨⟨[]⟩⟩) [0, 1] hul2 ?_; try dsimp only)
   cbv; repeat' ((first | refine .mk (fun h => ?_) fun h => ?_ | fail) <;> cbv)
   ·(refine .r9 (Gh.refl _) ?_; cbv; exact .inl (.f9 hK))
   ·exact absurd rfl h
theorem kl_switched : FnOk Tryz.prog 9 SwitchedC := body_ok (by kernel_rfl) (switched_body _ k_awake k_few k_begin k_get k_switch k_endorse k_sameT k_full k_state k_unlike)
end Go.Proofs.YtagcjileaknjnaaGreatDoor
end
