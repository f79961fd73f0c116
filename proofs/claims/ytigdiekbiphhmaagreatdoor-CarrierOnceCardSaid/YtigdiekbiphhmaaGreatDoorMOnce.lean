/-
  Texts of this proof, joined: CYS, CKOnce, GlobOg.
-/
import Derived.Test.YtigdiekbiphhmaaGreatDoorB9
import Derived.KernelRfl
import Derived.Lib.LaidTab
import Derived.MakeChecks
import Derived.Stop.LaidErr
import Derived.Test.YtigdiekbiphhmaaGreatDoorRows
set_option linter.unusedVariables false
set_option linter.unusedSimpArgs false
namespace Go.Proofs.YtigdiekbiphhmaaGreatDoor
def x4 : XFn := ⟨189, zr [zs 3 (.box 29 (.t 0)), yb 6 false] (.seq (zr [zs 18 (.call 11 []), yo 19 18] (.cond (.t 19) (zr [yb 6 false] .ret) .skip)) (.seq (zr [yt 20 5 3, zm 21 1, zm 22 2, zs 23 (.call 12 [.t 20, .t 21, .t 22]), yo 24 23] (.cond (.t 24) (zr [yb 6 true] .ret) .skip)) (zr [zm 25 1, yt 26 5 3, zs 27 (.call 21 [.t 25, .t 26]), zm 7 27] (.seq (zr [zm 28 7, zs 29 (.cmn false (.t 28))] (.cond (.t 29) (zr [yb 6 false] .ret) .skip)) (zr [zs 30 (.mkm 70), zm 8 30] (.seq (zr [yn 9 0] (.block 0 (.loop (.seq (zr [zm 31 9, zm 32 2, yl 33 32, yc 34 .lss 31 33] (.cond (.t 34) .skip (.exit 0))) (.seq (.block 1 (zr [zm 37 7, zs 38 (.call 22 [.t 37]), yl 39 38, zm 10 39] (zr [zs 11 (.mov (.c (.str ⟨#[]⟩)))] (.seq (zr [zm 40 2, zm 41 9, yi 42 19 40 41, zf 43 0 42, zl 44 43] (.block 2 (zr [yk 53 .eql 44 0, zm 52 53] (.cond (.t 52) (.dreg (.take 0 (zm 54 7) (.take 1 (zm 55 2) (.take 2 (zm 56 9) (.take 3 (yi 57 19 55 56) (.take 4 (zf 58 2 57) (.take 5 (yt 59 3 58) (.take 6 (zm 60 2) (.take 7 (zm 61 9) (.take 8 (yi 62 19 60 61) (.take 9 (zf 63 1 62) (.take 10 (zl 64 63) (.eff 11 0 false (zs 65 (.call 23 [.t 54, .t 59, .t 64])) (.phase [5, 10] .nil))))))))))))) 0 [2]) (zr [yk 67 .eql 44 1, zm 66 67] (.cond (.t 66) (.seq (.dreg (.take 0 (zm 68 7) (.take 1 (zm 69 2) (.take 2 (zm 70 9) (.take 3 (yi 71 19 69 70) (.take 4 (zf 72 5 71) (.take 5 (yt 73 14 72) (.take 6 (zm 74 2) (.take 7 (zm 75 9) (.take 8 (yi 76 19 74 75) (.take 9 (zf 77 1 76) (.take 10 (zl 78 77) (.eff 11 0 false (zs 79 (.call 18 [.t 68, .t 73, .t 78])) (.phase [5, 10] .nil))))))))))))) 0 [2]) (zr [zm 80 2, zm 81 9, yi 82 19 80 81, zf 83 5 82, zf 84 3 83, zl 85 84, yk 86 .eql 85 20] (.cond (.t 86) (.reg [zm 87 2, zm 88 9, yi 89 19 87 88, zf 90 5 89, zf 91 0 90, zl 92 91, zm 11 92]) .skip))) (.reg [zm 45 7, zm 46 2, zm 47 9, yi 48 19 46 47, zf 49 1 48, zl 50 49, zs 51 (.call 24 [.t 45, .t 50])]))))))) (zr [zm 93 7, zs 94 (.call 22 [.t 93]), zm 12 94] (.seq (zr [zm 95 12, yl 96 95, zm 97 10, yc 98 .lss 96 97] (.cond (.t 98) (zr [yb 6 false] .ret) .skip)) (zr [zm 99 10, zm 13 99] (.block 3 (.loop (.seq (zr [zm 100 13, zm 101 12, yl 102 101, yc 103 .lss 100 102] (.cond (.t 103) .skip (.exit 3))) (.seq (.block 4 (.seq (zr [zm 106 8, zm 107 12, zm 108 13, yi 109 5 107 108, zf 110 0 109, zl 111 110, zs 112 (.lkp none false (.bl false) (.t 106) (.t 111)), zm 113 112, zh 114 113 false 12, zh 115 113 false 13, gi 116 113 false 5 114 115, gf 117 113 false 1 116, gl 118 113 false 117, zh 119 113 false 1, gc 120 113 false .neq 118 119, yq 121 113 true 120, zm 122 121, zh 123 122 false 12, zh 124 122 false 13, gi 125 122 false 5 123 124, gf 126 122 false 2 125, gl 127 122 false 126, zh 128 122 false 11, gc 129 122 false .neq 127 128, yq 130 122 true 129, zm 131 130, zh 132 131 false 11, zg 133 131 false (.cmp .eql (.t 132) (.c (.str ⟨#[]⟩))), yq 134 131 true 133] (.cond (.t 134) (zr [yb 6 false] .ret) .skip)) (zr [zm 135 8, zm 136 12, zm 137 13, yi 138 5 136 137, zf 139 0 138, zl 140 139, zn (.upd none (.t 135) (.t 140) (.c (.bl true)))] (.seq (.dreg (.take 0 (zm 142 7) (.take 2 (zm 144 2) (.take 3 (zm 145 9) (.take 4 (yi 146 19 144 145) (.take 5 (zf 147 5 146) (.take 6 (zf 148 5 147) (.take 7 (zl 149 148) (.take 8 (zs 150 (.ari .add .i64 (.c (.str ⟨#[98, 108, 45]⟩)) (.t 149))) (.fork (.eff 1 0 true (zs 143 (.call 15 [.t 142])) (.fork (.eff 9 0 true (zs 151 (.call 25 [.t 143, .t 150])) (.take 10 (zm 141 151) (.take 11 (yx 152 141 0) (.take 12 (yx 153 141 1) (.eff 13 0 true (zs 14 (.alloc 79 [.str ⟨#[]⟩, .str ⟨#[]⟩, .str ⟨#[]⟩, .str ⟨#[]⟩, .str ⟨#[]⟩, .v (.slice none 0 0), .v (.slice none 0 0), .int .i64 0, .bl false])) (.eff 14 1 false (ys 9 14 152) (.take 15 (zm 15 153) .nil))))))) (.eff 13 0 true (zs 14 (.alloc 79 [.str ⟨#[]⟩, .str ⟨#[]⟩, .str ⟨#[]⟩, .str ⟨#[]⟩, .str ⟨#[]⟩, .v (.slice none 0 0), .v (.slice none 0 0), .int .i64 0, .bl false])) (.eff 9 0 false (zs 151 (.call 25 [.t 143, .t 150])) (.take 10 (zm 141 151) (.take 11 (yx 152 141 0) (.take 12 (yx 153 141 1) (.eff 14 1 false (ys 9 14 152) (.take 15 (zm 15 153) .nil))))))))) (.eff 13 0 true (zs 14 (.alloc 79 [.str ⟨#[]⟩, .str ⟨#[]⟩, .str ⟨#[]⟩, .str ⟨#[]⟩, .str ⟨#[]⟩, .v (.slice none 0 0), .v (.slice none 0 0), .int .i64 0, .bl false])) (.eff 1 0 true (zs 143 (.call 15 [.t 142])) (.eff 9 0 false (zs 151 (.call 25 [.t 143, .t 150])) (.take 10 (zm 141 151) (.take 11 (yx 152 141 0) (.take 12 (yx 153 141 1) (.eff 14 1 false (ys 9 14 152) (.take 15 (zm 15 153) .nil))))))))))))))))) 1 [2]) (zr [yb 16 false] (.seq (zr [yn 17 0] (.block 5 (.loop (.seq (zr [zm 154 17, zf 155 5 14, zl 156 155, yl 157 156, yc 158 .lss 154 157] (.cond (.t 158) .skip (.exit 5))) (.seq (.block 6 (.dreg (.take 0 (zm 161 16) (.take 1 (zm 162 161) (.take 2 (gf 163 162 false 5 14) (.take 3 (gl 164 162 false 163) (.take 4 (zh 165 162 false 17) (.take 5 (gi 166 162 false 1 164 165) (.take 6 (gl 167 162 false 166) (.take 7 (zh 168 162 false 12) (.take 8 (zh 169 162 false 13) (.take 9 (gi 170 162 false 5 168 169) (.take 10 (gf 171 162 false 0 170) (.take 11 (gl 172 162 false 171) (.take 12 (gc 173 162 false .eql 167 172) (.take 13 (yq 174 162 true 173) (.take 14 (zm 16 174) .nil))))))))))))))) 0 [14, 12])) (.reg [zm 159 17, yp 160 159, zm 17 160])))))) (.seq (.dreg (.take 0 (zm 175 15) (.take 1 (yo 176 175) (.take 2 (zm 177 176) (.take 3 (zh 178 177 false 16) (.take 4 (go 179 177 false 178) (.take 5 (yq 180 177 true 179) (.take 6 (zm 181 180) (.take 7 (zh 182 181 false 7) (.take 9 (gf 184 181 false 0 14) (.take 10 (gl 185 181 false 184) (.eff 8 0 true (zg 183 181 false (.call 15 [.t 182])) (.eff 11 0 false (zg 186 181 false (.call 26 [.t 183, .t 185])) (.phase [10] (.take 12 (gk 187 181 false .neq 186 1) (.take 13 (yq 188 181 true 187) .nil))))))))))))))) 0 [14]) (.cond (.t 188) (zr [yb 6 false] .ret) .skip)))))))) (.reg [zm 104 13, yp 105 104, zm 13 105])))))))))))) (.reg [zm 35 9, yp 36 35, zm 9 36])))))) (zr [yb 6 true] .ret))))))), [.tmp 6]⟩
end Go.Proofs.YtigdiekbiphhmaaGreatDoor
noncomputable section
namespace Go.Proofs.YtigdiekbiphhmaaGreatDoor
open Go.RowKit
set_option maxHeartbeats 8000000
set_option maxRecDepth 100000
theorem once51_body (P : Program) (haw : FnOk P 11 AwakeC51) (hfe : FnOk P 12 Few51C) (hn : FnOk P 21 CNewCrC) (hac : FnOk P 23 (CActC fun _ => True)) (hta : FnOk P 18 (CTakeN fun _ => True)) (hti : FnOk P 24 CTickC) (hde : FnOk P 22 CDelC) (hre : FnOk P 15 CRegC) (hge : FnOk P 25 GetC) (hst : FnOk P 26 StateC) : BodyOk P x4 LwC := by
 intro args H K hc; obtain ⟨⟨s, name, l⟩, rfl, rfl, hp, hK⟩ := hc; refine ⟨nb9, ?_⟩; dsimp only at hp hK ⊢
 obtain ⟨hf, hd⟩ := hp
 try dsimp only at hf hd
 obtain ⟨parties, deals, funds, rest, holidays⟩ := s
 cbv
 (refine c09 haw () trivial ?_; try dsimp only)
 cbv
 refine callG_specN hfe (⟨⟨parties, deals, funds, rest, holidays⟩, name, l⟩ : Few51I) [] hf rfl rfl (by decide) rfl rfl rfl rfl rfl ?_
 intro b hb
 cases b with
 | false =>
  cbv
  (refine .r9 (Gh.refl _) ?_; cbv; exact .inl (.f9 hK))
 | true =>
  have hok := few_pl (hb rfl) hd
  have hll := hok.l
  dsimp only at hll
  have hs := hok.s
  have hlo := hok.o
  dsimp only at hs hlo
  have hjn := Jt.new (name := name) hs
  have hin := InvC.new 9223372036854775807 (SuX.su ⟨parties, deals, funds, rest, holidays⟩) name
  obtain ⟨⟨name1, parties1, deals1, ⟨rc1, rL1⟩, cust1, deliv1⟩, hC0⟩ : ∃ C, C = newP (SuX.su ⟨parties, deals, funds, rest, holidays⟩) name := ⟨_, rfl⟩
  obtain ⟨x0, hx0⟩ : ∃ x, x = newR (SuX.su ⟨parties, deals, funds, rest, holidays⟩) name := ⟨_, rfl⟩
  rw [← hC0, ← hx0] at hjn
  rw [← hx0] at hin
  cbv
  (refine cn9 hn ((name, ⟨parties, deals, funds, rest, holidays⟩) : ByteArray × SuX) hs ?_; try dsimp only)
  rw [← hC0]
  cbv
  have hdl1 := hjn.rel.del
  refine xloopG (Gh.sel (st' := ⟨[(1, .str name), (2, .sl 19 (mapA CallA l)), (3, .ptr 0 0), (7, .ptr 1 0), (8, .hd 9), (9, .i 0)], [.blk 29 [.sl 3 (mapA Pt3A parties), .sl 17 (mapA DeXA deals), .sl 3 (mapA En3A funds), .sl 1 (mapA IntA rest), .sl 1 (mapA IntA holidays)], .blk 118 [.str (⟨name1, parties1, deals1, ⟨rc1, rL1⟩, cust1, deliv1⟩ : Cr).name, .hd 2, .ph 3, .ptr 4 0, .ptr 6 0, .hd 8], .map 70 (mapA setF (⟨name1, parties1, deals1, ⟨rc1, rL1⟩, cust1, deliv1⟩ : Cr).parties), .pool 116 (mapA PelD (⟨name1, parties1, deals1, ⟨rc1, rL1⟩, cust1, deliv1⟩ : Cr).deals) [], .blk 122 [.str (⟨name1, parties1, deals1, ⟨rc1, rL1⟩, cust1, deliv1⟩ : Cr).reg.carrier, .ph 5], .pool 120 (mapA PelA (⟨name1, parties1, deals1, ⟨rc1, rL1⟩, cust1, deliv1⟩ : Cr).reg.bills) [], .blk 174 [.ph 7], .pool 172 (mapA PelH (⟨name1, parties1, deals1, ⟨rc1, rL1⟩, cust1, deliv1⟩ : Cr).cust) [], .tip 77 5 (mapA HndA (⟨name1, parties1, deals1, ⟨rc1, rL1⟩, cust1, deliv1⟩ : Cr).deliv), .map 70 (mapA setF [])]⟩) [0, 1, 2, 3, 4, 5, 6, 7, 8, 9] (by repeat' (first | exact trivial | refine ⟨.inl rfl, ?_⟩ | refine ⟨.inr rfl, ?_⟩)) rfl (by decide) rfl rfl) ?_
  have hd0 : deliv1 = [] := by have := hjn.rel.del; rw [hx0] at this; exact this
  subst hd0
  refine xloopV [9] (fun p : { p : Nat × Cr // p.1 ≤ l.length ∧ Jt p.1 ⟨parties, deals, funds, rest, holidays⟩ name p.2 (playX ⟨parties, deals, funds, rest, holidays⟩ name (l.take p.1)) ∧ InvC 9223372036854775807 (SuX.su ⟨parties, deals, funds, rest, holidays⟩) name (playX ⟨parties, deals, funds, rest, holidays⟩ name (l.take p.1)) } => [(8, .hd 9), (9, .i (nI p.1.1))]) (fun p => [.blk 29 [.sl 3 (mapA Pt3A parties), .sl 17 (mapA DeXA deals), .sl 3 (mapA En3A funds), .sl 1 (mapA IntA rest), .sl 1 (mapA IntA holidays)], .blk 118 [.str p.1.2.name, .hd 2, .ph 3, .ptr 4 0, .ptr 6 0, .hd 8], .map 70 (mapA setF p.1.2.parties), .pool 116 (mapA PelD p.1.2.deals) [], .blk 122 [.str p.1.2.reg.carrier, .ph 5], .pool 120 (mapA PelA p.1.2.reg.bills) [], .blk 174 [.ph 7], .pool 172 (mapA PelH p.1.2.cust) [], .tip 77 5 (mapA HndA p.1.2.deliv), .map 70 (mapA setF (p.1.2.deliv.map Hnd.box))]) (fun p => lft 41 p.1.1) ⟨(0, (⟨name1, parties1, deals1, ⟨rc1, rL1⟩, cust1, []⟩ : Cr)), Nat.zero_le _, by rw [show playX ⟨parties, deals, funds, rest, holidays⟩ name (l.take 0) = x0 from hx0.symm]; exact ⟨hjn, hin⟩⟩ ?_
  rintro ⟨⟨k, ⟨name2, parties2, deals2, ⟨rc2, rL2⟩, cust2, deliv2⟩⟩, hk, hj2, hi2⟩
  dsimp only at hk hj2 hi2 ⊢
  obtain ⟨seen, hseen⟩ : ∃ q, q = deliv2.map Hnd.box := ⟨_, rfl⟩
  rw [← hseen]
  rcases Nat.lt_or_ge k l.length with hks | hks
  rotate_left
  ·cbv; repeat' ((first | refine .n fun h => ?_ | refine .k fun z hz => ?_ | fail) <;> cbv)
   (refine .r9 (Gh.refl _) ?_; cbv; exact .inl (.f9 hK))
  obtain ⟨o, ho⟩ := some_at hks
  have hoo := hlo o (List.mem_of_getElem? ho)
  have hps := play_succ (s := ⟨parties, deals, funds, rest, holidays⟩) (name := name) ho
  have hi3 := hi2.step (o := o) hs hoo.day.2
  have hgv := hi2.deliv (o := o) hs hoo.day.2
  rw [← hps] at hi3 hgv
  have hd2 := hj2.rel.del
  have hz2 := hj2.xb.D
  dsimp only at hd2
  rw [← hd2] at hgv hz2
  obtain ⟨⟨okind, oday, ⟨ak, an, adeal⟩, ⟨frm, to, number, lkind, ack, ldeal, text, party, index, day0, cur, amt, docs, boxes⟩⟩, hoe⟩ : ∃ q, q = o := ⟨_, rfl⟩
  rw [← hoe] at ho hoo hps hgv
  clear hoe
  have hcr := hj2.crOk (by omega)
  have htq := hj2.tqOk (l := ⟨frm, to, number, lkind, ack, ldeal, text, party, index, day0, cur, amt, docs, boxes⟩) (day := oday) (by omega)
  rcases hgv with hgv | hgv
  ·by_cases k0 : okind = 0
   ·subst k0
    have hj3 := (hj2.act hs ak adeal oday).1
    rw [show (carR ladM (SuX.su ⟨parties, deals, funds, rest, holidays⟩) name (playX ⟨parties, deals, funds, rest, holidays⟩ name (l.take k)) ak adeal oday).1 = playX ⟨parties, deals, funds, rest, holidays⟩ name (l.take (k + 1)) from hps.symm] at hj3
    obtain ⟨⟨C3, ls3, e3⟩, hr3⟩ : ∃ r, r = carP ladM (⟨name2, parties2, deals2, ⟨rc2, rL2⟩, cust2, deliv2⟩ : Cr) ak adeal oday := ⟨_, rfl⟩
    rw [← hr3] at hj3
    dsimp only at hj3
    have hd3 := hj3.rel.del
    rw [hgv] at hd3
    obtain ⟨name3, parties3, deals3, ⟨rc3, rL3⟩, cust3, deliv3⟩ := C3
    obtain rfl : deliv2 = deliv3 := hd3.symm
    cbv; repeat' ((first | refine .y fun h => ?_ | refine .k fun z hz => ?_ | fail) <;> cbv)
    (refine cs9 hde (⟨name2, parties2, deals2, ⟨rc2, rL2⟩, cust2, deliv2⟩ : Cr) [1, 2, 3, 4, 5, 6, 7, 8] (by dsimp only; omega) ?_; try dsimp only)
    obtain ⟨a, ha⟩ : ∃ a : Int, a = deliv2.length := ⟨_, rfl⟩
    cbv; repeat' ((first | refine .e ?_ | refine .y fun h => ?_ | refine .k fun z hz => ?_ | fail) <;> cbv)
    all_goals
     obtain rfl : a = z := om9
     (refine cs9 hac (⟨(⟨name2, parties2, deals2, ⟨rc2, rL2⟩, cust2, deliv2⟩ : Cr), ak, an, adeal, oday⟩ : CQ) [1, 2, 3, 4, 5, 6, 7, 8] ⟨trivial, hcr, hoo.day⟩ ?_; try dsimp only)
     rw [← hr3]
     cbv
    all_goals
     (refine cs9 hde (⟨name3, parties3, deals3, ⟨rc3, rL3⟩, cust3, deliv2⟩ : Cr) [1, 2, 3, 4, 5, 6, 7, 8] (by dsimp only; omega) ?_; try dsimp only)
     cbv; repeat' ((first | refine .n fun h => ?_ | refine .k fun z hz => ?_ | fail) <;> cbv)
    all_goals
     refine xloopG (Gh.sel (st' := ⟨[(1, .str name), (2, .sl 19 (mapA CallA l)), (3, .ptr 0 0), (7, .ptr 1 0), (8, .hd 9), (9, .i (nI k)), (10, .i a), (11, .str ⟨⟨[]⟩⟩), (12, .sl 5 (mapA HndA deliv2)), (13, .i a)], [.blk 29 [.sl 3 (mapA Pt3A parties), .sl 17 (mapA DeXA deals), .sl 3 (mapA En3A funds), .sl 1 (mapA IntA rest), .sl 1 (mapA IntA holidays)], .blk 118 [.str (⟨name3, parties3, deals3, ⟨rc3, rL3⟩, cust3, deliv2⟩ : Cr).name, .hd 2, .ph 3, .ptr 4 0, .ptr 6 0, .hd 8], .map 70 (mapA setF (⟨name3, parties3, deals3, ⟨rc3, rL3⟩, cust3, deliv2⟩ : Cr).parties), .pool 116 (mapA PelD (⟨name3, parties3, deals3, ⟨rc3, rL3⟩, cust3, deliv2⟩ : Cr).deals) [], .blk 122 [.str (⟨name3, parties3, deals3, ⟨rc3, rL3⟩, cust3, deliv2⟩ : Cr).reg.carrier, .ph 5], .pool 120 (mapA PelA (⟨name3, parties3, deals3, ⟨rc3, rL3⟩, cust3, deliv2⟩ : Cr).reg.bills) [], .blk 174 [.ph 7], .pool 172 (mapA PelH (⟨name3, parties3, deals3, ⟨rc3, rL3⟩, cust3, deliv2⟩ : Cr).cust) [], .tip 77 5 (mapA HndA (⟨name3, parties3, deals3, ⟨rc3, rL3⟩, cust3, deliv2⟩ : Cr).deliv), .map 70 (mapA setF seen)]⟩) [0, 1, 2, 3, 4, 5, 6, 7, 8, 9] (by repeat' (first | exact trivial | refine ⟨.inl rfl, ?_⟩ | refine ⟨.inr rfl, ?_⟩)) rfl (by decide) rfl rfl) ?_
     refine xloopV [9] (fun p : { k : Nat // k ≤ 0 } => [(8, .hd 9), (13, .i a)]) (fun _ => [.blk 29 [.sl 3 (mapA Pt3A parties), .sl 17 (mapA DeXA deals), .sl 3 (mapA En3A funds), .sl 1 (mapA IntA rest), .sl 1 (mapA IntA holidays)], .blk 118 [.str (⟨name3, parties3, deals3, ⟨rc3, rL3⟩, cust3, deliv2⟩ : Cr).name, .hd 2, .ph 3, .ptr 4 0, .ptr 6 0, .hd 8], .map 70 (mapA setF (⟨name3, parties3, deals3, ⟨rc3, rL3⟩, cust3, deliv2⟩ : Cr).parties), .pool 116 (mapA PelD (⟨name3, parties3, deals3, ⟨rc3, rL3⟩, cust3, deliv2⟩ : Cr).deals) [], .blk 122 [.str (⟨name3, parties3, deals3, ⟨rc3, rL3⟩, cust3, deliv2⟩ : Cr).reg.carrier, .ph 5], .pool 120 (mapA PelA (⟨name3, parties3, deals3, ⟨rc3, rL3⟩, cust3, deliv2⟩ : Cr).reg.bills) [], .blk 174 [.ph 7], .pool 172 (mapA PelH (⟨name3, parties3, deals3, ⟨rc3, rL3⟩, cust3, deliv2⟩ : Cr).cust) [], .tip 77 5 (mapA HndA (⟨name3, parties3, deals3, ⟨rc3, rL3⟩, cust3, deliv2⟩ : Cr).deliv), .map 70 (mapA setF seen)]) (fun p => lft 0 p.1) ⟨0, Nat.le_refl _⟩ ?_
     rintro ⟨kk, hkk⟩
     dsimp only at hkk ⊢
     cbv; repeat' ((first | refine .n fun h => ?_ | refine .k fun z hz => ?_ | fail) <;> cbv)
     all_goals first | (exfalso; ((try simp only [vn] at *) <;> omega)) | skip
     all_goals
      obtain rfl : z = nI (k + 1) := om9
      subst hseen
      exact roundV ⟨(k + 1, (⟨name3, parties3, deals3, ⟨rc3, rL3⟩, cust3, deliv2⟩ : Cr)), hks, hj3, hi3⟩ (lft_lt (by omega))
   ·by_cases k1 : okind = 1
    ·subst k1
     have hjt := fun (L0 : List Bxh) (hp : L0.Perm cust2) => (hj2.take hs ⟨frm, to, number, lkind, ack, ldeal, text, party, index, day0, cur, amt, docs, boxes⟩ oday hp).1
     rw [show (takeR nmK (SuX.su ⟨parties, deals, funds, rest, holidays⟩) name (playX ⟨parties, deals, funds, rest, holidays⟩ name (l.take k)) ⟨frm, to, number, lkind, ack, ldeal, text, party, index, day0, cur, amt, docs, boxes⟩ oday).1 = playX ⟨parties, deals, funds, rest, holidays⟩ name (l.take (k + 1)) from (hps.trans ((if_neg (show ¬ (1 : Int) = 0 by decide)).trans (if_pos rfl))).symm] at hjt
     cbv; repeat' ((first | refine .y fun h => ?_ | refine .k fun z hz => ?_ | fail) <;> cbv)
     (refine cs9 hde (⟨name2, parties2, deals2, ⟨rc2, rL2⟩, cust2, deliv2⟩ : Cr) [1, 2, 3, 4, 5, 6, 7, 8] (by dsimp only; omega) ?_; try dsimp only)
     obtain ⟨a, ha⟩ : ∃ a : Int, a = deliv2.length := ⟨_, rfl⟩
     cbv; repeat' ((first | refine .e ?_ | refine .n fun h => ?_ | refine .y fun h => ?_ | refine .k fun z hz => ?_ | fail) <;> cbv)
     all_goals
      obtain rfl : a = z := om9
      refine callG_specN hta (⟨(⟨name2, parties2, deals2, ⟨rc2, rL2⟩, cust2, deliv2⟩ : Cr), ⟨frm, to, number, lkind, ack, ldeal, text, party, index, day0, cur, amt, docs, boxes⟩, oday⟩ : TQ) [1, 2, 3, 4, 5, 6, 7, 8] ⟨trivial, htq⟩ rfl rfl (by decide) rfl rfl rfl rfl rfl ?_
      intro L0 hp0
      have hj3 := hjt L0 hp0
      obtain ⟨⟨mv, C3, ls3⟩, hr3⟩ : ∃ r, r = takeX (⟨name2, parties2, deals2, ⟨rc2, rL2⟩, cust2, deliv2⟩ : Cr) ⟨frm, to, number, lkind, ack, ldeal, text, party, index, day0, cur, amt, docs, boxes⟩ oday L0 := ⟨_, rfl⟩
      try dsimp only
      rw [← hr3] at hj3 ⊢
      dsimp only at hj3
      have hd3 := hj3.rel.del
      rw [hgv] at hd3
      obtain ⟨name3, parties3, deals3, ⟨rc3, rL3⟩, cust3, deliv3⟩ := C3
      obtain rfl : deliv2 = deliv3 := hd3.symm
      by_cases hl20 : lkind = 20
      ·cases mv
       ·cbv; repeat' ((first | refine .e ?_ | refine .y fun h => ?_ | fail) <;> cbv)
        all_goals first | (exfalso; ((try simp only [vn] at *) <;> omega)) | skip
        all_goals
         (refine cs9 hde (⟨name3, parties3, deals3, ⟨rc3, rL3⟩, cust3, deliv2⟩ : Cr) [1, 2, 3, 4, 5, 6, 7, 8] (by dsimp only; omega) ?_; try dsimp only)
         cbv; repeat' ((first | refine .n fun h => ?_ | refine .k fun z hz => ?_ | fail) <;> cbv)
        all_goals
         refine xloopG (Gh.sel (st' := ⟨[(1, .str name), (2, .sl 19 (mapA CallA l)), (3, .ptr 0 0), (7, .ptr 1 0), (8, .hd 9), (9, .i (nI k)), (10, .i a), (11, .str frm), (12, .sl 5 (mapA HndA deliv2)), (13, .i a)], [.blk 29 [.sl 3 (mapA Pt3A parties), .sl 17 (mapA DeXA deals), .sl 3 (mapA En3A funds), .sl 1 (mapA IntA rest), .sl 1 (mapA IntA holidays)], .blk 118 [.str (⟨name3, parties3, deals3, ⟨rc3, rL3⟩, cust3, deliv2⟩ : Cr).name, .hd 2, .ph 3, .ptr 4 0, .ptr 6 0, .hd 8], .map 70 (mapA setF (⟨name3, parties3, deals3, ⟨rc3, rL3⟩, cust3, deliv2⟩ : Cr).parties), .pool 116 (mapA PelD (⟨name3, parties3, deals3, ⟨rc3, rL3⟩, cust3, deliv2⟩ : Cr).deals) [], .blk 122 [.str (⟨name3, parties3, deals3, ⟨rc3, rL3⟩, cust3, deliv2⟩ : Cr).reg.carrier, .ph 5], .pool 120 (mapA PelA (⟨name3, parties3, deals3, ⟨rc3, rL3⟩, cust3, deliv2⟩ : Cr).reg.bills) [], .blk 174 [.ph 7], .pool 172 (mapA PelH (⟨name3, parties3, deals3, ⟨rc3, rL3⟩, cust3, deliv2⟩ : Cr).cust) [], .tip 77 5 (mapA HndA (⟨name3, parties3, deals3, ⟨rc3, rL3⟩, cust3, deliv2⟩ : Cr).deliv), .map 70 (mapA setF seen)]⟩) [0, 1, 2, 3, 4, 5, 6, 7, 8, 9] (by repeat' (first | exact trivial | refine ⟨.inl rfl, ?_⟩ | refine ⟨.inr rfl, ?_⟩)) rfl (by decide) rfl rfl) ?_
         refine xloopV [9] (fun p : { k : Nat // k ≤ 0 } => [(8, .hd 9), (13, .i a)]) (fun _ => [.blk 29 [.sl 3 (mapA Pt3A parties), .sl 17 (mapA DeXA deals), .sl 3 (mapA En3A funds), .sl 1 (mapA IntA rest), .sl 1 (mapA IntA holidays)], .blk 118 [.str (⟨name3, parties3, deals3, ⟨rc3, rL3⟩, cust3, deliv2⟩ : Cr).name, .hd 2, .ph 3, .ptr 4 0, .ptr 6 0, .hd 8], .map 70 (mapA setF (⟨name3, parties3, deals3, ⟨rc3, rL3⟩, cust3, deliv2⟩ : Cr).parties), .pool 116 (mapA PelD (⟨name3, parties3, deals3, ⟨rc3, rL3⟩, cust3, deliv2⟩ : Cr).deals) [], .blk 122 [.str (⟨name3, parties3, deals3, ⟨rc3, rL3⟩, cust3, deliv2⟩ : Cr).reg.carrier, .ph 5], .pool 120 (mapA PelA (⟨name3, parties3, deals3, ⟨rc3, rL3⟩, cust3, deliv2⟩ : Cr).reg.bills) [], .blk 174 [.ph 7], .pool 172 (mapA PelH (⟨name3, parties3, deals3, ⟨rc3, rL3⟩, cust3, deliv2⟩ : Cr).cust) [], .tip 77 5 (mapA HndA (⟨name3, parties3, deals3, ⟨rc3, rL3⟩, cust3, deliv2⟩ : Cr).deliv), .map 70 (mapA setF seen)]) (fun p => lft 0 p.1) ⟨0, Nat.le_refl _⟩ ?_
         rintro ⟨kk, hkk⟩
         dsimp only at hkk ⊢
         cbv; repeat' ((first | refine .n fun h => ?_ | refine .k fun z hz => ?_ | fail) <;> cbv)
         all_goals first | (exfalso; ((try simp only [vn] at *) <;> omega)) | skip
         all_goals
          obtain rfl : z = nI (k + 1) := om9
          subst hseen
          exact roundV ⟨(k + 1, (⟨name3, parties3, deals3, ⟨rc3, rL3⟩, cust3, deliv2⟩ : Cr)), hks, hj3, hi3⟩ (lft_lt (by omega))
       ·cbv; repeat' ((first | refine .e ?_ | refine .y fun h => ?_ | fail) <;> cbv)
        all_goals first | (exfalso; ((try simp only [vn] at *) <;> omega)) | skip
        all_goals
         (refine cs9 hde (⟨name3, parties3, deals3, ⟨rc3, rL3⟩, cust3, deliv2⟩ : Cr) [1, 2, 3, 4, 5, 10, 11, 8] (by dsimp only; omega) ?_; try dsimp only)
         cbv; repeat' ((first | refine .n fun h => ?_ | refine .k fun z hz => ?_ | fail) <;> cbv)
        all_goals
         refine xloopG (Gh.sel (st' := ⟨[(1, .str name), (2, .sl 19 (mapA CallA l)), (3, .ptr 0 0), (7, .ptr 1 0), (8, .hd 9), (9, .i (nI k)), (10, .i a), (11, .str frm), (12, .sl 5 (mapA HndA deliv2)), (13, .i a)], [.blk 29 [.sl 3 (mapA Pt3A parties), .sl 17 (mapA DeXA deals), .sl 3 (mapA En3A funds), .sl 1 (mapA IntA rest), .sl 1 (mapA IntA holidays)], .blk 118 [.str (⟨name3, parties3, deals3, ⟨rc3, rL3⟩, cust3, deliv2⟩ : Cr).name, .hd 2, .ph 3, .ptr 4 0, .ptr 6 0, .hd 8], .map 70 (mapA setF (⟨name3, parties3, deals3, ⟨rc3, rL3⟩, cust3, deliv2⟩ : Cr).parties), .pool 116 (mapA PelD (⟨name3, parties3, deals3, ⟨rc3, rL3⟩, cust3, deliv2⟩ : Cr).deals) [], .blk 122 [.str (⟨name3, parties3, deals3, ⟨rc3, rL3⟩, cust3, deliv2⟩ : Cr).reg.carrier, .ph 5], .pool 120 (mapA PelA (⟨name3, parties3, deals3, ⟨rc3, rL3⟩, cust3, deliv2⟩ : Cr).reg.bills) [], .blk 174 [.ph 7], .pool 172 (mapA PelH (⟨name3, parties3, deals3, ⟨rc3, rL3⟩, cust3, deliv2⟩ : Cr).cust) [], .tip 77 5 (mapA HndA (⟨name3, parties3, deals3, ⟨rc3, rL3⟩, cust3, deliv2⟩ : Cr).deliv), .map 70 (mapA setF seen)]⟩) [0, 1, 2, 3, 4, 5, 10, 11, 8, 9] (by repeat' (first | exact trivial | refine ⟨.inl rfl, ?_⟩ | refine ⟨.inr rfl, ?_⟩)) rfl (by decide) rfl rfl) ?_
         refine xloopV [9] (fun p : { k : Nat // k ≤ 0 } => [(8, .hd 9), (13, .i a)]) (fun _ => [.blk 29 [.sl 3 (mapA Pt3A parties), .sl 17 (mapA DeXA deals), .sl 3 (mapA En3A funds), .sl 1 (mapA IntA rest), .sl 1 (mapA IntA holidays)], .blk 118 [.str (⟨name3, parties3, deals3, ⟨rc3, rL3⟩, cust3, deliv2⟩ : Cr).name, .hd 2, .ph 3, .ptr 4 0, .ptr 6 0, .hd 8], .map 70 (mapA setF (⟨name3, parties3, deals3, ⟨rc3, rL3⟩, cust3, deliv2⟩ : Cr).parties), .pool 116 (mapA PelD (⟨name3, parties3, deals3, ⟨rc3, rL3⟩, cust3, deliv2⟩ : Cr).deals) [], .blk 122 [.str (⟨name3, parties3, deals3, ⟨rc3, rL3⟩, cust3, deliv2⟩ : Cr).reg.carrier, .ph 5], .pool 120 (mapA PelA (⟨name3, parties3, deals3, ⟨rc3, rL3⟩, cust3, deliv2⟩ : Cr).reg.bills) [], .blk 174 [.ph 7], .pool 172 (mapA PelH (⟨name3, parties3, deals3, ⟨rc3, rL3⟩, cust3, deliv2⟩ : Cr).cust) [], .tip 77 5 (mapA HndA (⟨name3, parties3, deals3, ⟨rc3, rL3⟩, cust3, deliv2⟩ : Cr).deliv), .map 70 (mapA setF seen)]) (fun p => lft 0 p.1) ⟨0, Nat.le_refl _⟩ ?_
         rintro ⟨kk, hkk⟩
         dsimp only at hkk ⊢
         cbv; repeat' ((first | refine .n fun h => ?_ | refine .k fun z hz => ?_ | fail) <;> cbv)
         all_goals first | (exfalso; ((try simp only [vn] at *) <;> omega)) | skip
         all_goals
          obtain rfl : z = nI (k + 1) := om9
          subst hseen
          exact roundV ⟨(k + 1, (⟨name3, parties3, deals3, ⟨rc3, rL3⟩, cust3, deliv2⟩ : Cr)), hks, hj3, hi3⟩ (lft_lt (by omega))
      ·cases mv
       ·cbv; repeat' ((first | refine .e ?_ | refine .n fun h => ?_ | fail) <;> cbv)
        all_goals first | (exfalso; ((try simp only [vn] at *) <;> omega)) | skip
        all_goals
         (refine cs9 hde (⟨name3, parties3, deals3, ⟨rc3, rL3⟩, cust3, deliv2⟩ : Cr) [1, 2, 3, 4, 5, 6, 7, 8] (by dsimp only; omega) ?_; try dsimp only)
         cbv; repeat' ((first | refine .n fun h => ?_ | refine .k fun z hz => ?_ | fail) <;> cbv)
        all_goals
         refine xloopG (Gh.sel (st' := ⟨[(1, .str name), (2, .sl 19 (mapA CallA l)), (3, .ptr 0 0), (7, .ptr 1 0), (8, .hd 9), (9, .i (nI k)), (10, .i a), (11, .str ⟨⟨[]⟩⟩), (12, .sl 5 (mapA HndA deliv2)), (13, .i a)], [.blk 29 [.sl 3 (mapA Pt3A parties), .sl 17 (mapA DeXA deals), .sl 3 (mapA En3A funds), .sl 1 (mapA IntA rest), .sl 1 (mapA IntA holidays)], .blk 118 [.str (⟨name3, parties3, deals3, ⟨rc3, rL3⟩, cust3, deliv2⟩ : Cr).name, .hd 2, .ph 3, .ptr 4 0, .ptr 6 0, .hd 8], .map 70 (mapA setF (⟨name3, parties3, deals3, ⟨rc3, rL3⟩, cust3, deliv2⟩ : Cr).parties), .pool 116 (mapA PelD (⟨name3, parties3, deals3, ⟨rc3, rL3⟩, cust3, deliv2⟩ : Cr).deals) [], .blk 122 [.str (⟨name3, parties3, deals3, ⟨rc3, rL3⟩, cust3, deliv2⟩ : Cr).reg.carrier, .ph 5], .pool 120 (mapA PelA (⟨name3, parties3, deals3, ⟨rc3, rL3⟩, cust3, deliv2⟩ : Cr).reg.bills) [], .blk 174 [.ph 7], .pool 172 (mapA PelH (⟨name3, parties3, deals3, ⟨rc3, rL3⟩, cust3, deliv2⟩ : Cr).cust) [], .tip 77 5 (mapA HndA (⟨name3, parties3, deals3, ⟨rc3, rL3⟩, cust3, deliv2⟩ : Cr).deliv), .map 70 (mapA setF seen)]⟩) [0, 1, 2, 3, 4, 5, 6, 7, 8, 9] (by repeat' (first | exact trivial | refine ⟨.inl rfl, ?_⟩ | refine ⟨.inr rfl, ?_⟩)) rfl (by decide) rfl rfl) ?_
         refine xloopV [9] (fun p : { k : Nat // k ≤ 0 } => [(8, .hd 9), (13, .i a)]) (fun _ => [.blk 29 [.sl 3 (mapA Pt3A parties), .sl 17 (mapA DeXA deals), .sl 3 (mapA En3A funds), .sl 1 (mapA IntA rest), .sl 1 (mapA IntA holidays)], .blk 118 [.str (⟨name3, parties3, deals3, ⟨rc3, rL3⟩, cust3, deliv2⟩ : Cr).name, .hd 2, .ph 3, .ptr 4 0, .ptr 6 0, .hd 8], .map 70 (mapA setF (⟨name3, parties3, deals3, ⟨rc3, rL3⟩, cust3, deliv2⟩ : Cr).parties), .pool 116 (mapA PelD (⟨name3, parties3, deals3, ⟨rc3, rL3⟩, cust3, deliv2⟩ : Cr).deals) [], .blk 122 [.str (⟨name3, parties3, deals3, ⟨rc3, rL3⟩, cust3, deliv2⟩ : Cr).reg.carrier, .ph 5], .pool 120 (mapA PelA (⟨name3, parties3, deals3, ⟨rc3, rL3⟩, cust3, deliv2⟩ : Cr).reg.bills) [], .blk 174 [.ph 7], .pool 172 (mapA PelH (⟨name3, parties3, deals3, ⟨rc3, rL3⟩, cust3, deliv2⟩ : Cr).cust) [], .tip 77 5 (mapA HndA (⟨name3, parties3, deals3, ⟨rc3, rL3⟩, cust3, deliv2⟩ : Cr).deliv), .map 70 (mapA setF seen)]) (fun p => lft 0 p.1) ⟨0, Nat.le_refl _⟩ ?_
         rintro ⟨kk, hkk⟩
         dsimp only at hkk ⊢
         cbv; repeat' ((first | refine .n fun h => ?_ | refine .k fun z hz => ?_ | fail) <;> cbv)
         all_goals first | (exfalso; ((try simp only [vn] at *) <;> omega)) | skip
         all_goals
          obtain rfl : z = nI (k + 1) := om9
          subst hseen
          exact roundV ⟨(k + 1, (⟨name3, parties3, deals3, ⟨rc3, rL3⟩, cust3, deliv2⟩ : Cr)), hks, hj3, hi3⟩ (lft_lt (by omega))
       ·cbv; repeat' ((first | refine .e ?_ | refine .n fun h => ?_ | fail) <;> cbv)
        all_goals first | (exfalso; ((try simp only [vn] at *) <;> omega)) | skip
        all_goals
         (refine cs9 hde (⟨name3, parties3, deals3, ⟨rc3, rL3⟩, cust3, deliv2⟩ : Cr) [1, 2, 3, 4, 5, 10, 11, 8] (by dsimp only; omega) ?_; try dsimp only)
         cbv; repeat' ((first | refine .n fun h => ?_ | refine .k fun z hz => ?_ | fail) <;> cbv)
        all_goals
         refine xloopG (Gh.sel (st' := ⟨[(1, .str name), (2, .sl 19 (mapA CallA l)), (3, .ptr 0 0), (7, .ptr 1 0), (8, .hd 9), (9, .i (nI k)), (10, .i a), (11, .str ⟨⟨[]⟩⟩), (12, .sl 5 (mapA HndA deliv2)), (13, .i a)], [.blk 29 [.sl 3 (mapA Pt3A parties), .sl 17 (mapA DeXA deals), .sl 3 (mapA En3A funds), .sl 1 (mapA IntA rest), .sl 1 (mapA IntA holidays)], .blk 118 [.str (⟨name3, parties3, deals3, ⟨rc3, rL3⟩, cust3, deliv2⟩ : Cr).name, .hd 2, .ph 3, .ptr 4 0, .ptr 6 0, .hd 8], .map 70 (mapA setF (⟨name3, parties3, deals3, ⟨rc3, rL3⟩, cust3, deliv2⟩ : Cr).parties), .pool 116 (mapA PelD (⟨name3, parties3, deals3, ⟨rc3, rL3⟩, cust3, deliv2⟩ : Cr).deals) [], .blk 122 [.str (⟨name3, parties3, deals3, ⟨rc3, rL3⟩, cust3, deliv2⟩ : Cr).reg.carrier, .ph 5], .pool 120 (mapA PelA (⟨name3, parties3, deals3, ⟨rc3, rL3⟩, cust3, deliv2⟩ : Cr).reg.bills) [], .blk 174 [.ph 7], .pool 172 (mapA PelH (⟨name3, parties3, deals3, ⟨rc3, rL3⟩, cust3, deliv2⟩ : Cr).cust) [], .tip 77 5 (mapA HndA (⟨name3, parties3, deals3, ⟨rc3, rL3⟩, cust3, deliv2⟩ : Cr).deliv), .map 70 (mapA setF seen)]⟩) [0, 1, 2, 3, 4, 5, 10, 11, 8, 9] (by repeat' (first | exact trivial | refine ⟨.inl rfl, ?_⟩ | refine ⟨.inr rfl, ?_⟩)) rfl (by decide) rfl rfl) ?_
         refine xloopV [9] (fun p : { k : Nat // k ≤ 0 } => [(8, .hd 9), (13, .i a)]) (fun _ => [.blk 29 [.sl 3 (mapA Pt3A parties), .sl 17 (mapA DeXA deals), .sl 3 (mapA En3A funds), .sl 1 (mapA IntA rest), .sl 1 (mapA IntA holidays)], .blk 118 [.str (⟨name3, parties3, deals3, ⟨rc3, rL3⟩, cust3, deliv2⟩ : Cr).name, .hd 2, .ph 3, .ptr 4 0, .ptr 6 0, .hd 8], .map 70 (mapA setF (⟨name3, parties3, deals3, ⟨rc3, rL3⟩, cust3, deliv2⟩ : Cr).parties), .pool 116 (mapA PelD (⟨name3, parties3, deals3, ⟨rc3, rL3⟩, cust3, deliv2⟩ : Cr).deals) [], .blk 122 [.str (⟨name3, parties3, deals3, ⟨rc3, rL3⟩, cust3, deliv2⟩ : Cr).reg.carrier, .ph 5], .pool 120 (mapA PelA (⟨name3, parties3, deals3, ⟨rc3, rL3⟩, cust3, deliv2⟩ : Cr).reg.bills) [], .blk 174 [.ph 7], .pool 172 (mapA PelH (⟨name3, parties3, deals3, ⟨rc3, rL3⟩, cust3, deliv2⟩ : Cr).cust) [], .tip 77 5 (mapA HndA (⟨name3, parties3, deals3, ⟨rc3, rL3⟩, cust3, deliv2⟩ : Cr).deliv), .map 70 (mapA setF seen)]) (fun p => lft 0 p.1) ⟨0, Nat.le_refl _⟩ ?_
         rintro ⟨kk, hkk⟩
         dsimp only at hkk ⊢
         cbv; repeat' ((first | refine .n fun h => ?_ | refine .k fun z hz => ?_ | fail) <;> cbv)
         all_goals first | (exfalso; ((try simp only [vn] at *) <;> omega)) | skip
         all_goals
          obtain rfl : z = nI (k + 1) := om9
          subst hseen
          exact roundV ⟨(k + 1, (⟨name3, parties3, deals3, ⟨rc3, rL3⟩, cust3, deliv2⟩ : Cr)), hks, hj3, hi3⟩ (lft_lt (by omega))
    ·have hj3 := hj2.succ
     rw [show playX ⟨parties, deals, funds, rest, holidays⟩ name (l.take k) = playX ⟨parties, deals, funds, rest, holidays⟩ name (l.take (k + 1)) from (hps.trans ((if_neg k0).trans (if_neg k1))).symm] at hj3
     cbv; repeat' ((first | refine .y fun h => ?_ | refine .k fun z hz => ?_ | fail) <;> cbv)
     (refine cs9 hde (⟨name2, parties2, deals2, ⟨rc2, rL2⟩, cust2, deliv2⟩ : Cr) [1, 2, 3, 4, 5, 6, 7, 8] (by dsimp only; omega) ?_; try dsimp only)
     obtain ⟨a, ha⟩ : ∃ a : Int, a = deliv2.length := ⟨_, rfl⟩
     cbv; repeat' ((first | refine .e ?_ | refine .n fun h => ?_ | refine .k fun z hz => ?_ | fail) <;> cbv)
     all_goals first | (exfalso; ((try simp only [vn] at *) <;> omega)) | skip
     all_goals
      obtain rfl : a = z := om9
      (refine cs9 hti (((⟨name2, parties2, deals2, ⟨rc2, rL2⟩, cust2, deliv2⟩ : Cr), oday) : Cr × Int) [1, 2, 3, 4, 5, 6, 7, 8] trivial ?_; try dsimp only)
      cbv
     all_goals
      (refine cs9 hde (⟨name2, parties2, deals2, ⟨rc2, rL2⟩, cust2, deliv2⟩ : Cr) [1, 2, 3, 4, 5, 6, 7, 8] (by dsimp only; omega) ?_; try dsimp only)
      cbv; repeat' ((first | refine .n fun h => ?_ | refine .k fun z hz => ?_ | fail) <;> cbv)
     all_goals
      refine xloopG (Gh.sel (st' := ⟨[(1, .str name), (2, .sl 19 (mapA CallA l)), (3, .ptr 0 0), (7, .ptr 1 0), (8, .hd 9), (9, .i (nI k)), (10, .i a), (11, .str ⟨⟨[]⟩⟩), (12, .sl 5 (mapA HndA deliv2)), (13, .i a)], [.blk 29 [.sl 3 (mapA Pt3A parties), .sl 17 (mapA DeXA deals), .sl 3 (mapA En3A funds), .sl 1 (mapA IntA rest), .sl 1 (mapA IntA holidays)], .blk 118 [.str (⟨name2, parties2, deals2, ⟨rc2, rL2⟩, cust2, deliv2⟩ : Cr).name, .hd 2, .ph 3, .ptr 4 0, .ptr 6 0, .hd 8], .map 70 (mapA setF (⟨name2, parties2, deals2, ⟨rc2, rL2⟩, cust2, deliv2⟩ : Cr).parties), .pool 116 (mapA PelD (⟨name2, parties2, deals2, ⟨rc2, rL2⟩, cust2, deliv2⟩ : Cr).deals) [], .blk 122 [.str (⟨name2, parties2, deals2, ⟨rc2, rL2⟩, cust2, deliv2⟩ : Cr).reg.carrier, .ph 5], .pool 120 (mapA PelA (⟨name2, parties2, deals2, ⟨rc2, rL2⟩, cust2, deliv2⟩ : Cr).reg.bills) [], .blk 174 [.ph 7], .pool 172 (mapA PelH (⟨name2, parties2, deals2, ⟨rc2, rL2⟩, cust2, deliv2⟩ : Cr).cust) [], .tip 77 5 (mapA HndA (⟨name2, parties2, deals2, ⟨rc2, rL2⟩, cust2, deliv2⟩ : Cr).deliv), .map 70 (mapA setF seen)]⟩) [0, 1, 2, 3, 4, 5, 6, 7, 8, 9] (by repeat' (first | exact trivial | refine ⟨.inl rfl, ?_⟩ | refine ⟨.inr rfl, ?_⟩)) rfl (by decide) rfl rfl) ?_
      refine xloopV [9] (fun p : { k : Nat // k ≤ 0 } => [(8, .hd 9), (13, .i a)]) (fun _ => [.blk 29 [.sl 3 (mapA Pt3A parties), .sl 17 (mapA DeXA deals), .sl 3 (mapA En3A funds), .sl 1 (mapA IntA rest), .sl 1 (mapA IntA holidays)], .blk 118 [.str (⟨name2, parties2, deals2, ⟨rc2, rL2⟩, cust2, deliv2⟩ : Cr).name, .hd 2, .ph 3, .ptr 4 0, .ptr 6 0, .hd 8], .map 70 (mapA setF (⟨name2, parties2, deals2, ⟨rc2, rL2⟩, cust2, deliv2⟩ : Cr).parties), .pool 116 (mapA PelD (⟨name2, parties2, deals2, ⟨rc2, rL2⟩, cust2, deliv2⟩ : Cr).deals) [], .blk 122 [.str (⟨name2, parties2, deals2, ⟨rc2, rL2⟩, cust2, deliv2⟩ : Cr).reg.carrier, .ph 5], .pool 120 (mapA PelA (⟨name2, parties2, deals2, ⟨rc2, rL2⟩, cust2, deliv2⟩ : Cr).reg.bills) [], .blk 174 [.ph 7], .pool 172 (mapA PelH (⟨name2, parties2, deals2, ⟨rc2, rL2⟩, cust2, deliv2⟩ : Cr).cust) [], .tip 77 5 (mapA HndA (⟨name2, parties2, deals2, ⟨rc2, rL2⟩, cust2, deliv2⟩ : Cr).deliv), .map 70 (mapA setF seen)]) (fun p => lft 0 p.1) ⟨0, Nat.le_refl _⟩ ?_
      rintro ⟨kk, hkk⟩
      dsimp only at hkk ⊢
      cbv; repeat' ((first | refine .n fun h => ?_ | refine .k fun z hz => ?_ | fail) <;> cbv)
      all_goals first | (exfalso; ((try simp only [vn] at *) <;> omega)) | skip
      all_goals
       obtain rfl : z = nI (k + 1) := om9
       subst hseen
       exact roundV ⟨(k + 1, (⟨name2, parties2, deals2, ⟨rc2, rL2⟩, cust2, deliv2⟩ : Cr)), hks, hj3, hi3⟩ (lft_lt (by omega))
  ·obtain ⟨g1, g20, gwho, bs, place, y, gD, gno, gnd, glk, gst, gbx⟩ := hgv
   dsimp only at g1 g20 gwho gD glk
   rw [← hd2] at gD gno
   subst g1 g20
   have hjt := fun (L0 : List Bxh) (hp : L0.Perm cust2) => (hj2.take hs ⟨frm, to, number, 20, ack, ldeal, text, party, index, day0, cur, amt, docs, boxes⟩ oday hp).1
   rw [show (takeR nmK (SuX.su ⟨parties, deals, funds, rest, holidays⟩) name (playX ⟨parties, deals, funds, rest, holidays⟩ name (l.take k)) ⟨frm, to, number, 20, ack, ldeal, text, party, index, day0, cur, amt, docs, boxes⟩ oday).1 = playX ⟨parties, deals, funds, rest, holidays⟩ name (l.take (k + 1)) from (hps.trans ((if_neg (show ¬ (1 : Int) = 0 by decide)).trans (if_pos rfl))).symm] at hjt
   cbv; repeat' ((first | refine .y fun h => ?_ | refine .k fun z hz => ?_ | fail) <;> cbv)
   (refine cs9 hde (⟨name2, parties2, deals2, ⟨rc2, rL2⟩, cust2, deliv2⟩ : Cr) [1, 2, 3, 4, 5, 6, 7, 8] (by dsimp only; omega) ?_; try dsimp only)
   obtain ⟨n0, hn0⟩ : ∃ n : Nat, n = deliv2.length := ⟨_, rfl⟩
   cbv; repeat' ((first | refine .e ?_ | refine .n fun h => ?_ | refine .y fun h => ?_ | refine .k fun z hz => ?_ | fail) <;> cbv)
   all_goals
    obtain rfl : z = nI n0 := om9
    refine callG_specN hta (⟨(⟨name2, parties2, deals2, ⟨rc2, rL2⟩, cust2, deliv2⟩ : Cr), ⟨frm, to, number, 20, ack, ldeal, text, party, index, day0, cur, amt, docs, boxes⟩, oday⟩ : TQ) [1, 2, 3, 4, 5, 6, 7, 8] ⟨trivial, htq⟩ rfl rfl (by decide) rfl rfl rfl rfl rfl ?_
    intro L0 hp0
    have hj3 := hjt L0 hp0
    obtain ⟨⟨mv, C3, ls3⟩, hr3⟩ : ∃ r, r = takeX (⟨name2, parties2, deals2, ⟨rc2, rL2⟩, cust2, deliv2⟩ : Cr) ⟨frm, to, number, 20, ack, ldeal, text, party, index, day0, cur, amt, docs, boxes⟩ oday L0 := ⟨_, rfl⟩
    try dsimp only
    rw [← hr3] at hj3 ⊢
    dsimp only at hj3
    have hd3 := hj3.rel.del
    have hz3 := hj3.xb.D
    have hv3 := hj3.inv
    have hrg := hj3.rel.reg
    rw [gD] at hd3 hz3
    obtain ⟨name3, parties3, deals3, ⟨rc3, rL3⟩, cust3, deliv3⟩ := C3
    dsimp only at hd3 hv3 hrg
    rw [← hrg] at glk
    dsimp only at glk
    have hin3 := hv3.inB (by omega)
    have hok3 : OkR ⟨rc3, rL3⟩ := ⟨hv3.few, fun b hb => (hin3 b hb).2, fun b hb => (by
     have h4 := hv3.all b hb
     exact ⟨Nat.le_trans h4.h0.len (by omega), Nat.le_trans h4.h1.len (by omega), Nat.le_trans h4.h2.len (by omega)⟩)⟩
    rw [List.length_append, List.length_map] at hz3
    have hsm : deliv3.map Hnd.box = seen ++ bs := by rw [hd3, List.map_append, ← hseen, List.map_map]; congr 1; exact List.map_id _
    have hfe : ¬ frm = ⟨⟨[]⟩⟩ := fun e => by rw [e] at gwho; exact absurd gwho (by decide)
    obtain ⟨bn, hbn⟩ : ∃ b, b = blS ++ ldeal := ⟨_, rfl⟩
    replace glk : lkN rL3 bn = some y := by rw [hbn]; exact glk
    have hbz : bn.size = 3 + ldeal.size := by rw [hbn, ByteArray.size_append]; rfl
    have hlz := hoo.l.2.1
    have z3 : (ByteArray.mk (Array.mk [98, 108, 45])).size = 3 := rfl
    dsimp only at hlz
    have hyn := (lk_mem glk).2
    have hcp : ∀ L4 : List Br, L4.Perm rL3 → OkR ⟨rc3, L4⟩ ∧ getM L4 bn = (y.b, true) ∧ stateM L4 bn = 1 := fun L4 hp => by
     have hlk4 : lkN L4 bn = some y := by rw [lk_perm hp (nodupN_perm hp.symm hv3.nd)]; exact glk
     refine ⟨⟨by rw [hp.length_eq]; exact hok3.few, fun b hb => hok3.bills b (hp.mem_iff.1 hb), fun b hb => hok3.chains b (hp.mem_iff.1 hb)⟩, ?_, ?_⟩
     ·rw [getM_lk, hlk4]
     ·rw [stateM_lk, hlk4]; exact gst
    obtain ⟨⟨nq5, cq5, sq5, frm5, to5, bq5, pq5, iq5, lq5⟩, st5, ⟨sa5, ha5, ca5⟩, ⟨sb5, hb5, cb5⟩, ⟨sc5, hc5, cc5⟩⟩ := y
    dsimp only at gbx hyn hcp
    subst gbx
    subst hyn
    have hl3 : deliv3.length = deliv2.length + bq5.length := by rw [hd3, List.length_append, List.length_map]
    cases mv
    ·cbv; repeat' ((first | refine .e ?_ | refine .y fun h => ?_ | fail) <;> cbv)
     (refine cs9 hde (⟨name3, parties3, deals3, ⟨rc3, rL3⟩, cust3, deliv3⟩ : Cr) [1, 2, 3, 4, 5, 6, 7, 8] (by dsimp only; omega) ?_; try dsimp only)
     cbv; repeat' ((first | refine .n fun h => ?_ | refine .k fun z hz => ?_ | fail) <;> cbv)
     all_goals first | (exfalso; ((try simp only [vn] at *) <;> omega)) | skip
     refine xloopG (Gh.sel (st' := ⟨[(1, .str name), (2, .sl 19 (mapA CallA l)), (3, .ptr 0 0), (7, .ptr 1 0), (8, .hd 9), (9, .i (nI k)), (10, .i (nI n0)), (11, .str frm), (12, .sl 5 (mapA HndA deliv3)), (13, .i (nI n0))], [.blk 29 [.sl 3 (mapA Pt3A parties), .sl 17 (mapA DeXA deals), .sl 3 (mapA En3A funds), .sl 1 (mapA IntA rest), .sl 1 (mapA IntA holidays)], .blk 118 [.str (⟨name3, parties3, deals3, ⟨rc3, rL3⟩, cust3, deliv3⟩ : Cr).name, .hd 2, .ph 3, .ptr 4 0, .ptr 6 0, .hd 8], .map 70 (mapA setF (⟨name3, parties3, deals3, ⟨rc3, rL3⟩, cust3, deliv3⟩ : Cr).parties), .pool 116 (mapA PelD (⟨name3, parties3, deals3, ⟨rc3, rL3⟩, cust3, deliv3⟩ : Cr).deals) [], .blk 122 [.str (⟨name3, parties3, deals3, ⟨rc3, rL3⟩, cust3, deliv3⟩ : Cr).reg.carrier, .ph 5], .pool 120 (mapA PelA (⟨name3, parties3, deals3, ⟨rc3, rL3⟩, cust3, deliv3⟩ : Cr).reg.bills) [], .blk 174 [.ph 7], .pool 172 (mapA PelH (⟨name3, parties3, deals3, ⟨rc3, rL3⟩, cust3, deliv3⟩ : Cr).cust) [], .tip 77 5 (mapA HndA (⟨name3, parties3, deals3, ⟨rc3, rL3⟩, cust3, deliv3⟩ : Cr).deliv), .map 70 (mapA setF seen)]⟩) [0, 1, 2, 3, 4, 5, 6, 7, 8, 9] (by repeat' (first | exact trivial | refine ⟨.inl rfl, ?_⟩ | refine ⟨.inr rfl, ?_⟩)) rfl (by decide) rfl rfl) ?_
     obtain ⟨nb, hnb⟩ : ∃ n : Nat, n = bq5.length := ⟨_, rfl⟩
     refine xloopV [9] (fun p : { p : Nat × Nat × List ByteArray // p.1 ≤ bq5.length ∧ p.2.1 = n0 + p.1 ∧ p.2.2 = seen ++ bq5.take p.1 } => [(8, .hd 9), (13, .i (nI p.1.2.1))]) (fun p => [.blk 29 [.sl 3 (mapA Pt3A parties), .sl 17 (mapA DeXA deals), .sl 3 (mapA En3A funds), .sl 1 (mapA IntA rest), .sl 1 (mapA IntA holidays)], .blk 118 [.str (⟨name3, parties3, deals3, ⟨rc3, rL3⟩, cust3, deliv3⟩ : Cr).name, .hd 2, .ph 3, .ptr 4 0, .ptr 6 0, .hd 8], .map 70 (mapA setF (⟨name3, parties3, deals3, ⟨rc3, rL3⟩, cust3, deliv3⟩ : Cr).parties), .pool 116 (mapA PelD (⟨name3, parties3, deals3, ⟨rc3, rL3⟩, cust3, deliv3⟩ : Cr).deals) [], .blk 122 [.str (⟨name3, parties3, deals3, ⟨rc3, rL3⟩, cust3, deliv3⟩ : Cr).reg.carrier, .ph 5], .pool 120 (mapA PelA (⟨name3, parties3, deals3, ⟨rc3, rL3⟩, cust3, deliv3⟩ : Cr).reg.bills) [], .blk 174 [.ph 7], .pool 172 (mapA PelH (⟨name3, parties3, deals3, ⟨rc3, rL3⟩, cust3, deliv3⟩ : Cr).cust) [], .tip 77 5 (mapA HndA (⟨name3, parties3, deals3, ⟨rc3, rL3⟩, cust3, deliv3⟩ : Cr).deliv), .map 70 (mapA setF p.1.2.2)]) (fun p => lft nb p.1.1) ⟨(0, n0, seen), Nat.zero_le _, rfl, (List.append_nil _).symm⟩ ?_
     rintro ⟨⟨m, q, sm⟩, hm, hq, hsq⟩
     dsimp only at hm hq hsq ⊢
     rcases Nat.lt_or_ge m bq5.length with hmm | hmm
     rotate_left
     ·have hme : m = bq5.length := by omega
      rw [hme, List.take_length, ← hsm] at hsq
      cbv; repeat' ((first | refine .n fun h => ?_ | refine .k fun z hz => ?_ | fail) <;> cbv)
      all_goals first | (exfalso; ((try simp only [vn] at *) <;> omega)) | skip
      all_goals
       obtain rfl : z = nI (k + 1) := om9
       subst hsq
       exact roundV ⟨(k + 1, (⟨name3, parties3, deals3, ⟨rc3, rL3⟩, cust3, deliv3⟩ : Cr)), hks, hj3, hi3⟩ (lft_lt (by omega))
     obtain ⟨b, hb⟩ := some_at hmm
     have hxd : deliv3[q]? = some ⟨b, name, frm, place, oday⟩ := by
      rw [hd3, hq, hn0, List.getElem?_append_right (Nat.le_add_right _ _), Nat.add_sub_cancel_left, List.getElem?_map, hb]
      rfl
     have hnin : inT sm b = false := by
      rw [hsq]
      refine List.any_eq_false.2 fun c hc => ?_
      rcases List.mem_append.1 hc with hc | hc
      ·rw [hseen] at hc
       have : c ≠ b := fun e => gno b (List.mem_of_getElem? hb) (e ▸ hc)
       simpa using this
      ·have : c ≠ b := fun e => by
        subst e
        obtain ⟨j, hj⟩ := List.getElem?_of_mem hc
        obtain ⟨hj1, hj2⟩ := List.getElem?_eq_some_iff.1 hj
        rw [List.length_take] at hj1
        rw [List.getElem_take] at hj2
        obtain ⟨hb1, hb2⟩ := List.getElem?_eq_some_iff.1 hb
        have := nodup_inj2 gnd (i := j) (j := m) (hi := by omega) (hj := hb1) (hj2.trans hb2.symm)
        omega
       simpa using this
     cbv; repeat' ((first | refine BrS.r ?_ | refine BrC.r ?_ | (first | refine .e ?_ | refine .y fun h => ?_ | refine .k fun z hz => ?_ | fail)) <;> cbv)
     all_goals first | (exfalso; ((try simp only [vn] at *) <;> omega)) | skip
     obtain ⟨sm2, hsm2⟩ : ∃ q, q = sm ++ [b] := ⟨_, rfl⟩
     have hsq2 : sm2 = seen ++ bq5.take (m + 1) := by rw [hsm2, hsq, take_some hb, List.append_assoc]
     refine find_set (fun j hj => absurd ((inT_at hj).symm.trans hnin) (by decide)) fun hno => ?_
     cbv; repeat' ((first | refine BrS.r ?_ | refine BrC.r ?_ | (first | refine .e ?_ | refine .mk (fun h => ?_) fun h => ?_ | fail)) <;> cbv)
     all_goals first | (exfalso; exact hfe (by assumption)) | skip
     refine find_set (fun j hj => absurd ((inT_at hj).symm.trans hnin) (by decide)) fun hno2 => ?_
     cbv; repeat' ((first | refine BrS.r ?_ | refine BrC.r ?_ | (first | refine .e ?_ | refine .u fun u hu hul => ?_ | refine .ms fun ms hms => ?_ | refine And.intro ?_ ?_ | fail)) <;> cbv)
     all_goals
      obtain rfl : ms = mapA setF sm2 := by rw [hsm2, mapA_app, mapA_one]; exact hms
      obtain rfl : nq5 = u := by rw [hbn]; exact hu.symm
      repeat' (first
       | (refine callG_specN hre (⟨name3, parties3, deals3, ⟨rc3, rL3⟩, cust3, deliv3⟩ : Cr) [1, 2, 3, 4, 5, 6, 7, 8] ⟨hv3.few, hin3, hv3.nd⟩ rfl rfl (by decide) rfl rfl rfl rfl rfl ?_
          intro L4 hp4
          try dsimp only at hp4
          obtain ⟨h41, h42, h43⟩ := hcp L4 hp4
          cbv; repeat' ((first | refine BrS.r ?_ | refine BrC.r ?_ | (first | refine And.intro ?_ ?_ | fail)) <;> cbv))
       | ((refine cs9 hge ((⟨rc3, L4⟩ : Rg), nq5) [10, 11] h41 ?_; try dsimp only)
          rw [h42]
          cbv; repeat' ((first | refine BrS.r ?_ | refine BrC.r ?_ | (first | fail)) <;> cbv))
       | ((refine cs9 hge ((⟨rc3, L4⟩ : Rg), nq5) [11, 12] h41 ?_; try dsimp only)
          rw [h42]
          cbv; repeat' ((first | refine BrS.r ?_ | refine BrC.r ?_ | (first | fail)) <;> cbv)))
     all_goals first
     | refine xloopG (Gh.sel (st' := ⟨[(1, .str name), (2, .sl 19 (mapA CallA l)), (3, .ptr 0 0), (7, .ptr 1 0), (8, .hd 9), (9, .i (nI k)), (10, .i (nI n0)), (11, .str frm), (12, .sl 5 (mapA HndA deliv3)), (13, .i (nI q)), (14, .ptr 12 0), (15, .bl true), (16, .bl false), (17, .i 0)], [.blk 29 [.sl 3 (mapA Pt3A parties), .sl 17 (mapA DeXA deals), .sl 3 (mapA En3A funds), .sl 1 (mapA IntA rest), .sl 1 (mapA IntA holidays)], .blk 118 [.str (⟨name3, parties3, deals3, ⟨rc3, rL3⟩, cust3, deliv3⟩ : Cr).name, .hd 2, .ph 3, .ptr 4 0, .ptr 6 0, .hd 8], .map 70 (mapA setF (⟨name3, parties3, deals3, ⟨rc3, rL3⟩, cust3, deliv3⟩ : Cr).parties), .pool 116 (mapA PelD (⟨name3, parties3, deals3, ⟨rc3, rL3⟩, cust3, deliv3⟩ : Cr).deals) [], .blk 122 [.str (⟨name3, parties3, deals3, ⟨rc3, rL3⟩, cust3, deliv3⟩ : Cr).reg.carrier, .ph 5], .pool 120 (mapA PelA (⟨name3, parties3, deals3, ⟨rc3, rL3⟩, cust3, deliv3⟩ : Cr).reg.bills) [], .blk 174 [.ph 7], .pool 172 (mapA PelH (⟨name3, parties3, deals3, ⟨rc3, rL3⟩, cust3, deliv3⟩ : Cr).cust) [], .tip 77 5 (mapA HndA (⟨name3, parties3, deals3, ⟨rc3, rL3⟩, cust3, deliv3⟩ : Cr).deliv), .map 70 (mapA setF sm2), .blk 122 [.str rc3, .ph 11], .pool 120 (mapA PelA L4) [], .blk 79 [.str nq5, .str cq5, .str sq5, .str frm5, .str to5, .sl 1 (mapA .str bq5), .sl 1 (mapA .str pq5), .i iq5, .bl lq5]]⟩) [0, 1, 2, 3, 4, 5, 6, 7, 8, 9, 10, 11, 12] (by repeat' (first | exact trivial | refine ⟨.inl rfl, ?_⟩ | refine ⟨.inr rfl, ?_⟩)) rfl (by decide) rfl rfl) ?_
     | refine xloopG (Gh.sel (st' := ⟨[(1, .str name), (2, .sl 19 (mapA CallA l)), (3, .ptr 0 0), (7, .ptr 1 0), (8, .hd 9), (9, .i (nI k)), (10, .i (nI n0)), (11, .str frm), (12, .sl 5 (mapA HndA deliv3)), (13, .i (nI q)), (14, .ptr 12 0), (15, .bl true), (16, .bl false), (17, .i 0)], [.blk 29 [.sl 3 (mapA Pt3A parties), .sl 17 (mapA DeXA deals), .sl 3 (mapA En3A funds), .sl 1 (mapA IntA rest), .sl 1 (mapA IntA holidays)], .blk 118 [.str (⟨name3, parties3, deals3, ⟨rc3, rL3⟩, cust3, deliv3⟩ : Cr).name, .hd 2, .ph 3, .ptr 4 0, .ptr 6 0, .hd 8], .map 70 (mapA setF (⟨name3, parties3, deals3, ⟨rc3, rL3⟩, cust3, deliv3⟩ : Cr).parties), .pool 116 (mapA PelD (⟨name3, parties3, deals3, ⟨rc3, rL3⟩, cust3, deliv3⟩ : Cr).deals) [], .blk 122 [.str (⟨name3, parties3, deals3, ⟨rc3, rL3⟩, cust3, deliv3⟩ : Cr).reg.carrier, .ph 5], .pool 120 (mapA PelA (⟨name3, parties3, deals3, ⟨rc3, rL3⟩, cust3, deliv3⟩ : Cr).reg.bills) [], .blk 174 [.ph 7], .pool 172 (mapA PelH (⟨name3, parties3, deals3, ⟨rc3, rL3⟩, cust3, deliv3⟩ : Cr).cust) [], .tip 77 5 (mapA HndA (⟨name3, parties3, deals3, ⟨rc3, rL3⟩, cust3, deliv3⟩ : Cr).deliv), .map 70 (mapA setF sm2), .blk 122 [.str rc3, .ph 11], .pool 120 (mapA PelA L4) [], .blk 79 [.str nq5, .str cq5, .str sq5, .str frm5, .str to5, .sl 1 (mapA .str bq5), .sl 1 (mapA .str pq5), .i iq5, .bl lq5]]⟩) [0, 1, 2, 3, 4, 5, 6, 7, 8, 9, 11, 12, 10] (by repeat' (first | exact trivial | refine ⟨.inl rfl, ?_⟩ | refine ⟨.inr rfl, ?_⟩)) rfl (by decide) rfl rfl) ?_
     all_goals
      refine xloopV [9] (fun p : { p : Nat × Bool // p.1 ≤ bq5.length ∧ p.2 = inT (bq5.take p.1) b } => [(8, .hd 9), (16, .bl p.1.2), (17, .i (nI p.1.1))]) (fun _ => [.blk 29 [.sl 3 (mapA Pt3A parties), .sl 17 (mapA DeXA deals), .sl 3 (mapA En3A funds), .sl 1 (mapA IntA rest), .sl 1 (mapA IntA holidays)], .blk 118 [.str (⟨name3, parties3, deals3, ⟨rc3, rL3⟩, cust3, deliv3⟩ : Cr).name, .hd 2, .ph 3, .ptr 4 0, .ptr 6 0, .hd 8], .map 70 (mapA setF (⟨name3, parties3, deals3, ⟨rc3, rL3⟩, cust3, deliv3⟩ : Cr).parties), .pool 116 (mapA PelD (⟨name3, parties3, deals3, ⟨rc3, rL3⟩, cust3, deliv3⟩ : Cr).deals) [], .blk 122 [.str (⟨name3, parties3, deals3, ⟨rc3, rL3⟩, cust3, deliv3⟩ : Cr).reg.carrier, .ph 5], .pool 120 (mapA PelA (⟨name3, parties3, deals3, ⟨rc3, rL3⟩, cust3, deliv3⟩ : Cr).reg.bills) [], .blk 174 [.ph 7], .pool 172 (mapA PelH (⟨name3, parties3, deals3, ⟨rc3, rL3⟩, cust3, deliv3⟩ : Cr).cust) [], .tip 77 5 (mapA HndA (⟨name3, parties3, deals3, ⟨rc3, rL3⟩, cust3, deliv3⟩ : Cr).deliv), .map 70 (mapA setF sm2), .blk 122 [.str rc3, .ph 11], .pool 120 (mapA PelA L4) [], .blk 79 [.str nq5, .str cq5, .str sq5, .str frm5, .str to5, .sl 1 (mapA .str bq5), .sl 1 (mapA .str pq5), .i iq5, .bl lq5]]) (fun p => lft nb p.1.1) ⟨(0, false), Nat.zero_le _, rfl⟩ ?_
      rintro ⟨⟨j, bo⟩, hj, hbo⟩
      dsimp only at hj hbo ⊢
      rcases Nat.lt_or_ge j bq5.length with hjs | hjs
      ·obtain ⟨c, hc⟩ := some_at hjs
       have hnx : inT (bq5.take (j + 1)) b = (bo || decide (c = b)) := by
        unfold inT at hbo ⊢
        rw [take_some hc, List.any_append, ← hbo]
        simp
       cases bo with
       | true =>
        have hnx : true = inT (bq5.take (j + 1)) b := hnx.symm
        cbv; repeat' ((first | refine BrS.r ?_ | refine BrC.r ?_ | (first | refine .y fun h => ?_ | refine .k fun z hz => ?_ | fail)) <;> cbv)
        all_goals first | (exfalso; ((try simp only [vn] at *) <;> omega)) | skip
        all_goals
         obtain rfl : z = nI (j + 1) := om9
         exact roundV ⟨(j + 1, true), hjs, hnx⟩ (lft_lt (by omega))
       | false =>
        by_cases hcb : c = b
        ·have hnx : true = inT (bq5.take (j + 1)) b := by rw [hnx, decide_eq_true hcb]; rfl
         subst hcb
         cbv; repeat' ((first | refine BrS.r ?_ | refine BrC.r ?_ | (first | refine .e ?_ | refine .y fun h => ?_ | refine .k fun z hz => ?_ | fail)) <;> cbv)
         all_goals first | (exfalso; ((try simp only [vn] at *) <;> omega)) | skip
         all_goals
          obtain rfl : z = nI (j + 1) := om9
          exact roundV ⟨(j + 1, true), hjs, hnx⟩ (lft_lt (by omega))
        ·have hnx : false = inT (bq5.take (j + 1)) b := by rw [hnx, decide_eq_false hcb]; rfl
         cbv; repeat' ((first | refine BrS.r ?_ | refine BrC.r ?_ | (first | refine .e ?_ | refine .y fun h => ?_ | refine .mk (fun h => ?_) fun h => ?_ | refine .k fun z hz => ?_ | fail)) <;> cbv)
         all_goals first | (exfalso; exact hcb (by assumption)) | (exfalso; ((try simp only [vn] at *) <;> omega)) | skip
         all_goals
          obtain rfl : z = nI (j + 1) := om9
          exact roundV ⟨(j + 1, false), hjs, hnx⟩ (lft_lt (by omega))
      have hbt : bo = true := by
       rw [hbo, List.take_of_length_le hjs]
       exact List.any_eq_true.2 ⟨b, List.mem_of_getElem? hb, by simp⟩
      subst hbt
      cbv; repeat' ((first | refine BrS.r ?_ | refine BrC.r ?_ | (first | refine .n fun h => ?_ | refine .k fun z hz => ?_ | fail)) <;> cbv)
      all_goals first | (exfalso; ((try simp only [vn] at *) <;> omega)) | skip
      repeat' (first
       | (refine callG_specN hre (⟨name3, parties3, deals3, ⟨rc3, rL3⟩, cust3, deliv3⟩ : Cr) [1, 2, 3, 4, 5, 6, 7, 8] ⟨hv3.few, hin3, hv3.nd⟩ rfl rfl (by decide) rfl rfl rfl rfl rfl ?_
          intro L5 hp5
          try dsimp only at hp5
          obtain ⟨h51, h52, h53⟩ := hcp L5 hp5
          cbv; repeat' ((first | refine BrS.r ?_ | refine BrC.r ?_ | (first | fail)) <;> cbv))
       | ((refine cs9 hst ((⟨rc3, L5⟩ : Rg), nq5) [13, 14] trivial ?_; try dsimp only)
          rw [h53]
          cbv; repeat' ((first | refine BrS.r ?_ | refine BrC.r ?_ | (first | refine .y fun h => ?_ | refine .k fun z hz => ?_ | fail)) <;> cbv)))
      all_goals first | (exfalso; ((try simp only [vn] at *) <;> omega)) | skip
      all_goals
       obtain rfl : z = nI (q + 1) := om9
       refine roundG (Gh.sel (st' := ⟨[(1, .str name), (2, .sl 19 (mapA CallA l)), (3, .ptr 0 0), (7, .ptr 1 0), (8, .hd 9), (9, .i (nI k)), (10, .i (nI n0)), (11, .str frm), (12, .sl 5 (mapA HndA deliv3)), (13, .i (nI (q + 1)))], [.blk 29 [.sl 3 (mapA Pt3A parties), .sl 17 (mapA DeXA deals), .sl 3 (mapA En3A funds), .sl 1 (mapA IntA rest), .sl 1 (mapA IntA holidays)], .blk 118 [.str (⟨name3, parties3, deals3, ⟨rc3, rL3⟩, cust3, deliv3⟩ : Cr).name, .hd 2, .ph 3, .ptr 4 0, .ptr 6 0, .hd 8], .map 70 (mapA setF (⟨name3, parties3, deals3, ⟨rc3, rL3⟩, cust3, deliv3⟩ : Cr).parties), .pool 116 (mapA PelD (⟨name3, parties3, deals3, ⟨rc3, rL3⟩, cust3, deliv3⟩ : Cr).deals) [], .blk 122 [.str (⟨name3, parties3, deals3, ⟨rc3, rL3⟩, cust3, deliv3⟩ : Cr).reg.carrier, .ph 5], .pool 120 (mapA PelA (⟨name3, parties3, deals3, ⟨rc3, rL3⟩, cust3, deliv3⟩ : Cr).reg.bills) [], .blk 174 [.ph 7], .pool 172 (mapA PelH (⟨name3, parties3, deals3, ⟨rc3, rL3⟩, cust3, deliv3⟩ : Cr).cust) [], .tip 77 5 (mapA HndA (⟨name3, parties3, deals3, ⟨rc3, rL3⟩, cust3, deliv3⟩ : Cr).deliv), .map 70 (mapA setF sm2)]⟩) [0, 1, 2, 3, 4, 5, 6, 7, 8, 9] (by repeat' (first | exact trivial | refine ⟨.inl rfl, ?_⟩ | refine ⟨.inr rfl, ?_⟩)) rfl (by decide) rfl rfl) ?_
       exact roundV ⟨(m + 1, q + 1, sm2), hmm, by dsimp only; omega, hsq2⟩ (lft_lt (by omega))
    ·cbv; repeat' ((first | refine .e ?_ | refine .y fun h => ?_ | fail) <;> cbv)
     (refine cs9 hde (⟨name3, parties3, deals3, ⟨rc3, rL3⟩, cust3, deliv3⟩ : Cr) [1, 2, 3, 4, 5, 10, 11, 8] (by dsimp only; omega) ?_; try dsimp only)
     cbv; repeat' ((first | refine .n fun h => ?_ | refine .k fun z hz => ?_ | fail) <;> cbv)
     all_goals first | (exfalso; ((try simp only [vn] at *) <;> omega)) | skip
     refine xloopG (Gh.sel (st' := ⟨[(1, .str name), (2, .sl 19 (mapA CallA l)), (3, .ptr 0 0), (7, .ptr 1 0), (8, .hd 9), (9, .i (nI k)), (10, .i (nI n0)), (11, .str frm), (12, .sl 5 (mapA HndA deliv3)), (13, .i (nI n0))], [.blk 29 [.sl 3 (mapA Pt3A parties), .sl 17 (mapA DeXA deals), .sl 3 (mapA En3A funds), .sl 1 (mapA IntA rest), .sl 1 (mapA IntA holidays)], .blk 118 [.str (⟨name3, parties3, deals3, ⟨rc3, rL3⟩, cust3, deliv3⟩ : Cr).name, .hd 2, .ph 3, .ptr 4 0, .ptr 6 0, .hd 8], .map 70 (mapA setF (⟨name3, parties3, deals3, ⟨rc3, rL3⟩, cust3, deliv3⟩ : Cr).parties), .pool 116 (mapA PelD (⟨name3, parties3, deals3, ⟨rc3, rL3⟩, cust3, deliv3⟩ : Cr).deals) [], .blk 122 [.str (⟨name3, parties3, deals3, ⟨rc3, rL3⟩, cust3, deliv3⟩ : Cr).reg.carrier, .ph 5], .pool 120 (mapA PelA (⟨name3, parties3, deals3, ⟨rc3, rL3⟩, cust3, deliv3⟩ : Cr).reg.bills) [], .blk 174 [.ph 7], .pool 172 (mapA PelH (⟨name3, parties3, deals3, ⟨rc3, rL3⟩, cust3, deliv3⟩ : Cr).cust) [], .tip 77 5 (mapA HndA (⟨name3, parties3, deals3, ⟨rc3, rL3⟩, cust3, deliv3⟩ : Cr).deliv), .map 70 (mapA setF seen)]⟩) [0, 1, 2, 3, 4, 5, 10, 11, 8, 9] (by repeat' (first | exact trivial | refine ⟨.inl rfl, ?_⟩ | refine ⟨.inr rfl, ?_⟩)) rfl (by decide) rfl rfl) ?_
     obtain ⟨nb, hnb⟩ : ∃ n : Nat, n = bq5.length := ⟨_, rfl⟩
     refine xloopV [9] (fun p : { p : Nat × Nat × List ByteArray // p.1 ≤ bq5.length ∧ p.2.1 = n0 + p.1 ∧ p.2.2 = seen ++ bq5.take p.1 } => [(8, .hd 9), (13, .i (nI p.1.2.1))]) (fun p => [.blk 29 [.sl 3 (mapA Pt3A parties), .sl 17 (mapA DeXA deals), .sl 3 (mapA En3A funds), .sl 1 (mapA IntA rest), .sl 1 (mapA IntA holidays)], .blk 118 [.str (⟨name3, parties3, deals3, ⟨rc3, rL3⟩, cust3, deliv3⟩ : Cr).name, .hd 2, .ph 3, .ptr 4 0, .ptr 6 0, .hd 8], .map 70 (mapA setF (⟨name3, parties3, deals3, ⟨rc3, rL3⟩, cust3, deliv3⟩ : Cr).parties), .pool 116 (mapA PelD (⟨name3, parties3, deals3, ⟨rc3, rL3⟩, cust3, deliv3⟩ : Cr).deals) [], .blk 122 [.str (⟨name3, parties3, deals3, ⟨rc3, rL3⟩, cust3, deliv3⟩ : Cr).reg.carrier, .ph 5], .pool 120 (mapA PelA (⟨name3, parties3, deals3, ⟨rc3, rL3⟩, cust3, deliv3⟩ : Cr).reg.bills) [], .blk 174 [.ph 7], .pool 172 (mapA PelH (⟨name3, parties3, deals3, ⟨rc3, rL3⟩, cust3, deliv3⟩ : Cr).cust) [], .tip 77 5 (mapA HndA (⟨name3, parties3, deals3, ⟨rc3, rL3⟩, cust3, deliv3⟩ : Cr).deliv), .map 70 (mapA setF p.1.2.2)]) (fun p => lft nb p.1.1) ⟨(0, n0, seen), Nat.zero_le _, rfl, (List.append_nil _).symm⟩ ?_
     rintro ⟨⟨m, q, sm⟩, hm, hq, hsq⟩
     dsimp only at hm hq hsq ⊢
     rcases Nat.lt_or_ge m bq5.length with hmm | hmm
     rotate_left
     ·have hme : m = bq5.length := by omega
      rw [hme, List.take_length, ← hsm] at hsq
      cbv; repeat' ((first | refine .n fun h => ?_ | refine .k fun z hz => ?_ | fail) <;> cbv)
      all_goals first | (exfalso; ((try simp only [vn] at *) <;> omega)) | skip
      all_goals
       obtain rfl : z = nI (k + 1) := om9
       subst hsq
       exact roundV ⟨(k + 1, (⟨name3, parties3, deals3, ⟨rc3, rL3⟩, cust3, deliv3⟩ : Cr)), hks, hj3, hi3⟩ (lft_lt (by omega))
     obtain ⟨b, hb⟩ := some_at hmm
     have hxd : deliv3[q]? = some ⟨b, name, frm, place, oday⟩ := by
      rw [hd3, hq, hn0, List.getElem?_append_right (Nat.le_add_right _ _), Nat.add_sub_cancel_left, List.getElem?_map, hb]
      rfl
     have hnin : inT sm b = false := by
      rw [hsq]
      refine List.any_eq_false.2 fun c hc => ?_
      rcases List.mem_append.1 hc with hc | hc
      ·rw [hseen] at hc
       have : c ≠ b := fun e => gno b (List.mem_of_getElem? hb) (e ▸ hc)
       simpa using this
      ·have : c ≠ b := fun e => by
        subst e
        obtain ⟨j, hj⟩ := List.getElem?_of_mem hc
        obtain ⟨hj1, hj2⟩ := List.getElem?_eq_some_iff.1 hj
        rw [List.length_take] at hj1
        rw [List.getElem_take] at hj2
        obtain ⟨hb1, hb2⟩ := List.getElem?_eq_some_iff.1 hb
        have := nodup_inj2 gnd (i := j) (j := m) (hi := by omega) (hj := hb1) (hj2.trans hb2.symm)
        omega
       simpa using this
     cbv; repeat' ((first | refine BrS.r ?_ | refine BrC.r ?_ | (first | refine .e ?_ | refine .y fun h => ?_ | refine .k fun z hz => ?_ | fail)) <;> cbv)
     all_goals first | (exfalso; ((try simp only [vn] at *) <;> omega)) | skip
     obtain ⟨sm2, hsm2⟩ : ∃ q, q = sm ++ [b] := ⟨_, rfl⟩
     have hsq2 : sm2 = seen ++ bq5.take (m + 1) := by rw [hsm2, hsq, take_some hb, List.append_assoc]
     refine find_set (fun j hj => absurd ((inT_at hj).symm.trans hnin) (by decide)) fun hno => ?_
     cbv; repeat' ((first | refine BrS.r ?_ | refine BrC.r ?_ | (first | refine .e ?_ | refine .mk (fun h => ?_) fun h => ?_ | fail)) <;> cbv)
     all_goals first | (exfalso; exact hfe (by assumption)) | skip
     refine find_set (fun j hj => absurd ((inT_at hj).symm.trans hnin) (by decide)) fun hno2 => ?_
     cbv; repeat' ((first | refine BrS.r ?_ | refine BrC.r ?_ | (first | refine .e ?_ | refine .u fun u hu hul => ?_ | refine .ms fun ms hms => ?_ | refine And.intro ?_ ?_ | fail)) <;> cbv)
     all_goals
      obtain rfl : ms = mapA setF sm2 := by rw [hsm2, mapA_app, mapA_one]; exact hms
      obtain rfl : nq5 = u := by rw [hbn]; exact hu.symm
      repeat' (first
       | (refine callG_specN hre (⟨name3, parties3, deals3, ⟨rc3, rL3⟩, cust3, deliv3⟩ : Cr) [1, 2, 3, 4, 5, 6, 7, 8] ⟨hv3.few, hin3, hv3.nd⟩ rfl rfl (by decide) rfl rfl rfl rfl rfl ?_
          intro L4 hp4
          try dsimp only at hp4
          obtain ⟨h41, h42, h43⟩ := hcp L4 hp4
          cbv; repeat' ((first | refine BrS.r ?_ | refine BrC.r ?_ | (first | refine And.intro ?_ ?_ | fail)) <;> cbv))
       | ((refine cs9 hge ((⟨rc3, L4⟩ : Rg), nq5) [10, 11] h41 ?_; try dsimp only)
          rw [h42]
          cbv; repeat' ((first | refine BrS.r ?_ | refine BrC.r ?_ | (first | fail)) <;> cbv))
       | ((refine cs9 hge ((⟨rc3, L4⟩ : Rg), nq5) [11, 12] h41 ?_; try dsimp only)
          rw [h42]
          cbv; repeat' ((first | refine BrS.r ?_ | refine BrC.r ?_ | (first | fail)) <;> cbv)))
     all_goals first
     | refine xloopG (Gh.sel (st' := ⟨[(1, .str name), (2, .sl 19 (mapA CallA l)), (3, .ptr 0 0), (7, .ptr 1 0), (8, .hd 9), (9, .i (nI k)), (10, .i (nI n0)), (11, .str frm), (12, .sl 5 (mapA HndA deliv3)), (13, .i (nI q)), (14, .ptr 12 0), (15, .bl true), (16, .bl false), (17, .i 0)], [.blk 29 [.sl 3 (mapA Pt3A parties), .sl 17 (mapA DeXA deals), .sl 3 (mapA En3A funds), .sl 1 (mapA IntA rest), .sl 1 (mapA IntA holidays)], .blk 118 [.str (⟨name3, parties3, deals3, ⟨rc3, rL3⟩, cust3, deliv3⟩ : Cr).name, .hd 2, .ph 3, .ptr 4 0, .ptr 6 0, .hd 8], .map 70 (mapA setF (⟨name3, parties3, deals3, ⟨rc3, rL3⟩, cust3, deliv3⟩ : Cr).parties), .pool 116 (mapA PelD (⟨name3, parties3, deals3, ⟨rc3, rL3⟩, cust3, deliv3⟩ : Cr).deals) [], .blk 122 [.str (⟨name3, parties3, deals3, ⟨rc3, rL3⟩, cust3, deliv3⟩ : Cr).reg.carrier, .ph 5], .pool 120 (mapA PelA (⟨name3, parties3, deals3, ⟨rc3, rL3⟩, cust3, deliv3⟩ : Cr).reg.bills) [], .blk 174 [.ph 7], .pool 172 (mapA PelH (⟨name3, parties3, deals3, ⟨rc3, rL3⟩, cust3, deliv3⟩ : Cr).cust) [], .tip 77 5 (mapA HndA (⟨name3, parties3, deals3, ⟨rc3, rL3⟩, cust3, deliv3⟩ : Cr).deliv), .map 70 (mapA setF sm2), .blk 122 [.str rc3, .ph 11], .pool 120 (mapA PelA L4) [], .blk 79 [.str nq5, .str cq5, .str sq5, .str frm5, .str to5, .sl 1 (mapA .str bq5), .sl 1 (mapA .str pq5), .i iq5, .bl lq5]]⟩) [0, 1, 2, 3, 4, 5, 6, 7, 8, 9, 10, 11, 12] (by repeat' (first | exact trivial | refine ⟨.inl rfl, ?_⟩ | refine ⟨.inr rfl, ?_⟩)) rfl (by decide) rfl rfl) ?_
     | refine xloopG (Gh.sel (st' := ⟨[(1, .str name), (2, .sl 19 (mapA CallA l)), (3, .ptr 0 0), (7, .ptr 1 0), (8, .hd 9), (9, .i (nI k)), (10, .i (nI n0)), (11, .str frm), (12, .sl 5 (mapA HndA deliv3)), (13, .i (nI q)), (14, .ptr 12 0), (15, .bl true), (16, .bl false), (17, .i 0)], [.blk 29 [.sl 3 (mapA Pt3A parties), .sl 17 (mapA DeXA deals), .sl 3 (mapA En3A funds), .sl 1 (mapA IntA rest), .sl 1 (mapA IntA holidays)], .blk 118 [.str (⟨name3, parties3, deals3, ⟨rc3, rL3⟩, cust3, deliv3⟩ : Cr).name, .hd 2, .ph 3, .ptr 4 0, .ptr 6 0, .hd 8], .map 70 (mapA setF (⟨name3, parties3, deals3, ⟨rc3, rL3⟩, cust3, deliv3⟩ : Cr).parties), .pool 116 (mapA PelD (⟨name3, parties3, deals3, ⟨rc3, rL3⟩, cust3, deliv3⟩ : Cr).deals) [], .blk 122 [.str (⟨name3, parties3, deals3, ⟨rc3, rL3⟩, cust3, deliv3⟩ : Cr).reg.carrier, .ph 5], .pool 120 (mapA PelA (⟨name3, parties3, deals3, ⟨rc3, rL3⟩, cust3, deliv3⟩ : Cr).reg.bills) [], .blk 174 [.ph 7], .pool 172 (mapA PelH (⟨name3, parties3, deals3, ⟨rc3, rL3⟩, cust3, deliv3⟩ : Cr).cust) [], .tip 77 5 (mapA HndA (⟨name3, parties3, deals3, ⟨rc3, rL3⟩, cust3, deliv3⟩ : Cr).deliv), .map 70 (mapA setF sm2), .blk 122 [.str rc3, .ph 11], .pool 120 (mapA PelA L4) [], .blk 79 [.str nq5, .str cq5, .str sq5, .str frm5, .str to5, .sl 1 (mapA .str bq5), .sl 1 (mapA .str pq5), .i iq5, .bl lq5]]⟩) [0, 1, 2, 3, 4, 5, 6, 7, 8, 9, 11, 12, 10] (by repeat' (first | exact trivial | refine ⟨.inl rfl, ?_⟩ | refine ⟨.inr rfl, ?_⟩)) rfl (by decide) rfl rfl) ?_
     all_goals
      refine xloopV [9] (fun p : { p : Nat × Bool // p.1 ≤ bq5.length ∧ p.2 = inT (bq5.take p.1) b } => [(8, .hd 9), (16, .bl p.1.2), (17, .i (nI p.1.1))]) (fun _ => [.blk 29 [.sl 3 (mapA Pt3A parties), .sl 17 (mapA DeXA deals), .sl 3 (mapA En3A funds), .sl 1 (mapA IntA rest), .sl 1 (mapA IntA holidays)], .blk 118 [.str (⟨name3, parties3, deals3, ⟨rc3, rL3⟩, cust3, deliv3⟩ : Cr).name, .hd 2, .ph 3, .ptr 4 0, .ptr 6 0, .hd 8], .map 70 (mapA setF (⟨name3, parties3, deals3, ⟨rc3, rL3⟩, cust3, deliv3⟩ : Cr).parties), .pool 116 (mapA PelD (⟨name3, parties3, deals3, ⟨rc3, rL3⟩, cust3, deliv3⟩ : Cr).deals) [], .blk 122 [.str (⟨name3, parties3, deals3, ⟨rc3, rL3⟩, cust3, deliv3⟩ : Cr).reg.carrier, .ph 5], .pool 120 (mapA PelA (⟨name3, parties3, deals3, ⟨rc3, rL3⟩, cust3, deliv3⟩ : Cr).reg.bills) [], .blk 174 [.ph 7], .pool 172 (mapA PelH (⟨name3, parties3, deals3, ⟨rc3, rL3⟩, cust3, deliv3⟩ : Cr).cust) [], .tip 77 5 (mapA HndA (⟨name3, parties3, deals3, ⟨rc3, rL3⟩, cust3, deliv3⟩ : Cr).deliv), .map 70 (mapA setF sm2), .blk 122 [.str rc3, .ph 11], .pool 120 (mapA PelA L4) [], .blk 79 [.str nq5, .str cq5, .str sq5, .str frm5, .str to5, .sl 1 (mapA .str bq5), .sl 1 (mapA .str pq5), .i iq5, .bl lq5]]) (fun p => lft nb p.1.1) ⟨(0, false), Nat.zero_le _, rfl⟩ ?_
      rintro ⟨⟨j, bo⟩, hj, hbo⟩
      dsimp only at hj hbo ⊢
      rcases Nat.lt_or_ge j bq5.length with hjs | hjs
      ·obtain ⟨c, hc⟩ := some_at hjs
       have hnx : inT (bq5.take (j + 1)) b = (bo || decide (c = b)) := by
        unfold inT at hbo ⊢
        rw [take_some hc, List.any_append, ← hbo]
        simp
       cases bo with
       | true =>
        have hnx : true = inT (bq5.take (j + 1)) b := hnx.symm
        cbv; repeat' ((first | refine BrS.r ?_ | refine BrC.r ?_ | (first | refine .y fun h => ?_ | refine .k fun z hz => ?_ | fail)) <;> cbv)
        all_goals first | (exfalso; ((try simp only [vn] at *) <;> omega)) | skip
        all_goals
         obtain rfl : z = nI (j + 1) := om9
         exact roundV ⟨(j + 1, true), hjs, hnx⟩ (lft_lt (by omega))
       | false =>
        by_cases hcb : c = b
        ·have hnx : true = inT (bq5.take (j + 1)) b := by rw [hnx, decide_eq_true hcb]; rfl
         subst hcb
         cbv; repeat' ((first | refine BrS.r ?_ | refine BrC.r ?_ | (first | refine .e ?_ | refine .y fun h => ?_ | refine .k fun z hz => ?_ | fail)) <;> cbv)
         all_goals first | (exfalso; ((try simp only [vn] at *) <;> omega)) | skip
         all_goals
          obtain rfl : z = nI (j + 1) := om9
          exact roundV ⟨(j + 1, true), hjs, hnx⟩ (lft_lt (by omega))
        ·have hnx : false = inT (bq5.take (j + 1)) b := by rw [hnx, decide_eq_false hcb]; rfl
         cbv; repeat' ((first | refine BrS.r ?_ | refine BrC.r ?_ | (first | refine .e ?_ | refine .y fun h => ?_ | refine .mk (fun h => ?_) fun h => ?_ | refine .k fun z hz => ?_ | fail)) <;> cbv)
         all_goals first | (exfalso; exact hcb (by assumption)) | (exfalso; ((try simp only [vn] at *) <;> omega)) | skip
         all_goals
          obtain rfl : z = nI (j + 1) := om9
          exact roundV ⟨(j + 1, false), hjs, hnx⟩ (lft_lt (by omega))
      have hbt : bo = true := by
       rw [hbo, List.take_of_length_le hjs]
       exact List.any_eq_true.2 ⟨b, List.mem_of_getElem? hb, by simp⟩
      subst hbt
      cbv; repeat' ((first | refine BrS.r ?_ | refine BrC.r ?_ | (first | refine .n fun h => ?_ | refine .k fun z hz => ?_ | fail)) <;> cbv)
      all_goals first | (exfalso; ((try simp only [vn] at *) <;> omega)) | skip
      repeat' (first
       | (refine callG_specN hre (⟨name3, parties3, deals3, ⟨rc3, rL3⟩, cust3, deliv3⟩ : Cr) [1, 2, 3, 4, 5, 6, 7, 8] ⟨hv3.few, hin3, hv3.nd⟩ rfl rfl (by decide) rfl rfl rfl rfl rfl ?_
          intro L5 hp5
          try dsimp only at hp5
          obtain ⟨h51, h52, h53⟩ := hcp L5 hp5
          cbv; repeat' ((first | refine BrS.r ?_ | refine BrC.r ?_ | (first | fail)) <;> cbv))
       | ((refine cs9 hst ((⟨rc3, L5⟩ : Rg), nq5) [13, 14] trivial ?_; try dsimp only)
          rw [h53]
          cbv; repeat' ((first | refine BrS.r ?_ | refine BrC.r ?_ | (first | refine .y fun h => ?_ | refine .k fun z hz => ?_ | fail)) <;> cbv)))
      all_goals first | (exfalso; ((try simp only [vn] at *) <;> omega)) | skip
      all_goals
       obtain rfl : z = nI (q + 1) := om9
       refine roundG (Gh.sel (st' := ⟨[(1, .str name), (2, .sl 19 (mapA CallA l)), (3, .ptr 0 0), (7, .ptr 1 0), (8, .hd 9), (9, .i (nI k)), (10, .i (nI n0)), (11, .str frm), (12, .sl 5 (mapA HndA deliv3)), (13, .i (nI (q + 1)))], [.blk 29 [.sl 3 (mapA Pt3A parties), .sl 17 (mapA DeXA deals), .sl 3 (mapA En3A funds), .sl 1 (mapA IntA rest), .sl 1 (mapA IntA holidays)], .blk 118 [.str (⟨name3, parties3, deals3, ⟨rc3, rL3⟩, cust3, deliv3⟩ : Cr).name, .hd 2, .ph 3, .ptr 4 0, .ptr 6 0, .hd 8], .map 70 (mapA setF (⟨name3, parties3, deals3, ⟨rc3, rL3⟩, cust3, deliv3⟩ : Cr).parties), .pool 116 (mapA PelD (⟨name3, parties3, deals3, ⟨rc3, rL3⟩, cust3, deliv3⟩ : Cr).deals) [], .blk 122 [.str (⟨name3, parties3, deals3, ⟨rc3, rL3⟩, cust3, deliv3⟩ : Cr).reg.carrier, .ph 5], .pool 120 (mapA PelA (⟨name3, parties3, deals3, ⟨rc3, rL3⟩, cust3, deliv3⟩ : Cr).reg.bills) [], .blk 174 [.ph 7], .pool 172 (mapA PelH (⟨name3, parties3, deals3, ⟨rc3, rL3⟩, cust3, deliv3⟩ : Cr).cust) [], .tip 77 5 (mapA HndA (⟨name3, parties3, deals3, ⟨rc3, rL3⟩, cust3, deliv3⟩ : Cr).deliv), .map 70 (mapA setF sm2)]⟩) [0, 1, 2, 3, 4, 5, 6, 7, 8, 9] (by repeat' (first | exact trivial | refine ⟨.inl rfl, ?_⟩ | refine ⟨.inr rfl, ?_⟩)) rfl (by decide) rfl rfl) ?_
       exact roundV ⟨(m + 1, q + 1, sm2), hmm, by dsimp only; omega, hsq2⟩ (lft_lt (by omega))
theorem kl_once51 : FnOk Tryz.prog 4 LwC := body_ok (by kernel_rfl) (once51_body _ k_awake51 k_few k_cnewcr k_cact k_ctake k_ctick k_cdel k_creg k_get k_state)
end Go.Proofs.YtigdiekbiphhmaaGreatDoor
namespace Go.Proofs.YtigdiekbiphhmaaGreatDoor
open Go.RowKit Go.Lib

def valD {H : Type} : Value → DataW H
  | .int k z => .lit (.int k z)
  | .string s => .lit (.string s.data.toList)
  | _ => .nil
theorem cells_of_arr {H : Type} {enc : TypeId × Value → H} {P : Program} {w : World} {base : Nat} {sp : Nat → Bool} {held : Bool} {fuel : Nat} {t e : TypeId} {n : Nat} {cs vs : List Value} {p : List MemPlace}
    (ht : P.underlying t = some (.array n e)) (he : (∃ k, P.underlying e = some (.int k)) ∨ P.underlying e = some .string) (hce : P.cellsOf e = 1) (hct : P.cellsOf t = n)
    (h : DataW.trod enc P w base sp held fuel t cs = some (.agg (vs.map valD), p)) : cs = vs := by
  cases fuel with
  | zero => simp [DataW.trod] at h
  | succ fuel =>
    simp only [DataW.trod, ht, hce, hct, Nat.mul_one] at h
    split at h
    · rename_i hl
      obtain ⟨xs, hm, hx⟩ := Option.map_eq_some_iff.1 h
      have hxs : xs.map (·.1) = vs.map valD := by
        have := congrArg Prod.fst hx
        simpa using this
      have hxl : xs.length = n := by simpa using mapM_length hm
      have hzl : vs.length = n := by
        have := congrArg List.length hxs
        simp at this
        omega
      apply List.ext_getElem?
      intro i
      by_cases hi : i < n
      · obtain ⟨b, hb, hf⟩ := mapM_at hm i i (by simp [hi])
        have hvi : vs[i]? = some vs[i] := List.getElem?_eq_getElem (by omega)
        have h2 : b.1 = valD vs[i] := by
          have e1 : (xs.map (·.1))[i]? = some b.1 := by simp [hb]
          rw [hxs, List.getElem?_map, hvi] at e1
          exact (Option.some.inj e1).symm
        rcases he with ⟨k, he⟩ | he
        · obtain ⟨z, hc, rfl, _⟩ := DataW.trod_int he hf
          have h1 : cs[i]? = some (.int k z) := by
            have := congrArg (·[0]?) hc
            simpa [List.getElem?_take, List.getElem?_drop] using this
          rw [h1, hvi]
          dsimp only at h2
          cases hv : vs[i] with
          | int k' z' => rw [hv] at h2; simp only [valD, DataW.lit.injEq, Lit.int.injEq] at h2; obtain ⟨rfl, rfl⟩ := h2; rfl
          | string s => rw [hv] at h2; simp [valD] at h2
          | _ => rw [hv] at h2; simp [valD] at h2
        · obtain ⟨s, hc, hs, _⟩ := DataW.trod_string he hf
          have h1 : cs[i]? = some (.string s) := by
            have := congrArg (·[0]?) hc
            simpa [List.getElem?_take, List.getElem?_drop] using this
          rw [h1, hvi]
          rw [hs] at h2
          dsimp only at h2
          cases hv : vs[i] with
          | int k' z' => rw [hv] at h2; simp [valD] at h2
          | string s' =>
            rw [hv] at h2
            simp only [valD, DataW.lit.injEq, Lit.string.injEq] at h2
            have : s = s' := ByteArray.ext (Array.toList_inj.1 h2)
            rw [this]
          | _ => rw [hv] at h2; simp [valD] at h2
      · rw [List.getElem?_eq_none (by omega), List.getElem?_eq_none (by omega)]
    · cases h
theorem var_of_head {P : Program} {W : World} {name : String} {vs : List Value} {d : DataW Unit} {rest : List (String × DataW Unit)} {g : Nat} {t e : TypeId} {n : Nat}
    (hg : P.globalNamed name = some g) (hty : (P.globals[g]?).map (·.type) = some t) (ht : P.underlying t = some (.array n e)) (he : (∃ k, P.underlying e = some (.int k)) ∨ P.underlying e = some .string) (hce : P.cellsOf e = 1) (hct : P.cellsOf t = n)
    (hd : d = .agg (vs.map valD)) (h : laidMet P ((name, d) :: rest) W) : ∃ t' f, W.heap[g]? = some (.cells vs.toArray t' f) := by
  obtain ⟨ps, ⟨g', t', cs, fuel, p, q, hg', ht', hvar, hdd, _, _⟩, _⟩ := h
  obtain rfl := Option.some.inj (hg.symm.trans hg')
  obtain rfl := Option.some.inj (hty.symm.trans ht')
  subst hd
  have hcs := cells_of_arr ht he hce hct hdd
  unfold World.var? at hvar
  rw [hg] at hvar
  simp only [Option.bind_some] at hvar
  split at hvar
  · rename_i c t2 f hb
    refine ⟨t2, f, ?_⟩
    rw [hb]
    have e1 : c = cs := by simpa using hvar
    rw [e1, ← hcs]
  · cases hvar
theorem globOk_at {w : World} {g : Nat} {vs : List Value} (h : ∃ t f, w.heap[g]? = some (.cells vs.toArray t f)) : ∀ i u, vs[i]? = some u → i < pubW w g ∧ w.cell? ⟨g, i, none⟩ = some u ∧ lenW w g = some vs.length := fun i u hu => by
  obtain ⟨t, f, hb⟩ := h
  have hi : i < vs.length := (List.getElem?_eq_some_iff.1 hu).1
  refine ⟨?_, ?_, ?_⟩
  · unfold pubW; rw [hb]; simpa using hi
  · unfold World.cell?; simp [hb, hu]
  · unfold lenW; rw [hb]; simp
end Go.Proofs.YtigdiekbiphhmaaGreatDoor
namespace Go.Proofs.YtigdiekbiphhmaaGreatDoor
open Go Go.Lib
theorem laid_tail {P : Program} {W : World} {x : String × DataW Unit} {rest : List (String × DataW Unit)} (h : laidMet P (x :: rest) W) : laidMet P rest W := by
 obtain ⟨ps, ⟨g, t, cs, fuel, p, q, _, _, _, _, hr, rfl⟩, hnd, hc⟩ := h
 exact ⟨q, hr, (List.nodup_append.1 hnd).2.1, fun b off hm => hc b off (List.mem_append_right _ hm)⟩
theorem glob_of {W : World} (h : laidMetH Tryz.prog [("math/bits.deBruijn32tab", Rows.laid_math_bits_deBruijn32tab), ("math/bits.deBruijn64tab", Rows.laid_math_bits_deBruijn64tab), ("internal/strconv.uint64pow10", Rows.laid_internal_strconv_uint64pow10), ("supercargo/post.kinds", Rows.laid_supercargo_post_kinds)] W) : GlobOk (pubW W) W := by
 rw [MakeChecks.laidMetH_plain _ _ _ (by kernel_rfl)] at h
 have h0 := var_of_head (vs := glob 5) (g := 5) (t := 292) (e := 5) (n := 32) (by kernel_rfl) (by kernel_rfl) (by kernel_rfl) (.inl ⟨.u8, by kernel_rfl⟩) (by kernel_rfl) (by kernel_rfl) (by rfl) h
 replace h := laid_tail h
 have h1 := var_of_head (vs := glob 6) (g := 6) (t := 293) (e := 5) (n := 64) (by kernel_rfl) (by kernel_rfl) (by kernel_rfl) (.inl ⟨.u8, by kernel_rfl⟩) (by kernel_rfl) (by kernel_rfl) (by rfl) h
 replace h := laid_tail h
 have h2 := var_of_head (vs := glob 4) (g := 4) (t := 281) (e := 260) (n := 20) (by kernel_rfl) (by kernel_rfl) (by kernel_rfl) (.inl ⟨.u64, by kernel_rfl⟩) (by kernel_rfl) (by kernel_rfl) (by rfl) h
 replace h := laid_tail h
 have h3 := var_of_head (vs := glob 2) (g := 2) (t := 272) (e := 9) (n := 29) (by kernel_rfl) (by kernel_rfl) (by kernel_rfl) (.inr (by kernel_rfl)) (by kernel_rfl) (by kernel_rfl) (by rfl) h
 refine ⟨fun g i u hu => ?_, fun g hg => ?_⟩
 ·by_cases e0 : g = 5
  ·subst e0; exact globOk_at h0 i u hu
  by_cases e1 : g = 6
  ·subst e1; exact globOk_at h1 i u hu
  by_cases e2 : g = 4
  ·subst e2; exact globOk_at h2 i u hu
  by_cases e3 : g = 2
  ·subst e3; exact globOk_at h3 i u hu
  have e : glob g = [] := by unfold glob; split <;> first | rfl | contradiction
  rw [e] at hu; cases hu
 ·exact absurd hg (by unfold globI; simp)
end Go.Proofs.YtigdiekbiphhmaaGreatDoor
end
