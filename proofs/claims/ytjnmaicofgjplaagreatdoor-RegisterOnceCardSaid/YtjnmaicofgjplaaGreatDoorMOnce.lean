/-
  Texts of this proof, joined: UE, KOnce.
-/
import Derived.Test.YtjnmaicofgjplaaGreatDoorJ6
set_option linter.unusedVariables false
set_option linter.unusedSimpArgs false
namespace Go.Proofs.YtjnmaicofgjplaaGreatDoor
def x3 : XFn := ⟨220, .seq (.reg [(zs 6 (.mov (.c (.bl false))))]) (.seq (.seq (.reg [(zs 21 (.call 12 [])), (zs 22 (.not (.t 21)))]) (.cond (.t 22) (.seq (.reg [(zs 6 (.mov (.c (.bl false))))]) .ret) .skip)) (.seq (.seq (.reg [(zm 23 0), (zs 24 (.call 13 [.t 23])), (zs 25 (.not (.t 24))), (zm 26 25), (zh 27 26 false 1), (zg 28 26 false (.call 13 [.t 27])), (zg 29 26 false (.not (.t 28))), (zs 30 (.pick (.t 26) (.c (.bl true)) (.t 29))), (zm 31 30), (zh 32 31 false 2), (zg 33 31 false (.lens (.t 32))), (zg 34 31 false (.cmp .gtr (.t 33) (.c (.int .i64 100)))), (zs 35 (.pick (.t 31) (.c (.bl true)) (.t 34)))]) (.cond (.t 35) (.seq (.reg [(zs 6 (.mov (.c (.bl true))))]) .ret) .skip)) (.seq (.reg [(zm 37 0), (zs 38 (.call 14 [.t 37])), (zm 36 38), (zs 39 (.ext (.t 36) 0)), (zs 40 (.ext (.t 36) 1)), (zs 8 (.alloc 28 [.str ⟨#[]⟩, .v (.slice none 0 0)])), (zm 7 39), (zn (.st 2 (.t 8) (.t 40)))]) (.seq (.seq (.reg [(zm 41 7), (zs 42 (.cmn false (.t 41)))]) (.cond (.t 42) (.seq (.reg [(zs 6 (.mov (.c (.bl false))))]) .ret) .skip)) (.seq (.reg [(zm 43 7), (zm 44 2), (zs 45 (.call 15 [.t 43, .t 44])), (zm 9 45)]) (.seq (.seq (.reg [(zm 46 9), (zs 47 (.cmp .neq (.t 46) (.c (.int .i64 1)))), (zm 48 47), (zh 49 48 true 9), (zg 50 48 true (.cmp .neq (.t 49) (.c (.int .i64 4)))), (zs 51 (.pick (.t 48) (.t 50) (.c (.bl false))))]) (.cond (.t 51) (.seq (.reg [(zm 52 9), (zs 53 (.cmp .eql (.t 52) (.c (.int .i64 (-1))))), (zm 54 53), (zh 55 54 false 9), (zg 56 54 false (.cmp .eql (.t 55) (.c (.int .i64 0)))), (zs 57 (.pick (.t 54) (.c (.bl true)) (.t 56))), (zm 6 57)]) .ret) .skip)) (.seq (.reg [(zm 59 7), (zm 60 2), (zs 61 (.call 16 [.t 59, .t 60])), (zm 58 61), (zs 62 (.ext (.t 58) 0)), (zs 63 (.ext (.t 58) 1)), (zs 10 (.alloc 34 [.str ⟨#[]⟩, .str ⟨#[]⟩, .str ⟨#[]⟩, .str ⟨#[]⟩, .str ⟨#[]⟩, .v (.slice none 0 0), .v (.slice none 0 0), .int .i64 0, .bl false])), (zn (.st 9 (.t 10) (.t 62))), (zm 11 63)]) (.seq (.seq (.reg [(zs 12 (.mov (.c (.int .i64 0))))]) (.block 0 (.loop (.seq (.seq (.reg [(zm 64 12), (zm 65 1), (zs 66 (.lenl (.t 65))), (zs 67 (.cmp .lss (.t 64) (.t 66)))]) (.cond (.t 67) .skip (.exit 0))) (.seq (.block 1 (.seq (.reg [(zm 70 1), (zm 71 12), (zs 72 (.iad 15 (.t 70) (.t 71))), (zs 73 (.ld true 15 (.t 72))), (zs 13 (.alloc 38 [.int .i64 0, .int .i64 0, .int .i64 0, .str ⟨#[]⟩, .str ⟨#[]⟩, .str ⟨#[]⟩, .str ⟨#[]⟩, .str ⟨#[]⟩, .str ⟨#[]⟩, .str ⟨#[]⟩, .str ⟨#[]⟩, .v (.slice none 0 0), .v (.slice none 0 0), .int .i64 0, .bl false])), (zn (.st 15 (.t 13) (.t 73)))]) (.seq (.reg [(zm 74 2), (zf 75 3 13), (zn (.st 1 (.t 75) (.t 74)))]) (.seq (.seq (.reg [(zf 76 0 13), (zl 77 76), (zs 78 (.cmp .eql (.t 77) (.c (.int .i64 0))))]) (.cond (.t 78) (.seq (.reg [(zm 79 7), (zf 80 6 13), (zs 81 (.ld true 9 (.t 80))), (zf 82 5 13), (zl 83 82), (zs 84 (.call 17 [.t 79, .t 81, .t 83]))]) (.exit 1)) .skip)) (.seq (.reg [(zs 14 (.mov (.c (.int .i64 0))))]) (.seq (.seq (.reg [(zf 85 0 13), (zl 86 85)]) (.block 2 (.seq (.reg [(zs 88 (.cmp .eql (.t 86) (.c (.int .i64 1)))), (zm 87 88)]) (.cond (.t 87) (.reg [(zm 89 7), (zm 90 2), (zf 91 1 13), (zl 92 91), (zf 93 4 13), (zl 94 93), (zf 95 5 13), (zl 96 95), (zf 97 2 13), (zl 98 97), (zs 99 (.call 18 [.t 89, .t 90, .t 92, .t 94, .t 96, .t 98])), (zm 14 99)]) (.seq (.reg [(zs 101 (.cmp .eql (.t 86) (.c (.int .i64 2)))), (zm 100 101)]) (.cond (.t 100) (.reg [(zm 103 7), (zm 104 2), (zf 105 1 13), (zl 106 105), (zf 107 4 13), (zl 108 107), (zf 109 2 13), (zl 110 109), (zs 111 (.call 19 [.t 103, .t 104, .t 106, .t 108, .t 110])), (zm 102 111), (zs 112 (.ext (.t 102) 0)), (zs 113 (.ext (.t 102) 1)), (zm 14 113)]) (.seq (.reg [(zs 115 (.cmp .eql (.t 86) (.c (.int .i64 3)))), (zm 114 115)]) (.cond (.t 114) (.reg [(zm 116 7), (zm 117 2), (zf 118 1 13), (zl 119 118), (zf 120 4 13), (zl 121 120), (zs 122 (.call 20 [.t 116, .t 117, .t 119, .t 121])), (zm 14 122)]) (.seq (.reg [(zs 124 (.cmp .eql (.t 86) (.c (.int .i64 4)))), (zm 123 124)]) (.cond (.t 123) (.reg [(zm 125 7), (zm 126 2), (zf 127 1 13), (zl 128 127), (zf 129 4 13), (zl 130 129), (zf 131 2 13), (zl 132 131), (zs 133 (.call 21 [.t 125, .t 126, .t 128, .t 130, .t 132])), (zm 14 133)]) (.seq (.reg [(zs 135 (.cmp .eql (.t 86) (.c (.int .i64 5)))), (zm 134 135)]) (.cond (.t 134) (.reg [(zm 136 7), (zm 137 2), (zf 138 4 13), (zl 139 138), (zf 140 2 13), (zl 141 140), (zs 142 (.call 22 [.t 136, .t 137, .t 139, .t 141])), (zm 14 142)]) .skip)))))))))))) (.seq (.reg [(zm 143 14), (zs 144 (.cmp .eql (.t 143) (.c (.int .i64 0)))), (zm 145 144), (zh 146 145 false 7), (zh 147 145 false 2), (zg 148 145 false (.call 15 [.t 146, .t 147])), (zh 149 145 false 9), (zg 150 145 false (.cmp .neq (.t 148) (.t 149))), (zs 151 (.pick (.t 145) (.c (.bl true)) (.t 150)))]) (.cond (.t 151) (.seq (.reg [(zs 6 (.mov (.c (.bl false))))]) .ret) .skip)))))))) (.reg [(zm 68 12), (zs 69 (.ari .add .i64 (.t 68) (.c (.int .i64 1)))), (zm 12 69)])))))) (.seq (.reg [(zs 15 (.mov (.c (.int .i64 0))))]) (.seq (.reg [(zm 152 7), (zm 153 2), (zs 154 (.call 23 [.t 152, .t 153])), (zm 16 154)]) (.seq (.seq (.reg [(zs 17 (.mov (.c (.int .i64 0))))]) (.block 3 (.loop (.seq (.seq (.reg [(zm 155 17), (zm 156 16), (zs 157 (.lenl (.t 156))), (zs 158 (.cmp .lss (.t 155) (.t 157)))]) (.cond (.t 158) .skip (.exit 3))) (.seq (.block 4 (.seq (.seq (.reg [(zm 161 16), (zm 162 17), (zs 163 (.iad 4 (.t 161) (.t 162))), (zf 164 2 163), (zl 165 164), (zs 166 (.cmp .eql (.t 165) (.c (.int .i64 0)))), (zm 167 166), (zh 168 167 false 16), (zh 169 167 false 17), (zg 170 167 false (.iad 4 (.t 168) (.t 169))), (zg 171 167 false (.fad 2 (.t 170))), (zg 172 167 false (.ld false 1 (.t 171))), (zg 173 167 false (.cmp .eql (.t 172) (.c (.int .i64 3)))), (zs 174 (.pick (.t 167) (.c (.bl true)) (.t 173)))]) (.cond (.t 174) (.seq (.reg [(zs 6 (.mov (.c (.bl false))))]) .ret) .skip)) (.seq (.reg [(zm 175 16), (zm 176 17), (zs 177 (.iad 4 (.t 175) (.t 176))), (zf 178 2 177), (zl 179 178), (zs 180 (.cmp .eql (.t 179) (.c (.int .i64 1))))]) (.cond (.t 180) (.reg [(zm 181 15), (zs 182 (.ari .add .i64 (.t 181) (.c (.int .i64 1)))), (zm 15 182)]) .skip)))) (.reg [(zm 159 17), (zs 160 (.ari .add .i64 (.t 159) (.c (.int .i64 1)))), (zm 17 160)])))))) (.seq (.seq (.reg [(zs 18 (.mov (.c (.int .i64 0))))]) (.block 5 (.loop (.seq (.seq (.reg [(zm 183 18), (zf 184 5 10), (zl 185 184), (zs 186 (.lenl (.t 185))), (zs 187 (.cmp .lss (.t 183) (.t 186)))]) (.cond (.t 187) .skip (.exit 5))) (.seq (.block 6 (.seq (.reg [(zm 191 7), (zf 192 5 10), (zl 193 192), (zm 194 18), (zs 195 (.iad 1 (.t 193) (.t 194))), (zl 196 195), (zs 197 (.call 24 [.t 191, .t 196])), (zm 190 197), (zs 198 (.ext (.t 190) 0)), (zs 199 (.ext (.t 190) 1)), (zm 19 198), (zm 20 199)]) (.seq (.reg [(zm 200 20), (zm 201 200), (zh 202 201 true 19), (zh 203 201 true 2), (zg 204 201 true (.cmp .eql (.t 202) (.t 203))), (zs 205 (.pick (.t 201) (.t 204) (.c (.bl false))))]) (.cond (.t 205) (.seq (.reg [(zs 6 (.mov (.c (.bl false))))]) .ret) .skip)))) (.reg [(zm 188 18), (zs 189 (.ari .add .i64 (.t 188) (.c (.int .i64 1)))), (zm 18 189)])))))) (.seq (.reg [(zm 206 16), (zs 207 (.lenl (.t 206))), (zs 208 (.cmp .eql (.t 207) (.c (.int .i64 3)))), (zm 209 208), (zh 210 209 true 15), (zg 211 209 true (.cmp .eql (.t 210) (.c (.int .i64 1)))), (zh 212 209 true 9), (zg 213 209 true (.cmp .eql (.t 212) (.c (.int .i64 1)))), (zg 214 209 true (.cmb .eql (.t 211) (.t 213))), (zs 215 (.pick (.t 209) (.t 214) (.c (.bl false)))), (zm 216 215), (zh 217 216 true 15), (zg 218 216 true (.cmp .leq (.t 217) (.c (.int .i64 1)))), (zs 219 (.pick (.t 216) (.t 218) (.c (.bl false)))), (zm 6 219)]) .ret))))))))))))), [.tmp 6]⟩
end Go.Proofs.YtjnmaicofgjplaaGreatDoor
namespace Go.Proofs.YtjnmaicofgjplaaGreatDoor
open Go.RowKit
set_option maxHeartbeats 8000000
set_option maxRecDepth 100000
/-! ### RegisterOnce -/
structure OnceI where
 l : List At
 m : List At
 bill : ByteArray
noncomputable def OnceC : Ctr := spec (fun i : OnceI => [.sl 15 (mapA AtA i.l), .sl 15 (mapA AtA i.m), .str i.bill]) (fun _ => []) (fun i => InL i.l ∧ InL i.m ∧ sz47 i.bill) (fun _ => .bl true) fun _ => []
def fstC : XCode → XCode
 | .seq a _ => a
 | c => c
def onceTail : XCode := sndC (sndC (sndC (sndC (sndC (sndC (sndC (sndC x3.body)))))))
theorem once_loop (P : Program) (hst : FnOk P 15 StateC) (hiss : FnOk P 17 IssueC)
  (hend : FnOk P 18 EndorseC) (hsur : FnOk P 19 SurrenderC) (hlose : FnOk P 20 LoseC) (hrep : FnOk P 21 ReplaceC) (hret : FnOk P 22 RetireC)
  {m : List At} {bill c : ByteArray} {L0 : List Br} {y : Br} {st : Int} {number2 carrier2 shipper2 frm2 to2 : ByteArray} {boxes2 parents2 : List ByteArray} {issued2 : Int} {clean2 : Bool} {Q : XEx → St → Prop} (hr2 : RightL m) (hstt : st = y.st) (hsn : ¬ y.st = 0) (hinv : Inv 41 ⟨c, L0⟩) (hy : lkN L0 bill = some y)
  (hQ : ∀ k L, k ≤ m.length → Inv (41 + k) ⟨c, L⟩ → lkN L bill = some y → ∀ s, Gh 0 s ⟨[(2, .str bill), (7, .ptr 0 0), (9, .i st), (10, .ptr 3 0)], [.blk 80 [.str c, .ph 1], .pool 78 (mapA PelA L) [], .blk 28 [.str c, .sl 11 (mapA RbA L0)], .blk 34 (BlL ⟨number2, carrier2, shipper2, frm2, to2, boxes2, parents2, issued2, clean2⟩)]⟩ → Q .norm s) :
  XW P x3.n 0 (fstC onceTail) Q ⟨(1, .sl 15 (mapA AtA m)) :: [(2, .str bill), (7, .ptr 0 0), (9, .i st), (10, .ptr 3 0)], [.blk 80 [.str c, .ph 1], .pool 78 (mapA PelA L0) [], .blk 28 [.str c, .sl 11 (mapA RbA L0)], .blk 34 (BlL ⟨number2, carrier2, shipper2, frm2, to2, boxes2, parents2, issued2, clean2⟩)]⟩ := by
 have hml := hr2.2.1
 obtain ⟨nm, hnm⟩ : ∃ n : Nat, n = m.length := ⟨_, rfl⟩
 cbv
 refine xloopVS [] (fun q : { q : Nat × List Br // q.1 ≤ m.length ∧ Inv (41 + q.1) ⟨c, q.2⟩ ∧ lkN q.2 bill = some y } => [(12, .i (nI q.1.1))]) (fun q => [.blk 80 [.str c, .ph 1], .pool 78 (mapA PelA q.1.2) [], .blk 28 [.str c, .sl 11 (mapA RbA L0)], .blk 34 (BlL ⟨number2, carrier2, shipper2, frm2, to2, boxes2, parents2, issued2, clean2⟩)]) (fun q => lft nm q.1.1) ⟨(0, L0), Nat.zero_le _, hinv, hy⟩ ?_
 rintro ⟨⟨k, L⟩, hk, hinv, hy⟩
 dsimp only at hk hinv hy ⊢
 have hfew : L.length ≤ 256 := hinv.few
 have hall : ∀ b ∈ L, inB b := hinv.inB (by omega)
 have e3 : stateM L bill = st := by rw [stateM_lk, hy, hstt]
 refine SemW.seq (.of ?_)
 cbv; repeat' ((first | refine .mk (fun h => ?_) fun h => ?_ | refine .k fun z hz => ?_ | fail) <;> cbv)
 ·refine SemW.seq (SemW.block ?_)
  refine SemW.seq (.of ?_)
  cbv
  refine askEl_int (by ((try simp only [vn] at *) <;> omega)) (by ((try simp only [vn] at *) <;> omega)) fun i x hi hx => ?_
  obtain rfl : k = i := by ((try simp only [vn] at *) <;> omega)
  have hxm := List.mem_of_getElem? hx
  have hact := hr2.act x hxm
  have hkk := hact.1
  have hokx := hact.2.ok
  clear hact hxm hQ
  obtain ⟨kind, index, day, bill0, by_, to, b⟩ := x
  obtain ⟨number1, carrier1, shipper1, frm1, to1, boxes1, parents1, issued1, clean1⟩ := b
  dsimp only at hkk hokx
  have hdead := fun kind => act_dead (a := ⟨kind, index, day, bill, by_, to, ⟨number1, carrier1, shipper1, frm1, to1, boxes1, parents1, issued1, clean1⟩⟩) hy hsn
  have hk6 : kind = 0 ∨ kind = 1 ∨ kind = 2 ∨ kind = 3 ∨ kind = 4 ∨ kind = 5 := by omega
  rcases hk6 with rfl | rfl | rfl | rfl | rfl | rfl
  ·have hin2 := inv_iss (i := ⟨⟨c, L⟩, ⟨number1, carrier1, shipper1, frm1, to1, boxes1, parents1, issued1, clean1⟩, to⟩) hinv hokx
   have hlk2 := lk_iss (i := ⟨⟨c, L⟩, ⟨number1, carrier1, shipper1, frm1, to1, boxes1, parents1, issued1, clean1⟩, to⟩) hy
   obtain ⟨⟨c', L'⟩, hR'⟩ : ∃ R', R' = issM ⟨⟨c, L⟩, ⟨number1, carrier1, shipper1, frm1, to1, boxes1, parents1, issued1, clean1⟩, to⟩ := ⟨_, rfl⟩
   obtain rfl : c' = c := (congrArg Rg.carrier hR').trans (issM_carrier _)
   rw [← hR'] at hin2 hlk2
   obtain ⟨ie, hie⟩ : ∃ ie, ie = issE ⟨⟨c', L⟩, ⟨number1, carrier1, shipper1, frm1, to1, boxes1, parents1, issued1, clean1⟩, to⟩ := ⟨_, rfl⟩
   clear hdead
   cbv
   refine SemW.seq (.of ?_)
   cbv
   refine SemW.seq (.of ?_)
   cbv; repeat' ((first | refine .y fun h => ?_ | fail) <;> cbv)
   (refine callG_spec hiss (⟨⟨c', L⟩, ⟨number1, carrier1, shipper1, frm1, to1, boxes1, parents1, issued1, clean1⟩, to⟩ : Iss) [0, 1] ⟨hfew, hall, hokx⟩ rfl rfl (by decide) rfl rfl rfl rfl rfl ?_; try dsimp only)
   rw [← hR', ← hie]
   clear hie hR'
   cbv
   refine .of ?_
   cbv; repeat' ((first | refine .k fun z hz => ?_ | fail) <;> cbv)
   obtain rfl : z = nI (k + 1) := by ((try simp only [vn] at *) <;> omega)
   exact roundV ⟨(k + 1, L'), by ((try simp only [vn] at *) <;> omega), hin2.mono (by omega), hlk2⟩ (lft_lt (by ((try simp only [vn] at *) <;> omega)))
  ·have hn0 : ¬ askM L ⟨bill, index, -1, by_, 0, day, true, wrongE by_ to⟩ = 0 := hdead 1
   obtain ⟨e, he⟩ : ∃ e, e = askM L ⟨bill, index, -1, by_, 0, day, true, wrongE by_ to⟩ := ⟨_, rfl⟩
   have hL2 : actM L ⟨bill, index, -1, by_, 0, day, true, wrongE by_ to⟩ (onO index (endF by_ to day)) = L := actM_no _ _ hn0
   rw [← he] at hn0
   clear hdead
   cbv
   refine SemW.seq (.of ?_)
   cbv
   refine SemW.seq (.of ?_)
   cbv; repeat' ((first | refine .n fun h => ?_ | fail) <;> cbv)
   refine SemW.seq (.of ?_)
   cbv
   refine SemW.seq (.of ?_)
   cbv; repeat' ((first | refine .y fun h => ?_ | fail) <;> cbv)
   (refine callG_spec hend ((⟨c, L⟩ : Rg), (⟨bill, index, -1, by_, 0, day, true, wrongE by_ to⟩ : Ak), to) [0, 1] ⟨fun b hb => (hall b hb).1, rfl, rfl, rfl, rfl⟩ rfl rfl (by decide) rfl rfl rfl rfl rfl ?_; try dsimp only)
   rw [← he, hL2]
   clear hL2 he
   cbv
   refine .of ?_
   cbv; repeat' ((first | refine .n fun h => ?_ | fail) <;> cbv)
   all_goals first | contradiction | skip
   (refine callG_spec hst ((⟨c, L⟩ : Rg), bill) [0, 1] trivial rfl rfl (by decide) rfl rfl rfl rfl rfl ?_; try dsimp only)
   rw [e3]
   cbv; repeat' ((first | refine .y fun h => ?_ | fail) <;> cbv)
   all_goals first | contradiction | skip
   refine .of ?_
   cbv; repeat' ((first | refine .k fun z hz => ?_ | fail) <;> cbv)
   obtain rfl : z = nI (k + 1) := by ((try simp only [vn] at *) <;> omega)
   exact roundV ⟨(k + 1, L), by ((try simp only [vn] at *) <;> omega), hinv.mono (by omega), hy⟩ (lft_lt (by ((try simp only [vn] at *) <;> omega)))
  ·have hn0 : ¬ askM L ⟨bill, index, 0, by_, 0, day, true, false⟩ = 0 := hdead 2
   obtain ⟨e, he⟩ : ∃ e, e = askM L ⟨bill, index, 0, by_, 0, day, true, false⟩ := ⟨_, rfl⟩
   have hL2 : actM L ⟨bill, index, 0, by_, 0, day, true, false⟩ (surF ⟨bill, index, 0, by_, 0, day, true, false⟩) = L := actM_no _ _ hn0
   have hbx : boxM L ⟨bill, index, 0, by_, 0, day, true, false⟩ = [] := by unfold boxM; rw [if_neg hn0]
   rw [← he] at hn0
   clear hdead
   cbv
   refine SemW.seq (.of ?_)
   cbv
   refine SemW.seq (.of ?_)
   cbv; repeat' ((first | refine .n fun h => ?_ | fail) <;> cbv)
   refine SemW.seq (.of ?_)
   cbv
   refine SemW.seq (.of ?_)
   cbv; repeat' ((first | refine .n fun h => ?_ | refine .y fun h => ?_ | fail) <;> cbv)
   (refine callG_spec hsur ((⟨c, L⟩ : Rg), (⟨bill, index, 0, by_, 0, day, true, false⟩ : Ak)) [0, 1] ⟨hall, rfl, rfl, rfl, rfl⟩ rfl rfl (by decide) rfl rfl rfl rfl rfl ?_; try dsimp only)
   rw [← he, hL2, hbx]
   clear hL2 he
   cbv
   refine .of ?_
   cbv; repeat' ((first | refine .n fun h => ?_ | fail) <;> cbv)
   all_goals first | contradiction | skip
   (refine callG_spec hst ((⟨c, L⟩ : Rg), bill) [0, 1] trivial rfl rfl (by decide) rfl rfl rfl rfl rfl ?_; try dsimp only)
   rw [e3]
   cbv; repeat' ((first | refine .y fun h => ?_ | fail) <;> cbv)
   all_goals first | contradiction | skip
   refine .of ?_
   cbv; repeat' ((first | refine .k fun z hz => ?_ | fail) <;> cbv)
   obtain rfl : z = nI (k + 1) := by ((try simp only [vn] at *) <;> omega)
   exact roundV ⟨(k + 1, L), by ((try simp only [vn] at *) <;> omega), hinv.mono (by omega), hy⟩ (lft_lt (by ((try simp only [vn] at *) <;> omega)))
  ·have hn0 : ¬ askM L ⟨bill, index, 0, by_, 0, 0, false, false⟩ = 0 := hdead 3
   obtain ⟨e, he⟩ : ∃ e, e = askM L ⟨bill, index, 0, by_, 0, 0, false, false⟩ := ⟨_, rfl⟩
   have hL2 : actM L ⟨bill, index, 0, by_, 0, 0, false, false⟩ (loseF ⟨bill, index, 0, by_, 0, 0, false, false⟩) = L := actM_no _ _ hn0
   rw [← he] at hn0
   clear hdead
   cbv
   refine SemW.seq (.of ?_)
   cbv
   refine SemW.seq (.of ?_)
   cbv; repeat' ((first | refine .n fun h => ?_ | fail) <;> cbv)
   refine SemW.seq (.of ?_)
   cbv
   refine SemW.seq (.of ?_)
   cbv; repeat' ((first | refine .n fun h => ?_ | refine .y fun h => ?_ | fail) <;> cbv)
   (refine callG_spec hlose ((⟨c, L⟩ : Rg), (⟨bill, index, 0, by_, 0, 0, false, false⟩ : Ak)) [0, 1] ⟨fun b hb => (hall b hb).1, rfl, rfl, rfl, rfl, rfl⟩ rfl rfl (by decide) rfl rfl rfl rfl rfl ?_; try dsimp only)
   rw [← he, hL2]
   clear hL2 he
   cbv
   refine .of ?_
   cbv; repeat' ((first | refine .n fun h => ?_ | fail) <;> cbv)
   all_goals first | contradiction | skip
   (refine callG_spec hst ((⟨c, L⟩ : Rg), bill) [0, 1] trivial rfl rfl (by decide) rfl rfl rfl rfl rfl ?_; try dsimp only)
   rw [e3]
   cbv; repeat' ((first | refine .y fun h => ?_ | fail) <;> cbv)
   all_goals first | contradiction | skip
   refine .of ?_
   cbv; repeat' ((first | refine .k fun z hz => ?_ | fail) <;> cbv)
   obtain rfl : z = nI (k + 1) := by ((try simp only [vn] at *) <;> omega)
   exact roundV ⟨(k + 1, L), by ((try simp only [vn] at *) <;> omega), hinv.mono (by omega), hy⟩ (lft_lt (by ((try simp only [vn] at *) <;> omega)))
  ·have hn0 : ¬ askM L ⟨bill, index, 0, by_, 3, day, true, false⟩ = 0 := hdead 4
   obtain ⟨e, he⟩ : ∃ e, e = askM L ⟨bill, index, 0, by_, 3, day, true, false⟩ := ⟨_, rfl⟩
   have hL2 : actM L ⟨bill, index, 0, by_, 3, day, true, false⟩ (repF ⟨bill, index, 0, by_, 3, day, true, false⟩) = L := actM_no _ _ hn0
   rw [← he] at hn0
   clear hdead
   cbv
   refine SemW.seq (.of ?_)
   cbv
   refine SemW.seq (.of ?_)
   cbv; repeat' ((first | refine .n fun h => ?_ | fail) <;> cbv)
   refine SemW.seq (.of ?_)
   cbv
   refine SemW.seq (.of ?_)
   cbv; repeat' ((first | refine .n fun h => ?_ | refine .y fun h => ?_ | fail) <;> cbv)
   (refine callG_spec hrep ((⟨c, L⟩ : Rg), (⟨bill, index, 0, by_, 3, day, true, false⟩ : Ak)) [0, 1] ⟨fun b hb => (hall b hb).1, rfl, rfl, rfl, rfl⟩ rfl rfl (by decide) rfl rfl rfl rfl rfl ?_; try dsimp only)
   rw [← he, hL2]
   clear hL2 he
   cbv
   refine .of ?_
   cbv; repeat' ((first | refine .n fun h => ?_ | fail) <;> cbv)
   all_goals first | contradiction | skip
   (refine callG_spec hst ((⟨c, L⟩ : Rg), bill) [0, 1] trivial rfl rfl (by decide) rfl rfl rfl rfl rfl ?_; try dsimp only)
   rw [e3]
   cbv; repeat' ((first | refine .y fun h => ?_ | fail) <;> cbv)
   all_goals first | contradiction | skip
   refine .of ?_
   cbv; repeat' ((first | refine .k fun z hz => ?_ | fail) <;> cbv)
   obtain rfl : z = nI (k + 1) := by ((try simp only [vn] at *) <;> omega)
   exact roundV ⟨(k + 1, L), by ((try simp only [vn] at *) <;> omega), hinv.mono (by omega), hy⟩ (lft_lt (by ((try simp only [vn] at *) <;> omega)))
  ·have hn0 : ¬ askM L ⟨bill, -1, -1, by_, 0, day, true, false⟩ = 0 := hdead 5
   obtain ⟨e, he⟩ : ∃ e, e = askM L ⟨bill, -1, -1, by_, 0, day, true, false⟩ := ⟨_, rfl⟩
   have hL2 : actM L ⟨bill, -1, -1, by_, 0, day, true, false⟩ (retF ⟨bill, -1, -1, by_, 0, day, true, false⟩) = L := actM_no _ _ hn0
   rw [← he] at hn0
   clear hdead
   cbv
   refine SemW.seq (.of ?_)
   cbv
   refine SemW.seq (.of ?_)
   cbv; repeat' ((first | refine .n fun h => ?_ | fail) <;> cbv)
   refine SemW.seq (.of ?_)
   cbv
   refine SemW.seq (.of ?_)
   cbv; repeat' ((first | refine .n fun h => ?_ | refine .y fun h => ?_ | fail) <;> cbv)
   (refine callG_spec hret ((⟨c, L⟩ : Rg), (⟨bill, -1, -1, by_, 0, day, true, false⟩ : Ak)) [0, 1] ⟨fun b hb => (hall b hb).1, rfl, rfl, rfl, rfl, rfl⟩ rfl rfl (by decide) rfl rfl rfl rfl rfl ?_; try dsimp only)
   rw [← he, hL2]
   clear hL2 he
   cbv
   refine .of ?_
   cbv; repeat' ((first | refine .n fun h => ?_ | fail) <;> cbv)
   all_goals first | contradiction | skip
   (refine callG_spec hst ((⟨c, L⟩ : Rg), bill) [0, 1] trivial rfl rfl (by decide) rfl rfl rfl rfl rfl ?_; try dsimp only)
   rw [e3]
   cbv; repeat' ((first | refine .y fun h => ?_ | fail) <;> cbv)
   all_goals first | contradiction | skip
   refine .of ?_
   cbv; repeat' ((first | refine .k fun z hz => ?_ | fail) <;> cbv)
   obtain rfl : z = nI (k + 1) := by ((try simp only [vn] at *) <;> omega)
   exact roundV ⟨(k + 1, L), by ((try simp only [vn] at *) <;> omega), hinv.mono (by omega), hy⟩ (lft_lt (by ((try simp only [vn] at *) <;> omega)))
 ·exact hQ k L hk hinv hy _ (Gh.weak (by repeat' (first | exact trivial | refine ⟨.inl rfl, ?_⟩ | refine ⟨.inr rfl, ?_⟩)) (by rfl) (by rfl) (by rfl) (by exact Nat.le_of_ble_eq_true rfl))
theorem once_rest (P : Program) (horn : FnOk P 23 OriginalsC) (hbox : FnOk P 24 BoxC) {k : Nat} {bill c : ByteArray} {L0 L : List Br} {y : Br} {st : Int} {number2 carrier2 shipper2 frm2 to2 : ByteArray} {boxes2 parents2 : List ByteArray} {issued2 : Int} {clean2 : Bool} {K : AV → List Ent → Prop} (hk : k ≤ 41) (hyo1 : boxes2.length ≤ 100) (hstt : st = y.st) (hsn : ¬ y.st = 0) (hys : stOk y.st y.o0.state y.o1.state y.o2.state) (hinv : Inv (41 + k) ⟨c, L⟩) (hy : lkN L bill = some y) (hK : K (.bl true) []) :
  XW P x3.n 0 (sndC onceTail) (FinQ 0 x3.res (CutK [] K)) ⟨[(2, .str bill), (7, .ptr 0 0), (9, .i st), (10, .ptr 3 0)], [.blk 80 [.str c, .ph 1], .pool 78 (mapA PelA L) [], .blk 28 [.str c, .sl 11 (mapA RbA L0)], .blk 34 (BlL ⟨number2, carrier2, shipper2, frm2, to2, boxes2, parents2, issued2, clean2⟩)]⟩ := by
 have hfb := fun x => fresh_box hinv hy hsn x
 have hfew : L.length ≤ 256 := hinv.few
 have hall : ∀ b ∈ L, inB b := hinv.inB (by omega)
 have e5 : ornM L bill = [⟨bill, 0, y.o0.state, y.o0.holder⟩, ⟨bill, 1, y.o1.state, y.o1.holder⟩, ⟨bill, 2, y.o2.state, y.o2.holder⟩] := by
  rw [ornM_lk, hy]
  obtain ⟨_, _, ⟨_, _, _⟩, ⟨_, _, _⟩, ⟨_, _, _⟩⟩ := y
  rfl
 rw [← hstt] at hys hsn
 clear hstt hy
 generalize y.o0.holder = o0 at *
 generalize y.o1.holder = o1 at *
 generalize y.o2.holder = o2 at *
 generalize y.o0.state = s0 at *
 generalize y.o1.state = s1 at *
 generalize y.o2.state = s2 at *
 have h4 : (st = 1 ∧ s0 = 1 ∧ s1 = 2 ∧ s2 = 2) ∨ (st = 1 ∧ s0 = 2 ∧ s1 = 1 ∧ s2 = 2) ∨ (st = 1 ∧ s0 = 2 ∧ s1 = 2 ∧ s2 = 1) ∨ (st = 4 ∧ s0 = 2 ∧ s1 = 2 ∧ s2 = 2) := by
  rcases hys with ⟨h, _⟩ | ⟨h, ⟨h0, h1, h2⟩ | ⟨h0, h1, h2⟩ | ⟨h0, h1, h2⟩⟩ | ⟨h, h0, h1, h2⟩
  ·exact absurd h hsn
  ·exact .inl ⟨h, h0, h1, h2⟩
  ·exact .inr (.inl ⟨h, h0, h1, h2⟩)
  ·exact .inr (.inr (.inl ⟨h, h0, h1, h2⟩))
  ·exact .inr (.inr (.inr ⟨h, h0, h1, h2⟩))
 clear hys hsn
 rcases h4 with ⟨rfl, rfl, rfl, rfl⟩ | ⟨rfl, rfl, rfl, rfl⟩ | ⟨rfl, rfl, rfl, rfl⟩ | ⟨rfl, rfl, rfl, rfl⟩
 ·cbv
  (refine callG_spec horn ((⟨c, L⟩ : Rg), bill) [0, 1] trivial rfl rfl (by decide) rfl rfl rfl rfl rfl ?_; try dsimp only)
  rw [e5]
  clear e5
  cbv
  refine xloopV [] (fun q : { k : Nat // k ≤ 3 } => [(17, .i (nI q.1)), (15, .i (pick4 q.1 0 1 1 1))]) (fun _ => [.blk 80 [.str c, .ph 1], .pool 78 (mapA PelA L) [], .blk 28 [.str c, .sl 11 (mapA RbA L0)], .blk 34 (BlL ⟨number2, carrier2, shipper2, frm2, to2, boxes2, parents2, issued2, clean2⟩)]) (fun q => lft 3 q.1) ⟨0, by decide⟩ ?_
  rintro ⟨j, hj⟩
  dsimp only at hj ⊢
  have hj2 : j = 0 ∨ j = 1 ∨ j = 2 ∨ j = 3 := by omega
  rcases hj2 with rfl | rfl | rfl | rfl
  ·cbv; repeat' ((first | refine .n fun h => ?_ | refine .y fun h => ?_ | refine .k fun z hz => ?_ | refine AskEl.i0 ?_ | fail) <;> cbv)
   rename_i z2 hz2
   obtain rfl : z2 = 1 := by ((try simp only [vn] at *) <;> omega)
   obtain rfl : z = nI 1 := by ((try simp only [vn] at *) <;> omega)
   exact roundV ⟨1, by decide⟩ (lft_lt (by decide))
  ·cbv; repeat' ((first | refine .n fun h => ?_ | refine .y fun h => ?_ | refine .k fun z hz => ?_ | refine AskEl.i1 ?_ | fail) <;> cbv)
   obtain rfl : z = nI 2 := by ((try simp only [vn] at *) <;> omega)
   exact roundV ⟨2, by decide⟩ (lft_lt (by decide))
  ·cbv; repeat' ((first | refine .n fun h => ?_ | refine .y fun h => ?_ | refine .k fun z hz => ?_ | refine AskEl.i2 ?_ | fail) <;> cbv)
   obtain rfl : z = nI 3 := by ((try simp only [vn] at *) <;> omega)
   exact roundV ⟨3, by decide⟩ (lft_lt (by decide))
  ·cbv; repeat' ((first | refine .n fun h => ?_ | refine .k fun z hz => ?_ | fail) <;> cbv)
   refine xloopV [] (fun q : { k : Nat // k ≤ boxes2.length } => [(18, .i (nI q.1))]) (fun _ => [.blk 80 [.str c, .ph 1], .pool 78 (mapA PelA L) [], .blk 28 [.str c, .sl 11 (mapA RbA L0)], .blk 34 (BlL ⟨number2, carrier2, shipper2, frm2, to2, boxes2, parents2, issued2, clean2⟩)]) (fun q => lft 101 q.1) ⟨0, Nat.zero_le _⟩ ?_
   rintro ⟨w, hw⟩
   dsimp only at hw ⊢
   cbv; repeat' ((first | refine .y fun h => ?_ | refine .mk (fun h => ?_) fun h => ?_ | refine .k fun z hz => ?_ | fail) <;> cbv)
   ·refine askEl_int (by ((try simp only [vn] at *) <;> omega)) (by ((try simp only [vn] at *) <;> omega)) fun i x hi hx => ?_
    obtain rfl : w = i := by ((try simp only [vn] at *) <;> omega)
    have hwl := (List.getElem?_eq_some_iff.1 hx).1
    have hfx := hfb x
    dsimp only at hfx
    obtain ⟨⟨bn, bb⟩, hbn⟩ : ∃ v, v = boxN L x := ⟨_, rfl⟩
    rw [← hbn] at hfx
    dsimp only at hfx
    clear hfb
    cbv
    (refine callG_spec hbox ((⟨c, L⟩ : Rg), x) [0, 1] ⟨hfew, hall⟩ rfl rfl (by decide) rfl rfl rfl rfl rfl ?_; try dsimp only)
    rw [← hbn]
    cases bb with
    | true =>
     cbv; repeat' ((first | refine .mk (fun h => ?_) fun h => ?_ | refine .k fun z hz => ?_ | fail) <;> cbv)
     ·exact absurd (by assumption) (hfx rfl)
     ·obtain rfl : z = nI (w + 1) := by ((try simp only [vn] at *) <;> omega)
      exact roundV ⟨w + 1, by ((try simp only [vn] at *) <;> omega)⟩ (lft_lt (by ((try simp only [vn] at *) <;> omega)))
    | false =>
     cbv; repeat' ((first | refine .k fun z hz => ?_ | fail) <;> cbv)
     obtain rfl : z = nI (w + 1) := by ((try simp only [vn] at *) <;> omega)
     exact roundV ⟨w + 1, by ((try simp only [vn] at *) <;> omega)⟩ (lft_lt (by ((try simp only [vn] at *) <;> omega)))
   ·(refine FinK.mk ⟨_, Gh.refl _, ?_⟩; cbv; exact .inl (CutK.pre _ (by rfl) (by exact Nat.le_of_ble_eq_true rfl) (by rfl) (by rfl) (Le.refl _) (LeH.refl _) hK))
 ·cbv
  (refine callG_spec horn ((⟨c, L⟩ : Rg), bill) [0, 1] trivial rfl rfl (by decide) rfl rfl rfl rfl rfl ?_; try dsimp only)
  rw [e5]
  clear e5
  cbv
  refine xloopV [] (fun q : { k : Nat // k ≤ 3 } => [(17, .i (nI q.1)), (15, .i (pick4 q.1 0 0 1 1))]) (fun _ => [.blk 80 [.str c, .ph 1], .pool 78 (mapA PelA L) [], .blk 28 [.str c, .sl 11 (mapA RbA L0)], .blk 34 (BlL ⟨number2, carrier2, shipper2, frm2, to2, boxes2, parents2, issued2, clean2⟩)]) (fun q => lft 3 q.1) ⟨0, by decide⟩ ?_
  rintro ⟨j, hj⟩
  dsimp only at hj ⊢
  have hj2 : j = 0 ∨ j = 1 ∨ j = 2 ∨ j = 3 := by omega
  rcases hj2 with rfl | rfl | rfl | rfl
  ·cbv; repeat' ((first | refine .n fun h => ?_ | refine .y fun h => ?_ | refine .k fun z hz => ?_ | refine AskEl.i0 ?_ | fail) <;> cbv)
   obtain rfl : z = nI 1 := by ((try simp only [vn] at *) <;> omega)
   exact roundV ⟨1, by decide⟩ (lft_lt (by decide))
  ·cbv; repeat' ((first | refine .n fun h => ?_ | refine .y fun h => ?_ | refine .k fun z hz => ?_ | refine AskEl.i1 ?_ | fail) <;> cbv)
   rename_i z2 hz2
   obtain rfl : z2 = 1 := by ((try simp only [vn] at *) <;> omega)
   obtain rfl : z = nI 2 := by ((try simp only [vn] at *) <;> omega)
   exact roundV ⟨2, by decide⟩ (lft_lt (by decide))
  ·cbv; repeat' ((first | refine .n fun h => ?_ | refine .y fun h => ?_ | refine .k fun z hz => ?_ | refine AskEl.i2 ?_ | fail) <;> cbv)
   obtain rfl : z = nI 3 := by ((try simp only [vn] at *) <;> omega)
   exact roundV ⟨3, by decide⟩ (lft_lt (by decide))
  ·cbv; repeat' ((first | refine .n fun h => ?_ | refine .k fun z hz => ?_ | fail) <;> cbv)
   refine xloopV [] (fun q : { k : Nat // k ≤ boxes2.length } => [(18, .i (nI q.1))]) (fun _ => [.blk 80 [.str c, .ph 1], .pool 78 (mapA PelA L) [], .blk 28 [.str c, .sl 11 (mapA RbA L0)], .blk 34 (BlL ⟨number2, carrier2, shipper2, frm2, to2, boxes2, parents2, issued2, clean2⟩)]) (fun q => lft 101 q.1) ⟨0, Nat.zero_le _⟩ ?_
   rintro ⟨w, hw⟩
   dsimp only at hw ⊢
   cbv; repeat' ((first | refine .y fun h => ?_ | refine .mk (fun h => ?_) fun h => ?_ | refine .k fun z hz => ?_ | fail) <;> cbv)
   ·refine askEl_int (by ((try simp only [vn] at *) <;> omega)) (by ((try simp only [vn] at *) <;> omega)) fun i x hi hx => ?_
    obtain rfl : w = i := by ((try simp only [vn] at *) <;> omega)
    have hwl := (List.getElem?_eq_some_iff.1 hx).1
    have hfx := hfb x
    dsimp only at hfx
    obtain ⟨⟨bn, bb⟩, hbn⟩ : ∃ v, v = boxN L x := ⟨_, rfl⟩
    rw [← hbn] at hfx
    dsimp only at hfx
    clear hfb
    cbv
    (refine callG_spec hbox ((⟨c, L⟩ : Rg), x) [0, 1] ⟨hfew, hall⟩ rfl rfl (by decide) rfl rfl rfl rfl rfl ?_; try dsimp only)
    rw [← hbn]
    cases bb with
    | true =>
     cbv; repeat' ((first | refine .mk (fun h => ?_) fun h => ?_ | refine .k fun z hz => ?_ | fail) <;> cbv)
     ·exact absurd (by assumption) (hfx rfl)
     ·obtain rfl : z = nI (w + 1) := by ((try simp only [vn] at *) <;> omega)
      exact roundV ⟨w + 1, by ((try simp only [vn] at *) <;> omega)⟩ (lft_lt (by ((try simp only [vn] at *) <;> omega)))
    | false =>
     cbv; repeat' ((first | refine .k fun z hz => ?_ | fail) <;> cbv)
     obtain rfl : z = nI (w + 1) := by ((try simp only [vn] at *) <;> omega)
     exact roundV ⟨w + 1, by ((try simp only [vn] at *) <;> omega)⟩ (lft_lt (by ((try simp only [vn] at *) <;> omega)))
   ·(refine FinK.mk ⟨_, Gh.refl _, ?_⟩; cbv; exact .inl (CutK.pre _ (by rfl) (by exact Nat.le_of_ble_eq_true rfl) (by rfl) (by rfl) (Le.refl _) (LeH.refl _) hK))
 ·cbv
  (refine callG_spec horn ((⟨c, L⟩ : Rg), bill) [0, 1] trivial rfl rfl (by decide) rfl rfl rfl rfl rfl ?_; try dsimp only)
  rw [e5]
  clear e5
  cbv
  refine xloopV [] (fun q : { k : Nat // k ≤ 3 } => [(17, .i (nI q.1)), (15, .i (pick4 q.1 0 0 0 1))]) (fun _ => [.blk 80 [.str c, .ph 1], .pool 78 (mapA PelA L) [], .blk 28 [.str c, .sl 11 (mapA RbA L0)], .blk 34 (BlL ⟨number2, carrier2, shipper2, frm2, to2, boxes2, parents2, issued2, clean2⟩)]) (fun q => lft 3 q.1) ⟨0, by decide⟩ ?_
  rintro ⟨j, hj⟩
  dsimp only at hj ⊢
  have hj2 : j = 0 ∨ j = 1 ∨ j = 2 ∨ j = 3 := by omega
  rcases hj2 with rfl | rfl | rfl | rfl
  ·cbv; repeat' ((first | refine .n fun h => ?_ | refine .y fun h => ?_ | refine .k fun z hz => ?_ | refine AskEl.i0 ?_ | fail) <;> cbv)
   obtain rfl : z = nI 1 := by ((try simp only [vn] at *) <;> omega)
   exact roundV ⟨1, by decide⟩ (lft_lt (by decide))
  ·cbv; repeat' ((first | refine .n fun h => ?_ | refine .y fun h => ?_ | refine .k fun z hz => ?_ | refine AskEl.i1 ?_ | fail) <;> cbv)
   obtain rfl : z = nI 2 := by ((try simp only [vn] at *) <;> omega)
   exact roundV ⟨2, by decide⟩ (lft_lt (by decide))
  ·cbv; repeat' ((first | refine .n fun h => ?_ | refine .y fun h => ?_ | refine .k fun z hz => ?_ | refine AskEl.i2 ?_ | fail) <;> cbv)
   rename_i z2 hz2
   obtain rfl : z2 = 1 := by ((try simp only [vn] at *) <;> omega)
   obtain rfl : z = nI 3 := by ((try simp only [vn] at *) <;> omega)
   exact roundV ⟨3, by decide⟩ (lft_lt (by decide))
  ·cbv; repeat' ((first | refine .n fun h => ?_ | refine .k fun z hz => ?_ | fail) <;> cbv)
   refine xloopV [] (fun q : { k : Nat // k ≤ boxes2.length } => [(18, .i (nI q.1))]) (fun _ => [.blk 80 [.str c, .ph 1], .pool 78 (mapA PelA L) [], .blk 28 [.str c, .sl 11 (mapA RbA L0)], .blk 34 (BlL ⟨number2, carrier2, shipper2, frm2, to2, boxes2, parents2, issued2, clean2⟩)]) (fun q => lft 101 q.1) ⟨0, Nat.zero_le _⟩ ?_
   rintro ⟨w, hw⟩
   dsimp only at hw ⊢
   cbv; repeat' ((first | refine .y fun h => ?_ | refine .mk (fun h => ?_) fun h => ?_ | refine .k fun z hz => ?_ | fail) <;> cbv)
   ·refine askEl_int (by ((try simp only [vn] at *) <;> omega)) (by ((try simp only [vn] at *) <;> omega)) fun i x hi hx => ?_
    obtain rfl : w = i := by ((try simp only [vn] at *) <;> omega)
    have hwl := (List.getElem?_eq_some_iff.1 hx).1
    have hfx := hfb x
    dsimp only at hfx
    obtain ⟨⟨bn, bb⟩, hbn⟩ : ∃ v, v = boxN L x := ⟨_, rfl⟩
    rw [← hbn] at hfx
    dsimp only at hfx
    clear hfb
    cbv
    (refine callG_spec hbox ((⟨c, L⟩ : Rg), x) [0, 1] ⟨hfew, hall⟩ rfl rfl (by decide) rfl rfl rfl rfl rfl ?_; try dsimp only)
    rw [← hbn]
    cases bb with
    | true =>
     cbv; repeat' ((first | refine .mk (fun h => ?_) fun h => ?_ | refine .k fun z hz => ?_ | fail) <;> cbv)
     ·exact absurd (by assumption) (hfx rfl)
     ·obtain rfl : z = nI (w + 1) := by ((try simp only [vn] at *) <;> omega)
      exact roundV ⟨w + 1, by ((try simp only [vn] at *) <;> omega)⟩ (lft_lt (by ((try simp only [vn] at *) <;> omega)))
    | false =>
     cbv; repeat' ((first | refine .k fun z hz => ?_ | fail) <;> cbv)
     obtain rfl : z = nI (w + 1) := by ((try simp only [vn] at *) <;> omega)
     exact roundV ⟨w + 1, by ((try simp only [vn] at *) <;> omega)⟩ (lft_lt (by ((try simp only [vn] at *) <;> omega)))
   ·(refine FinK.mk ⟨_, Gh.refl _, ?_⟩; cbv; exact .inl (CutK.pre _ (by rfl) (by exact Nat.le_of_ble_eq_true rfl) (by rfl) (by rfl) (Le.refl _) (LeH.refl _) hK))
 ·cbv
  (refine callG_spec horn ((⟨c, L⟩ : Rg), bill) [0, 1] trivial rfl rfl (by decide) rfl rfl rfl rfl rfl ?_; try dsimp only)
  rw [e5]
  clear e5
  cbv
  refine xloopV [] (fun q : { k : Nat // k ≤ 3 } => [(17, .i (nI q.1)), (15, .i (pick4 q.1 0 0 0 0))]) (fun _ => [.blk 80 [.str c, .ph 1], .pool 78 (mapA PelA L) [], .blk 28 [.str c, .sl 11 (mapA RbA L0)], .blk 34 (BlL ⟨number2, carrier2, shipper2, frm2, to2, boxes2, parents2, issued2, clean2⟩)]) (fun q => lft 3 q.1) ⟨0, by decide⟩ ?_
  rintro ⟨j, hj⟩
  dsimp only at hj ⊢
  have hj2 : j = 0 ∨ j = 1 ∨ j = 2 ∨ j = 3 := by omega
  rcases hj2 with rfl | rfl | rfl | rfl
  ·cbv; repeat' ((first | refine .n fun h => ?_ | refine .y fun h => ?_ | refine .k fun z hz => ?_ | refine AskEl.i0 ?_ | fail) <;> cbv)
   obtain rfl : z = nI 1 := by ((try simp only [vn] at *) <;> omega)
   exact roundV ⟨1, by decide⟩ (lft_lt (by decide))
  ·cbv; repeat' ((first | refine .n fun h => ?_ | refine .y fun h => ?_ | refine .k fun z hz => ?_ | refine AskEl.i1 ?_ | fail) <;> cbv)
   obtain rfl : z = nI 2 := by ((try simp only [vn] at *) <;> omega)
   exact roundV ⟨2, by decide⟩ (lft_lt (by decide))
  ·cbv; repeat' ((first | refine .n fun h => ?_ | refine .y fun h => ?_ | refine .k fun z hz => ?_ | refine AskEl.i2 ?_ | fail) <;> cbv)
   obtain rfl : z = nI 3 := by ((try simp only [vn] at *) <;> omega)
   exact roundV ⟨3, by decide⟩ (lft_lt (by decide))
  ·cbv; repeat' ((first | refine .n fun h => ?_ | refine .k fun z hz => ?_ | fail) <;> cbv)
   refine xloopV [] (fun q : { k : Nat // k ≤ boxes2.length } => [(18, .i (nI q.1))]) (fun _ => [.blk 80 [.str c, .ph 1], .pool 78 (mapA PelA L) [], .blk 28 [.str c, .sl 11 (mapA RbA L0)], .blk 34 (BlL ⟨number2, carrier2, shipper2, frm2, to2, boxes2, parents2, issued2, clean2⟩)]) (fun q => lft 101 q.1) ⟨0, Nat.zero_le _⟩ ?_
   rintro ⟨w, hw⟩
   dsimp only at hw ⊢
   cbv; repeat' ((first | refine .n fun h => ?_ | refine .y fun h => ?_ | refine .mk (fun h => ?_) fun h => ?_ | refine .k fun z hz => ?_ | fail) <;> cbv)
   ·refine askEl_int (by ((try simp only [vn] at *) <;> omega)) (by ((try simp only [vn] at *) <;> omega)) fun i x hi hx => ?_
    obtain rfl : w = i := by ((try simp only [vn] at *) <;> omega)
    have hwl := (List.getElem?_eq_some_iff.1 hx).1
    have hfx := hfb x
    dsimp only at hfx
    obtain ⟨⟨bn, bb⟩, hbn⟩ : ∃ v, v = boxN L x := ⟨_, rfl⟩
    rw [← hbn] at hfx
    dsimp only at hfx
    clear hfb
    cbv
    (refine callG_spec hbox ((⟨c, L⟩ : Rg), x) [0, 1] ⟨hfew, hall⟩ rfl rfl (by decide) rfl rfl rfl rfl rfl ?_; try dsimp only)
    rw [← hbn]
    cases bb with
    | true =>
     cbv; repeat' ((first | refine .mk (fun h => ?_) fun h => ?_ | refine .k fun z hz => ?_ | fail) <;> cbv)
     ·exact absurd (by assumption) (hfx rfl)
     ·obtain rfl : z = nI (w + 1) := by ((try simp only [vn] at *) <;> omega)
      exact roundV ⟨w + 1, by ((try simp only [vn] at *) <;> omega)⟩ (lft_lt (by ((try simp only [vn] at *) <;> omega)))
    | false =>
     cbv; repeat' ((first | refine .k fun z hz => ?_ | fail) <;> cbv)
     obtain rfl : z = nI (w + 1) := by ((try simp only [vn] at *) <;> omega)
     exact roundV ⟨w + 1, by ((try simp only [vn] at *) <;> omega)⟩ (lft_lt (by ((try simp only [vn] at *) <;> omega)))
   ·(refine FinK.mk ⟨_, Gh.refl _, ?_⟩; cbv; exact .inl (CutK.pre _ (by rfl) (by exact Nat.le_of_ble_eq_true rfl) (by rfl) (by rfl) (Le.refl _) (LeH.refl _) hK))
theorem once_body (P : Program) (haw : FnOk P 12 AwakeC) (hri : FnOk P 13 RightC) (hpl : FnOk P 14 PlayC) (hst : FnOk P 15 StateC) (hget : FnOk P 16 GetC) (hiss : FnOk P 17 IssueC)
  (hend : FnOk P 18 EndorseC) (hsur : FnOk P 19 SurrenderC) (hlose : FnOk P 20 LoseC) (hrep : FnOk P 21 ReplaceC) (hret : FnOk P 22 RetireC) (horn : FnOk P 23 OriginalsC) (hbox : FnOk P 24 BoxC) : BodyOkS P x3 OnceC := by
 intro args H K hc; obtain ⟨⟨l, m, bill⟩, rfl, rfl, hp, hK⟩ := hc; refine ⟨Nat.le_of_ble_eq_true rfl, ?_⟩; dsimp only at hp hK ⊢
 obtain ⟨⟨hlen, hgd⟩, ⟨hlen2, hgd2⟩, hs1⟩ := hp
 unfold sz47 at hs1
 obtain ⟨q, hq⟩ : ∃ q, q = rightB l := ⟨_, rfl⟩
 obtain ⟨p, hp⟩ : ∃ q, q = rightB m := ⟨_, rfl⟩
 refine SemW.seq (.of ?_)
 cbv
 refine SemW.seq (.of ?_)
 cbv
 (refine callG_spec0 haw () trivial rfl rfl rfl ?_; try dsimp only)
 cbv
 refine SemW.seq (.of ?_)
 cbv
 (refine callG_spec0 hri l ⟨hlen, hgd⟩ rfl rfl rfl ?_; try dsimp only)
 rw [← hq]
 cases q with
 | false =>
  cbv
  (refine FinK.mk ⟨_, Gh.refl _, ?_⟩; cbv; exact .inl (CutK.pre _ (by rfl) (by exact Nat.le_of_ble_eq_true rfl) (by rfl) (by rfl) (Le.refl _) (LeH.refl _) hK))
 | true =>
 cbv
 (refine callG_spec0 hri m ⟨hlen2, hgd2⟩ rfl rfl rfl ?_; try dsimp only)
 rw [← hp]
 cases p with
 | false =>
  cbv
  (refine FinK.mk ⟨_, Gh.refl _, ?_⟩; cbv; exact .inl (CutK.pre _ (by rfl) (by exact Nat.le_of_ble_eq_true rfl) (by rfl) (by rfl) (Le.refl _) (LeH.refl _) hK))
 | true =>
 have hr := rightB_of hq.symm
 have hr2 := rightB_of hp.symm
 clear hq hp
 have hml := hr2.2.1
 cbv; repeat' ((first | refine .mk (fun h => ?_) fun h => ?_ | refine .k fun z hz => ?_ | fail) <;> cbv)
 ·(refine FinK.mk ⟨_, Gh.refl _, ?_⟩; cbv; exact .inl (CutK.pre _ (by rfl) (by exact Nat.le_of_ble_eq_true rfl) (by rfl) (by rfl) (Le.refl _) (LeH.refl _) hK))
 have hinv := play_inv hr l.length
 rw [List.take_length] at hinv
 obtain ⟨⟨c, L0⟩, hR⟩ : ∃ R, R = playM l := ⟨_, rfl⟩
 refine SemW.seq (.of ?_)
 cbv
 (refine callG_new hpl l ⟨hr, hgd⟩ rfl rfl ?_; try dsimp only)
 rw [← hR]
 rw [← hR] at hinv
 clear hR
 have hok : OkR ⟨c, L0⟩ := ⟨hinv.few, fun b hb => (hinv.inB (by decide) b hb).2, fun b hb => by
  have := hinv.all b hb
  exact ⟨Nat.le_trans this.h0.len (by decide), Nat.le_trans this.h1.len (by decide), Nat.le_trans this.h2.len (by decide)⟩⟩
 cbv
 refine SemW.seq (.of ?_)
 cbv
 refine SemW.seq (.of ?_)
 cbv
 rcases lk_cases L0 bill with ⟨_, y, _, _, hy, hyn⟩ | ⟨_, hy⟩
 rotate_left
 ·have e3 : stateM L0 bill = -1 := by rw [stateM_lk, hy]
  (refine callG_spec hst ((⟨c, L0⟩ : Rg), bill) [0, 1] trivial rfl rfl (by decide) rfl rfl rfl rfl rfl ?_; try dsimp only)
  rw [e3]
  cbv
  refine SemW.seq (.of ?_)
  cbv; repeat' ((first | refine .n fun h => ?_ | refine .y fun h => ?_ | fail) <;> cbv)
  (refine FinK.mk ⟨_, Gh.refl _, ?_⟩; cbv; exact .inl (CutK.pre _ (by rfl) (by exact Nat.le_of_ble_eq_true rfl) (by rfl) (by rfl) (Le.refl _) (LeH.refl _) hK))
 have e3 : stateM L0 bill = y.st := by rw [stateM_lk, hy]
 have e4 : getM L0 bill = (y.b, true) := by rw [getM_lk, hy]
 have hys := (hinv.all y (lk_mem hy).1).st
 have hyo := (hinv.all y (lk_mem hy).1).ok
 obtain ⟨st, hstt⟩ : ∃ s, s = y.st := ⟨_, rfl⟩
 rw [← hstt] at e3
 obtain ⟨yb, hyb⟩ : ∃ b, b = y.b := ⟨_, rfl⟩
 rw [← hyb] at e4 hyo
 (refine callG_spec hst ((⟨c, L0⟩ : Rg), bill) [0, 1] trivial rfl rfl (by decide) rfl rfl rfl rfl rfl ?_; try dsimp only)
 rw [e3]
 by_cases hs0 : st = 0
 ·cbv
  refine SemW.seq (.of ?_)
  cbv; repeat' ((first | refine .n fun h => ?_ | refine .y fun h => ?_ | fail) <;> cbv)
  all_goals first | (exfalso; omega) | skip
  (refine FinK.mk ⟨_, Gh.refl _, ?_⟩; cbv; exact .inl (CutK.pre _ (by rfl) (by exact Nat.le_of_ble_eq_true rfl) (by rfl) (by rfl) (Le.refl _) (LeH.refl _) hK))
 have hs14 : st = 1 ∨ st = 4 := by
  rcases hys with ⟨h, _⟩ | ⟨h, _⟩ | ⟨h, _⟩ <;> omega
 have hsn : ¬ y.st = 0 := by rw [← hstt]; exact hs0
 obtain ⟨number2, carrier2, shipper2, frm2, to2, boxes2, parents2, issued2, clean2⟩ := yb
 unfold okB at hyo
 dsimp only at hyo
 obtain ⟨hyo1, hyo2⟩ := hyo
 clear hyb hyn
 cbv
 refine SemW.seq (.of ?_)
 cbv; repeat' ((first | refine .y fun h => ?_ | refine .mk (fun h => ?_) fun h => ?_ | fail) <;> cbv)
 all_goals first | (exfalso; omega) | skip
 all_goals
  refine SemW.seq (.of ?_)
  cbv
  (refine callG_spec hget ((⟨c, L0⟩ : Rg), bill) [0, 1] hok rfl rfl (by decide) rfl rfl rfl rfl rfl ?_; try dsimp only)
  rw [e4]
  clear e4 e3 hok
  cbv
  refine SemW.seq ?_
  refine SemW.gh (st' := ⟨(1, .sl 15 (mapA AtA m)) :: [(2, .str bill), (7, .ptr 0 0), (9, .i st), (10, .ptr 3 0)], [.blk 80 [.str c, .ph 1], .pool 78 (mapA PelA L0) [], .blk 28 [.str c, .sl 11 (mapA RbA L0)], .blk 34 (BlL ⟨number2, carrier2, shipper2, frm2, to2, boxes2, parents2, issued2, clean2⟩)]⟩) (Gh.weak (by repeat' (first | exact trivial | refine ⟨.inl rfl, ?_⟩ | refine ⟨.inr rfl, ?_⟩)) (by rfl) (by rfl) (by rfl) (by exact Nat.le_of_ble_eq_true rfl)) (.of ?_)
  exact once_loop P hst hiss hend hsur hlose hrep hret hr2 hstt hsn hinv hy fun k L hk hinv hy s g => .gh g (.of (once_rest P horn hbox (by omega) hyo1 hstt hsn hys hinv hy hK))
end Go.Proofs.YtjnmaicofgjplaaGreatDoor
namespace Go.Proofs.YtjnmaicofgjplaaGreatDoor
open Go.RowKit
set_option maxRecDepth 100000
theorem k_once : FnOk Tryz.prog 3 OnceC := body_okS (by kernel_rfl) (once_body _ k_awake k_right23 k_play k_state k_get k_issue k_endorse k_surrender k_lose k_replace k_retire k_originals k_box)
end Go.Proofs.YtjnmaicofgjplaaGreatDoor
