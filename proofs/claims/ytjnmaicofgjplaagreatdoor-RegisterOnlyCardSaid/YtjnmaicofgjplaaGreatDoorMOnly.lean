/-
  Texts of this proof, joined: UC, KOnly.
-/
import Derived.Test.YtjnmaicofgjplaaGreatDoorJ6
set_option linter.unusedVariables false
set_option linter.unusedSimpArgs false
namespace Go.Proofs.YtjnmaicofgjplaaGreatDoor
def x10 : XFn := ⟨128, .seq (.reg [(zs 4 (.box 38 (.t 1))), (zs 6 (.mov (.c (.bl false))))]) (.seq (.seq (.reg [(zs 13 (.call 12 [])), (zs 14 (.not (.t 13)))]) (.cond (.t 14) (.seq (.reg [(zs 6 (.mov (.c (.bl false))))]) .ret) .skip)) (.seq (.seq (.dreg (.take 1 (zm 16 0) (.take 3 (zs 18 (.ld true 15 (.t 4))) (.fork (.eff 0 0 true (zs 15 (.bsl 38 15 0 [.int .i64 0, .int .i64 0, .int .i64 0, .str ⟨#[]⟩, .str ⟨#[]⟩, .str ⟨#[]⟩, .str ⟨#[]⟩, .str ⟨#[]⟩, .str ⟨#[]⟩, .str ⟨#[]⟩, .str ⟨#[]⟩, .v (.slice none 0 0), .v (.slice none 0 0), .int .i64 0, .bl false] [])) (.fork (.eff 2 1 true (zs 17 (.app 22 22 38 15 216 (.t 15) (.t 16))) (.eff 4 2 false (zs 19 (.bsl 38 15 1 [.int .i64 0, .int .i64 0, .int .i64 0, .str ⟨#[]⟩, .str ⟨#[]⟩, .str ⟨#[]⟩, .str ⟨#[]⟩, .str ⟨#[]⟩, .str ⟨#[]⟩, .str ⟨#[]⟩, .str ⟨#[]⟩, .v (.slice none 0 0), .v (.slice none 0 0), .int .i64 0, .bl false] [(0, .t 18)])) (.eff 5 3 false (zs 20 (.app 22 22 38 15 216 (.t 17) (.t 19))) (.phase [3] (.eff 6 4 false (zs 21 (.call 13 [.t 20])) (.phase [3] (.take 7 (zs 22 (.not (.t 21))) (.take 8 (zm 23 22) (.take 9 (zh 24 23 false 2) (.take 10 (zg 25 23 false (.lens (.t 24))) (.take 11 (zg 26 23 false (.cmp .gtr (.t 25) (.c (.int .i64 100)))) (.take 12 (zs 27 (.pick (.t 23) (.c (.bl true)) (.t 26))) .nil)))))))))))) (.eff 4 2 true (zs 19 (.bsl 38 15 1 [.int .i64 0, .int .i64 0, .int .i64 0, .str ⟨#[]⟩, .str ⟨#[]⟩, .str ⟨#[]⟩, .str ⟨#[]⟩, .str ⟨#[]⟩, .str ⟨#[]⟩, .str ⟨#[]⟩, .str ⟨#[]⟩, .v (.slice none 0 0), .v (.slice none 0 0), .int .i64 0, .bl false] [(0, .t 18)])) (.eff 2 1 true (zs 17 (.app 22 22 38 15 216 (.t 15) (.t 16))) (.eff 5 3 false (zs 20 (.app 22 22 38 15 216 (.t 17) (.t 19))) (.phase [3] (.eff 6 4 false (zs 21 (.call 13 [.t 20])) (.phase [3] (.take 7 (zs 22 (.not (.t 21))) (.take 8 (zm 23 22) (.take 9 (zh 24 23 false 2) (.take 10 (zg 25 23 false (.lens (.t 24))) (.take 11 (zg 26 23 false (.cmp .gtr (.t 25) (.c (.int .i64 100)))) (.take 12 (zs 27 (.pick (.t 23) (.c (.bl true)) (.t 26))) .nil)))))))))))))) (.eff 4 2 true (zs 19 (.bsl 38 15 1 [.int .i64 0, .int .i64 0, .int .i64 0, .str ⟨#[]⟩, .str ⟨#[]⟩, .str ⟨#[]⟩, .str ⟨#[]⟩, .str ⟨#[]⟩, .str ⟨#[]⟩, .str ⟨#[]⟩, .str ⟨#[]⟩, .v (.slice none 0 0), .v (.slice none 0 0), .int .i64 0, .bl false] [(0, .t 18)])) (.eff 0 0 true (zs 15 (.bsl 38 15 0 [.int .i64 0, .int .i64 0, .int .i64 0, .str ⟨#[]⟩, .str ⟨#[]⟩, .str ⟨#[]⟩, .str ⟨#[]⟩, .str ⟨#[]⟩, .str ⟨#[]⟩, .str ⟨#[]⟩, .str ⟨#[]⟩, .v (.slice none 0 0), .v (.slice none 0 0), .int .i64 0, .bl false] [])) (.eff 2 1 true (zs 17 (.app 22 22 38 15 216 (.t 15) (.t 16))) (.eff 5 3 false (zs 20 (.app 22 22 38 15 216 (.t 17) (.t 19))) (.phase [3] (.eff 6 4 false (zs 21 (.call 13 [.t 20])) (.phase [3] (.take 7 (zs 22 (.not (.t 21))) (.take 8 (zm 23 22) (.take 9 (zh 24 23 false 2) (.take 10 (zg 25 23 false (.lens (.t 24))) (.take 11 (zg 26 23 false (.cmp .gtr (.t 25) (.c (.int .i64 100)))) (.take 12 (zs 27 (.pick (.t 23) (.c (.bl true)) (.t 26))) .nil)))))))))))))))) 4 [4, 2]) (.cond (.t 27) (.seq (.reg [(zs 6 (.mov (.c (.bl true))))]) .ret) .skip)) (.seq (.reg [(zm 29 0), (zs 30 (.call 14 [.t 29])), (zm 28 30), (zs 31 (.ext (.t 28) 0)), (zs 32 (.ext (.t 28) 1)), (zs 8 (.alloc 28 [.str ⟨#[]⟩, .v (.slice none 0 0)])), (zm 7 31), (zn (.st 2 (.t 8) (.t 32)))]) (.seq (.seq (.reg [(zm 33 7), (zs 34 (.cmn false (.t 33)))]) (.cond (.t 34) (.seq (.reg [(zs 6 (.mov (.c (.bl false))))]) .ret) .skip)) (.seq (.seq (.reg [(zs 9 (.mov (.c (.int .i64 0))))]) (.block 0 (.loop (.seq (.seq (.reg [(zm 35 9), (zs 36 (.cmp .lss (.t 35) (.c (.int .i64 3))))]) (.cond (.t 36) .skip (.exit 0))) (.seq (.block 1 (.seq (.reg [(zm 40 7), (zf 41 3 4), (zl 42 41), (zm 43 9), (zs 44 (.call 33 [.t 40, .t 42, .t 43])), (zm 39 44), (zs 45 (.ext (.t 39) 0)), (zs 46 (.ext (.t 39) 1)), (zm 10 45), (zm 11 46)]) (.seq (.reg [(zm 47 11), (zm 48 47), (zh 49 48 true 10), (zg 50 48 true (.fad 4 (.t 4))), (zg 51 48 true (.ld false 1 (.t 50))), (zg 52 48 true (.cmp .eql (.t 49) (.t 51))), (zs 53 (.pick (.t 48) (.t 52) (.c (.bl false))))]) (.cond (.t 53) (.seq (.reg [(zs 6 (.mov (.c (.bl true))))]) .ret) .skip)))) (.reg [(zm 37 9), (zs 38 (.ari .add .i64 (.t 37) (.c (.int .i64 1)))), (zm 9 38)])))))) (.seq (.reg [(zs 12 (.mov (.c (.int .i64 8))))]) (.seq (.seq (.reg [(zf 54 0 4), (zl 55 54)]) (.block 2 (.seq (.reg [(zs 57 (.cmp .eql (.t 55) (.c (.int .i64 1)))), (zm 56 57)]) (.cond (.t 56) (.reg [(zm 58 7), (zf 59 3 4), (zl 60 59), (zf 61 1 4), (zl 62 61), (zf 63 4 4), (zl 64 63), (zf 65 5 4), (zl 66 65), (zf 67 2 4), (zl 68 67), (zs 69 (.call 18 [.t 58, .t 60, .t 62, .t 64, .t 66, .t 68])), (zm 12 69)]) (.seq (.reg [(zs 71 (.cmp .eql (.t 55) (.c (.int .i64 2)))), (zm 70 71)]) (.cond (.t 70) (.reg [(zm 73 7), (zf 74 3 4), (zl 75 74), (zf 76 1 4), (zl 77 76), (zf 78 4 4), (zl 79 78), (zf 80 2 4), (zl 81 80), (zs 82 (.call 19 [.t 73, .t 75, .t 77, .t 79, .t 81])), (zm 72 82), (zs 83 (.ext (.t 72) 0)), (zs 84 (.ext (.t 72) 1)), (zm 12 84)]) (.seq (.reg [(zs 86 (.cmp .eql (.t 55) (.c (.int .i64 3)))), (zm 85 86)]) (.cond (.t 85) (.reg [(zm 87 7), (zf 88 3 4), (zl 89 88), (zf 90 1 4), (zl 91 90), (zf 92 4 4), (zl 93 92), (zs 94 (.call 20 [.t 87, .t 89, .t 91, .t 93])), (zm 12 94)]) (.seq (.reg [(zs 96 (.cmp .eql (.t 55) (.c (.int .i64 4)))), (zm 95 96)]) (.cond (.t 95) (.reg [(zm 97 7), (zf 98 3 4), (zl 99 98), (zf 100 1 4), (zl 101 100), (zf 102 4 4), (zl 103 102), (zf 104 2 4), (zl 105 104), (zs 106 (.call 21 [.t 97, .t 99, .t 101, .t 103, .t 105])), (zm 12 106)]) (.seq (.reg [(zs 108 (.cmp .eql (.t 55) (.c (.int .i64 5)))), (zm 107 108)]) (.cond (.t 107) (.reg [(zm 109 7), (zf 110 3 4), (zl 111 110), (zf 112 4 4), (zl 113 112), (zf 114 2 4), (zl 115 114), (zs 116 (.call 22 [.t 109, .t 111, .t 113, .t 115])), (zm 12 116)]) .skip)))))))))))) (.seq (.reg [(zm 117 12), (zs 118 (.cmp .neq (.t 117) (.c (.int .i64 0)))), (zm 119 118), (zh 120 119 true 7), (zg 121 119 true (.ld true 2 (.t 8))), (zg 122 119 true (.fad 4 (.t 4))), (zg 123 119 true (.ld false 1 (.t 122))), (zh 124 119 true 2), (zg 125 119 true (.call 35 [.t 120, .t 121, .t 123, .t 124])), (zg 126 119 true (.cmp .eql (.t 125) (.c (.str ⟨#[]⟩)))), (zs 127 (.pick (.t 119) (.t 126) (.c (.bl false)))), (zm 6 127)]) .ret)))))))), [.tmp 6]⟩
end Go.Proofs.YtjnmaicofgjplaaGreatDoor
namespace Go.Proofs.YtjnmaicofgjplaaGreatDoor
open Go.RowKit
set_option maxHeartbeats 4000000
set_option maxRecDepth 100000
/-! ### RegisterOnly -/
structure OnlyI where
 l : List At
 a : At
 box : ByteArray
structure OnlyP (i : OnlyI) : Prop where
 l : InL i.l
 few : i.l.length * 216 ≤ 140737488351232
 a : GdAt i.a
 box : sz47 i.box
noncomputable def OnlyC : Ctr := spec (fun i : OnlyI => [.sl 15 (mapA AtA i.l), AtA i.a, .str i.box]) (fun _ => []) OnlyP (fun _ => .bl true) fun _ => []
def onlyRest : XCode := sndC (sndC (sndC x10.body))
theorem only_rest (P : Program) (hpl : FnOk P 14 PlayC) (hul : FnOk P 35 UnlikeC) (hhold : FnOk P 33 HoldC) (hend : FnOk P 18 EndorseC) (hsur : FnOk P 19 SurrenderC) (hlose : FnOk P 20 LoseC) (hrep : FnOk P 21 ReplaceC) (hret : FnOk P 22 RetireC) {l : List At} {a : At} {box : ByteArray} {K : AV → List Ent → Prop} (hr : RightL (l ++ [a])) (hgd : ∀ a ∈ l, GdAt a) (hK : K (.bl true) []) :
  XW P x10.n 0 onlyRest (FinQ 0 x10.res (CutK [] K)) ⟨[(0, .sl 15 (mapA AtA l)), (2, .str box), (4, .ptr 0 0)], [.blk 38 (AtL a)]⟩ := by
 have hrl : RightL l := ⟨fun x hx => hr.1 x (List.mem_append_left _ hx), by have := hr.2.1; rw [List.length_append, List.length_singleton] at this; omega, fun x hx => hr.2.2 x (List.mem_append_left _ hx)⟩
 have hka := hr.1 a (List.mem_append_right _ (List.mem_cons_self ..))
 have hup := ulP_play hrl
 have hinv := hup.inv
 obtain ⟨⟨c, L⟩, hR⟩ : ∃ R, R = playM l := ⟨_, rfl⟩
 have hah := fun hk => act_holds (L := L) (a := a) hk
 obtain ⟨kind, index, day, bill, by_, to, b⟩ := a
 obtain ⟨number1, carrier1, shipper1, frm1, to1, boxes1, parents1, issued1, clean1⟩ := b
 dsimp only at hka hah
 cbv
 (refine callG_new hpl l ⟨hrl, hgd⟩ rfl rfl ?_; try dsimp only)
 rw [← hR]
 rw [← hR] at hup hinv
 clear hR
 obtain ⟨n, hn, hinv⟩ := hinv
 have hfew : L.length ≤ 256 := hinv.few
 have hall : ∀ b ∈ L, inB b := hinv.inB (by omega)
 cbv
 refine xloopV [] (fun q : { k : Nat // k ≤ 3 ∧ ∀ j : Nat, j < k → ¬ holdM L bill j = (by_, true) } => [(9, .i (nI q.1))]) (fun _ => [.blk 38 (AtL ⟨kind, index, day, bill, by_, to, ⟨number1, carrier1, shipper1, frm1, to1, boxes1, parents1, issued1, clean1⟩⟩), .blk 80 [.str c, .ph 2], .pool 78 (mapA PelA L) [], .blk 28 [.str c, .sl 11 (mapA RbA L)]]) (fun q => lft 3 q.1) ⟨0, by decide, fun j hj => absurd hj (Nat.not_lt_zero j)⟩ ?_
 rintro ⟨k, hk, hno⟩
 dsimp only at hk hno ⊢
 have hk4 : k = 0 ∨ k = 1 ∨ k = 2 ∨ k = 3 := by omega
 rcases hk4 with rfl | rfl | rfl | rfl
 ·obtain ⟨⟨hh, hb⟩, hd⟩ : ∃ x, x = holdM L bill 0 := ⟨_, rfl⟩
  have hnx : ¬ holdM L bill 0 = (by_, true) → ∀ j : Nat, j < 1 → ¬ holdM L bill j = (by_, true) := fun h j hj => by
   rcases Nat.lt_or_ge j 0 with h1 | h1
   ·exact hno j h1
   ·obtain rfl : j = 0 := by omega
    exact h
  clear hno hah
  cbv; repeat' ((first | refine .y fun h => ?_ | fail) <;> cbv)
  (refine callG_spec hhold ((⟨c, L⟩ : Rg), bill, 0) [1, 2] trivial rfl rfl (by decide) rfl rfl rfl rfl rfl ?_; try dsimp only)
  rw [← hd]
  cases hb with
  | true =>
   cbv; repeat' ((first | refine .mk (fun h => ?_) fun h => ?_ | refine .k fun z hz => ?_ | fail) <;> cbv)
   ·(refine FinK.mk ⟨_, Gh.refl _, ?_⟩; cbv; exact .inl (CutK.pre _ (by rfl) (by exact Nat.le_of_ble_eq_true rfl) (by rfl) (by rfl) (Le.refl _) (LeH.refl _) hK))
   ·obtain rfl : z = nI 1 := by ((try simp only [vn] at *) <;> omega)
    exact roundV ⟨1, by decide, hnx (fun e => by rw [← hd] at e; exact (by assumption : ¬ hh = by_) (congrArg Prod.fst e))⟩ (lft_lt (by decide))
  | false =>
   cbv; repeat' ((first | refine .k fun z hz => ?_ | fail) <;> cbv)
   obtain rfl : z = nI 1 := by ((try simp only [vn] at *) <;> omega)
   exact roundV ⟨1, by decide, hnx (fun e => by rw [← hd] at e; exact absurd (congrArg Prod.snd e) Bool.false_ne_true)⟩ (lft_lt (by decide))
 ·obtain ⟨⟨hh, hb⟩, hd⟩ : ∃ x, x = holdM L bill 1 := ⟨_, rfl⟩
  have hnx : ¬ holdM L bill 1 = (by_, true) → ∀ j : Nat, j < 2 → ¬ holdM L bill j = (by_, true) := fun h j hj => by
   rcases Nat.lt_or_ge j 1 with h1 | h1
   ·exact hno j h1
   ·obtain rfl : j = 1 := by omega
    exact h
  clear hno hah
  cbv; repeat' ((first | refine .y fun h => ?_ | fail) <;> cbv)
  (refine callG_spec hhold ((⟨c, L⟩ : Rg), bill, 1) [1, 2] trivial rfl rfl (by decide) rfl rfl rfl rfl rfl ?_; try dsimp only)
  rw [← hd]
  cases hb with
  | true =>
   cbv; repeat' ((first | refine .mk (fun h => ?_) fun h => ?_ | refine .k fun z hz => ?_ | fail) <;> cbv)
   ·(refine FinK.mk ⟨_, Gh.refl _, ?_⟩; cbv; exact .inl (CutK.pre _ (by rfl) (by exact Nat.le_of_ble_eq_true rfl) (by rfl) (by rfl) (Le.refl _) (LeH.refl _) hK))
   ·obtain rfl : z = nI 2 := by ((try simp only [vn] at *) <;> omega)
    exact roundV ⟨2, by decide, hnx (fun e => by rw [← hd] at e; exact (by assumption : ¬ hh = by_) (congrArg Prod.fst e))⟩ (lft_lt (by decide))
  | false =>
   cbv; repeat' ((first | refine .k fun z hz => ?_ | fail) <;> cbv)
   obtain rfl : z = nI 2 := by ((try simp only [vn] at *) <;> omega)
   exact roundV ⟨2, by decide, hnx (fun e => by rw [← hd] at e; exact absurd (congrArg Prod.snd e) Bool.false_ne_true)⟩ (lft_lt (by decide))
 ·obtain ⟨⟨hh, hb⟩, hd⟩ : ∃ x, x = holdM L bill 2 := ⟨_, rfl⟩
  have hnx : ¬ holdM L bill 2 = (by_, true) → ∀ j : Nat, j < 3 → ¬ holdM L bill j = (by_, true) := fun h j hj => by
   rcases Nat.lt_or_ge j 2 with h1 | h1
   ·exact hno j h1
   ·obtain rfl : j = 2 := by omega
    exact h
  clear hno hah
  cbv; repeat' ((first | refine .y fun h => ?_ | fail) <;> cbv)
  (refine callG_spec hhold ((⟨c, L⟩ : Rg), bill, 2) [1, 2] trivial rfl rfl (by decide) rfl rfl rfl rfl rfl ?_; try dsimp only)
  rw [← hd]
  cases hb with
  | true =>
   cbv; repeat' ((first | refine .mk (fun h => ?_) fun h => ?_ | refine .k fun z hz => ?_ | fail) <;> cbv)
   ·(refine FinK.mk ⟨_, Gh.refl _, ?_⟩; cbv; exact .inl (CutK.pre _ (by rfl) (by exact Nat.le_of_ble_eq_true rfl) (by rfl) (by rfl) (Le.refl _) (LeH.refl _) hK))
   ·obtain rfl : z = nI 3 := by ((try simp only [vn] at *) <;> omega)
    exact roundV ⟨3, by decide, hnx (fun e => by rw [← hd] at e; exact (by assumption : ¬ hh = by_) (congrArg Prod.fst e))⟩ (lft_lt (by decide))
  | false =>
   cbv; repeat' ((first | refine .k fun z hz => ?_ | fail) <;> cbv)
   obtain rfl : z = nI 3 := by ((try simp only [vn] at *) <;> omega)
   exact roundV ⟨3, by decide, hnx (fun e => by rw [← hd] at e; exact absurd (congrArg Prod.snd e) Bool.false_ne_true)⟩ (lft_lt (by decide))
 ·have hne : 1 ≤ kind ∧ kind ≤ 5 → ¬ askM L (akOf ⟨kind, index, day, bill, by_, to, ⟨number1, carrier1, shipper1, frm1, to1, boxes1, parents1, issued1, clean1⟩⟩) = 0 := fun hk5 h0 => by
   obtain ⟨k, hk3, hh⟩ := hah hk5 h0
   rcases hk3 with rfl | rfl | rfl
   ·exact hno 0 (by decide) hh
   ·exact hno 1 (by decide) hh
   ·exact hno 2 (by decide) hh
  clear hah hno
  have hk6 : kind = 0 ∨ kind = 1 ∨ kind = 2 ∨ kind = 3 ∨ kind = 4 ∨ kind = 5 := by omega
  rcases hk6 with rfl | rfl | rfl | rfl | rfl | rfl
  ·cbv; repeat' ((first | refine .n fun h => ?_ | fail) <;> cbv)
   (refine callG_spec hul ((⟨c, L⟩ : Rg), (⟨c, L⟩ : Rg), by_, box) [1, 2] hup rfl rfl (by decide) rfl rfl rfl rfl rfl ?_; try dsimp only)
   cbv; repeat' ((first | refine .mk (fun h => ?_) fun h => ?_ | fail) <;> cbv)
   all_goals first | contradiction | skip
   (refine FinK.mk ⟨_, Gh.refl _, ?_⟩; cbv; exact .inl (CutK.pre _ (by rfl) (by exact Nat.le_of_ble_eq_true rfl) (by rfl) (by rfl) (Le.refl _) (LeH.refl _) hK))
  ·have hn0 : ¬ askM L ⟨bill, index, -1, by_, 0, day, true, wrongE by_ to⟩ = 0 := hne ⟨by decide, by decide⟩
   obtain ⟨e, he⟩ : ∃ e, e = askM L ⟨bill, index, -1, by_, 0, day, true, wrongE by_ to⟩ := ⟨_, rfl⟩
   have hL2 : actM L ⟨bill, index, -1, by_, 0, day, true, wrongE by_ to⟩ (onO index (endF by_ to day)) = L := actM_no _ _ hn0
   rw [← he] at hn0
   cbv; repeat' ((first | refine .n fun h => ?_ | refine .y fun h => ?_ | fail) <;> cbv)
   (refine callG_spec hend ((⟨c, L⟩ : Rg), (⟨bill, index, -1, by_, 0, day, true, wrongE by_ to⟩ : Ak), to) [1, 2] ⟨fun b hb => (hall b hb).1, rfl, rfl, rfl, rfl⟩ rfl rfl (by decide) rfl rfl rfl rfl rfl ?_; try dsimp only)
   rw [← he, hL2]
   clear hL2 he hne
   cbv; repeat' ((first | refine .n fun h => ?_ | fail) <;> cbv)
   all_goals first | contradiction | skip
   (refine callG_spec hul ((⟨c, L⟩ : Rg), (⟨c, L⟩ : Rg), by_, box) [1, 2] hup rfl rfl (by decide) rfl rfl rfl rfl rfl ?_; try dsimp only)
   cbv; repeat' ((first | refine .mk (fun h => ?_) fun h => ?_ | fail) <;> cbv)
   all_goals first | contradiction | skip
   (refine FinK.mk ⟨_, Gh.refl _, ?_⟩; cbv; exact .inl (CutK.pre _ (by rfl) (by exact Nat.le_of_ble_eq_true rfl) (by rfl) (by rfl) (Le.refl _) (LeH.refl _) hK))
  ·have hn0 : ¬ askM L ⟨bill, index, 0, by_, 0, day, true, false⟩ = 0 := hne ⟨by decide, by decide⟩
   obtain ⟨e, he⟩ : ∃ e, e = askM L ⟨bill, index, 0, by_, 0, day, true, false⟩ := ⟨_, rfl⟩
   have hL2 : actM L ⟨bill, index, 0, by_, 0, day, true, false⟩ (surF ⟨bill, index, 0, by_, 0, day, true, false⟩) = L := actM_no _ _ hn0
   have hbx : boxM L ⟨bill, index, 0, by_, 0, day, true, false⟩ = [] := by unfold boxM; rw [if_neg hn0]
   rw [← he] at hn0
   cbv; repeat' ((first | refine .n fun h => ?_ | refine .y fun h => ?_ | fail) <;> cbv)
   (refine callG_spec hsur ((⟨c, L⟩ : Rg), (⟨bill, index, 0, by_, 0, day, true, false⟩ : Ak)) [1, 2] ⟨hall, rfl, rfl, rfl, rfl⟩ rfl rfl (by decide) rfl rfl rfl rfl rfl ?_; try dsimp only)
   rw [← he, hL2, hbx]
   clear hL2 he hne
   cbv; repeat' ((first | refine .n fun h => ?_ | fail) <;> cbv)
   all_goals first | contradiction | skip
   (refine callG_spec hul ((⟨c, L⟩ : Rg), (⟨c, L⟩ : Rg), by_, box) [1, 2] hup rfl rfl (by decide) rfl rfl rfl rfl rfl ?_; try dsimp only)
   cbv; repeat' ((first | refine .mk (fun h => ?_) fun h => ?_ | fail) <;> cbv)
   all_goals first | contradiction | skip
   (refine FinK.mk ⟨_, Gh.refl _, ?_⟩; cbv; exact .inl (CutK.pre _ (by rfl) (by exact Nat.le_of_ble_eq_true rfl) (by rfl) (by rfl) (Le.refl _) (LeH.refl _) hK))
  ·have hn0 : ¬ askM L ⟨bill, index, 0, by_, 0, 0, false, false⟩ = 0 := hne ⟨by decide, by decide⟩
   obtain ⟨e, he⟩ : ∃ e, e = askM L ⟨bill, index, 0, by_, 0, 0, false, false⟩ := ⟨_, rfl⟩
   have hL2 : actM L ⟨bill, index, 0, by_, 0, 0, false, false⟩ (loseF ⟨bill, index, 0, by_, 0, 0, false, false⟩) = L := actM_no _ _ hn0
   rw [← he] at hn0
   cbv; repeat' ((first | refine .n fun h => ?_ | refine .y fun h => ?_ | fail) <;> cbv)
   (refine callG_spec hlose ((⟨c, L⟩ : Rg), (⟨bill, index, 0, by_, 0, 0, false, false⟩ : Ak)) [1, 2] ⟨fun b hb => (hall b hb).1, rfl, rfl, rfl, rfl, rfl⟩ rfl rfl (by decide) rfl rfl rfl rfl rfl ?_; try dsimp only)
   rw [← he, hL2]
   clear hL2 he hne
   cbv; repeat' ((first | refine .n fun h => ?_ | fail) <;> cbv)
   all_goals first | contradiction | skip
   (refine callG_spec hul ((⟨c, L⟩ : Rg), (⟨c, L⟩ : Rg), by_, box) [1, 2] hup rfl rfl (by decide) rfl rfl rfl rfl rfl ?_; try dsimp only)
   cbv; repeat' ((first | refine .mk (fun h => ?_) fun h => ?_ | fail) <;> cbv)
   all_goals first | contradiction | skip
   (refine FinK.mk ⟨_, Gh.refl _, ?_⟩; cbv; exact .inl (CutK.pre _ (by rfl) (by exact Nat.le_of_ble_eq_true rfl) (by rfl) (by rfl) (Le.refl _) (LeH.refl _) hK))
  ·have hn0 : ¬ askM L ⟨bill, index, 0, by_, 3, day, true, false⟩ = 0 := hne ⟨by decide, by decide⟩
   obtain ⟨e, he⟩ : ∃ e, e = askM L ⟨bill, index, 0, by_, 3, day, true, false⟩ := ⟨_, rfl⟩
   have hL2 : actM L ⟨bill, index, 0, by_, 3, day, true, false⟩ (repF ⟨bill, index, 0, by_, 3, day, true, false⟩) = L := actM_no _ _ hn0
   rw [← he] at hn0
   cbv; repeat' ((first | refine .n fun h => ?_ | refine .y fun h => ?_ | fail) <;> cbv)
   (refine callG_spec hrep ((⟨c, L⟩ : Rg), (⟨bill, index, 0, by_, 3, day, true, false⟩ : Ak)) [1, 2] ⟨fun b hb => (hall b hb).1, rfl, rfl, rfl, rfl⟩ rfl rfl (by decide) rfl rfl rfl rfl rfl ?_; try dsimp only)
   rw [← he, hL2]
   clear hL2 he hne
   cbv; repeat' ((first | refine .n fun h => ?_ | fail) <;> cbv)
   all_goals first | contradiction | skip
   (refine callG_spec hul ((⟨c, L⟩ : Rg), (⟨c, L⟩ : Rg), by_, box) [1, 2] hup rfl rfl (by decide) rfl rfl rfl rfl rfl ?_; try dsimp only)
   cbv; repeat' ((first | refine .mk (fun h => ?_) fun h => ?_ | fail) <;> cbv)
   all_goals first | contradiction | skip
   (refine FinK.mk ⟨_, Gh.refl _, ?_⟩; cbv; exact .inl (CutK.pre _ (by rfl) (by exact Nat.le_of_ble_eq_true rfl) (by rfl) (by rfl) (Le.refl _) (LeH.refl _) hK))
  ·have hn0 : ¬ askM L ⟨bill, -1, -1, by_, 0, day, true, false⟩ = 0 := hne ⟨by decide, by decide⟩
   obtain ⟨e, he⟩ : ∃ e, e = askM L ⟨bill, -1, -1, by_, 0, day, true, false⟩ := ⟨_, rfl⟩
   have hL2 : actM L ⟨bill, -1, -1, by_, 0, day, true, false⟩ (retF ⟨bill, -1, -1, by_, 0, day, true, false⟩) = L := actM_no _ _ hn0
   rw [← he] at hn0
   cbv; repeat' ((first | refine .n fun h => ?_ | refine .y fun h => ?_ | fail) <;> cbv)
   (refine callG_spec hret ((⟨c, L⟩ : Rg), (⟨bill, -1, -1, by_, 0, day, true, false⟩ : Ak)) [1, 2] ⟨fun b hb => (hall b hb).1, rfl, rfl, rfl, rfl, rfl⟩ rfl rfl (by decide) rfl rfl rfl rfl rfl ?_; try dsimp only)
   rw [← he, hL2]
   clear hL2 he hne
   cbv; repeat' ((first | refine .n fun h => ?_ | fail) <;> cbv)
   all_goals first | contradiction | skip
   (refine callG_spec hul ((⟨c, L⟩ : Rg), (⟨c, L⟩ : Rg), by_, box) [1, 2] hup rfl rfl (by decide) rfl rfl rfl rfl rfl ?_; try dsimp only)
   cbv; repeat' ((first | refine .mk (fun h => ?_) fun h => ?_ | fail) <;> cbv)
   all_goals first | contradiction | skip
   (refine FinK.mk ⟨_, Gh.refl _, ?_⟩; cbv; exact .inl (CutK.pre _ (by rfl) (by exact Nat.le_of_ble_eq_true rfl) (by rfl) (by rfl) (Le.refl _) (LeH.refl _) hK))
theorem only_body (P : Program) (haw : FnOk P 12 AwakeC) (hri : FnOk P 13 RightC) (hpl : FnOk P 14 PlayC) (hul : FnOk P 35 UnlikeC) (hhold : FnOk P 33 HoldC) (hend : FnOk P 18 EndorseC) (hsur : FnOk P 19 SurrenderC) (hlose : FnOk P 20 LoseC) (hrep : FnOk P 21 ReplaceC) (hret : FnOk P 22 RetireC) : BodyOkS P x10 OnlyC := by
 intro args H K hc; obtain ⟨⟨l, a, box⟩, rfl, rfl, hp, hK⟩ := hc; refine ⟨Nat.le_of_ble_eq_true rfl, ?_⟩; dsimp only at hp hK ⊢
 obtain ⟨⟨hlen, hgd⟩, hfew, hga, hs1⟩ := hp
 unfold sz47 at hs1
 dsimp only at hlen hgd hfew hga hs1
 obtain ⟨l2, hl2⟩ : ∃ l2, l2 = l ++ [a] := ⟨_, rfl⟩
 have hll : l2.length = l.length + 1 := by rw [hl2, List.length_append, List.length_singleton]
 have hg2 : ∀ x ∈ l2, GdAt x := fun x hx => by
  rw [hl2] at hx
  rcases List.mem_append.1 hx with h | h
  ·exact hgd x h
  ·rw [List.mem_singleton.1 h]; exact hga
 have hcat : ∀ zs, zs = mapA AtA l ++ [AtA a] → zs = mapA AtA l2 := fun zs h => by rw [h, hl2, mapA_app, mapA_one]
 obtain ⟨q, hq⟩ : ∃ q, q = rightB l2 := ⟨_, rfl⟩
 have hr2 : q = true → RightL (l ++ [a]) := fun h => by rw [← hl2]; exact rightB_of (hq.symm.trans h)
 have hrest := fun (h : q = true) => only_rest P hpl hul hhold hend hsur hlose hrep hret (box := box) (hr2 h) hgd hK
 clear hr2 hl2 hgd hga
 obtain ⟨kind, index, day, bill, by_, to, b⟩ := a
 obtain ⟨number1, carrier1, shipper1, frm1, to1, boxes1, parents1, issued1, clean1⟩ := b
 refine SemW.seq (.of ?_)
 cbv
 refine SemW.seq (.of ?_)
 cbv
 (refine callG_spec0 haw () trivial rfl rfl rfl ?_; try dsimp only)
 cbv
 refine SemW.seq (.of ?_)
 cbv; repeat' ((first | refine .o ?_ | refine .zl fun zs hzs hzl => ?_ | refine And.intro ?_ ?_ | fail) <;> cbv)
 all_goals
  obtain rfl : zs = mapA AtA l2 := hcat _ hzs
  refine callG_publish 1 rfl ?_
  cbv
  (refine callG_spec0 hri l2 ⟨by unfold maxLen; omega, hg2⟩ rfl rfl rfl ?_; try dsimp only)
  rw [← hq]
  clear hq hcat hg2
  cases q with
  | false =>
   cbv
   (refine FinK.mk ⟨_, Gh.refl _, ?_⟩; cbv; exact .inl (CutK.pre _ (by rfl) (by exact Nat.le_of_ble_eq_true rfl) (by rfl) (by rfl) (Le.refl _) (LeH.refl _) hK))
  | true =>
   cbv; repeat' ((first | refine .mk (fun h => ?_) fun h => ?_ | refine .k fun z hz => ?_ | fail) <;> cbv)
   ·(refine FinK.mk ⟨_, Gh.refl _, ?_⟩; cbv; exact .inl (CutK.pre _ (by rfl) (by exact Nat.le_of_ble_eq_true rfl) (by rfl) (by rfl) (Le.refl _) (LeH.refl _) hK))
   ·exact SemW.gh (Gh.weak (by repeat' (first | exact trivial | refine ⟨.inl rfl, ?_⟩ | refine ⟨.inr rfl, ?_⟩)) (by rfl) (by rfl) (by rfl) (by exact Nat.le_of_ble_eq_true rfl)) (.of (hrest rfl))
end Go.Proofs.YtjnmaicofgjplaaGreatDoor
namespace Go.Proofs.YtjnmaicofgjplaaGreatDoor
open Go.RowKit
set_option maxRecDepth 100000
theorem k_only : FnOk Tryz.prog 10 OnlyC := body_okS (by kernel_rfl) (only_body _ k_awake k_right23 k_play k_unlike k_holder k_endorse k_surrender k_lose k_replace k_retire)
end Go.Proofs.YtjnmaicofgjplaaGreatDoor
