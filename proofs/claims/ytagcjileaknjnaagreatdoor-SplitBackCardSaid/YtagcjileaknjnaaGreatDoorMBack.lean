/-
  Texts of this proof, joined: SPX, SPY, SKBack.
-/
import Derived.Test.YtagcjileaknjnaaGreatDoorA6
import Derived.KernelRfl
set_option linter.unusedVariables false
set_option linter.unusedSimpArgs false
namespace Go.Proofs.YtagcjileaknjnaaGreatDoor
def x3 : XFn := ⟨157, zr [yb 10 false] (.seq (zr [zs 18 (.call 10 []), yo 19 18, zm 20 19, zh 21 20 false 0, zg 22 20 false (.call 11 [.t 21]), go 23 20 false 22, yq 24 20 true 23] (.cond (.t 24) (zr [zs 25 (.call 10 []), zm 10 25] .ret) .skip)) (zr [zm 27 0, zs 28 (.call 12 [.t 27]), zm 26 28, yx 29 26 0, yx 30 26 1, zs 12 (.alloc 28 [.str ⟨#[]⟩, .v (.slice none 0 0)]), zm 11 29, ys 2 12 30] (zr [zm 32 11, zm 33 1, zs 34 (.call 13 [.t 32, .t 33]), zm 31 34, yx 35 31 0, yx 36 31 1, zs 13 (.alloc 33 [.str ⟨#[]⟩, .str ⟨#[]⟩, .str ⟨#[]⟩, .str ⟨#[]⟩, .str ⟨#[]⟩, .v (.slice none 0 0), .v (.slice none 0 0), .int .i64 0, .bl false]), ys 9 13 35, zm 14 36] (.seq (zr [zm 37 14, yo 38 37, zm 39 38, gf 40 39 false 5 13, gl 41 39 false 40, ge 42 39 false 41, gk 43 39 false .lss 42 2, yq 44 39 true 43, zm 45 44, zh 46 45 false 11, zh 47 45 false 1, zh 48 45 false 2, zg 49 45 false (.call 14 [.t 46, .t 47, .t 48]), go 50 45 false 49, yq 51 45 true 50] (.cond (.t 51) (zr [yb 10 true] .ret) .skip)) (zr [zm 52 3, zs 53 (.cvi .i64 (.t 52)), zf 54 5 13, zl 55 54, yl 56 55, zs 57 (.ari .sub .i64 (.t 56) (.c (.int .i64 1))), ya 58 .rem .i64 53 57, zs 59 (.ari .add .i64 (.c (.int .i64 1)) (.t 58)), zm 15 59] (.seq (.seq (.dreg (.take 0 (zm 60 11) (.take 1 (zm 61 1) (.take 2 (zm 62 2) (.take 3 (zf 63 5 13) (.take 4 (zl 64 63) (.take 5 (zm 65 15) (.take 6 (zs 66 (.sli 1 (.t 64) none (some (.t 65)))) (.take 7 (zf 67 5 13) (.take 8 (zl 68 67) (.take 9 (zm 69 15) (.take 10 (zs 70 (.sli 1 (.t 68) (some (.t 69)) none)) (.take 13 (zm 73 4) (.fork (.eff 11 0 true (zs 71 (.bsl 31 1 2 [.v (.slice none 0 0)] [(0, .t 66), (1, .t 70)])) (.eff 12 1 true (zs 72 (.bsl 9 1 2 [.str ⟨#[]⟩] [(0, .c (.str ⟨#[104, 97, 108, 102, 45, 49]⟩)), (1, .c (.str ⟨#[104, 97, 108, 102, 45, 50]⟩))])) (.eff 14 2 false (zs 74 (.call 15 [.t 60, .t 61, .t 62, .t 71, .t 72, .t 73])) (.phase [4, 8] (.take 15 (yk 75 .neq 74 0) .nil))))) (.eff 12 1 true (zs 72 (.bsl 9 1 2 [.str ⟨#[]⟩] [(0, .c (.str ⟨#[104, 97, 108, 102, 45, 49]⟩)), (1, .c (.str ⟨#[104, 97, 108, 102, 45, 50]⟩))])) (.eff 11 0 false (zs 71 (.bsl 31 1 2 [.v (.slice none 0 0)] [(0, .t 66), (1, .t 70)])) (.eff 14 2 false (zs 74 (.call 15 [.t 60, .t 61, .t 62, .t 71, .t 72, .t 73])) (.phase [4, 8] (.take 15 (yk 75 .neq 74 0) .nil)))))))))))))))))) 2 [13]) (.cond (.t 75) (zr [zm 76 11, zm 77 1, zm 78 2, zs 79 (.call 14 [.t 76, .t 77, .t 78]), zm 10 79] .ret) .skip)) (.seq (zr [zm 80 11, zm 81 2, zs 82 (.call 14 [.t 80, .c (.str ⟨#[104, 97, 108, 102, 45, 49]⟩), .t 81]), yo 83 82, zm 84 83, zh 85 84 false 11, zh 86 84 false 2, zg 87 84 false (.call 14 [.t 85, .c (.str ⟨#[104, 97, 108, 102, 45, 50]⟩), .t 86]), go 88 84 false 87, yq 89 84 true 88, zm 90 89, zh 91 90 false 11, zh 92 90 false 1, zh 93 90 false 2, zg 94 90 false (.call 14 [.t 91, .t 92, .t 93]), yq 95 90 true 94] (.cond (.t 95) (zr [yb 10 false] .ret) .skip)) (.seq (zr [zm 96 11, zs 97 (.bsl 9 1 2 [.str ⟨#[]⟩] [(0, .c (.str ⟨#[104, 97, 108, 102, 45, 49]⟩)), (1, .c (.str ⟨#[104, 97, 108, 102, 45, 50]⟩))]), zm 98 2, zm 99 4, zs 100 (.call 16 [.t 96, .t 97, .t 98, .c (.str ⟨#[119, 104, 111, 108, 101]⟩), .t 99]), yk 101 .neq 100 0] (.cond (.t 101) (zr [zm 102 11, zs 103 (.call 17 [.t 102, .c (.str ⟨#[119, 104, 111, 108, 101]⟩)]), yk 104 .geq 103 0, zm 10 104] .ret) .skip)) (zr [zm 106 11, zs 107 (.call 13 [.t 106, .c (.str ⟨#[119, 104, 111, 108, 101]⟩)]), zm 105 107, yx 108 105 0, yx 109 105 1, zs 16 (.alloc 33 [.str ⟨#[]⟩, .str ⟨#[]⟩, .str ⟨#[]⟩, .str ⟨#[]⟩, .str ⟨#[]⟩, .v (.slice none 0 0), .v (.slice none 0 0), .int .i64 0, .bl false]), ys 9 16 108, zm 17 109] (zr [zm 110 17, zm 111 110, gf 112 111 true 5 16, gl 113 111 true 112, gf 114 111 true 5 13, gl 115 111 true 114, zg 116 111 true (.call 18 [.t 113, .t 115]), yr 117 111 116 false, zm 118 117, gf 119 118 true 2 16, gl 120 118 true 119, gf 121 118 true 2 13, gl 122 118 true 121, gc 123 118 true .eql 120 122, yr 124 118 123 false, zm 125 124, gf 126 125 true 3 16, gl 127 125 true 126, gf 128 125 true 3 13, gl 129 125 true 128, gc 130 125 true .eql 127 129, yr 131 125 130 false, zm 132 131, gf 133 132 true 4 16, gl 134 132 true 133, gf 135 132 true 4 13, gl 136 132 true 135, gc 137 132 true .eql 134 136, yr 138 132 137 false, zm 139 138, gf 140 139 true 8 16, gl 141 139 true 140, gf 142 139 true 8 13, gl 143 139 true 142, zg 144 139 true (.cmb .eql (.t 141) (.t 143)), yr 145 139 144 false, zm 146 145, zh 147 146 true 11, zh 148 146 true 2, zg 149 146 true (.call 14 [.t 147, .c (.str ⟨#[119, 104, 111, 108, 101]⟩), .t 148]), yr 150 146 149 false, zm 151 150, gf 152 151 true 7 16, gl 153 151 true 152, zh 154 151 true 4, gc 155 151 true .eql 153 154, yr 156 151 155 false, zm 10 156] .ret)))))))))), [.tmp 10]⟩
end Go.Proofs.YtagcjileaknjnaaGreatDoor
noncomputable section
namespace Go.Proofs.YtagcjileaknjnaaGreatDoor
open Go.RowKit
set_option maxHeartbeats 1000000
set_option maxRecDepth 100000
def sH1 : ByteArray := ⟨⟨[104, 97, 108, 102, 45, 49]⟩⟩
def sH2 : ByteArray := ⟨⟨[104, 97, 108, 102, 45, 50]⟩⟩
def sWh : ByteArray := ⟨⟨[119, 104, 111, 108, 101]⟩⟩
theorem ask_new {b : Bl} {by_ s : ByteArray} {day : Int} (hd : dayB day = true) (hi : b.issued ≤ day) : askE (newM b by_) (akR s by_ day) = 0 := by
 have e1 : k1 (akR s by_ day) = false := rfl
 have e2 : k2 (akR s by_ day) = false := by unfold k2 akR; simp [hd]
 have e3 : k3 (newM b by_) (akR s by_ day) = false := by unfold k3 some3 pState akR newM; simp
 have e4 : k4 (newM b by_) (akR s by_ day) = false := by unfold k4 some3 pHolder akR newM; simp
 have e5 : k5 (newM b by_) (akR s by_ day) = false := by
  have : ∀ o : Og, o.chain = [] → pDay (newM b by_) (akR s by_ day) o = false := fun o ho => by
   unfold pDay
   have : lastM o (newM b by_).b.issued = b.issued := by unfold lastM; rw [ho]; rfl
   rw [this]
   exact decide_eq_false (by show ¬ day < b.issued; omega)
  unfold k5 some3
  rw [this _ rfl, this _ rfl, this _ rfl]
  simp
 unfold askE
 rw [e1, e2, e3, e4, e5]
 rfl
theorem do_len {n : Nat} {R : Rg} (h : Inv n R) (a : At) : (doR R a).1.bills.length ≤ R.bills.length + 1 := by
 by_cases h0 : a.kind = 0
 ·rw [doR_iss h0]
  show (issM (issOf R a)).bills.length ≤ _
  by_cases h1 : issE (issOf R a) = 0
  ·rw [issM_yes h1]; show (R.bills ++ [_]).length ≤ _; rw [List.length_append]; exact Nat.le_refl _
  ·rw [issM_no h1]; exact Nat.le_succ _
 ·rw [doR_act h0]
  show (actM R.bills (akOf a) (actR a)).length ≤ _
  by_cases h1 : askM R.bills (akOf a) = 0
  ·rw [actM_map h.nd _ _ h1, List.length_map]; exact Nat.le_succ _
  ·rw [actM_no _ _ h1]; exact Nat.le_succ _
theorem beg_len {l : List At} (h : BegP l) : ∀ k, k ≤ l.length → (beginM (l.take k)).bills.length ≤ k
 | 0, _ => Nat.zero_le _
 | k + 1, hk => by
  have ih := beg_len h k (by omega)
  rw [beg_snoc (List.getElem?_eq_getElem (by omega : k < l.length))]
  unfold begR
  split
  ·exact Nat.le_trans (do_len (h.inv k) _) (by omega)
  ·omega
theorem iss_two {R : Rg} {o1 o2 : Bl} {by_ : ByteArray} (h : (runM R (issL [o1, o2] by_)).2 = 0) : issE ⟨R, o1, by_⟩ = 0 ∧ issE ⟨⟨R.carrier, R.bills ++ [newM o1 by_]⟩, o2, by_⟩ = 0 := by
 have e : issL [o1, o2] by_ = [.iss o1 by_, .iss o2 by_] := rfl
 rw [e] at h
 by_cases h1 : issE ⟨R, o1, by_⟩ = 0
 ·refine ⟨h1, ?_⟩
  rw [run_cons (doS_iss_ok h1)] at h
  by_cases h2 : issE ⟨⟨R.carrier, R.bills ++ [newM o1 by_]⟩, o2, by_⟩ = 0
  ·exact h2
  ·rw [runM, doS_iss, if_neg h2] at h
   exact absurd h h2
 ·rw [runM, doS_iss, if_neg h1] at h
  exact absurd h h1
structure Two (R R3 : Rg) (y : Br) (bill by_ : ByteArray) (o1 o2 : Bl) : Prop where
 eq : R3 = ⟨R.carrier, R.bills.map (endB [bill]) ++ [newM o1 by_, newM o2 by_]⟩
 l1 : lkN R3.bills o1.number = some (newM o1 by_)
 l2 : lkN R3.bills o2.number = some (newM o2 by_)
 old : lkN R3.bills bill = some (endM 4 y)
 m1 : mayB R.carrier o1 = true
 m2 : mayB R.carrier o2 = true
 nm : nameB by_ = true
theorem GoOk.two {R R3 : Rg} {bill by_ : ByteArray} {day : Int} {o1 o2 : Bl} {y : Br} (h : GoOk R [bill] by_ day [o1, o2] R3) (hy : lkN R.bills bill = some y) (hne : ¬ o1.number = o2.number) : Two R R3 y bill by_ o1 o2 := by
 obtain ⟨h1, h2⟩ := iss_two h.iss
 obtain ⟨a1, a2, a3⟩ := iss_lk h1
 obtain ⟨b1, b2, _⟩ := iss_lk h2
 dsimp only at a1 a2 a3 b1 b2
 have e := h.eq
 obtain ⟨y3, g1, g2, _⟩ := h.gone (List.mem_singleton.2 rfl)
 rw [hy] at g1
 cases g1
 refine ⟨e, ?_, ?_, g2, a2, b2, a3⟩
 ·rw [e]
  show lkN (_ ++ [newM o1 by_, newM o2 by_]) _ = _
  rw [lk_app, a1]
  show lkN ([newM o1 by_] ++ [newM o2 by_]) _ = _
  rw [lk_app, lk_new]
  rfl
 ·rw [e]
  show lkN (_ ++ [newM o1 by_, newM o2 by_]) _ = _
  rw [lk_app] at b1
  rw [lk_app]
  show (lkN (R.bills.map (endB [bill])) o2.number).or (lkN ([newM o1 by_] ++ [newM o2 by_]) _) = _
  rw [lk_app, lk_new_no hne]
  cases hq : lkN (R.bills.map (endB [bill])) o2.number with
  | some z => rw [hq] at b1; cases b1
  | none => rw [lk_new]; rfl
def oneE (s : ByteArray) (b : Br) : Br := if b.b.number = s then endM 4 b else b
theorem oneE_b (s : ByteArray) (b : Br) : (oneE s b).b = b.b := by
 unfold oneE
 split
 ·exact (endM_b 4 b).1
 ·rfl
theorem oneE_no {s : ByteArray} {b : Br} (h : ¬ b.b.number = s) : oneE s b = b := by unfold oneE; rw [if_neg h]
theorem oneE_live {s : ByteArray} {b : Br} (h : (oneE s b).st = 0) : ¬ b.b.number = s ∧ oneE s b = b := by
 by_cases hb : b.b.number = s
 ·unfold oneE at h
  rw [if_pos hb, (endM_b 4 b).2] at h
  exact absurd h (by decide)
 ·exact ⟨hb, oneE_no hb⟩
def bakO (b : Bl) (bill n : ByteArray) (day : Int) (p : List ByteArray) : Bl := followM b n day p [bill]
theorem may_parts {c : ByteArray} {b : Bl} (h : mayB c b = true) : nameB b.number = true ∧ nameB b.shipper = true ∧ nameB b.frm = true ∧ nameB b.to = true ∧ b.carrier = c ∧ dayB b.issued = true ∧ boxGo [] b.boxes = true := by
 obtain ⟨nq1, cq1, sq1, frm1, to1, bq1, pq1, iq1, lq1⟩ := b
 unfold mayB at h
 simp only [Bool.and_eq_true, decide_eq_true_eq] at h
 obtain ⟨⟨⟨h1, h2⟩, h3, h4⟩, ⟨h5, h6⟩, _, h7, _⟩ := h
 exact ⟨h1, h2, h3, h4, h5, h6, h7⟩
theorem may_whole {c : ByteArray} {b : Bl} {day : Int} (h : mayB c b = true) (hd : dayB day = true) : mayB c (followM b sWh day b.boxes [sH1, sH2]) = true := by
 obtain ⟨h1, h2, h3, h4, h5, h6, h7⟩ := may_parts h
 obtain ⟨g1, g2, _, _⟩ := may_boxes h
 have hw : nameB sWh = true := by decide +kernel
 have hp : ([sH1, sH2].any fun s => !nameB s) = false := by decide +kernel
 obtain ⟨nq1, cq1, sq1, frm1, to1, bq1, pq1, iq1, lq1⟩ := b
 dsimp only at h2 h3 h4 h5 h7 g1 g2
 subst h5
 unfold followM mayB
 dsimp only
 rw [hw, h2, h3, h4, hd, h7, hp, decide_eq_true rfl, decide_eq_true ⟨g1, g2, (by decide : 2 ≤ 64)⟩]
 rfl
theorem back_join {n : Nat} {R R3 : Rg} {y : Br} {bill by_ : ByteArray} {day : Int} {p1 p2 : List ByteArray} (h : Inv n R) (h3 : Inv (n + 65) R3) (hl : lkN R.bills bill = some y) (hlive : y.st = 0) (hlen : R.bills.length ≤ 200) (hpp : p1 ++ p2 = y.b.boxes)
  (t : Two R R3 y bill by_ (bakO y.b bill sH1 day p1) (bakO y.b bill sH2 day p2)) (hw : lkN R3.bills sWh = none) : (joinM ⟨R3, [sH1, sH2], by_, sWh, day⟩).2 = 0 := by
 have hd : dayB day = true := (may_parts t.m1).2.2.2.2.2.1
 have l1 : lkN R3.bills sH1 = some (newM (bakO y.b bill sH1 day p1) by_) := t.l1
 have l2 : lkN R3.bills sH2 = some (newM (bakO y.b bill sH2 day p2) by_) := t.l2
 have hc : (decide (2 ≤ [sH1, sH2].length ∧ [sH1, sH2].length ≤ 64) && !dupB [sH1, sH2]) = true := by decide +kernel
 have hg : getL R3.bills [sH1, sH2] = some [bakO y.b bill sH1 day p1, bakO y.b bill sH2 day p2] := by
  rw [getL_cons, l1]
  dsimp only
  rw [getL_cons, l2]
  rfl
 have hs : [bakO y.b bill sH1 day p1, bakO y.b bill sH2 day p2].all (sameJ (bakO y.b bill sH1 day p1)) = true := by
  unfold sameJ bakO followM
  simp
 unfold joinM
 rw [if_pos hc, hg]
 show (if _ = true then _ else _ : Rg × Int).2 = 0
 rw [if_pos hs]
 have hb : boxesJ [bakO y.b bill sH1 day p1, bakO y.b bill sH2 day p2] = y.b.boxes := by
  unfold boxesJ
  rw [List.flatMap_cons, List.flatMap_cons, List.flatMap_nil, List.append_nil]
  exact hpp
 unfold joinS
 rw [hb]
 have e1 : askM R3.bills (akR sH1 by_ day) = 0 := by
  rw [askM_lk, show (akR sH1 by_ day).bill = sH1 from rfl, l1]
  exact ask_new hd (Int.le_refl _)
 have s1 := doS_ret_ok (R := R3) e1
 have hm1 : actM R3.bills (akR sH1 by_ day) (endM 4) = R3.bills.map (oneE sH1) := actM_map h3.nd (akR sH1 by_ day) (endM 4) e1
 rw [hm1] at s1
 have h4 := inv_doS h3 (s := .ret sH1 by_ day) trivial
 rw [s1] at h4
 have hne : ¬ sH2 = sH1 := by decide +kernel
 have e2 : askM (⟨R3.carrier, R3.bills.map (oneE sH1)⟩ : Rg).bills (akR sH2 by_ day) = 0 := by
  rw [askM_lk, show (akR sH2 by_ day).bill = sH2 from rfl]
  show (match lkN (R3.bills.map (oneE sH1)) sH2 with | some b => askE b _ | none => 4) = 0
  rw [lk_map _ (fun b => by rw [oneE_b]), l2, Option.map_some, oneE_no (show ¬ (newM (bakO y.b bill sH2 day p2) by_).b.number = sH1 from hne)]
  exact ask_new hd (Int.le_refl _)
 have s2 := doS_ret_ok (R := ⟨R3.carrier, R3.bills.map (oneE sH1)⟩) e2
 have hm2 : actM (⟨R3.carrier, R3.bills.map (oneE sH1)⟩ : Rg).bills (akR sH2 by_ day) (endM 4) = (R3.bills.map (oneE sH1)).map (oneE sH2) := actM_map h4.nd (akR sH2 by_ day) (endM 4) e2
 rw [hm2] at s2
 have hcar : R3.carrier = R.carrier := by rw [t.eq]
 have e3 : issE ⟨⟨R3.carrier, (R3.bills.map (oneE sH1)).map (oneE sH2)⟩, followM (bakO y.b bill sH1 day p1) sWh day y.b.boxes [sH1, sH2], by_⟩ = 0 := by
  refine iss_zero ?_ ?_ ?_ ?_
  ·unfold i1
   dsimp only
   rw [hcar, t.nm, show mayB R.carrier (followM (bakO y.b bill sH1 day p1) sWh day y.b.boxes [sH1, sH2]) = true from may_whole (lk_inv h hl).1.may hd]
   rfl
  ·show (lkN ((R3.bills.map (oneE sH1)).map (oneE sH2)) sWh).isSome = false
   rw [lk_map _ (fun b => by rw [oneE_b]), lk_map _ (fun b => by rw [oneE_b]), hw]
   rfl
  ·refine List.any_eq_false.2 fun x hx => ?_
   have hx : x ∈ y.b.boxes := hx
   rw [Bool.not_eq_true]
   refine List.any_eq_false.2 fun b hb => ?_
   intro hp
   obtain ⟨g1, g2⟩ := (pBox_iff x b).1 hp
   obtain ⟨b1, hb1, rfl⟩ := List.mem_map.1 hb
   obtain ⟨b0, hb0, rfl⟩ := List.mem_map.1 hb1
   obtain ⟨k1, k2⟩ := oneE_live g1
   rw [k2] at g1 g2
   obtain ⟨k3, k4⟩ := oneE_live g1
   rw [k4] at g1 g2 k1
   rw [t.eq] at hb0
   rcases List.mem_append.1 hb0 with hb0 | hb0
   ·obtain ⟨c0, hc0, rfl⟩ := List.mem_map.1 hb0
    by_cases hcb : c0.b.number ∈ [bill]
    ·rw [endB_in hcb, (endM_b 4 c0).2] at g1
     exact absurd g1 (by decide)
    ·rw [endB_out hcb] at g1 g2
     have hyb := lk_inv h hl
     have := h.dis c0 hc0 y (lk_mem hl).1 g1 hlive x g2 hx
     exact hcb (List.mem_singleton.2 (this.trans hyb.2))
   ·rcases List.mem_cons.1 hb0 with rfl | hb0
    ·exact k3 rfl
    ·obtain rfl := List.mem_singleton.1 hb0
     exact k1 rfl
  ·unfold i4
   dsimp only
   rw [List.length_map, List.length_map, t.eq]
   show decide (256 ≤ (R.bills.map (endB [bill]) ++ [_, _]).length) = false
   rw [List.length_append, List.length_map]
   exact decide_eq_false (by show ¬ 256 ≤ R.bills.length + 2; omega)
 have s3 := doS_iss_ok e3
 have hr := all_yes (show runM R3 (retL [sH1, sH2] by_ day ++ [.iss (followM (bakO y.b bill sH1 day p1) sWh day y.b.boxes [sH1, sH2]) by_]) = _ by
  show runM R3 [.ret sH1 by_ day, .ret sH2 by_ day, .iss (followM (bakO y.b bill sH1 day p1) sWh day y.b.boxes [sH1, sH2]) by_] = _
  rw [run_cons s1, run_cons s2, run_cons s3]
  rfl)
 show (allM R3 (retL [sH1, sH2] by_ day ++ [.iss (followM (bakO y.b bill sH1 day p1) sWh day y.b.boxes [sH1, sH2]) by_])).2 = 0
 rw [hr]
structure BackJ (n : Nat) (R3 R5 : Rg) (e5 : Int) (y : Br) (by_ : ByteArray) (day : Int) : Prop where
 bad : ¬ e5 = 0 → R5 = R3 ∧ 0 ≤ stateM R3.bills sWh
 good : e5 = 0 → lkN R5.bills sWh = some (newM ⟨sWh, y.b.carrier, y.b.shipper, y.b.frm, y.b.to, y.b.boxes, [sH1, sH2], day, y.b.clean⟩ by_)
structure BackF (n : Nat) (R R3 : Rg) (e3 : Int) (y : Br) (bill by_ : ByteArray) (day : Int) : Prop where
 bad : ¬ e3 = 0 → R3 = R
 inv : Inv (n + 65) R3
 f1 : e3 = 0 → fullM R3.bills sH1 by_ = true
 f2 : e3 = 0 → fullM R3.bills sH2 by_ = true
 f3 : e3 = 0 → fullM R3.bills bill by_ = false
 jn : e3 = 0 → ∀ R5 e5, (R5, e5) = joinM ⟨R3, [sH1, sH2], by_, sWh, day⟩ → BackJ n R3 R5 e5 y by_ day
theorem st_pos {n : Nat} {R : Rg} (h : Inv n R) {s : ByteArray} (hs : ¬ lkN R.bills s = none) : 0 ≤ stateM R.bills s := by
 rw [stateM_lk]
 cases hl : lkN R.bills s with
 | none => exact absurd hl hs
 | some w =>
  have := (lk_inv h hl).1.st
  dsimp only
  unfold stOk at this
  omega
theorem back_facts {n : Nat} {R : Rg} {y : Br} {bill by_ : ByteArray} {day : Int} {p1 p2 : List ByteArray} (h : Inv n R) (hl : lkN R.bills bill = some y) (hlen : R.bills.length ≤ 200) (hpp : p1 ++ p2 = y.b.boxes) (hf : fullM R.bills bill by_ = true)
  (sp : SpP ⟨R, bill, by_, [⟨p1⟩, ⟨p2⟩], [sH1, sH2], day⟩) {R3 : Rg} {e3 : Int} (hd : (R3, e3) = splitM ⟨R, bill, by_, [⟨p1⟩, ⟨p2⟩], [sH1, sH2], day⟩) : BackF n R R3 e3 y bill by_ day := by
 have hlive : y.st = 0 := by
  rw [fullM_lk, hl] at hf
  simp only [Bool.and_eq_true, decide_eq_true_eq] at hf
  exact hf.1
 have h3 := inv_splitM h sp
 have hbad := split_err (i := ⟨R, bill, by_, [⟨p1⟩, ⟨p2⟩], [sH1, sH2], day⟩)
 have hgood := split_ok (i := ⟨R, bill, by_, [⟨p1⟩, ⟨p2⟩], [sH1, sH2], day⟩) h.nd
 rw [← hd] at h3 hbad hgood
 dsimp only at h3 hbad hgood
 have ht : e3 = 0 → Two R R3 y bill by_ (bakO y.b bill sH1 day p1) (bakO y.b bill sH2 day p2) := fun he => by
  obtain ⟨y2, hy2, _, hg⟩ := hgood he
  rw [hl] at hy2
  cases hy2
  exact GoOk.two hg hl (by show ¬ sH1 = sH2; decide +kernel)
 refine ⟨hbad, h3, fun he => full_new (b := bakO y.b bill sH1 day p1) (ht he).l1, fun he => full_new (b := bakO y.b bill sH2 day p2) (ht he).l2, fun he => ?_, fun he R5 e5 hj => ?_⟩
 ·rw [fullM_lk, (ht he).old]
  dsimp only
  rw [(endM_b 4 y).2]
  rfl
 ·have t := ht he
  have jbad := join_err (i := ⟨R3, [sH1, sH2], by_, sWh, day⟩)
  have jok := join_ok (i := ⟨R3, [sH1, sH2], by_, sWh, day⟩) h3.nd
  have jyes := back_join h h3 hl hlive hlen hpp t
  rw [← hj] at jbad jok jyes
  dsimp only at jbad jok jyes
  refine ⟨fun h5 => ⟨jbad h5, st_pos h3 fun hw => h5 (jyes hw)⟩, fun h5 => ?_⟩
  rcases jok h5 with ⟨_, a, r, hg, _, hgo⟩ | ⟨_, hx⟩
  ·have l1 : lkN R3.bills sH1 = some (newM (bakO y.b bill sH1 day p1) by_) := t.l1
   have l2 : lkN R3.bills sH2 = some (newM (bakO y.b bill sH2 day p2) by_) := t.l2
   have hg2 : getL R3.bills [sH1, sH2] = some [bakO y.b bill sH1 day p1, bakO y.b bill sH2 day p2] := by
    rw [getL_cons, l1]
    dsimp only
    rw [getL_cons, l2]
    rfl
   rw [hg2] at hg
   cases hg
   have hb : boxesJ [bakO y.b bill sH1 day p1, bakO y.b bill sH2 day p2] = y.b.boxes := by
    unfold boxesJ
    rw [List.flatMap_cons, List.flatMap_cons, List.flatMap_nil, List.append_nil]
    exact hpp
   rw [hb] at hgo
   exact hgo.one.1
  ·exact hx.elim
set_option maxHeartbeats 4000000
structure BackI where
 l : List At
 bill : ByteArray
 by_ : ByteArray
 at_ : Int
 day : Int
def BackC : Ctr := spec (fun i : BackI => [.sl 15 (mapA AtA i.l), .str i.bill, .str i.by_, .int .u8 i.at_, .i i.day]) (fun _ => []) (fun i => InL i.l ∧ 0 ≤ i.at_ ∧ i.at_ ≤ 255) (fun _ => .bl true) fun _ => []
theorem back_body (P : Program) (haw : FnOk P 10 AwakeSC) (hf : FnOk P 11 FewC) (hb : FnOk P 12 BeginC) (hget : FnOk P 13 GetC)
  (hsp : FnOk P 15 SplitC) (hjo : FnOk P 16 JoinC) (hsame : FnOk P 18 SameTC) (hfull : FnOk P 14 FullC) (hst : FnOk P 17 StateC) : BodyOk P x3 BackC := by
 intro args H K hc; obtain ⟨⟨l, bill, by_, at_, day⟩, rfl, rfl, hp, hK⟩ := hc; refine ⟨nb9, ?_⟩; dsimp only at hp hK ⊢
 obtain ⟨hin, ha0, ha1⟩ := hp
 try dsimp only at hin ha0 ha1
 obtain ⟨q, hq⟩ : ∃ q, q = fewB l := ⟨_, rfl⟩
 cbv
 (refine c09 haw () trivial ?_; try dsimp only)
 cbv
 (refine c09 hf l (fun a ha => (hin.gd a ha).sz) ?_; try dsimp only)
 rw [← hq]
 cases q with
 | false =>
  cbv
  (refine c09 haw () trivial ?_; try dsimp only)
  cbv
  (refine .r9 (Gh.refl _) ?_; cbv; exact .inl (.f9 hK))
 | true =>
 have hbp := begP_of hq.symm hin
 clear hq
 have hinv := beg_inv hbp
 have hbl := beg_len hbp l.length (Nat.le_refl _)
 rw [List.take_length] at hbl
 have hl41 := hbp.few.1
 cbv
 (refine cn9 hb l hbp ?_; try dsimp only)
 obtain ⟨⟨c, L⟩, hR⟩ : ∃ R, R = beginM l := ⟨_, rfl⟩
 rw [← hR] at hinv hbl ⊢
 clear hR
 dsimp only at hbl
 have hbl2 : L.length ≤ 200 := by omega
 have hok := hinv.okR (by decide)
 have hch : ∀ b ∈ L, chOk b := fun b hb => (hinv.inB (by decide) b hb).1
 have hiP : InvP ⟨c, L⟩ 65 := ⟨41, by decide, hinv⟩
 cbv
 (refine cs9 hget ((⟨c, L⟩ : Rg), bill) [0, 1] hok ?_; try dsimp only)
 rw [getM_lk]
 cases hl : lkN L bill with
 | none =>
  cbv
  (refine .r9 (Gh.refl _) ?_; cbv; exact .inl (.f9 hK))
 | some y =>
 have hbx := may_boxes (lk_inv hinv hl).1.may
 have hbf := fun p1 p2 hpp hfu sp R3 e3 hd => back_facts (p1 := p1) (p2 := p2) (by_ := by_) (day := day) (R3 := R3) (e3 := e3) hinv hl hbl2 hpp hfu sp hd
 obtain ⟨f, hff⟩ : ∃ f, f = fullM L bill by_ := ⟨_, rfl⟩
 dsimp only at hbf
 rw [← hff] at hbf
 clear hl
 obtain ⟨⟨nq1, cq1, sq1, frm1, to1, bq1, pq1, iq1, lq1⟩, st1, ⟨sa1, ha1, ca1⟩, ⟨sb1, hb1, cb1⟩, ⟨sc1, hc1, cc1⟩⟩ := y
 dsimp only at hbf hbx
 cbv; repeat' ((first | refine .mk (fun h => ?_) fun h => ?_ | refine .k fun z hz => ?_ | fail) <;> cbv)
 ·(refine .r9 (Gh.refl _) ?_; cbv; exact .inl (.f9 hK))
 ·(refine cs9 hfull ((⟨c, L⟩ : Rg), bill, by_) [0, 1] hch ?_; try dsimp only)
  rw [← hff]
  cases f with
  | false =>
   cbv
   (refine .r9 (Gh.refl _) ?_; cbv; exact .inl (.f9 hK))
  | true =>
  cbv; repeat' ((first | refine .q fun z hz hz0 hz1 => ?_ | refine .k fun z hz => ?_ | refine .o ?_ | refine .l fun ys hys hyl => ?_ | refine And.intro ?_ ?_ | fail) <;> cbv)
  all_goals
   rename_i ys1 hys1 hyl1
   have hpp : ys1 ++ ys = bq1 := by
    rw [hys1, hys]
    show List.drop 0 (List.take z.toNat bq1) ++ List.drop z.toNat (List.take ((bq1.length : Int)).toNat bq1) = bq1
    rw [List.drop_zero, Int.toNat_natCast, List.take_length, List.take_append_drop]
   have hll := congrArg List.length hpp
   rw [List.length_append] at hll
   have hpre : SpP ⟨⟨c, L⟩, bill, by_, [⟨ys1⟩, ⟨ys⟩], [sH1, sH2], day⟩ := ⟨hiP, (show 2 ≤ 5000 by decide), fun p hp => by
    rcases List.mem_cons.1 hp with rfl | hp
    ·show ys1.length ≤ 5000; omega
    ·obtain rfl := List.mem_singleton.1 hp
     show ys.length ≤ 5000; omega, (show 2 ≤ 5000 by decide)⟩
   obtain ⟨⟨⟨c3, L3⟩, e3⟩, hd3⟩ : ∃ y, y = splitM ⟨⟨c, L⟩, bill, by_, [⟨ys1⟩, ⟨ys⟩], [sH1, sH2], day⟩ := ⟨_, rfl⟩
   have bf := hbf ys1 ys hpp rfl hpre ⟨c3, L3⟩ e3 hd3
   have hok3 := bf.inv.okR (by decide)
   have hch3 : ∀ b ∈ L3, chOk b := fun b hb => (bf.inv.inB (by decide) b hb).1
   have hiP3 : InvP ⟨c3, L3⟩ 65 := ⟨41 + 65, by decide, bf.inv⟩
   clear hbf
   refine callG_publish 4 rfl ?_
   cbv
   refine callG_publish 5 rfl ?_
   cbv
   (refine cs9 hsp (⟨⟨c, L⟩, bill, by_, [⟨ys1⟩, ⟨ys⟩], [sH1, sH2], day⟩ : SpI) [0, 1] hpre ?_; try dsimp only)
   rw [← hd3]
   cbv; repeat' ((first | refine .mk (fun h => ?_) fun h => ?_ | fail) <;> cbv)
   ·have b1 := bf.f1 (by assumption)
    have b2 := bf.f2 (by assumption)
    have b3 := bf.f3 (by assumption)
    have bj := bf.jn (by assumption)
    have h5 := inv_joinM (i := ⟨⟨c3, L3⟩, [sH1, sH2], by_, sWh, day⟩) bf.inv
    obtain ⟨⟨⟨c5, L5⟩, e5⟩, hd5⟩ : ∃ y, y = joinM ⟨⟨c3, L3⟩, [sH1, sH2], by_, sWh, day⟩ := ⟨_, rfl⟩
    have bk := bj ⟨c5, L5⟩ e5 hd5
    rw [← hd5] at h5
    have hok5 := h5.okR (by decide)
    have hch5 : ∀ b ∈ L5, chOk b := fun b hb => (h5.inB (by decide) b hb).1
    clear bf bj
    dsimp only at b1 b2 b3
    (refine cs9 hfull ((⟨c3, L3⟩ : Rg), sH1, by_) [0, 1] hch3 ?_; try dsimp only)
    rw [b1]
    cbv
    (refine cs9 hfull ((⟨c3, L3⟩ : Rg), sH2, by_) [0, 1] hch3 ?_; try dsimp only)
    rw [b2]
    cbv
    (refine cs9 hfull ((⟨c3, L3⟩ : Rg), bill, by_) [0, 1] hch3 ?_; try dsimp only)
    rw [b3]
    cbv
    refine callG_publish 6 rfl ?_
    cbv
    (refine cs9 hjo (⟨⟨c3, L3⟩, [sH1, sH2], by_, sWh, day⟩ : JoI) [0, 1] ⟨hiP3, (show 2 ≤ 5000 by decide)⟩ ?_; try dsimp only)
    rw [← hd5]
    cbv; repeat' ((first | refine .mk (fun h => ?_) fun h => ?_ | fail) <;> cbv)
    ·have g := bk.good (by assumption)
     dsimp only at g
     have gf := full_new (b := ⟨sWh, cq1, sq1, frm1, to1, bq1, [sH1, sH2], day, lq1⟩) g
     have gf : fullM L5 sWh by_ = true := gf
     clear bk
     (refine cs9 hget ((⟨c5, L5⟩ : Rg), sWh) [0, 1] hok5 ?_; try dsimp only)
     rw [getM_lk, g]
     cbv
     (refine c09 hsame (bq1, bq1) ⟨by dsimp only; omega, by dsimp only; omega⟩ ?_; try dsimp only)
     rw [show decide (bq1 = bq1) = true from decide_eq_true rfl]
     cbv; repeat' ((first | refine .mk (fun h => ?_) fun h => ?_ | fail) <;> cbv)
     all_goals try (exact absurd rfl h)
     (refine cs9 hfull ((⟨c5, L5⟩ : Rg), sWh, by_) [0, 1] hch5 ?_; try dsimp only)
     rw [gf]
     cbv; repeat' ((first | refine .y fun h => ?_ | fail) <;> cbv)
     all_goals try (exact absurd rfl h)
     (refine .r9 (Gh.refl _) ?_; cbv; exact .inl (.f9 hK))
    ·obtain ⟨g1, g2⟩ := bk.bad (by assumption)
     obtain ⟨rfl, rfl⟩ := Rg.mk.inj g1
     dsimp only at g2
     obtain ⟨st, hst9⟩ : ∃ s, s = stateM L5 sWh := ⟨_, rfl⟩
     rw [← hst9] at g2
     (refine cs9 hst ((⟨c5, L5⟩ : Rg), sWh) [0, 1] trivial ?_; try dsimp only)
     rw [← hst9]
     cbv; repeat' ((first | refine .y fun h => ?_ | fail) <;> cbv)
     (refine .r9 (Gh.refl _) ?_; cbv; exact .inl (.f9 hK))
   ·obtain ⟨rfl, rfl⟩ := Rg.mk.inj (bf.bad (by assumption))
    (refine cs9 hfull ((⟨c3, L3⟩ : Rg), bill, by_) [0, 1] hch3 ?_; try dsimp only)
    rw [← hff]
    cbv
    (refine .r9 (Gh.refl _) ?_; cbv; exact .inl (.f9 hK))
theorem kl_back : FnOk Tryz.prog 3 BackC := body_ok (by kernel_rfl) (back_body _ k_awake k_few k_begin k_get k_split k_join k_sameT k_full k_state)
end Go.Proofs.YtagcjileaknjnaaGreatDoor
end
