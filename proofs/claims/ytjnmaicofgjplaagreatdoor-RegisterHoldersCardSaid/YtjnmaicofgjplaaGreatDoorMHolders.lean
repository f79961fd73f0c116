/-
  Texts of this proof, joined: UM, UN, KHolders.
-/
import Derived.Test.YtjnmaicofgjplaaGreatDoorJ6
set_option linter.unusedVariables false
set_option linter.unusedSimpArgs false
namespace Go.Proofs.YtjnmaicofgjplaaGreatDoor
def x5 : XFn := ⟨123, .seq (.reg [(zs 2 (.mov (.c (.bl false))))]) (.seq (.seq (.reg [(zs 15 (.call 12 [])), (zs 16 (.not (.t 15)))]) (.cond (.t 16) (.seq (.reg [(zs 2 (.mov (.c (.bl false))))]) .ret) .skip)) (.seq (.seq (.reg [(zm 17 0), (zs 18 (.call 13 [.t 17])), (zs 19 (.not (.t 18)))]) (.cond (.t 19) (.seq (.reg [(zs 2 (.mov (.c (.bl true))))]) .ret) .skip)) (.seq (.reg [(zs 20 (.call 26 [.c (.str ⟨#[99]⟩)])), (zm 3 20)]) (.seq (.seq (.reg [(zm 21 3), (zs 22 (.cmn false (.t 21)))]) (.cond (.t 22) (.seq (.reg [(zs 2 (.mov (.c (.bl false))))]) .ret) .skip)) (.seq (.reg [(zs 23 (.mkm 57)), (zm 4 23)]) (.seq (.seq (.reg [(zs 5 (.mov (.c (.int .i64 0))))]) (.block 0 (.loop (.seq (.seq (.reg [(zm 24 5), (zm 25 0), (zs 26 (.lenl (.t 25))), (zs 27 (.cmp .lss (.t 24) (.t 26)))]) (.cond (.t 27) .skip (.exit 0))) (.seq (.block 1 (.seq (.reg [(zm 30 0), (zm 31 5), (zs 32 (.iad 15 (.t 30) (.t 31))), (zs 33 (.ld true 15 (.t 32))), (zs 6 (.alloc 38 [.int .i64 0, .int .i64 0, .int .i64 0, .str ⟨#[]⟩, .str ⟨#[]⟩, .str ⟨#[]⟩, .str ⟨#[]⟩, .str ⟨#[]⟩, .str ⟨#[]⟩, .str ⟨#[]⟩, .str ⟨#[]⟩, .v (.slice none 0 0), .v (.slice none 0 0), .int .i64 0, .bl false])), (zn (.st 15 (.t 6) (.t 33)))]) (.seq (.seq (.reg [(zf 34 0 6), (zl 35 34), (zs 36 (.cmp .eql (.t 35) (.c (.int .i64 0)))), (zm 37 36), (zh 38 37 true 3), (zg 39 37 true (.fad 6 (.t 6))), (zg 40 37 true (.ld true 9 (.t 39))), (zg 41 37 true (.fad 5 (.t 6))), (zg 42 37 true (.ld false 1 (.t 41))), (zg 43 37 true (.call 17 [.t 38, .t 40, .t 42])), (zg 44 37 true (.cmp .eql (.t 43) (.c (.int .i64 0)))), (zs 45 (.pick (.t 37) (.t 44) (.c (.bl false))))]) (.cond (.t 45) (.reg [(zm 46 4), (zf 47 6 6), (zf 48 0 47), (zl 49 48), (zf 50 5 6), (zl 51 50), (zn (.upd none (.t 46) (.t 49) (.t 51)))]) .skip)) (.seq (.seq (.reg [(zf 52 0 6), (zl 53 52), (zs 54 (.cmp .gtr (.t 53) (.c (.int .i64 0))))]) (.cond (.t 54) (.reg [(zm 55 3), (zs 56 (.bld [.str ⟨#[]⟩, .v (.slice none 0 0)] [])), (zs 57 (.ld true 15 (.t 6))), (zs 58 (.call 27 [.t 55, .t 56, .t 57]))]) .skip)) (.seq (.reg [(zm 59 3), (zs 60 (.call 25 [.t 59])), (zm 7 60)]) (.seq (.reg [(zs 8 (.mov (.c (.int .i64 0))))]) (.block 2 (.loop (.seq (.seq (.reg [(zm 61 8), (zm 62 7), (zs 63 (.lenl (.t 62))), (zs 64 (.cmp .lss (.t 61) (.t 63)))]) (.cond (.t 64) .skip (.exit 2))) (.seq (.block 3 (.seq (.reg [(zm 67 3), (zm 68 7), (zm 69 8), (zs 70 (.iad 1 (.t 68) (.t 69))), (zl 71 70), (zs 72 (.call 23 [.t 67, .t 71])), (zm 9 72)]) (.seq (.reg [(zs 10 (.mov (.c (.int .i64 0))))]) (.block 4 (.loop (.seq (.seq (.reg [(zm 73 10), (zm 74 9), (zs 75 (.lenl (.t 74))), (zs 76 (.cmp .lss (.t 73) (.t 75)))]) (.cond (.t 76) .skip (.exit 4))) (.seq (.block 5 (.seq (.dreg (.take 0 (zm 79 3) (.take 1 (zm 80 7) (.take 2 (zm 81 8) (.take 3 (zs 82 (.iad 1 (.t 80) (.t 81))) (.take 4 (zl 83 82) (.take 5 (zm 84 9) (.take 6 (zm 85 10) (.take 7 (zs 86 (.iad 4 (.t 84) (.t 85))) (.take 8 (zf 87 1 86) (.take 9 (zl 88 87) (.eff 10 0 false (zs 89 (.call 28 [.t 79, .t 83, .t 88])) (.phase [4, 9] (.take 11 (zm 11 89) .nil))))))))))))) 0 [7, 9]) (.seq (.reg [(zm 91 4), (zm 92 7), (zm 93 8), (zs 94 (.iad 1 (.t 92) (.t 93))), (zl 95 94), (zs 96 (.lkp none false (.str ⟨#[]⟩) (.t 91) (.t 95))), (zm 97 11), (zs 98 (.call 29 [.t 96, .t 97])), (zm 90 98), (zs 99 (.ext (.t 90) 0)), (zs 100 (.ext (.t 90) 1)), (zs 101 (.ext (.t 90) 2)), (zm 12 99), (zm 13 100), (zm 14 101)]) (.seq (.reg [(zm 102 14), (zs 103 (.cmp .neq (.t 102) (.c (.int .i64 0)))), (zm 104 103), (zh 105 104 false 13), (zh 106 104 false 11), (zg 107 104 false (.lenl (.t 106))), (zg 108 104 false (.cmp .neq (.t 105) (.t 107))), (zs 109 (.pick (.t 104) (.c (.bl true)) (.t 108))), (zm 110 109), (zh 111 110 false 12), (zh 112 110 false 9), (zh 113 110 false 10), (zg 114 110 false (.iad 4 (.t 112) (.t 113))), (zg 115 110 false (.fad 3 (.t 114))), (zg 116 110 false (.ld false 1 (.t 115))), (zg 117 110 false (.cmp .neq (.t 111) (.t 116))), (zs 118 (.pick (.t 110) (.c (.bl true)) (.t 117))), (zm 119 118), (zh 120 119 false 11), (zg 121 119 false (.call 30 [.t 120])), (zs 122 (.pick (.t 119) (.c (.bl true)) (.t 121)))]) (.cond (.t 122) (.seq (.reg [(zs 2 (.mov (.c (.bl false))))]) .ret) .skip))))) (.reg [(zm 77 10), (zs 78 (.ari .add .i64 (.t 77) (.c (.int .i64 1)))), (zm 10 78)])))))))) (.reg [(zm 65 8), (zs 66 (.ari .add .i64 (.t 65) (.c (.int .i64 1)))), (zm 8 66)]))))))))))) (.reg [(zm 28 5), (zs 29 (.ari .add .i64 (.t 28) (.c (.int .i64 1)))), (zm 5 29)])))))) (.seq (.reg [(zs 2 (.mov (.c (.bl true))))]) .ret))))))), [.tmp 2]⟩
end Go.Proofs.YtjnmaicofgjplaaGreatDoor
namespace Go.Proofs.YtjnmaicofgjplaaGreatDoor
open Go.RowKit
set_option maxHeartbeats 4000000
set_option maxRecDepth 100000
/-! ### RegisterHolders -/
def ChOk (f : ByteArray) (o : Og) : Prop := checkM f o.chain = (o.holder, Int.ofNat o.chain.length, 0)
theorem chk_snoc {e : Edm} : ∀ {l a : List Edm} {h h' : ByteArray} {n : Int}, chkFrom h a l = (h', n, 0) → wrongM h' (a ++ l) e = 0 → chkFrom h a (l ++ [e]) = (e.to, Int.ofNat (a ++ l ++ [e]).length, 0)
 | [], a, h, h', n, h1, h2 => by
  rw [chkFrom] at h1
  obtain rfl : h = h' := congrArg Prod.fst h1
  rw [List.append_nil] at h2 ⊢
  show chkFrom h a [e] = _
  rw [chkFrom, if_pos h2, chkFrom]
 | x :: l, a, h, h', n, h1, h2 => by
  rw [chkFrom] at h1
  show chkFrom h a (x :: (l ++ [e])) = _
  rw [chkFrom]
  by_cases hx : wrongM h a x = 0
  ·rw [if_pos hx] at h1 ⊢
   have := chk_snoc (e := e) h1 (by rw [List.append_assoc]; exact h2)
   rw [this, List.append_assoc a [x] l]
   rfl
  ·rw [if_neg hx] at h1
   exact absurd (congrArg (fun t => t.2.2) h1) hx
theorem chOk_new {f : ByteArray} (h : nameB f = true) (s : Int) : ChOk f ⟨s, f, []⟩ := by
 unfold ChOk checkM
 rw [h, if_neg (by decide), chkFrom]
theorem kinds_no {n : Nat} {o : Og} (h : OgOk n o) {k : Int} (hk : ¬ k = 0) : kindB o.chain k = false := by
 unfold kindB
 cases hl : o.chain.getLast? with
 | none => rfl
 | some e =>
  have := h.kinds e (List.mem_of_getLast? hl)
  dsimp only
  rw [this]
  exact decide_eq_false fun e => hk e.symm
theorem chOk_end {n : Nat} {f by_ to : ByteArray} {day issued : Int} {o : Og} (h : ChOk f o) (ho : OgOk n o) (hb : o.holder = by_) (ht : nameB to = true) (hn : ¬ to = by_) (hd : dayB day = true) (hl : decide (day < lastM o issued) = false) : ChOk f (endR by_ to day o) := by
 have hkk1 := kinds_no ho (k := 2) (by decide)
 have hkk2 := kinds_no ho (k := 1) (by decide)
 have hnm := ho.name
 have hlate : lateB o.chain day = false := by
  unfold lateB
  unfold lastM at hl
  cases hg : o.chain.getLast? with
  | none => rfl
  | some e => rw [hg] at hl; exact hl
 obtain ⟨s, y, c⟩ := o
 obtain rfl : y = by_ := hb
 unfold ChOk checkM at h ⊢
 by_cases hf : nameB f = false
 ·rw [if_pos hf] at h
  exact absurd (congrArg (fun t => t.2.2) h) (show ¬ (1 : Int) = 0 by decide)
 ·rw [if_neg hf] at h ⊢
  have hm : edMay ⟨y, to, 0, day⟩ = true := by
   unfold dayB at hd
   unfold edMay
   dsimp only at hnm ⊢
   rw [hnm, hd, ht, decide_eq_false hn]
   rfl
  have hw : wrongM y ([] ++ c) ⟨y, to, 0, day⟩ = 0 := by
   rw [List.nil_append]
   unfold wrongM
   dsimp only at hkk1 hkk2 hlate ⊢
   rw [hm, hkk1, hkk2, hlate]
   simp
  have := chk_snoc (e := ⟨y, to, 0, day⟩) h hw
  show chkFrom f [] (c ++ [⟨y, to, 0, day⟩]) = _
  rw [this]
  rfl
abbrev FL := List (ByteArray × ByteArray)
structure HInv (F : FL) (L : List Br) : Prop where
 key : F.map Prod.fst = L.map fun b => b.b.number
 chk : ∀ (i : Nat) (p : ByteArray × ByteArray) (b : Br), F[i]? = some p → L[i]? = some b → ChOk p.2 b.o0 ∧ ChOk p.2 b.o1 ∧ ChOk p.2 b.o2
theorem hinv_nil : HInv [] [] := ⟨rfl, fun i p b h => by simp at h⟩
theorem hinv_len {F : FL} {L : List Br} (h : HInv F L) : F.length = L.length := by
 have := congrArg List.length h.key
 simpa using this
theorem hinv_iss {n : Nat} {F : FL} {i : Iss} (hv : Inv n i.R) (h : HInv F i.R.bills) (h0 : issE i = 0) : HInv (F ++ [(i.b.number, i.holder)]) (issM i).bills ∧ atS Prod.fst F i.b.number = none := by
 obtain ⟨e1, e2, e3, e4⟩ := iss_facts h0
 unfold i1 at e1
 simp only [Bool.or_eq_false_iff, Bool.not_eq_false'] at e1
 rw [issM_yes h0]
 have hlen := hinv_len h
 refine ⟨⟨?_, fun j p b hp hb => ?_⟩, ?_⟩
 ·show (F ++ _).map Prod.fst = (i.R.bills ++ _).map _
  rw [List.map_append, List.map_append, h.key]
  rfl
 ·have hb : (i.R.bills ++ [newM i.b i.holder])[j]? = some b := hb
  rcases Nat.lt_or_ge j F.length with hj | hj
  ·rw [List.getElem?_append_left hj] at hp
   rw [List.getElem?_append_left (by omega)] at hb
   exact h.chk j p b hp hb
  ·rw [List.getElem?_append_right hj] at hp
   rw [List.getElem?_append_right (by omega)] at hb
   have hj2 : j - F.length = 0 := by
    have := (List.getElem?_eq_some_iff.1 hp).1
    simp at this
    omega
   rw [hj2] at hp
   rw [← hlen, hj2] at hb
   simp at hp hb
   subst hp hb
   exact ⟨chOk_new e1.2 _, chOk_new e1.2 _, chOk_new e1.2 _⟩
 ·rw [i2_lk] at e2
  have e2 : lkN i.R.bills i.b.number = none := by simpa using e2
  cases ha : atS Prod.fst F i.b.number with
  | none => rfl
  | some j =>
   obtain ⟨p, hp, hk⟩ := atS_some ha
   have hm : i.b.number ∈ F.map Prod.fst := List.mem_map.2 ⟨p, List.mem_of_getElem? hp, hk⟩
   rw [h.key] at hm
   obtain ⟨b, hb, hbn⟩ := List.mem_map.1 hm
   rw [lk_of hv.nd hb hbn] at e2
   cases e2
theorem chOk_st {f : ByteArray} {s : Int} {o : Og} (h : ChOk f o) : ChOk f (stO s o) := by obtain ⟨_, _, _⟩ := o; exact h
theorem hinv_act {n : Nat} {R : Rg} {F : FL} (hv : Inv n R) (h : HInv F R.bills) {a : At} (hk : 1 ≤ a.kind ∧ a.kind ≤ 5) : HInv F (actM R.bills (akOf a) (actR a)) := by
 by_cases h0 : askM R.bills (akOf a) = 0
 ·rw [actM_map hv.nd _ _ h0]
  refine ⟨?_, fun i p b hp hb => ?_⟩
  ·rw [h.key, List.map_map]
   refine List.map_congr_left fun b _ => ?_
   show b.b.number = (ite _ _ _ : Br).b.number
   split
   ·rw [actR_b]
   ·rfl
  ·rw [List.getElem?_map] at hb
   cases hy : R.bills[i]? with
   | none => rw [hy] at hb; cases hb
   | some y =>
    rw [hy, Option.map_some] at hb
    have hb := Option.some.inj hb
    obtain ⟨c0, c1, c2⟩ := h.chk i p y hp hy
    have hym := List.mem_of_getElem? hy
    by_cases hs : y.b.number = (akOf a).bill
    ·rw [if_pos hs] at hb
     subst hb
     have hok := hv.all y hym
     have hdn := done_of (ask_at hv.nd h0 hym hs)
     obtain ⟨kind, index, day, bill, by_, to, bb⟩ := a
     obtain ⟨yb, st, o0, o1, o2⟩ := y
     obtain ⟨hmay, hokb, g0, g1, g2, hst⟩ := hok
     dsimp only at c0 c1 c2 g0 g1 g2 hk
     have hk5 : kind = 1 ∨ kind = 2 ∨ kind = 3 ∨ kind = 4 ∨ kind = 5 := by omega
     have hsts : ∀ (idx s : Int) (st : Int), ChOk p.2 (onO idx (stO s) ⟨yb, st, o0, o1, o2⟩).o0 ∧ ChOk p.2 (onO idx (stO s) ⟨yb, st, o0, o1, o2⟩).o1 ∧ ChOk p.2 (onO idx (stO s) ⟨yb, st, o0, o1, o2⟩).o2 := fun idx s st => by
      unfold onO
      dsimp only
      cases hitB idx 0 <;> cases hitB idx 1 <;> cases hitB idx 2 <;> exact ⟨by first | exact c0 | exact chOk_st c0, by first | exact c1 | exact chOk_st c1, by first | exact c2 | exact chOk_st c2⟩
     rcases hk5 with rfl | rfl | rfl | rfl | rfl
     ·obtain ⟨_, hright, hday, _, _, hh3, hd3⟩ := hdn
      have hw : wrongE by_ to = false := hright
      obtain ⟨w1, w2⟩ := wrongE_no hw
      have hdy : dayB day = true := hday rfl
      obtain ⟨q0, q1, q2⟩ := some3_hit hh3
      obtain ⟨r0, r1, r2⟩ := some3_hit (hd3 rfl)
      have hpk : ∀ (q : Bool) (o : Og), ChOk p.2 o → OgOk n o → (q = true → pHolder (akOf ⟨1, index, day, bill, by_, to, bb⟩) o = false) → (q = true → pDay ⟨yb, st, o0, o1, o2⟩ (akOf ⟨1, index, day, bill, by_, to, bb⟩) o = false) → ChOk p.2 (bif q then endR by_ to day o else o) := fun q o hc hg h1 h2 => by
       cases q with
       | false => exact hc
       | true =>
        have h1 := h1 rfl
        have h2 := h2 rfl
        unfold pHolder at h1
        simp only [Bool.not_eq_false', decide_eq_true_eq] at h1
        exact chOk_end hc hg h1 w1 w2 hdy h2
      exact ⟨hpk (hitB index 0) o0 c0 g0 q0 r0, hpk (hitB index 1) o1 c1 g1 q1 r1, hpk (hitB index 2) o2 c2 g2 q2 r2⟩
     ·obtain ⟨k0, k1, k2⟩ : ChOk p.2 (stO 2 o0) ∧ ChOk p.2 (stO 2 o1) ∧ ChOk p.2 (stO 2 o2) := ⟨chOk_st c0, chOk_st c1, chOk_st c2⟩
      show ChOk p.2 (onO index (stO 1) (endM 1 ⟨yb, st, o0, o1, o2⟩)).o0 ∧ ChOk p.2 (onO index (stO 1) (endM 1 ⟨yb, st, o0, o1, o2⟩)).o1 ∧ ChOk p.2 (onO index (stO 1) (endM 1 ⟨yb, st, o0, o1, o2⟩)).o2
      unfold onO endM
      dsimp only
      cases hitB index 0 <;> cases hitB index 1 <;> cases hitB index 2 <;> exact ⟨by first | exact k0 | exact chOk_st k0, by first | exact k1 | exact chOk_st k1, by first | exact k2 | exact chOk_st k2⟩
     ·exact hsts index 3 st
     ·exact hsts index 0 st
     ·exact ⟨chOk_st c0, chOk_st c1, chOk_st c2⟩
    ·rw [if_neg hs] at hb
     subst hb
     exact ⟨c0, c1, c2⟩
 ·rw [actM_no _ _ h0]; exact h
noncomputable def fstF : ByteArray × ByteArray → AV × AV
 | (k, v) => (.str k, .str v)
theorem findA_fst (s : ByteArray) : ∀ (F : FL) (i : Nat), findA (.str s) (mapA fstF F) i = some ((atS Prod.fst F s).map (· + i))
 | [], i => rfl
 | (x, v) :: L, i => by
  have e : mapA fstF ((x, v) :: L) = (.str x, .str v) :: mapA fstF L := rfl
  rw [e]
  unfold findA atS
  rw [List.findIdx?_cons]
  by_cases h : x = s
  ·have h2 : keyIs (.str s) (.str x) = some true := congrArg some ((MapKept.bytes_beq _ _).2 h.symm)
   simp only [h2]
   simp [h]
  ·have h3 : ¬ s = x := fun e => h e.symm
   have h2 : keyIs (.str s) (.str x) = some false := congrArg some (Bool.eq_false_iff.2 fun hb => h3 ((MapKept.bytes_beq _ _).1 hb))
   simp only [h2, findA_fst s L (i + 1), h, decide_false, Bool.false_eq_true, if_false, Option.map_map, atS]
   congr 1
   cases (L.findIdx? fun a => decide (a.1 = s)) with
   | none => rfl
   | some n => simp; omega
theorem find_fst {s : ByteArray} {F : FL} {K : Option (Nat × AV) → Prop} (hs : ∀ (i : Nat) (v : ByteArray), F[i]? = some (s, v) → K (some (i, .str v))) (hn : atS Prod.fst F s = none → K none) : FindK (.str s) (mapA fstF F) K := by
 refine ⟨?_⟩
 have hf := findA_fst s F 0
 cases h : atS Prod.fst F s with
 | some i =>
  obtain ⟨⟨y, v⟩, hy, hk⟩ := atS_some h
  obtain rfl : y = s := hk
  exact .inl ⟨i, _, _, by rw [hf, h]; rfl, by rw [mapA_eq, List.getElem?_map, hy]; rfl, hs i v hy⟩
 | none => exact .inr ⟨by rw [hf, h]; rfl, hn h⟩
/-- What the register tells of an original, and what its chain tells. -/
structure HoF (L : List Br) (F : FL) (s : ByteArray) : Prop where
 len : (ornM L s).length = 3
 at_ : ∀ j : Nat, j < 3 → ∃ st h c, (ornM L s)[j]? = some ⟨s, nI j, st, h⟩ ∧ (origM L s (nI j)).1.chain = c ∧ c.length ≤ 5000 ∧ kindB c 1 = false ∧ ∀ (i : Nat) (f : ByteArray), F[i]? = some (s, f) → checkM f c = (h, Int.ofNat c.length, 0)
 has : ¬ atS Prod.fst F s = none
theorem hoF_of {n : Nat} {c0 : ByteArray} {L : List Br} {F : FL} (hv : Inv n ⟨c0, L⟩) (hn : n ≤ 4000) (h : HInv F L) {s : ByteArray} {y : Br} (hy : y ∈ L) (hs : y.b.number = s) : HoF L F s := by
 have hl := lk_of hv.nd hy hs
 have hok := hv.all y hy
 have hF : ∀ (i : Nat) (f : ByteArray), F[i]? = some (s, f) → ChOk f y.o0 ∧ ChOk f y.o1 ∧ ChOk f y.o2 := fun i f hf => by
  have h1 : (F.map Prod.fst)[i]? = some s := by rw [List.getElem?_map, hf]; rfl
  rw [h.key, List.getElem?_map] at h1
  cases hb : L[i]? with
  | none => rw [hb] at h1; cases h1
  | some b =>
   rw [hb] at h1
   have h2 : b.b.number = s := Option.some.inj h1
   obtain rfl := nodup_eq hv.nd (List.mem_of_getElem? hb) hy (h2.trans hs.symm)
   exact h.chk i _ _ hf hb
 refine ⟨?_, fun j hj => ?_, fun hx => ?_⟩
 ·rw [ornM_lk, hl]
  obtain ⟨_, _, ⟨_, _, _⟩, ⟨_, _, _⟩, ⟨_, _, _⟩⟩ := y
  rfl
 ·rw [ornM_lk, hl, origM_lk, hl]
  obtain ⟨yb, st, ⟨s0, h0, c0⟩, ⟨s1, h1, c1⟩, ⟨s2, h2, c2⟩⟩ := y
  obtain ⟨_, _, g0, g1, g2, _⟩ := hok
  have hj3 : j = 0 ∨ j = 1 ∨ j = 2 := by omega
  rcases hj3 with rfl | rfl | rfl
  ·exact ⟨s0, h0, c0, rfl, rfl, Nat.le_trans g0.len (by omega), kinds_no g0 (by decide), fun i f hf => (hF i f hf).1⟩
  ·exact ⟨s1, h1, c1, rfl, rfl, Nat.le_trans g1.len (by omega), kinds_no g1 (by decide), fun i f hf => (hF i f hf).2.1⟩
  ·exact ⟨s2, h2, c2, rfl, rfl, Nat.le_trans g2.len (by omega), kinds_no g2 (by decide), fun i f hf => (hF i f hf).2.2⟩
 ·have hm : s ∈ F.map Prod.fst := by rw [h.key]; exact List.mem_map.2 ⟨y, hy, hs⟩
  obtain ⟨p, hp, hk⟩ := List.mem_map.1 hm
  exact atS_none hx p hp hk
end Go.Proofs.YtjnmaicofgjplaaGreatDoor
namespace Go.Proofs.YtjnmaicofgjplaaGreatDoor
open Go.RowKit
set_option maxHeartbeats 8000000
set_option maxRecDepth 100000
noncomputable def HoldersC : Ctr := spec (fun l : List At => [.sl 15 (mapA AtA l)]) (fun _ => []) InL (fun _ => .bl true) fun _ => []
def fstH : XCode → XCode
 | .seq a _ => a
 | c => c
def inH : XCode → XCode
 | .block _ c => c
 | .loop c => c
 | c => c
def hoBody : XCode := inH (inH (sndC (fstH (sndC (sndC (sndC (sndC (sndC (sndC x5.body)))))))))
def hoMid : XCode := sndC (sndC (sndC (inH (fstH (sndC hoBody)))))
theorem holders_mid (P : Program) (hb : FnOk P 25 BillsC) (horn : FnOk P 23 OriginalsC) (hchain : FnOk P 28 ChainC) (hchk : FnOk P 29 CheckC) (hbl : FnOk P 30 (KindC 1))
  {l : List At} {k : Nat} {c : ByteArray} {L : List Br} {F : FL} {Q : XEx → St → Prop} (hfew : L.length ≤ 256) (hall : ∀ b ∈ L, inB b) (hH : ∀ s ∈ numsM L fun _ => true, HoF L F s) (hQ : ∀ s, Gh 0 s ⟨[(0, .sl 15 (mapA AtA l)), (3, .ptr 0 0), (4, .hd 2), (5, .i (nI k))], [.blk 80 [.str c, .ph 1], .pool 78 (mapA PelA L) [], .map 57 (mapA fstF F)]⟩ → Q .norm s) :
  SemW P x5.n 0 hoMid Q ⟨[(0, .sl 15 (mapA AtA l)), (3, .ptr 0 0), (4, .hd 2), (5, .i (nI k))], [.blk 80 [.str c, .ph 1], .pool 78 (mapA PelA L) [], .map 57 (mapA fstF F)]⟩ := by
 have hWl : (numsM L fun _ => true).length ≤ 256 := box_len hfew
 obtain ⟨W, hW⟩ : ∃ W, W = numsM L fun _ => true := ⟨_, rfl⟩
 rw [← hW] at hH hWl
 have hch : ∀ b ∈ L, chOk b := fun b hb => (hall b hb).1
 refine SemW.seq (.of ?_)
 cbv
 (refine callG_spec hb (⟨c, L⟩ : Rg) [0, 1] ⟨hfew, hall⟩ rfl rfl (by decide) rfl rfl rfl rfl rfl ?_; try dsimp only)
 rw [← hW]
 clear hW
 cbv
 refine .of ?_
 cbv
 refine xloopV [] (fun q : { w : Nat // w ≤ W.length } => [(8, .i (nI q.1))]) (fun _ => [.blk 80 [.str c, .ph 1], .pool 78 (mapA PelA L) [], .map 57 (mapA fstF F)]) (fun q => lft 257 q.1) ⟨0, Nat.zero_le _⟩ ?_
 rintro ⟨w, hw⟩
 dsimp only at hw ⊢
 cbv; repeat' ((first | refine .mk (fun h => ?_) fun h => ?_ | refine .k fun z hz => ?_ | fail) <;> cbv)
 ·refine askEl_int (by ((try simp only [vn] at *) <;> omega)) (by ((try simp only [vn] at *) <;> omega)) fun i s hi hs => ?_
  obtain rfl : w = i := by ((try simp only [vn] at *) <;> omega)
  obtain ⟨hl3, hat, hhas⟩ := hH s (List.mem_of_getElem? hs)
  have hwl := (List.getElem?_eq_some_iff.1 hs).1
  clear hH hQ
  obtain ⟨O, hO⟩ : ∃ O, O = ornM L s := ⟨_, rfl⟩
  rw [← hO] at hl3 hat
  cbv
  (refine callG_spec horn ((⟨c, L⟩ : Rg), s) [0, 1] trivial rfl rfl (by decide) rfl rfl rfl rfl rfl ?_; try dsimp only)
  rw [← hO]
  clear hO
  cbv
  refine xloopV [] (fun q : { j : Nat // j ≤ 3 } => [(10, .i (nI q.1))]) (fun _ => [.blk 80 [.str c, .ph 1], .pool 78 (mapA PelA L) [], .map 57 (mapA fstF F)]) (fun q => lft 3 q.1) ⟨0, by decide⟩ ?_
  rintro ⟨j, hj⟩
  dsimp only at hj ⊢
  by_cases hj3 : j < 3
  ·obtain ⟨st, hol, ch, hoj, hcj, hcl, hkb, hck⟩ := hat j hj3
   obtain ⟨m, hm⟩ : ∃ m : Nat, m = ch.length := ⟨_, rfl⟩
   rw [← hm] at hck hcl
   clear hat
   cbv; repeat' ((first | refine .e ?_ | refine .y fun h => ?_ | refine .k fun z hz => ?_ | fail) <;> cbv)
   (refine callG_spec hchain ((⟨c, L⟩ : Rg), s, nI j) [0, 1] hch rfl rfl (by decide) rfl rfl rfl rfl rfl ?_; try dsimp only)
   rw [hcj]
   clear hcj
   cbv; repeat' ((first | refine .e ?_ | fail) <;> cbv)
   refine find_fst (fun i f hf => ?_) (fun hn => absurd hn hhas)
   have hck := hck i f hf
   clear hf
   cbv
   (refine callG_spec0 hchk (f, ch) (by dsimp only; omega) rfl rfl rfl ?_; try dsimp only)
   rw [hck]
   clear hck
   cbv; repeat' ((first | refine .e ?_ | refine .y fun h => ?_ | refine .mk (fun h => ?_) fun h => ?_ | refine .k fun z hz => ?_ | fail) <;> cbv)
   all_goals first | contradiction | skip
   all_goals first | (exfalso; omega) | skip
   (refine callG_spec0 hbl ch (by omega) rfl rfl rfl ?_; try dsimp only)
   rw [hkb]
   cbv; repeat' ((first | refine .k fun z hz => ?_ | fail) <;> cbv)
   obtain rfl : z = nI (j + 1) := by ((try simp only [vn] at *) <;> omega)
   exact roundV ⟨j + 1, by omega⟩ (lft_lt (by ((try simp only [vn] at *) <;> omega)))
  ·cbv; repeat' ((first | refine .n fun h => ?_ | refine .k fun z hz => ?_ | fail) <;> cbv)
   obtain rfl : z = nI (w + 1) := by ((try simp only [vn] at *) <;> omega)
   exact roundV ⟨w + 1, by omega⟩ (lft_lt (by ((try simp only [vn] at *) <;> omega)))
 ·exact hQ _ (Gh.weak (by repeat' (first | exact trivial | refine ⟨.inl rfl, ?_⟩ | refine ⟨.inr rfl, ?_⟩)) (by rfl) (by rfl) (by rfl) (by exact Nat.le_of_ble_eq_true rfl))
theorem holders_body (P : Program) (haw : FnOk P 12 AwakeC) (hri : FnOk P 13 RightC) (hnew : FnOk P 26 NewC) (hi : FnOk P 17 IssueC) (hdo : FnOk P 27 LDoC) (hb : FnOk P 25 BillsC) (horn : FnOk P 23 OriginalsC) (hchain : FnOk P 28 ChainC) (hchk : FnOk P 29 CheckC) (hbl : FnOk P 30 (KindC 1)) : BodyOkS P x5 HoldersC := by
 intro args H K hc; obtain ⟨l, rfl, rfl, hp, hK⟩ := hc; refine ⟨Nat.le_of_ble_eq_true rfl, ?_⟩; dsimp only at hp hK ⊢
 obtain ⟨hlen, hgd⟩ := hp
 obtain ⟨q, hq⟩ : ∃ q, q = rightB l := ⟨_, rfl⟩
 obtain ⟨n, hn⟩ : ∃ n : Nat, n = l.length := ⟨_, rfl⟩
 refine SemW.seq (.of ?_)
 cbv
 refine SemW.seq (.of ?_)
 cbv
 (refine callG_spec0 haw () trivial rfl rfl rfl ?_; try dsimp only)
 cbv
 refine SemW.seq (.of ?_)
 cbv
 (refine callG_spec0 hri l ⟨hlen, hgd⟩ rfl rfl rfl ?_; try dsimp only)
 rw [← hq]
 cases q with
 | false =>
  cbv
  (refine FinK.mk ⟨_, Gh.refl _, ?_⟩; cbv; exact .inl (CutK.pre _ (by rfl) (by exact Nat.le_of_ble_eq_true rfl) (by rfl) (by rfl) (Le.refl _) (LeH.refl _) hK))
 | true =>
 have hr := rightB_of hq.symm
 have hlen2 := hr.2.1
 clear hq
 cbv
 refine SemW.seq (.of ?_)
 cbv
 (refine callG_new hnew cS trivial rfl rfl ?_; try dsimp only)
 cbv
 refine SemW.seq (.of ?_)
 cbv
 refine SemW.seq (.of ?_)
 cbv
 refine SemW.seq (.of ?_)
 cbv
 obtain ⟨c, hc⟩ : ∃ c, c = cS := ⟨_, rfl⟩
 rw [show (⟨⟨[99]⟩⟩ : ByteArray) = c from hc.symm]
 refine xloopG (st1 := ⟨[(0, .sl 15 (mapA AtA l)), (3, .ptr 0 0), (4, .hd 2), (5, .i 0)], [.blk 80 [.str c, .ph 1], .pool 78 (mapA PelA []) [], .map 57 (mapA fstF [])]⟩) (Gh.weak (by repeat' (first | exact trivial | refine ⟨.inl rfl, ?_⟩ | refine ⟨.inr rfl, ?_⟩)) (by rfl) (by rfl) (by rfl) (by exact Nat.le_of_ble_eq_true rfl)) ?_
 refine xloopVS [] (fun q : { q : Nat × List Br × FL // q.1 ≤ l.length ∧ Inv q.1 ⟨c, q.2.1⟩ ∧ HInv q.2.2 q.2.1 } => [(5, .i (nI q.1.1))]) (fun q => [.blk 80 [.str c, .ph 1], .pool 78 (mapA PelA q.1.2.1) [], .map 57 (mapA fstF q.1.2.2)]) (fun q => lft n q.1.1) ⟨(0, [], []), Nat.zero_le _, inv_nil _ _, hinv_nil⟩ ?_
 rintro ⟨⟨k, L, F⟩, hk, hinv, hhi⟩
 dsimp only at hk hinv hhi ⊢
 have hfew : L.length ≤ 256 := hinv.few
 have hall : ∀ b ∈ L, inB b := hinv.inB (by omega)
 refine SemW.seq (.of ?_)
 cbv; repeat' ((first | refine .mk (fun h => ?_) fun h => ?_ | refine .k fun z hz => ?_ | fail) <;> cbv)
 rotate_left
 ·refine .of ?_
  cbv
  (refine FinK.mk ⟨_, Gh.refl _, ?_⟩; cbv; exact .inl (CutK.pre _ (by rfl) (by exact Nat.le_of_ble_eq_true rfl) (by rfl) (by rfl) (Le.refl _) (LeH.refl _) hK))
 refine SemW.seq (SemW.block ?_)
 have hfin : ∀ (L' : List Br) (F' : FL), k + 1 ≤ l.length → Inv (k + 1) ⟨c, L'⟩ → HInv F' L' → ∀ Q, (∀ s, Gh 0 s ⟨[(0, .sl 15 (mapA AtA l)), (3, .ptr 0 0), (4, .hd 2), (5, .i (nI k))], [.blk 80 [.str c, .ph 1], .pool 78 (mapA PelA L') [], .map 57 (mapA fstF F')]⟩ → Q .norm s) → SemW P x5.n 0 hoMid Q ⟨[(0, .sl 15 (mapA AtA l)), (3, .ptr 0 0), (4, .hd 2), (5, .i (nI k))], [.blk 80 [.str c, .ph 1], .pool 78 (mapA PelA L') [], .map 57 (mapA fstF F')]⟩ := fun L' F' hk1 h1 h2 Q hQ => by
  refine holders_mid P hb horn hchain hchk hbl h1.few (h1.inB (by omega)) (fun s hs => ?_) hQ
  obtain ⟨y, hy, _, hys⟩ := nums_mem.1 hs
  exact hoF_of h1 (by omega) h2 hy hys
 refine SemW.seq (.of ?_)
 cbv
 refine askEl_int (by ((try simp only [vn] at *) <;> omega)) (by ((try simp only [vn] at *) <;> omega)) fun i x hi' hx => ?_
 obtain rfl : k = i := by ((try simp only [vn] at *) <;> omega)
 have hkl := (List.getElem?_eq_some_iff.1 hx).1
 have hxm := List.mem_of_getElem? hx
 have hact := hr.act x hxm
 have hgx := hgd x hxm
 have hE : LDoP ((⟨c, L⟩ : Rg), (⟨⟨⟨[]⟩⟩, []⟩ : Rg), x) := ⟨hfew, hall, rdoP_of (inv_nil 0 _) (by decide) hact hgx, fun _ _ h => absurd h (by show ¬ (4 : Int) = 0; decide)⟩
 have hdp := doP_eq hinv x
 have hin2 := inv_do hinv hact.1 hact.2.ok
 have hha : 1 ≤ x.kind ∧ x.kind ≤ 5 → HInv F (doR ⟨c, L⟩ x).1.bills := fun hk5 => by
  rw [doR_act (by omega)]
  exact hinv_act hinv hhi hk5
 have hrc := doR_carrier ⟨c, L⟩ x
 have hkk := hact.1
 have hokx := hact.2.ok
 clear hact hgx hxm hx
 obtain ⟨⟨c2, L'⟩, hL'⟩ : ∃ R', R' = (doR ⟨c, L⟩ x).1 := ⟨_, rfl⟩
 rw [← hL'] at hdp hin2 hha hrc
 have hrc : c2 = c := hrc
 dsimp only at hha
 obtain ⟨⟨c9, L9⟩, h9⟩ : ∃ R', R' = (doR ⟨⟨⟨[]⟩⟩, []⟩ x).1 := ⟨_, rfl⟩
 obtain ⟨b9, hb9⟩ : ∃ b, b = decide (eP ⟨c, L⟩ x = (doR ⟨⟨⟨[]⟩⟩, []⟩ x).2) := ⟨_, rfl⟩
 by_cases h0 : x.kind = 0
 ·rw [doR_iss h0] at hL'
  have hhi2 := fun (h : issE (issOf ⟨c, L⟩ x) = 0) => hinv_iss (i := issOf ⟨c, L⟩ x) hinv hhi h
  have hno := fun (h : ¬ issE (issOf ⟨c, L⟩ x) = 0) => issM_no h
  obtain ⟨kind, index, day, bill, by_, to, b⟩ := x
  obtain rfl : kind = 0 := h0
  obtain ⟨number1, carrier1, shipper1, frm1, to1, boxes1, parents1, issued1, clean1⟩ := b
  unfold issOf at hL' hhi2 hno
  dsimp only at hL' hhi2 hno hokx
  obtain ⟨e, he⟩ : ∃ e, e = issE (⟨⟨c, L⟩, ⟨number1, carrier1, shipper1, frm1, to1, boxes1, parents1, issued1, clean1⟩, to⟩ : Iss) := ⟨_, rfl⟩
  rw [← he, ← hL'] at hhi2
  rw [← he, ← hL'] at hno
  dsimp only at hhi2
  clear hha hdp hb9 h9 hE hrc hkk
  obtain rfl : c2 = c := (congrArg Rg.carrier hL').trans (issM_carrier _)
  cbv
  refine SemW.seq (.of ?_)
  cbv; repeat' ((first | refine .y fun h => ?_ | fail) <;> cbv)
  (refine callG_spec hi (⟨⟨c2, L⟩, ⟨number1, carrier1, shipper1, frm1, to1, boxes1, parents1, issued1, clean1⟩, to⟩ : Iss) [0, 1] ⟨hfew, hall, hokx⟩ rfl rfl (by decide) rfl rfl rfl rfl rfl ?_; try dsimp only)
  rw [← he, ← hL']
  clear he hL'
  by_cases he0 : e = 0
  ·obtain ⟨g1, g2⟩ := hhi2 he0
   clear hhi2 hno
   obtain ⟨F', hF'⟩ : ∃ F', F' = F ++ [(number1, to)] := ⟨_, rfl⟩
   rw [← hF'] at g1
   subst he0
   cbv; repeat' ((first | refine .y fun h => ?_ | fail) <;> cbv)
   refine find_fst (fun i v hv => ?_) (fun _ => ?_)
   ·exact absurd rfl (atS_none g2 _ (List.mem_of_getElem? hv))
   cbv; repeat' ((first | refine .ms fun ms hms => ?_ | fail) <;> cbv)
   obtain rfl : ms = mapA fstF F' := by
    rw [hF', mapA_app, mapA_one]
    exact hms
   refine SemW.seq (.of ?_)
   cbv; repeat' ((first | refine .n fun h => ?_ | fail) <;> cbv)
   refine SemW.gh (st' := ⟨[(0, .sl 15 (mapA AtA l)), (3, .ptr 0 0), (4, .hd 2), (5, .i (nI k))], [.blk 80 [.str c2, .ph 1], .pool 78 (mapA PelA L') [], .map 57 (mapA fstF F')]⟩) (Gh.weak (by repeat' (first | exact trivial | refine ⟨.inl rfl, ?_⟩ | refine ⟨.inr rfl, ?_⟩)) (by rfl) (by rfl) (by rfl) (by exact Nat.le_of_ble_eq_true rfl)) (hfin L' F' (by omega) hin2 g1 _ fun s g => ?_)
   refine SemW.gh g (.of ?_)
   cbv; repeat' ((first | refine .k fun z hz => ?_ | fail) <;> cbv)
   obtain rfl : z = nI (k + 1) := by ((try simp only [vn] at *) <;> omega)
   exact roundV ⟨(k + 1, L', F'), by omega, hin2, g1⟩ (lft_lt (by ((try simp only [vn] at *) <;> omega)))
  ·have hLL : L' = L := congrArg Rg.bills (hno he0)
   clear hhi2 hno
   subst hLL
   cbv; repeat' ((first | refine .n fun h => ?_ | fail) <;> cbv)
   all_goals first | contradiction | skip
   refine SemW.seq (.of ?_)
   cbv; repeat' ((first | refine .n fun h => ?_ | fail) <;> cbv)
   refine SemW.gh (st' := ⟨[(0, .sl 15 (mapA AtA l)), (3, .ptr 0 0), (4, .hd 2), (5, .i (nI k))], [.blk 80 [.str c2, .ph 1], .pool 78 (mapA PelA L') [], .map 57 (mapA fstF F)]⟩) (Gh.weak (by repeat' (first | exact trivial | refine ⟨.inl rfl, ?_⟩ | refine ⟨.inr rfl, ?_⟩)) (by rfl) (by rfl) (by rfl) (by exact Nat.le_of_ble_eq_true rfl)) (hfin L' F (by omega) hin2 hhi _ fun s g => ?_)
   refine SemW.gh g (.of ?_)
   cbv; repeat' ((first | refine .k fun z hz => ?_ | fail) <;> cbv)
   obtain rfl : z = nI (k + 1) := by ((try simp only [vn] at *) <;> omega)
   exact roundV ⟨(k + 1, L', F), by omega, hin2, hhi⟩ (lft_lt (by ((try simp only [vn] at *) <;> omega)))
 ·have hha2 := hha (by omega)
  clear hha
  obtain ⟨kind, index, day, bill, by_, to, b⟩ := x
  obtain ⟨number1, carrier1, shipper1, frm1, to1, boxes1, parents1, issued1, clean1⟩ := b
  dsimp only at h0 hkk
  subst hrc
  clear hL' hokx
  cbv
  refine SemW.seq (.of ?_)
  cbv; repeat' ((first | refine .n fun h => ?_ | fail) <;> cbv)
  refine SemW.seq (.of ?_)
  cbv; repeat' ((first | refine .y fun h => ?_ | fail) <;> cbv)
  refine callG_le [.ptr 0 0, RgA ⟨⟨⟨[]⟩⟩, []⟩, AtA ⟨kind, index, day, bill, by_, to, ⟨number1, carrier1, shipper1, frm1, to1, boxes1, parents1, issued1, clean1⟩⟩] (by unfold RgA; repeat' (first | exact LeL.nil | exact LeL0.nil | exact LeH.nil | exact LeE.refl _ | exact Le.refl _ | exact Le0.one (.refl _) | exact Le0.one (.nil _) | exact Le1.refl _ | exact Le1.nil _ | refine LeH.cons ?_ ?_ | refine LeE.row ?_ | refine LeE.blk ?_ | refine LeL0.cons ?_ ?_ | refine LeL.cons ?_ ?_ | refine Le0.agg ?_ | refine Le.tup ?_ | exact Le.one (.one (.nil _)) | refine Le.one (.agg ?_))) ?_
  (refine callG_spec hdo ((⟨c2, L⟩ : Rg), (⟨⟨⟨[]⟩⟩, []⟩ : Rg), (⟨kind, index, day, bill, by_, to, ⟨number1, carrier1, shipper1, frm1, to1, boxes1, parents1, issued1, clean1⟩⟩ : At)) [0, 1] hE rfl rfl (by decide) rfl rfl rfl rfl rfl ?_; try dsimp only)
  rw [← h9, ← hb9, hdp]
  clear h9 hb9 hdp
  cbv
  refine SemW.gh (st' := ⟨[(0, .sl 15 (mapA AtA l)), (3, .ptr 0 0), (4, .hd 2), (5, .i (nI k))], [.blk 80 [.str c2, .ph 1], .pool 78 (mapA PelA L') [], .map 57 (mapA fstF F)]⟩) (Gh.weak (by repeat' (first | exact trivial | refine ⟨.inl rfl, ?_⟩ | refine ⟨.inr rfl, ?_⟩)) (by rfl) (by rfl) (by rfl) (by exact Nat.le_of_ble_eq_true rfl)) (hfin L' F (by omega) hin2 hha2 _ fun s g => ?_)
  refine SemW.gh g (.of ?_)
  cbv; repeat' ((first | refine .k fun z hz => ?_ | fail) <;> cbv)
  obtain rfl : z = nI (k + 1) := by ((try simp only [vn] at *) <;> omega)
  exact roundV ⟨(k + 1, L', F), by omega, hin2, hha2⟩ (lft_lt (by ((try simp only [vn] at *) <;> omega)))
end Go.Proofs.YtjnmaicofgjplaaGreatDoor
namespace Go.Proofs.YtjnmaicofgjplaaGreatDoor
open Go.RowKit
set_option maxRecDepth 100000
theorem k_holders : FnOk Tryz.prog 5 HoldersC := body_okS (by kernel_rfl) (holders_body _ k_awake k_right23 k_new k_issue k_ldo_ok k_bills k_originals k_chain k_check k_blank)
end Go.Proofs.YtjnmaicofgjplaaGreatDoor
