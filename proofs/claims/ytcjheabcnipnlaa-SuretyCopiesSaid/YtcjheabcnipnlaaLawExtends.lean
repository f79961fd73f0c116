/-
  SuretyExtends: the walk.
-/
import Derived.Test.YtcjheabcnipnlaaExtLaw
namespace Go.Proofs.Ytcjheabcnipnlaa
open Go.RowKit

theorem pay_mine {w0 w : World} {g : Nat} {s : Sty} (h : Mine w0 w g s) (n : Int) : Calls Try.prog 19 #[.pointer (some ⟨g, 0, none⟩), .int .i64 n] w fun e w' => e = .returned (.tuple #[.int .i64 (pay s n).2.1, .int .i64 (pay s n).2.2]) ∧ Mine w0 w' g (pay s n).1 := by
  obtain ⟨fp, ⟨A1, c1, A2, c2, hS, rfl⟩, h2, h3⟩ := h
  exact (pay_any g s A1 A2 c1 c2 n w hS).mono fun e w' ⟨he, hb⟩ => ⟨he, Mine.post hS.sur h2 h3 hb⟩
theorem do_mine {w0 w : World} {g : Nat} {s : Sty} (h : Mine w0 w g s) (a : Ac) (hd : s.dems.length < 3900) (hl : s.cuts.length < 3900) (hk : 0 ≤ a.kind ∧ a.kind ≤ 255) : Calls Try.prog 16 #[.pointer (some ⟨g, 0, none⟩), .agg #[.int .u8 a.kind, .string a.by_, .int .i64 a.sum, .int .i64 a.day, .int .i64 a.n]] w fun e w' =>
      e = .returned (.tuple #[.int .i64 (act s a).2.1, .int .i64 (act s a).2.2]) ∧ Mine w0 w' g (act s a).1 := by
  obtain ⟨fp, hS, h2, h3⟩ := h
  exact (do_any g s fp a w hS hd hl hk).mono fun e w' ⟨he, hb⟩ => ⟨he, Mine.post hS h2 h3 hb⟩
theorem Mine.bel {w0 w : World} {g : Nat} {s : Sty} (h : Mine w0 w g s) : Below w0.heap.size w0 w := by
  obtain ⟨fp, _, _, hb⟩ := h
  exact hb
theorem Mine.ok {w0 w : World} {g : Nat} {s : Sty} (h : Mine w0 w g s) : s.ok := by
  obtain ⟨fp, hS, _⟩ := h
  exact hS.ok
theorem acted_few (b : Bd) (l : List Ac) (k : Nat) (hk : k ≤ 40) : (acted (start b) (l.take k)).dems.length < 3800 ∧ (acted (start b) (l.take k)).cuts.length < 3800 := by
  have h1 := acted_len (start b) (l.take k)
  have h2 : (l.take k).length ≤ k := List.length_take_le _ _
  have h3 : (start b).dems.length = 0 := rfl
  have h4 : (start b).cuts.length = 0 := rfl
  omega
theorem left_bd {s : Sty} (h : s.ok) (day : Int) : 0 ≤ left s day ∧ left s day ≤ 1099511627776 := by
  have hc := (cutSum_bd day s.cuts h.c1).1
  have hk := (askSum_bd s.dems h.d1).1
  have ha := h.a2
  unfold left
  omega

set_option maxRecDepth 100000 in
set_option maxHeartbeats 4000000 in
theorem ext_long (b : Bd) (A : Option Addr) (n c : Nat) (l : List Ac) (sum day til : Int) (w : World) (hs : b.fits) (ha : Acts w A n c l) (hn : 40 < n) :
    Calls Try.prog 5 #[.agg #[.string b.num, .string b.gua, .string b.fro, .string b.to, .string b.cur, .int .i64 b.amt, .int .i64 b.exp], .slice A n c, .int .i64 sum, .int .i64 day, .int .i64 til] w (fun e w' => e = .returned (.bool true) ∧ Below w.heap.size w w') := by
  have hw0 : Below w.heap.size w (w.alloc (.cells #[.string b.num, .string b.gua, .string b.fro, .string b.to, .string b.cur, .int .i64 b.amt, .int .i64 b.exp] 25)) := by repeat (first | with_reducible exact Below.refl _ _ | (with_reducible refine Below.setCell ?_ (by first | omega | (simp <;> omega)) _) | (with_reducible refine Below.alloc ?_ (by first | omega | (simp <;> omega)) _) | (with_reducible refine Below.drew ?_) | (with_reducible refine belowN ?_ _))
  have hn' : (40 : Int) < (n : Int) := by omega
  go_enter Try.func5, Try.ntmps5
  go_wp2_with (go_at_call 9; refine (awake_any _).mono ?_; rintro e w1 ⟨rfl, hb1⟩; have hw1 := Below.go hw0 hb1; clear hw0 hb1; have hw0 := hw1; clear hw1)
  go_ret
  exact ⟨rfl, hw0⟩

set_option maxRecDepth 100000 in
set_option maxHeartbeats 4000000 in
theorem ext_not (b : Bd) (A : Option Addr) (n c : Nat) (l : List Ac) (sum day til : Int) (w : World) (hs : b.fits) (ha : Acts w A n c l) (hn : n ≤ 40) (hm : mayB b = false) :
    Calls Try.prog 5 #[.agg #[.string b.num, .string b.gua, .string b.fro, .string b.to, .string b.cur, .int .i64 b.amt, .int .i64 b.exp], .slice A n c, .int .i64 sum, .int .i64 day, .int .i64 til] w (fun e w' => e = .returned (.bool true) ∧ Below w.heap.size w w') := by
  have hw0 : Below w.heap.size w (w.alloc (.cells #[.string b.num, .string b.gua, .string b.fro, .string b.to, .string b.cur, .int .i64 b.amt, .int .i64 b.exp] 25)) := by repeat (first | with_reducible exact Below.refl _ _ | (with_reducible refine Below.setCell ?_ (by first | omega | (simp <;> omega)) _) | (with_reducible refine Below.alloc ?_ (by first | omega | (simp <;> omega)) _) | (with_reducible refine Below.drew ?_) | (with_reducible refine belowN ?_ _))
  have B0 := Blk.new' w 25 #[.string b.num, .string b.gua, .string b.fro, .string b.to, .string b.cur, .int .i64 b.amt, .int .i64 b.exp] _ rfl
  have hn' : ¬ (40 : Int) < (n : Int) := by omega
  go_enter Try.func5, Try.ntmps5
  go_wp2_with (first | (go_at_call 9; refine (awake_any _).mono ?_; rintro e w1 ⟨rfl, hb1⟩; have hw1 := Below.go hw0 hb1; have B1 := B0.below hb1 B0.lt; have C1 := B1.all; clear hb1) | (go_at_call 11; refine (new_no b _ hs hm).mono ?_; rintro e w2 ⟨rfl, hb2⟩; have hw2 := Below.go hw1 hb2; clear hb2 C1))
  go_ret
  exact ⟨rfl, hw2⟩

set_option maxRecDepth 100000 in
set_option maxHeartbeats 8000000 in
theorem ext_main (b : Bd) (A : Option Addr) (n c : Nat) (l : List Ac) (sum day til : Int) (w : World) (hs : b.fits) (ha : Acts w A n c l) (hn : n ≤ 40) (hm : mayB b = true) :
    Calls Try.prog 5 #[.agg #[.string b.num, .string b.gua, .string b.fro, .string b.to, .string b.cur, .int .i64 b.amt, .int .i64 b.exp], .slice A n c, .int .i64 sum, .int .i64 day, .int .i64 til] w (fun e w' => e = .returned (.bool true) ∧ Below w.heap.size w w') := by
  have hw0 : Below w.heap.size w (w.alloc (.cells #[.string b.num, .string b.gua, .string b.fro, .string b.to, .string b.cur, .int .i64 b.amt, .int .i64 b.exp] 25)) := by repeat (first | with_reducible exact Below.refl _ _ | (with_reducible refine Below.setCell ?_ (by first | omega | (simp <;> omega)) _) | (with_reducible refine Below.alloc ?_ (by first | omega | (simp <;> omega)) _) | (with_reducible refine Below.drew ?_) | (with_reducible refine belowN ?_ _))
  have B0 := Blk.new' w 25 #[.string b.num, .string b.gua, .string b.fro, .string b.to, .string b.cur, .int .i64 b.amt, .int .i64 b.exp] _ rfl
  have hn' : ¬ (40 : Int) < (n : Int) := by omega
  go_enter Try.func5, Try.ntmps5
  go_wp2_with (first | (go_at_call 9; refine (awake_any _).mono ?_; rintro e w1 ⟨rfl, hb1⟩; have B1 := B0.below hb1 B0.lt; have C1 := B1.all) | (go_at_call 11; refine (new_yes b _ hs hm).mono ?_; rintro e w2 ⟨g, rfl, hS, hg, hb2⟩; have hM0 : Mine (w.alloc (.cells #[.string b.num, .string b.gua, .string b.fro, .string b.to, .string b.cur, .int .i64 b.amt, .int .i64 b.exp] 25)) w2 g (start b) := (by have := hb1.size; exact ⟨[g], hS, fun x hx => (by simp only [List.mem_singleton] at hx; omega), Below.go hb1 hb2⟩); clear C1))
  have HB := Lib.hid B0
  clear B0 B1 hS hb1 hb2 hg
  go_loopw [40] (fun i wr => ∃ k : Nat, k ≤ n ∧ i = .int .i64 k ∧ Mine (w.alloc (.cells #[.string b.num, .string b.gua, .string b.fro, .string b.to, .string b.cur, .int .i64 b.amt, .int .i64 b.exp] 25)) wr g (acted (start b) (l.take k))) (fun i _ => n - (intOf i).toNat)
  case atStart => exact ⟨0, by omega, rfl, hM0⟩
  case round =>
    clear hM0
    obtain ⟨k, hk, rfl, hM⟩ := hrel
    have HL := Lib.hid ha.len
    have hlow := hM.bel.size
    have hw : Below w.heap.size w wr := Below.go hw0 hM.bel
    by_cases hlt : k < n
    · have hlk : k < l.length := by rw [HL.out]; exact hlt
      have hko := ha.ok _ (List.getElem_mem hlk)
      unfold Ac.ok at hko
      obtain ⟨ba, oa, rfl, hba, f0, f1, f2, f3, f4⟩ := (ha.below hw).get k hlk
      have hq := acted_few b l k (by omega)
      go_wp2_with (go_at_call 16; refine (do_mine (hM.below ((Below.refl _ _).alloc (Nat.le_refl _) _)) l[k] (by omega) (by omega) hko).mono ?_; rintro e w3 ⟨rfl, hM3⟩)
      go_roundw
      case rel =>
        refine ⟨k + 1, by omega, by go_num, ?_⟩
        rw [acted_snoc _ _ _ hlk]
        exact hM3
      case measure => simp [intOf]; omega
    · obtain rfl : k = n := by omega
      have hb := acted_b (start b) (l.take k)
      have hof := hM.ok
      have hqf := acted_few b l k hn
      generalize acted (start b) (l.take k) = sk at *
      have hbd := left_bd hof day
      have C3 := (HB.out.below hM.bel (by simp)).all
      have hbt : sk.b.to = b.to := by rw [hb]; rfl
      have hways := ask_ways sk b.to sum day (by rw [hbt]; simp [eqB])
      have hxw := ext_ways sk day sum til
      generalize hL : left sk day = L at *
      have HLL := Lib.hid hL
      clear hL hb hbt hlt
      rcases hways with ⟨cc, h1, h2⟩ | ⟨h1, h2, h3, h4, h5, h6, h7⟩
      · have H1 := Lib.hid h1
        clear h1 hxw
        go_wp2_with (first | (go_at_call 14; refine (left_mine hM _).mono ?_; rw [HLL.out]; rintro e w3 ⟨rfl, hM3⟩; have C4 := (HB.out.below hM3.bel (by simp)).all; clear C3 hM; have hM := hM3; have C3 := C4; clear hM3 C4) | (go_at_call 17; refine (demand_mine hM _ _ _ (by omega)).mono ?_; rw [H1.out]; rintro e w3 ⟨rfl, hM3⟩; have C4 := (HB.out.below hM3.bel (by simp)).all; clear C3 hM; have hM := hM3; have C3 := C4; clear hM3 C4))
        go_ret
        exact ⟨rfl, Below.go hw0 hM.bel⟩
      · have H1 := Lib.hid h1
        have H6 := Lib.hid h6
        clear h1 h6
        rcases hxw h7 h2 with ⟨cc, g1, g2⟩ | ⟨s2, g1, g2, g3, g4, g5⟩
        · have G1 := Lib.hid g1
          clear g1
          go_wp2_with (first | (go_at_call 14; refine (left_mine hM _).mono ?_; (first | rw [HLL.out] | rw [H6.out]); rintro e w3 ⟨rfl, hM3⟩; have C4 := (HB.out.below hM3.bel (by simp)).all; clear C3 hM; have hM := hM3; have C3 := C4; clear hM3 C4) | (go_at_call 17; refine (demand_mine hM _ _ _ (by omega)).mono ?_; rw [H1.out]; rintro e w3 ⟨rfl, hM3⟩; have C4 := (HB.out.below hM3.bel (by simp)).all; clear C3 hM; have hM := hM3; have C3 := C4; clear hM3 C4) | (go_at_call 20; refine (extend_mine hM _ _).mono ?_; rw [G1.out]; rintro e w3 ⟨rfl, hM3⟩; have C4 := (HB.out.below hM3.bel (by simp)).all; clear C3 hM; have hM := hM3; have C3 := C4; clear hM3 C4))
          go_ret
          exact ⟨rfl, Below.go hw0 hM.bel⟩
        · have G1 := Lib.hid g1
          have G2 := Lib.hid g2
          have G3 := Lib.hid g3
          have G4 := Lib.hid g4
          have G5 := Lib.hid g5
          clear g1 g2 g3 g4 g5
          go_wp2_with (first | (go_at_call 14; refine (left_mine hM _).mono ?_; (first | rw [HLL.out] | rw [H6.out] | rw [G2.out, HLL.out] | rw [G2.out]); rintro e w3 ⟨rfl, hM3⟩; have C4 := (HB.out.below hM3.bel (by simp)).all; clear C3 hM; have hM := hM3; have C3 := C4; clear hM3 C4) | (go_at_call 17; refine (demand_mine hM _ _ _ (by omega)).mono ?_; rw [H1.out]; rintro e w3 ⟨rfl, hM3⟩; have C4 := (HB.out.below hM3.bel (by simp)).all; clear C3 hM; have hM := hM3; have C3 := C4; clear hM3 C4) | (go_at_call 20; refine (extend_mine hM _ _).mono ?_; (first | rw [G1.out] | rw [G4.out]); rintro e w3 ⟨rfl, hM3⟩; have C4 := (HB.out.below hM3.bel (by simp)).all; clear C3 hM; have hM := hM3; have C3 := C4; clear hM3 C4) | (go_at_call 19; refine (pay_mine hM _).mono ?_; rw [G3.out]; rintro e w3 ⟨rfl, hM3⟩; have C4 := (HB.out.below hM3.bel (by simp)).all; clear C3 hM; have hM := hM3; have C3 := C4; clear hM3 C4) | (go_at_call 18; refine (expired_mine hM _).mono ?_; rw [G5.out]; rintro e w3 ⟨rfl, hM3⟩; have C4 := (HB.out.below hM3.bel (by simp)).all; clear C3 hM; have hM := hM3; have C3 := C4; clear hM3 C4))
          go_ret
          exact ⟨rfl, Below.go hw0 hM.bel⟩

theorem ext_any (b : Bd) (A : Option Addr) (n c : Nat) (l : List Ac) (sum day til : Int) (w : World) (hs : b.fits) (ha : Acts w A n c l) :
    Calls Try.prog 5 #[.agg #[.string b.num, .string b.gua, .string b.fro, .string b.to, .string b.cur, .int .i64 b.amt, .int .i64 b.exp], .slice A n c, .int .i64 sum, .int .i64 day, .int .i64 til] w (fun e w' => e = .returned (.bool true) ∧ Below w.heap.size w w') := by
  by_cases hn : 40 < n
  · exact ext_long b A n c l sum day til w hs ha hn
  · cases hm : mayB b
    · exact ext_not b A n c l sum day til w hs ha (by omega) hm
    · exact ext_main b A n c l sum day til w hs ha (by omega) hm
end Go.Proofs.Ytcjheabcnipnlaa
