/-
  SuretyNever: the walk.
-/
import Derived.Test.YtcjheabcnipnlaaNeverLaw
import Derived.Test.YtcjheabcnipnlaaSet
import Derived.Test.YtcjheabcnipnlaaSurH
import Derived.Test.YtcjheabcnipnlaaLawExtends
namespace Go.Proofs.Ytcjheabcnipnlaa
open Go.RowKit

set_option maxRecDepth 100000 in
set_option maxHeartbeats 4000000 in
theorem never_long (b : Bd) (A : Option Addr) (n c : Nat) (l : List Ac) (w : World) (hs : b.fits) (ha : Acts w A n c l) (hn : 40 < n) :
    Calls Try.prog 7 #[.agg #[.string b.num, .string b.gua, .string b.fro, .string b.to, .string b.cur, .int .i64 b.amt, .int .i64 b.exp], .slice A n c] w fun e w' => e = .returned (.bool true) ∧ Below w.heap.size w w' := by
  have hw0 : Below w.heap.size w (w.alloc (.cells #[.string b.num, .string b.gua, .string b.fro, .string b.to, .string b.cur, .int .i64 b.amt, .int .i64 b.exp] 25)) := by repeat (first | with_reducible exact Below.refl _ _ | (with_reducible refine Below.setCell ?_ (by first | omega | (simp <;> omega)) _) | (with_reducible refine Below.alloc ?_ (by first | omega | (simp <;> omega)) _) | (with_reducible refine Below.drew ?_) | (with_reducible refine belowN ?_ _))
  have hn' : (40 : Int) < (n : Int) := by omega
  go_enter Try.func7, Try.ntmps7
  go_wp2_with (go_at_call 9; refine (awake_any _).mono ?_; rintro e w1 ⟨rfl, hb1⟩; have hw1 := Below.go hw0 hb1; clear hw0 hb1; have hw0 := hw1; clear hw1)
  go_ret
  exact ⟨rfl, hw0⟩

set_option maxRecDepth 100000 in
set_option maxHeartbeats 4000000 in
theorem never_not (b : Bd) (A : Option Addr) (n c : Nat) (l : List Ac) (w : World) (hs : b.fits) (ha : Acts w A n c l) (hn : n ≤ 40) (hm : mayB b = false) :
    Calls Try.prog 7 #[.agg #[.string b.num, .string b.gua, .string b.fro, .string b.to, .string b.cur, .int .i64 b.amt, .int .i64 b.exp], .slice A n c] w fun e w' => e = .returned (.bool true) ∧ Below w.heap.size w w' := by
  have hw0 : Below w.heap.size w (w.alloc (.cells #[.string b.num, .string b.gua, .string b.fro, .string b.to, .string b.cur, .int .i64 b.amt, .int .i64 b.exp] 25)) := by repeat (first | with_reducible exact Below.refl _ _ | (with_reducible refine Below.setCell ?_ (by first | omega | (simp <;> omega)) _) | (with_reducible refine Below.alloc ?_ (by first | omega | (simp <;> omega)) _) | (with_reducible refine Below.drew ?_) | (with_reducible refine belowN ?_ _))
  have B0 := Blk.new' w 25 #[.string b.num, .string b.gua, .string b.fro, .string b.to, .string b.cur, .int .i64 b.amt, .int .i64 b.exp] _ rfl
  have hn' : ¬ (40 : Int) < (n : Int) := by omega
  go_enter Try.func7, Try.ntmps7
  go_wp2_with (first | (go_at_call 9; refine (awake_any _).mono ?_; rintro e w1 ⟨rfl, hb1⟩; have hw1 := Below.go hw0 hb1; have B1 := B0.below hb1 B0.lt; have C1 := B1.all; clear hb1) | (go_at_call 11; refine (new_no b _ hs hm).mono ?_; rintro e w2 ⟨rfl, hb2⟩; have hw2 := Below.go hw1 hb2; clear hb2 C1))
  go_ret
  exact ⟨rfl, hw2⟩

/-- What stands behind the first acts. -/
def NeverAt (w0 wr : World) (g mb n : Nat) (b : Bd) (s : Sty) : Prop :=
  ∃ fp, Sur wr g s fp ∧ (∀ x ∈ fp, w0.heap.size ≤ x) ∧ mb ∉ fp ∧ SetAt wr mb n (paidIx s.dems) ∧ Below w0.heap.size w0 wr ∧ w0.heap.size ≤ mb ∧ Good s b

set_option maxRecDepth 100000 in
set_option maxHeartbeats 8000000 in
theorem never_main (b : Bd) (A : Option Addr) (n c : Nat) (l : List Ac) (w : World) (hs : b.fits) (ha : Acts w A n c l) (hn : n ≤ 40) (hm : mayB b = true) :
    Calls Try.prog 7 #[.agg #[.string b.num, .string b.gua, .string b.fro, .string b.to, .string b.cur, .int .i64 b.amt, .int .i64 b.exp], .slice A n c] w fun e w' => e = .returned (.bool true) ∧ Below w.heap.size w w' := by
  have hw0 : Below w.heap.size w (w.alloc (.cells #[.string b.num, .string b.gua, .string b.fro, .string b.to, .string b.cur, .int .i64 b.amt, .int .i64 b.exp] 25)) := by repeat (first | with_reducible exact Below.refl _ _ | (with_reducible refine Below.setCell ?_ (by first | omega | (simp <;> omega)) _) | (with_reducible refine Below.alloc ?_ (by first | omega | (simp <;> omega)) _) | (with_reducible refine Below.drew ?_) | (with_reducible refine belowN ?_ _))
  have B0 := Blk.new' w 25 #[.string b.num, .string b.gua, .string b.fro, .string b.to, .string b.cur, .int .i64 b.amt, .int .i64 b.exp] _ rfl
  have hn' : ¬ (40 : Int) < (n : Int) := by omega
  have hmm := @run_makeMap Try.prog
  go_enter Try.func7, Try.ntmps7
  go_wp2_with (first | (go_at_call 9; refine (awake_any _).mono ?_; rintro e w1 ⟨rfl, hb1⟩; have B1 := B0.below hb1 B0.lt; have C1 := B1.all) | (go_at_call 11; refine (new_yes b _ hs hm).mono ?_; rintro e w2 ⟨g, rfl, hS, hg, hb2⟩; have hN0 : NeverAt (w.alloc (.cells #[.string b.num, .string b.gua, .string b.fro, .string b.to, .string b.cur, .int .i64 b.amt, .int .i64 b.exp] 25)) (w2.alloc (.map #[] 0)) g w2.heap.size 0 b (start b) := (by have h1 := hb1.size; have h2 := (Below.go hb1 hb2); have h3 := h2.size; exact ⟨[g], hS.below ((Below.refl _ _).alloc (Nat.le_refl _) _), fun x hx => (by simp only [List.mem_singleton] at hx; omega), (by have := hS.lt g (by simp); simp; omega), SetAt.congr (SetAt.made w2) (fun x => by simp [paidIx, start]), h2.alloc h3 _, h3, ⟨rfl, (by have := (start_ok hm).a1; simp [start, askSum] at this ⊢; omega), by simp [start]⟩⟩); clear C1))
  have HB := Lib.hid B0
  clear B0 B1 hS hb1 hb2 hg hmm
  go_loopw [7, 34] (fun p i wr => ∃ k : Nat, k ≤ n ∧ i = .int .i64 k ∧ p = .int .i64 (paidSum (acted (start b) (l.take k)).dems) ∧ NeverAt (w.alloc (.cells #[.string b.num, .string b.gua, .string b.fro, .string b.to, .string b.cur, .int .i64 b.amt, .int .i64 b.exp] 25)) wr g w2.heap.size k b (acted (start b) (l.take k))) (fun _ i _ => n - (intOf i).toNat)
  case atStart => exact ⟨0, by omega, rfl, rfl, hN0⟩
  case round =>
    clear hN0
    obtain ⟨k, hk, rfl, rfl, hN⟩ := hrel
    generalize w2.heap.size = mb at *
    have HL := Lib.hid ha.len
    by_cases hlt : k < n
    · have hlk : k < l.length := by rw [HL.out]; exact hlt
      have hko := ha.ok _ (List.getElem_mem hlk)
      unfold Ac.ok at hko
      have hq := acted_few b l k (by omega)
      have HS := Lib.hid (acted_snoc (start b) l k hlk)
      generalize acted (start b) (l.take k) = sk at *
      obtain ⟨fp, hS, hfp, hmf, hset, hbel, hmb, hgood⟩ := hN
      have hw : Below w.heap.size w wr := Below.go hw0 hbel
      have hok := hS.ok
      have HG := Lib.hid (good_act hgood l[k] hok.c1)
      have hpl := paid_le sk.dems hgood.ok
      have hge := hgood.le
      have ham := hok.a2
      have hp0 : 0 ≤ paidSum sk.dems := by
        unfold paidSum
        exact (sum_bd payAt 1099511627776 _ (fun x hx => by have := hgood.ok x hx; unfold Dm.ok at this; unfold payAt; split <;> omega)).1
      obtain ⟨ba, oa, rfl, hba, f0, f1, f2, f3, f4⟩ := (ha.below hw).get k hlk
      have hml := hset.lt
      by_cases hway : l[k].kind % 4 = 2 ∧ (act sk l[k]).2.2 = 0
      · obtain ⟨hk2, hc0⟩ := hway
        obtain ⟨i, hi, hni, hx1, hm1, hp1, hx2, hi', ha1⟩ := never_pay hk2 hc0
        have hk2' : (l[k].kind % 4 != 2) = false := by rw [hk2]; rfl
        have hd1 := hgood.ok _ (List.getElem_mem hi)
        unfold Dm.ok at hd1
        generalize hact : act sk l[k] = q at *
        obtain ⟨s', m, code⟩ := q
        dsimp only at hc0 hm1 hp1 hx2 hi' ha1
        subst hc0
        subst hm1
        have HA := Lib.hid hact
        have HX1 := Lib.hid hx1
        have HX2 := Lib.hid hx2
        have HP1 := Lib.hid hp1
        have HA1 := Lib.hid ha1
        have HN := Lib.hid hni
        have HWF := Lib.hid (show (Lit.int .i64 l[k].n).wf = true by rw [hni]; exact WalkArith.wf_i64 (by omega))
        clear hact hx1 hx2 hp1 ha1 hk2 hni
        go_wp2_with (first | (go_at_call 16; refine (do_any g sk fp l[k] _ (hS.below ((Below.refl _ _).alloc (Nat.le_refl _) _)) (by omega) (by omega) hko).mono ?_; rw [HA.out]; rintro e w3 ⟨rfl, fp', hS3, hf3, hn3⟩; have hz3 := hf3.size; simp only [World.size_alloc] at hz3 hn3; have hset3 := (hset.below ((Below.refl _ _).alloc (Nat.le_refl _) (.cells #[.int .u8 l[k].kind, .string l[k].by_, .int .i64 l[k].sum, .int .i64 l[k].day, .int .i64 l[k].n] 40))).frm hf3 hmf; have hE3 := (Blk.new' wr 40 #[.int .u8 l[k].kind, .string l[k].by_, .int .i64 l[k].sum, .int .i64 l[k].day, .int .i64 l[k].n] _ rfl).frm hf3 (fun hx => by have := hS.lt _ hx; omega); have D3 := hE3.all; clear f0 f1 f2 f3 f4) | (at_lookup; go_loud (refine wpList_lookup_set _ rfl _ _ rfl hset3 l[k].n rfl rfl HWF.out ?_); rw [HX1.out]) | (at_mapUpdate; refine wpList_update_set _ rfl _ _ _ rfl hset3 (by unfold maxLen; omega) l[k].n true rfl rfl rfl HWF.out ?_; intro w4 hset4 hf4; have hmf' : mb ∉ fp' := (fun hx => by rcases hn3 _ hx with h | h; exact hmf h; omega); have hS4 := hS3.frm hf4 (fun x hx => by simp only [List.mem_singleton]; rintro rfl; exact hmf' hx); have hE4 := hE3.frm hf4 (by simp only [List.mem_singleton]; omega); have D4 := hE4.all; clear D3) | (go_at_call 13; obtain ⟨A5, c5, A6, c6, hS5, hfp5⟩ := hS4; refine (demands_any g s' A5 A6 c5 c6 _ hS5).mono ?_; rintro e w5 ⟨A7, c7, rfl, ho7, hn7, hb5⟩; have D5 := (hE4.below hb5 hE4.lt).all; obtain ⟨bb, oo, rfl, hbb, e0, e1⟩ := ho7.rd.draw i (by simpa using hi'); simp only [List.getElem_map, drawOf, HA1.out] at e1; have hni := HN.out; clear D4 e0))
        go_roundw
        case rel =>
          refine ⟨k + 1, by omega, by go_num, by rw [HS.out, HP1.out], ?_⟩
          rw [HS.out]
          have hw3 : Below (w.alloc (.cells #[.string b.num, .string b.gua, .string b.fro, .string b.to, .string b.cur, .int .i64 b.amt, .int .i64 b.exp] 25)).heap.size (w.alloc (.cells #[.string b.num, .string b.gua, .string b.fro, .string b.to, .string b.cur, .int .i64 b.amt, .int .i64 b.exp] 25)) w5 := Below.go (Below.frm (Below.frm (hbel.alloc hbel.size _) hf3 hfp) hf4 (by simpa using hmb)) hb5
          refine ⟨fp', by rw [hfp5]; exact hS5.sur.below hb5, fun x hx => ?_, hmf', SetAt.congr (hset4.below hb5) (fun x => ?_), hw3, hmb, HG.out⟩
          · rcases hn3 x hx with h | h
            · exact hfp x h
            · have := hbel.size
              omega
          · rw [HX2.out x]
        case measure => simp [intOf]; omega
      · have hway' : l[k].kind % 4 ≠ 2 ∨ (act sk l[k]).2.2 ≠ 0 := by omega
        obtain ⟨hp1, hx2⟩ := never_other hway'
        have hdec : (l[k].kind % 4 != 2) = true ∨ ((l[k].kind % 4 != 2) = false ∧ ((act sk l[k]).2.2 != 0) = true) := by
          by_cases h2 : l[k].kind % 4 = 2
          · exact .inr ⟨by rw [h2]; rfl, by rcases hway' with h | h; exact absurd h2 h; simpa using h⟩
          · exact .inl (by simpa using h2)
        clear hway hway'
        generalize hact : act sk l[k] = q at *
        obtain ⟨s', m, code⟩ := q
        dsimp only at hp1 hx2 hdec
        have HA := Lib.hid hact
        have HX2 := Lib.hid hx2
        have HP1 := Lib.hid hp1
        clear hact hx2 hp1
        rcases hdec with hd0 | ⟨hd0, hd1⟩
        all_goals
          go_wp2_with (first | (go_at_call 16; refine (do_any g sk fp l[k] _ (hS.below ((Below.refl _ _).alloc (Nat.le_refl _) _)) (by omega) (by omega) hko).mono ?_; rw [HA.out]; rintro e w3 ⟨rfl, fp', hS3, hf3, hn3⟩; have hz3 := hf3.size; simp only [World.size_alloc] at hz3 hn3; have hset3 := (hset.below ((Below.refl _ _).alloc (Nat.le_refl _) (.cells #[.int .u8 l[k].kind, .string l[k].by_, .int .i64 l[k].sum, .int .i64 l[k].day, .int .i64 l[k].n] 40))).frm hf3 hmf; have hE3 := (Blk.new' wr 40 #[.int .u8 l[k].kind, .string l[k].by_, .int .i64 l[k].sum, .int .i64 l[k].day, .int .i64 l[k].n] _ rfl).frm hf3 (fun hx => by have := hS.lt _ hx; omega); have D3 := hE3.all; clear f0 f1 f2 f3 f4))
          go_roundw
          case rel =>
            refine ⟨k + 1, by omega, by go_num, by rw [HS.out, HP1.out], ?_⟩
            rw [HS.out]
            refine ⟨fp', hS3, fun x hx => ?_, (fun hx => by rcases hn3 _ hx with h | h; exact hmf h; omega), SetAt.congr (hset3.mono (by omega)) (fun x => (HX2.out x).symm), Below.frm (hbel.alloc hbel.size _) hf3 hfp, hmb, HG.out⟩
            rcases hn3 x hx with h | h
            · exact hfp x h
            · have := hbel.size
              omega
          case measure => simp [intOf]; omega
    · obtain rfl : k = n := by omega
      obtain ⟨fp, hS, hfp, hmf, hset, hbel, hmb, hgood⟩ := hN
      have C3 := (HB.out.below hbel (by simp)).all
      have hle : paidSum (acted (start b) (l.take k)).dems ≤ b.amt := by
        have h1 := paid_le _ hgood.ok
        have h2 := hgood.le
        rw [hgood.b] at h2
        omega
      go_wp2
      go_ret
      exact ⟨rfl, Below.go hw0 hbel⟩

theorem never_any (b : Bd) (A : Option Addr) (n c : Nat) (l : List Ac) (w : World) (hs : b.fits) (ha : Acts w A n c l) :
    Calls Try.prog 7 #[.agg #[.string b.num, .string b.gua, .string b.fro, .string b.to, .string b.cur, .int .i64 b.amt, .int .i64 b.exp], .slice A n c] w fun e w' => e = .returned (.bool true) ∧ Below w.heap.size w w' := by
  by_cases hn : 40 < n
  · exact never_long b A n c l w hs ha hn
  · cases hm : mayB b
    · exact never_not b A n c l w hs ha (by omega) hm
    · exact never_main b A n c l w hs ha (by omega) hm
end Go.Proofs.Ytcjheabcnipnlaa
