/-
  SuretyAsks: the walk.
-/
import Derived.Test.YtcjheabcnipnlaaLawExtends
namespace Go.Proofs.Ytcjheabcnipnlaa
open Go.RowKit

theorem sur_at {w : World} {g : Nat} {s : Sty} {fp : List Nat} (h : Sur w g s fp) : ∃ A1 c1 A2 c2, SurAt w g s A1 c1 A2 c2 := by
  obtain ⟨A1, c1, A2, c2, h, _⟩ := h
  exact ⟨A1, c1, A2, c2, h⟩
/-- At the start. -/
theorem play_start {w0 w2 : World} {g : Nat} {b : Bd} (hb : Below w0.heap.size w0 w2) (hS : Sur w2 g (start b) [g]) (hg : w0.heap.size ≤ g) :
    PlayAt w0 (w2.alloc (.cells #[.string b.num, .string b.gua, .string b.fro, .string b.to, .string b.cur, .int .i64 b.amt, .int .i64 b.exp, .int .i64 b.exp, .slice none 0 0, .slice none 0 0] 38)) g w2.heap.size (start b) := by
  refine ⟨[g], none, 0, none, 0, ?_, ?_, ?_, ?_, ?_, by simp, by simp, ?_, ?_, ?_⟩
  · exact hS.below ((Below.refl _ _).alloc (Nat.le_refl _) _)
  · simp; omega
  · exact Blk.new' _ _ _ _ rfl
  · exact (Own.nil _ 3 _).rd
  · exact (Own.nil _ 3 _).rd
  · have := hS.lt g (by simp); simp; omega
  · exact hb.size
  · exact hb.alloc hb.size _
/-- Behind an act: 'want' has made a new surety of the reference's, which is stored; 'do' has done the act. -/
theorem play_step {w0 wr w3 W w5 : World} {g r : Nat} {sk s' : Sty} {fp fp' : List Nat} {A1 A2 A3 A4 : Option Addr} {c3 c4 : Nat} {o : Obj}
    (hS1 : Sur wr g sk fp) (hfp : ∀ b ∈ fp, w0.heap.size ≤ b) (hd1 : ∀ b ∈ fpo A1, b ∉ fp ∧ b ≠ r) (hd2 : ∀ b ∈ fpo A2, b ∉ fp ∧ b ≠ r) (hrf : r ∉ fp) (hr0 : w0.heap.size ≤ r) (hw : Below w0.heap.size w0 wr)
    (hrl : r < wr.heap.size) (hR : RefRes (wr.alloc o) (fpo A1) (fpo A2) s' A3 c3 A4 c4 w3) (hfW : Frm [r] w3 W) (hBW : Blk W r 38 #[.string s'.b.num, .string s'.b.gua, .string s'.b.fro, .string s'.b.to, .string s'.b.cur, .int .i64 s'.b.amt, .int .i64 s'.b.exp, .int .i64 s'.expiry, .slice A3 s'.dems.length c3, .slice A4 s'.cuts.length c4])
    (hS5 : Sur w5 g s' fp') (hf5 : Frm fp W w5) (hn5 : ∀ b ∈ fp', b ∈ fp ∨ W.heap.size ≤ b) : PlayAt w0 w5 g r s' := by
  have hz3 := hR.below.size
  have hzW := hfW.size
  have hzr := hw.size
  simp at hz3
  have hlt1 := hS1.lt
  have hd3 : ∀ b ∈ fpo A3, b ∉ fp ∧ b ≠ r ∧ b < w3.heap.size := fun b hb => by
    have h3 := hR.r1.lt b hb
    rcases hR.fp1 b hb with h | h
    · exact ⟨(hd1 b h).1, (hd1 b h).2, h3⟩
    · simp at h
      exact ⟨fun hx => by have := hlt1 b hx; omega, by omega, h3⟩
  have hd4 : ∀ b ∈ fpo A4, b ∉ fp ∧ b ≠ r ∧ b < w3.heap.size := fun b hb => by
    have h3 := hR.r2.lt b hb
    rcases hR.fp2 b hb with h | h
    · exact ⟨(hd2 b h).1, (hd2 b h).2, h3⟩
    · simp at h
      exact ⟨fun hx => by have := hlt1 b hx; omega, by omega, h3⟩
  have hr5 := (hR.r1.frm hfW (fun b hb => by simpa using (hd3 b hb).2.1)).frm hf5 (fun b hb => (hd3 b hb).1)
  have hr6 := (hR.r2.frm hfW (fun b hb => by simpa using (hd4 b hb).2.1)).frm hf5 (fun b hb => (hd4 b hb).1)
  have hfp' : ∀ b ∈ fp', b ∈ fp ∨ w3.heap.size ≤ b := fun b hb => (hn5 b hb).imp id (by omega)
  have hw3 : Below w0.heap.size w0 w3 := Below.go (hw.alloc hw.size _) hR.below
  refine ⟨fp', A3, c3, A4, c4, hS5, fun b hb => ?_, hBW.frm hf5 hrf, hr5, hr6, fun b hb => ⟨fun hx => ?_, (hd3 b hb).2.1⟩, fun b hb => ⟨fun hx => ?_, (hd4 b hb).2.1⟩, fun hx => ?_, hr0, Below.frm (Below.frm hw3 hfW (by simpa using hr0)) hf5 hfp⟩
  · rcases hfp' b hb with h | h
    · exact hfp b h
    · omega
  · rcases hfp' b hx with h | h
    · exact (hd3 b hb).1 h
    · have := (hd3 b hb).2.2
      omega
  · rcases hfp' b hx with h | h
    · exact (hd4 b hb).1 h
    · have := (hd4 b hb).2.2
      omega
  · rcases hfp' r hx with h | h
    · exact hrf h
    · omega

set_option maxRecDepth 100000 in
set_option maxHeartbeats 4000000 in
theorem asks_long (b : Bd) (A : Option Addr) (n c : Nat) (l : List Ac) (day : Int) (w : World) (hs : b.fits) (ha : Acts w A n c l) (hn : 40 < n) :
    Calls Try.prog 4 #[.agg #[.string b.num, .string b.gua, .string b.fro, .string b.to, .string b.cur, .int .i64 b.amt, .int .i64 b.exp], .slice A n c, .int .i64 day] w (fun e w' => e = .returned (.bool true) ∧ Below w.heap.size w w') := by
  have hw0 : Below w.heap.size w (w.alloc (.cells #[.string b.num, .string b.gua, .string b.fro, .string b.to, .string b.cur, .int .i64 b.amt, .int .i64 b.exp] 25)) := by repeat (first | with_reducible exact Below.refl _ _ | (with_reducible refine Below.setCell ?_ (by first | omega | (simp <;> omega)) _) | (with_reducible refine Below.alloc ?_ (by first | omega | (simp <;> omega)) _) | (with_reducible refine Below.drew ?_) | (with_reducible refine belowN ?_ _))
  have hn' : (40 : Int) < (n : Int) := by omega
  go_enter Try.func4, Try.ntmps4
  go_wp2_with (go_at_call 9; refine (awake_any _).mono ?_; rintro e w1 ⟨rfl, hb1⟩; have hw1 := Below.go hw0 hb1; clear hw0 hb1; have hw0 := hw1; clear hw1)
  go_ret
  exact ⟨rfl, hw0⟩

set_option maxRecDepth 100000 in
set_option maxHeartbeats 4000000 in
theorem asks_not (b : Bd) (A : Option Addr) (n c : Nat) (l : List Ac) (day : Int) (w : World) (hs : b.fits) (ha : Acts w A n c l) (hn : n ≤ 40) (hm : mayB b = false) :
    Calls Try.prog 4 #[.agg #[.string b.num, .string b.gua, .string b.fro, .string b.to, .string b.cur, .int .i64 b.amt, .int .i64 b.exp], .slice A n c, .int .i64 day] w (fun e w' => e = .returned (.bool true) ∧ Below w.heap.size w w') := by
  have hw0 : Below w.heap.size w (w.alloc (.cells #[.string b.num, .string b.gua, .string b.fro, .string b.to, .string b.cur, .int .i64 b.amt, .int .i64 b.exp] 25)) := by repeat (first | with_reducible exact Below.refl _ _ | (with_reducible refine Below.setCell ?_ (by first | omega | (simp <;> omega)) _) | (with_reducible refine Below.alloc ?_ (by first | omega | (simp <;> omega)) _) | (with_reducible refine Below.drew ?_) | (with_reducible refine belowN ?_ _))
  have B0 := Blk.new' w 25 #[.string b.num, .string b.gua, .string b.fro, .string b.to, .string b.cur, .int .i64 b.amt, .int .i64 b.exp] _ rfl
  have hn' : ¬ (40 : Int) < (n : Int) := by omega
  go_enter Try.func4, Try.ntmps4
  go_wp2_with (first | (go_at_call 9; refine (awake_any _).mono ?_; rintro e w1 ⟨rfl, hb1⟩; have hw1 := Below.go hw0 hb1; have B1 := B0.below hb1 B0.lt; have C1 := B1.all; clear hb1) | (go_at_call 11; refine (new_no b _ hs hm).mono ?_; rintro e w2 ⟨rfl, hb2⟩; have hw2 := Below.go hw1 hb2; clear hb2 C1))
  go_ret
  exact ⟨rfl, hw2⟩

set_option maxRecDepth 100000 in
set_option maxHeartbeats 8000000 in
theorem asks_main (b : Bd) (A : Option Addr) (n c : Nat) (l : List Ac) (day : Int) (w : World) (hs : b.fits) (ha : Acts w A n c l) (hn : n ≤ 40) (hm : mayB b = true) :
    Calls Try.prog 4 #[.agg #[.string b.num, .string b.gua, .string b.fro, .string b.to, .string b.cur, .int .i64 b.amt, .int .i64 b.exp], .slice A n c, .int .i64 day] w (fun e w' => e = .returned (.bool true) ∧ Below w.heap.size w w') := by
  have hw0 : Below w.heap.size w (w.alloc (.cells #[.string b.num, .string b.gua, .string b.fro, .string b.to, .string b.cur, .int .i64 b.amt, .int .i64 b.exp] 25)) := by repeat (first | with_reducible exact Below.refl _ _ | (with_reducible refine Below.setCell ?_ (by first | omega | (simp <;> omega)) _) | (with_reducible refine Below.alloc ?_ (by first | omega | (simp <;> omega)) _) | (with_reducible refine Below.drew ?_) | (with_reducible refine belowN ?_ _))
  have B0 := Blk.new' w 25 #[.string b.num, .string b.gua, .string b.fro, .string b.to, .string b.cur, .int .i64 b.amt, .int .i64 b.exp] _ rfl
  have hn' : ¬ (40 : Int) < (n : Int) := by omega
  go_enter Try.func4, Try.ntmps4
  go_wp2_with (first | (go_at_call 9; refine (awake_any _).mono ?_; rintro e w1 ⟨rfl, hb1⟩; have B1 := B0.below hb1 B0.lt; have C1 := B1.all) | (go_at_call 11; refine (new_yes b _ hs hm).mono ?_; rintro e w2 ⟨g, rfl, hS, hg, hb2⟩; have B2 := B1.below hb2 B1.lt; have C2 := B2.all; have hP := play_start (Below.go hb1 hb2) hS (by have := hb1.size; omega); clear C1))
  have HB := Lib.hid B0
  clear B0 B1 B2 C2 hS hb1 hb2 hg
  go_loopw [42] (fun i wr => ∃ k : Nat, k ≤ n ∧ i = .int .i64 k ∧ PlayAt (w.alloc (.cells #[.string b.num, .string b.gua, .string b.fro, .string b.to, .string b.cur, .int .i64 b.amt, .int .i64 b.exp] 25)) wr g w2.heap.size (acted (start b) (l.take k))) (fun i _ => n - (intOf i).toNat)
  case atStart => exact ⟨0, by omega, rfl, hP⟩
  case round =>
    clear hP
    obtain ⟨k, hk, rfl, hp⟩ := hrel
    have HL := Lib.hid ha.len
    generalize w2.heap.size = r at *
    by_cases hlt : k < n
    · have hlk : k < l.length := by rw [HL.out]; exact hlt
      have hq := acted_few b l k (by omega)
      have HS := Lib.hid (acted_snoc (start b) l k hlk)
      generalize acted (start b) (l.take k) = sk at *
      obtain ⟨fp, A1, c1, A2, c2, hS1, hfp, hB, hr1, hr2, hd1, hd2, hrf, hr0, hw⟩ := hp
      obtain ⟨ba, oa, rfl, hba, f0, f1, f2, f3, f4⟩ := (ha.below (Below.go hw0 hw)).get k hlk
      have hC := hB.all
      have hF := hB.frees
      have hrl := hB.lt
      have hko := ha.ok _ (List.getElem_mem hlk)
      unfold Ac.ok at hko
      have hoks := hS1.ok
      go_wp2_with fail
      refine (want_any sk l[k] A1 A2 c1 c2 _ (hr1.alloc _) (hr2.alloc _) hoks hko).mono ?_
      rintro e w3 ⟨A3, c3, A4, c4, rfl, hR⟩
      generalize hact : act sk l[k] = q at *
      obtain ⟨s', m, code⟩ := q
      have HA := Lib.hid hact
      clear hact
      have hz3 := hR.below.size
      simp at hz3
      have hB3 := (hB.alloc (.cells #[.int .u8 l[k].kind, .string l[k].by_, .int .i64 l[k].sum, .int .i64 l[k].day, .int .i64 l[k].n] 40)).below hR.below (by simp; omega)
      have hE3 := (Blk.new' wr 40 #[.int .u8 l[k].kind, .string l[k].by_, .int .i64 l[k].sum, .int .i64 l[k].day, .int .i64 l[k].n] _ rfl).below hR.below (by simp)
      have hC3 := hB3.all
      have hF3 := hB3.frees
      have hD3 := hE3.all
      have hrl3 : r < w3.heap.size := by omega
      clear hC hF f0 f1 f2 f3 f4
      dsimp only
      go_upto_region 11 with (fail)
      refine store10 (Pr := fun W => Code.wp _ _ _ _ W) hB3 _ _ _ _ _ _ _ _ _ _ ?_
      intro W hfW hBW
      have hlw : wr.heap.size < W.heap.size := by have := hfW.size; omega
      have hEW := (hE3.frm hfW (by simp; omega)).all
      have hSW := (((hS1.below ((Below.refl _ _).alloc (Nat.le_refl _) _)).below hR.below).frm hfW (fun b hb => by simp; rintro rfl; exact hrf hb))
      clear hC3 hF3 hD3
      go_wp2_with fail
      refine (do_any g sk fp l[k] _ hSW (by omega) (by omega) hko).mono ?_
      rw [HA.out]
      rintro e w5 ⟨rfl, fp', hS5, hf5, hn5⟩
      have hP5 : PlayAt (w.alloc (.cells #[.string b.num, .string b.gua, .string b.fro, .string b.to, .string b.cur, .int .i64 b.amt, .int .i64 b.exp] 25)) w5 g r s' := play_step hS1 hfp hd1 hd2 hrf hr0 hw hrl hR hfW hBW hS5 hf5 hn5
      clear hEW hlw
      go_wp2
      go_roundw
      case rel => exact ⟨k + 1, by omega, by go_num, by rw [HS.out]; exact hP5⟩
      case measure => simp [intOf]; omega
    · obtain rfl : k = n := by omega
      have hb := acted_b (start b) (l.take k)
      have hqf := acted_few b l k hn
      generalize acted (start b) (l.take k) = sk at *
      have hbt : sk.b.to = b.to := by rw [hb]; rfl
      obtain ⟨fp, A1, c1, A2, c2, hS1, hfp, hB, hr1, hr2, hd1, hd2, hrf, hr0, hw⟩ := hp
      have hof := hS1.ok
      have hM : Mine (w.alloc (.cells #[.string b.num, .string b.gua, .string b.fro, .string b.to, .string b.cur, .int .i64 b.amt, .int .i64 b.exp] 25)) wr g sk := ⟨fp, hS1, hfp, hw⟩
      obtain ⟨A5, c5, A6, c6, hS6⟩ := sur_at hS1
      have hbd := left_bd hof day
      have hmore := ask_more sk day
      have hall := ask_all sk hof day
      have he1 := hof.e1
      have he2 := hof.e2
      rw [hbt] at hmore hall
      obtain ⟨cc, hm1, hm2⟩ := hmore
      generalize hL : left sk day = L at *
      have HLL := Lib.hid hL
      have HM1 := Lib.hid hm1
      clear hL hb hbt hm1
      have tok : True := trivial
      by_cases e1 : day < 0
      · clear hall
        go_wp2_with (first | (go_at_call 14; have _t := tok; refine (left_any g sk A5 A6 c5 c6 day _ hS6).mono ?_; rw [HLL.out]; rintro e w3 ⟨rfl, hb3⟩; have D3 := (hB.below hb3 hB.lt).all; have hM4 := hM.below hb3; have C3 := (HB.out.below hM4.bel (by simp)).all; clear hM; have hM := hM4; clear hM4 tok))
        go_ret
        exact ⟨rfl, Below.go hw0 hM.bel⟩
      by_cases e2 : sk.expiry < day
      · clear hall
        go_wp2_with (first | (go_at_call 14; have _t := tok; refine (left_any g sk A5 A6 c5 c6 day _ hS6).mono ?_; rw [HLL.out]; rintro e w3 ⟨rfl, hb3⟩; have D3 := (hB.below hb3 hB.lt).all; have hM4 := hM.below hb3; have C3 := (HB.out.below hM4.bel (by simp)).all; clear hM; have hM := hM4; clear hM4 tok))
        go_ret
        exact ⟨rfl, Below.go hw0 hM.bel⟩
      by_cases e3 : L < 1
      · clear hall
        go_wp2_with (first | (go_at_call 14; have _t := tok; refine (left_any g sk A5 A6 c5 c6 day _ hS6).mono ?_; rw [HLL.out]; rintro e w3 ⟨rfl, hb3⟩; have D3 := (hB.below hb3 hB.lt).all; have hM4 := hM.below hb3; have C3 := (HB.out.below hM4.bel (by simp)).all; clear hM; have hM := hM4; clear hM4 tok))
        go_ret
        exact ⟨rfl, Below.go hw0 hM.bel⟩
      obtain ⟨a1, a2, a3, a4, a5⟩ := hall (by omega) (by omega) (by omega)
      have HA1 := Lib.hid a1
      have HA2 := Lib.hid a2
      have HA3 := Lib.hid a3
      have HA4 := Lib.hid a4
      have HA5 := Lib.hid a5
      clear a1 a2 a3 a4 a5
      go_wp2_with (first | (go_at_call 14; have _t := tok; refine (left_any g sk A5 A6 c5 c6 day _ hS6).mono ?_; rw [HLL.out]; rintro e w3 ⟨rfl, hb3⟩; have D3 := (hB.below hb3 hB.lt).all; have hM4 := hM.below hb3; have C3 := (HB.out.below hM4.bel (by simp)).all; clear hM; have hM := hM4; clear hM4 tok) | (go_at_call 14; refine (left_mine hM _).mono ?_; (first | rw [HA2.out] | rw [HA5.out]); rintro e w3 ⟨rfl, hM3⟩; have C4 := (HB.out.below hM3.bel (by simp)).all; clear C3 hM; have hM := hM3; have C3 := C4; clear hM3 C4) | (go_at_call 17; refine (demand_mine hM _ _ _ (by first | omega | (simp [plus]; omega))).mono ?_; (first | rw [HM1.out] | rw [HA1.out]); rintro e w3 ⟨rfl, hM3⟩; have C4 := (HB.out.below hM3.bel (by simp)).all; clear C3 hM; have hM := hM3; have C3 := C4; clear hM3 C4) | (go_at_call 18; refine (expired_mine hM _).mono ?_; rw [HA3.out]; rintro e w3 ⟨rfl, hM3⟩; have C4 := (HB.out.below hM3.bel (by simp)).all; clear C3 hM; have hM := hM3; have C3 := C4; clear hM3 C4) | (go_at_call 19; refine (pay_mine hM _).mono ?_; rw [HA4.out]; rintro e w3 ⟨rfl, hM3⟩; have C4 := (HB.out.below hM3.bel (by simp)).all; clear C3 hM; have hM := hM3; have C3 := C4; clear hM3 C4))
      go_ret
      exact ⟨rfl, Below.go hw0 hM.bel⟩

theorem asks_any (b : Bd) (A : Option Addr) (n c : Nat) (l : List Ac) (day : Int) (w : World) (hs : b.fits) (ha : Acts w A n c l) :
    Calls Try.prog 4 #[.agg #[.string b.num, .string b.gua, .string b.fro, .string b.to, .string b.cur, .int .i64 b.amt, .int .i64 b.exp], .slice A n c, .int .i64 day] w (fun e w' => e = .returned (.bool true) ∧ Below w.heap.size w w') := by
  by_cases hn : 40 < n
  · exact asks_long b A n c l day w hs ha hn
  · cases hm : mayB b
    · exact asks_not b A n c l day w hs ha (by omega) hm
    · exact asks_main b A n c l day w hs ha (by omega) hm
end Go.Proofs.Ytcjheabcnipnlaa
