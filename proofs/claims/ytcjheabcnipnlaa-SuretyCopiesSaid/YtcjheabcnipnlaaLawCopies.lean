/-
  SuretyCopies: the walk.
-/
import Derived.Test.YtcjheabcnipnlaaLawAsks
import Derived.Test.YtcjheabcnipnlaaSurI
import Derived.Deep.RegionHeld3
namespace Go.Proofs.Ytcjheabcnipnlaa
open Go.RowKit

set_option maxRecDepth 100000 in
set_option maxHeartbeats 4000000 in
theorem copies_long (b : Bd) (A A' : Option Addr) (n c n' c' : Nat) (l l' : List Ac) (day : Int) (w : World) (hs : b.fits) (ha : Acts w A n c l) (ha' : Acts w A' n' c' l') (hn : 40 < n ∨ 40 < n') :
    Calls Try.prog 8 #[.agg #[.string b.num, .string b.gua, .string b.fro, .string b.to, .string b.cur, .int .i64 b.amt, .int .i64 b.exp], .slice A n c, .slice A' n' c', .int .i64 day] w (fun e w' => e = .returned (.bool true) ∧ Below w.heap.size w w') := by
  have hw0 : Below w.heap.size w (w.alloc (.cells #[.string b.num, .string b.gua, .string b.fro, .string b.to, .string b.cur, .int .i64 b.amt, .int .i64 b.exp] 25)) := by repeat (first | with_reducible exact Below.refl _ _ | (with_reducible refine Below.setCell ?_ (by first | omega | (simp <;> omega)) _) | (with_reducible refine Below.alloc ?_ (by first | omega | (simp <;> omega)) _) | (with_reducible refine Below.drew ?_) | (with_reducible refine belowN ?_ _))
  have hx : (40 : Int) < (n : Int) ∨ (¬ (40 : Int) < (n : Int) ∧ (40 : Int) < (n' : Int)) := by omega
  rcases hx with hx | ⟨hx, hy⟩
  all_goals
    go_enter Try.func8, Try.ntmps8
    go_wp2_with (go_at_call 9; refine (awake_any _).mono ?_; rintro e w1 ⟨rfl, hb1⟩; have hw1 := Below.go hw0 hb1; clear hw0 hb1; have hw0 := hw1; clear hw1)
    go_ret
    exact ⟨rfl, hw0⟩

set_option maxRecDepth 100000 in
set_option maxHeartbeats 4000000 in
theorem copies_not (b : Bd) (A A' : Option Addr) (n c n' c' : Nat) (l l' : List Ac) (day : Int) (w : World) (hs : b.fits) (ha : Acts w A n c l) (ha' : Acts w A' n' c' l') (hn : n ≤ 40) (hn' : n' ≤ 40) (hm : mayB b = false) :
    Calls Try.prog 8 #[.agg #[.string b.num, .string b.gua, .string b.fro, .string b.to, .string b.cur, .int .i64 b.amt, .int .i64 b.exp], .slice A n c, .slice A' n' c', .int .i64 day] w (fun e w' => e = .returned (.bool true) ∧ Below w.heap.size w w') := by
  have hw0 : Below w.heap.size w (w.alloc (.cells #[.string b.num, .string b.gua, .string b.fro, .string b.to, .string b.cur, .int .i64 b.amt, .int .i64 b.exp] 25)) := by repeat (first | with_reducible exact Below.refl _ _ | (with_reducible refine Below.setCell ?_ (by first | omega | (simp <;> omega)) _) | (with_reducible refine Below.alloc ?_ (by first | omega | (simp <;> omega)) _) | (with_reducible refine Below.drew ?_) | (with_reducible refine belowN ?_ _))
  have B0 := Blk.new' w 25 #[.string b.num, .string b.gua, .string b.fro, .string b.to, .string b.cur, .int .i64 b.amt, .int .i64 b.exp] _ rfl
  have hx : ¬ (40 : Int) < (n : Int) := by omega
  have hy : ¬ (40 : Int) < (n' : Int) := by omega
  go_enter Try.func8, Try.ntmps8
  go_wp2_with (first | (go_at_call 9; refine (awake_any _).mono ?_; rintro e w1 ⟨rfl, hb1⟩; have hw1 := Below.go hw0 hb1; have B1 := B0.below hb1 B0.lt; have C1 := B1.all; clear hb1) | (go_at_call 11; refine (new_no b _ hs hm).mono ?_; rintro e w2 ⟨rfl, hb2⟩; have hw2 := Below.go hw1 hb2; clear hb2 C1))
  go_ret
  exact ⟨rfl, hw2⟩

set_option maxRecDepth 100000 in
set_option maxHeartbeats 16000000 in
theorem copies_main (b : Bd) (A A' : Option Addr) (n c n' c' : Nat) (l l' : List Ac) (day : Int) (w : World) (hs : b.fits) (ha : Acts w A n c l) (ha' : Acts w A' n' c' l') (hn : n ≤ 40) (hn' : n' ≤ 40) (hm : mayB b = true) :
    Calls Try.prog 8 #[.agg #[.string b.num, .string b.gua, .string b.fro, .string b.to, .string b.cur, .int .i64 b.amt, .int .i64 b.exp], .slice A n c, .slice A' n' c', .int .i64 day] w (fun e w' => e = .returned (.bool true) ∧ Below w.heap.size w w') := by
  have hw0 : Below w.heap.size w (w.alloc (.cells #[.string b.num, .string b.gua, .string b.fro, .string b.to, .string b.cur, .int .i64 b.amt, .int .i64 b.exp] 25)) := by repeat (first | with_reducible exact Below.refl _ _ | (with_reducible refine Below.setCell ?_ (by first | omega | (simp <;> omega)) _) | (with_reducible refine Below.alloc ?_ (by first | omega | (simp <;> omega)) _) | (with_reducible refine Below.drew ?_) | (with_reducible refine belowN ?_ _))
  have B0 := Blk.new' w 25 #[.string b.num, .string b.gua, .string b.fro, .string b.to, .string b.cur, .int .i64 b.amt, .int .i64 b.exp] _ rfl
  have hx : ¬ (40 : Int) < (n : Int) := by omega
  have hy : ¬ (40 : Int) < (n' : Int) := by omega
  go_enter Try.func8, Try.ntmps8
  go_wp2_with (first | (go_at_call 9; refine (awake_any _).mono ?_; rintro e w1 ⟨rfl, hb1⟩; have B1 := B0.below hb1 B0.lt; have C1 := B1.all) | (go_at_call 11; refine (new_yes b _ hs hm).mono ?_; rintro e w2 ⟨g, rfl, hS, hg, hb2⟩; have B2 := B1.below hb2 B1.lt; have C2 := B2.all; have hP := play_start (Below.go hb1 hb2) hS (by have := hb1.size; omega); clear C1))
  clear B0 B1 B2 C2 hS hb1 hb2 hg
  go_loopw [46] (fun i wr => ∃ k : Nat, k ≤ n ∧ i = .int .i64 k ∧ PlayAt (w.alloc (.cells #[.string b.num, .string b.gua, .string b.fro, .string b.to, .string b.cur, .int .i64 b.amt, .int .i64 b.exp] 25)) wr g w2.heap.size (acted (start b) (l.take k))) (fun i _ => n - (intOf i).toNat)
  case atStart => exact ⟨0, by omega, rfl, hP⟩
  case round =>
    clear hP
    obtain ⟨k, hk, rfl, hp⟩ := hrel
    have HL := Lib.hid ha.len
    by_cases hlt : k < n
    · have hlk : k < l.length := by rw [HL.out]; exact hlt
      have hq := acted_few b l k (by omega)
      have HS := Lib.hid (acted_snoc (start b) l k hlk)
      generalize acted (start b) (l.take k) = sk at *
      obtain ⟨fp, A1, c1, A2, c2, hS1, hfp, hB, hr1, hr2, hd1, hd2, hrf, hr0, hw⟩ := hp
      obtain ⟨ba, oa, rfl, hba, f0, f1, f2, f3, f4⟩ := (ha.below (Below.go hw0 hw)).get k hlk
      have hC := hB.all
      have hF := hB.frees
      have hrl := hB.lt
      have hko := ha.ok _ (List.getElem_mem hlk)
      unfold Ac.ok at hko
      have hoks := hS1.ok
      go_wp2_with fail
      refine (want_any sk l[k] A1 A2 c1 c2 _ (hr1.alloc _) (hr2.alloc _) hoks hko).mono ?_
      rintro e w3 ⟨A3, c3, A4, c4, rfl, hR⟩
      generalize hact : act sk l[k] = q at *
      obtain ⟨s', m, code⟩ := q
      have HA := Lib.hid hact
      clear hact
      have hz3 := hR.below.size
      simp at hz3
      have hB3 := (hB.alloc (.cells #[.int .u8 l[k].kind, .string l[k].by_, .int .i64 l[k].sum, .int .i64 l[k].day, .int .i64 l[k].n] 40)).below hR.below (by simp; omega)
      have hE3 := (Blk.new' wr 40 #[.int .u8 l[k].kind, .string l[k].by_, .int .i64 l[k].sum, .int .i64 l[k].day, .int .i64 l[k].n] _ rfl).below hR.below (by simp)
      have hC3 := hB3.all
      have hF3 := hB3.frees
      have hD3 := hE3.all
      have hrl3 : w2.heap.size < w3.heap.size := by omega
      clear hC hF f0 f1 f2 f3 f4
      dsimp only
      go_upto_region 11 with (fail)
      refine store10 (Pr := fun W => Code.wp _ _ _ _ W) hB3 _ _ _ _ _ _ _ _ _ _ ?_
      intro W hfW hBW
      have hlw : wr.heap.size < W.heap.size := by have := hfW.size; omega
      have hEW := (hE3.frm hfW (by simp; omega)).all
      have hSW := (((hS1.below ((Below.refl _ _).alloc (Nat.le_refl _) _)).below hR.below).frm hfW (fun b hb => by simp; rintro rfl; exact hrf hb))
      clear hC3 hF3 hD3
      go_wp2_with fail
      refine (do_any g sk fp l[k] _ hSW (by omega) (by omega) hko).mono ?_
      rw [HA.out]
      rintro e w5 ⟨rfl, fp', hS5, hf5, hn5⟩
      have hP5 : PlayAt (w.alloc (.cells #[.string b.num, .string b.gua, .string b.fro, .string b.to, .string b.cur, .int .i64 b.amt, .int .i64 b.exp] 25)) w5 g w2.heap.size s' := play_step hS1 hfp hd1 hd2 hrf hr0 hw hrl hR hfW hBW hS5 hf5 hn5
      clear hEW hlw
      go_wp2
      go_roundw
      case rel => exact ⟨k + 1, by omega, by go_num, by rw [HS.out]; exact hP5⟩
      case measure => simp [intOf]; omega
    · obtain rfl : k = n := by omega
      clear hlt
      generalize hsk : acted (start b) (l.take k) = sk at *
      have hqf := acted_few b l k hn
      rw [hsk] at hqf
      clear hsk
      generalize w2.heap.size = r at *
      rename World => y
      obtain ⟨fpy, A9, c9, A10, c10, hS1y, hfpy, hBy, hr1y, hr2y, hd1y, hd2y, hrfy, hr0y, hwy0⟩ := hp
      obtain ⟨A7, c7, A8, c8, hSy⟩ := sur_at hS1y
      have hC := hBy.all
      have hrly := hBy.lt
      have hfl := hS1y.lt
      go_wp2_with fail
      refine wp_region_held_drew (S := (fun w' => ∀ i, w'.cell? ⟨r, i, none⟩ = (#[.string sk.b.num, .string sk.b.gua, .string sk.b.fro, .string sk.b.to, .string sk.b.cur, .int .i64 sk.b.amt, .int .i64 sk.b.exp, .int .i64 sk.expiry, .slice A9 sk.dems.length c9, .slice A10 sk.cuts.length c10] : Array Value)[i]?)) (by kernel_rfl) (fun i => hC i) (fun hHeld => ?_)
      refine wpAnyH_take (i := 0) (v := ?_) rfl (by kernel_rfl) (by kernel_rfl) (by kernel_rfl) (fun _ _ _ h => h) (Or.inl ⟨by rfl, ?_⟩) (by assumption) ?_
      rotate_left
      · (intro w hSw; (try dsimp only at hSw); go_simp; (try with_reducible rfl))
      try simp only [Act.put, List.setIfInBounds_toArray, List.set_cons_zero, List.set_cons_succ]
      refine wpAnyH_take (i := 2) (v := ?_) rfl (by kernel_rfl) (by kernel_rfl) (by kernel_rfl) (fun _ _ _ h => h) (Or.inl ⟨by rfl, ?_⟩) (by assumption) ?_
      rotate_left
      · (intro w hSw; (try dsimp only at hSw); go_simp; (try with_reducible rfl))
      try simp only [Act.put, List.setIfInBounds_toArray, List.set_cons_zero, List.set_cons_succ]
      refine wpAnyH_ready (rs := [1, 3]) (by kernel_rfl) (by simp) ?_
      refine AllReadyH.cons rfl (fun K hK => ?_) (AllReadyH.cons rfl (fun K hK => ?_) AllReadyH.nil)
      · go_simp
        refine (copy_any g sk A7 A8 c7 c8 _ (SurAt.frm hSy (Frm.of_below (Below.refl _ _).drew []) (by simp) (by simp) (by simp))).mono ?_
        rintro e yc ⟨gc, fpc, rfl, hSc, hnc, hbc⟩
        have hBc := hBy.drew.below hbc hrly
        have hCc := hBc.all
        have hbyc : Below y.heap.size y yc := Below.go (Below.refl _ _).drew hbc
        have hzc := hbyc.size
        have hlc := hSc.lt
        dsimp only
        refine hK.out _ _ ?_ (fun hHeld => ?_)
        · exact fun i => hCc i
        clear hK K
        try simp only [Act.put, List.setIfInBounds_toArray, List.set_cons_zero, List.set_cons_succ]
        refine wpAnyH_ready (rs := [3]) (by kernel_rfl) (by simp) ?_
        refine AllReadyH.cons rfl (fun K hK => ?_) AllReadyH.nil
        go_simp
        refine hK.out _ _ ?_ (fun hHeld => ?_)
        · exact fun i => (hBc.alloc (.cells #[.string ⟨#[]⟩, .string ⟨#[]⟩, .string ⟨#[]⟩, .string ⟨#[]⟩, .string ⟨#[]⟩, .int .i64 0, .int .i64 0, .int .i64 0, .slice none 0 0, .slice none 0 0] 38)).all i
        clear hK K
        try simp only [Act.put, List.setIfInBounds_toArray, List.set_cons_zero, List.set_cons_succ]
        refine wpAnyH_take (i := 4) (v := ?_) rfl (by kernel_rfl) (by kernel_rfl) (by kernel_rfl) (fun _ _ _ h => h) (Or.inl ⟨by rfl, ?_⟩) (by assumption) ?_
        rotate_left
        · (intro w hSw; (try dsimp only at hSw); go_simp; (try with_reducible rfl))
        try simp only [Act.put, List.setIfInBounds_toArray, List.set_cons_zero, List.set_cons_succ]
        refine wpAnyH_ready (rs := [5]) (by kernel_rfl) (by simp) ?_
        refine AllReadyH.cons rfl (fun K hK => ?_) AllReadyH.nil
        go_simp
        refine hK.out _ _ ?_ (fun hHeld => ?_)
        · exact fun i => (hBc.alloc (.cells #[.string sk.b.num, .string sk.b.gua, .string sk.b.fro, .string sk.b.to, .string sk.b.cur, .int .i64 sk.b.amt, .int .i64 sk.b.exp, .int .i64 sk.expiry, .slice A9 sk.dems.length c9, .slice A10 sk.cuts.length c10] 38)).all i
        clear hK K
        try simp only [Act.put, List.setIfInBounds_toArray, List.set_cons_zero, List.set_cons_succ]
        refine wpAnyH_done (by kernel_rfl) ?_ _

        have hP : PlayAt y (yc.alloc (.cells #[.string sk.b.num, .string sk.b.gua, .string sk.b.fro, .string sk.b.to, .string sk.b.cur, .int .i64 sk.b.amt, .int .i64 sk.b.exp, .int .i64 sk.expiry, .slice A9 sk.dems.length c9, .slice A10 sk.cuts.length c10] 38)) gc yc.heap.size (acted sk (l'.take 0)) := by
          refine ⟨fpc, A9, c9, A10, c10, hSc.below ((Below.refl _ _).alloc (Nat.le_refl _) _), fun b hb => by simpa using hnc b hb, Blk.new' _ _ _ _ rfl, (hr1y.below hbyc).alloc _, (hr2y.below hbyc).alloc _, fun b hb => ?_, fun b hb => ?_, fun hb => ?_, hzc, hbyc.alloc hzc _⟩
          · have := hr1y.lt b hb
            exact ⟨fun hx => by have := hnc b hx; simp at this; omega, by omega⟩
          · have := hr2y.lt b hb
            exact ⟨fun hx => by have := hnc b hx; simp at this; omega, by omega⟩
          · have := hlc _ hb
            omega
        generalize yc.heap.size = rv at *
        clear hBc hCc
        go_wp2
        have hwy : Below w.heap.size w y := Below.go hw0 hwy0
        have HZ := Lib.hid hBy
        go_loopw [66] (fun i wr => ∃ k : Nat, k ≤ n' ∧ i = .int .i64 k ∧ PlayAt y wr gc rv (acted sk (l'.take k))) (fun i _ => n' - (intOf i).toNat)
        case atStart => exact ⟨0, by omega, rfl, hP⟩
        case round =>
          clear hP
          obtain ⟨k, hk, rfl, hp⟩ := hrel
          have HL := Lib.hid ha'.len
          by_cases hlt : k < n'
          · have hlk : k < l'.length := by rw [HL.out]; exact hlt
            have hq := (by
              have h1 := acted_len sk (l'.take k)
              have h2 : (l'.take k).length ≤ k := List.length_take_le _ _
              omega : (acted sk (l'.take k)).dems.length < 3900 ∧ (acted sk (l'.take k)).cuts.length < 3900)
            have HS := Lib.hid (acted_snoc sk l' k hlk)
            generalize acted sk (l'.take k) = sk at *
            obtain ⟨fp, A1, c1, A2, c2, hS1, hfp, hB, hr1, hr2, hd1, hd2, hrf, hr0, hw⟩ := hp
            obtain ⟨ba, oa, rfl, hba, f0, f1, f2, f3, f4⟩ := (ha'.below (Below.go hwy hw)).get k hlk
            have hC := hB.all
            have hF := hB.frees
            have hrl := hB.lt
            have hko := ha'.ok _ (List.getElem_mem hlk)
            unfold Ac.ok at hko
            have hoks := hS1.ok
            go_wp2_with fail
            refine (want_any sk l'[k] A1 A2 c1 c2 _ (hr1.alloc _) (hr2.alloc _) hoks hko).mono ?_
            rintro e w3 ⟨A3, c3, A4, c4, rfl, hR⟩
            generalize hact : act sk l'[k] = q at *
            obtain ⟨s', m, code⟩ := q
            have HA := Lib.hid hact
            clear hact
            have hz3 := hR.below.size
            simp at hz3
            have hB3 := (hB.alloc (.cells #[.int .u8 l'[k].kind, .string l'[k].by_, .int .i64 l'[k].sum, .int .i64 l'[k].day, .int .i64 l'[k].n] 40)).below hR.below (by simp; omega)
            have hE3 := (Blk.new' wr 40 #[.int .u8 l'[k].kind, .string l'[k].by_, .int .i64 l'[k].sum, .int .i64 l'[k].day, .int .i64 l'[k].n] _ rfl).below hR.below (by simp)
            have hC3 := hB3.all
            have hF3 := hB3.frees
            have hD3 := hE3.all
            have hrl3 : rv < w3.heap.size := by omega
            clear hC hF f0 f1 f2 f3 f4
            dsimp only
            go_upto_region 18 with (fail)
            refine store10 (Pr := fun W => Code.wp _ _ _ _ W) hB3 _ _ _ _ _ _ _ _ _ _ ?_
            intro W hfW hBW
            have hlw : wr.heap.size < W.heap.size := by have := hfW.size; omega
            have hEW := (hE3.frm hfW (by simp; omega)).all
            have hSW := (((hS1.below ((Below.refl _ _).alloc (Nat.le_refl _) _)).below hR.below).frm hfW (fun b hb => by simp; rintro rfl; exact hrf hb))
            clear hC3 hF3 hD3
            go_wp2_with fail
            refine (do_any gc sk fp l'[k] _ hSW (by omega) (by omega) hko).mono ?_
            rw [HA.out]
            rintro e w5 ⟨rfl, fp', hS5, hf5, hn5⟩
            have hP5 : PlayAt y w5 gc rv s' := play_step hS1 hfp hd1 hd2 hrf hr0 hw hrl hR hfW hBW hS5 hf5 hn5
            clear hEW hlw
            go_wp2
            go_roundw
            case rel => exact ⟨k + 1, by omega, by go_num, by rw [HS.out]; exact hP5⟩
            case measure => simp [intOf]; omega
          · obtain rfl : k = n' := by omega
            clear hlt
            obtain ⟨fp, A1, c1, A2, c2, hS1, hfp, hB, hr1, hr2, hd1, hd2, hrf, hr0, hw⟩ := hp
            generalize acted sk (l'.take k) = sv at *
            obtain ⟨A5, c5, A6, c6, hS6⟩ := sur_at hS1
            have hC := hB.all
            have hZ := ((HZ.out.below hw HZ.out.lt)).all
            have Hs := fun {x : World} (hx : Below y.heap.size y x) => SurAt.frm hSy (Frm.of_below hx []) (by simp) (by simp) (by simp)
            have H1 := fun {x : World} (hx : Below y.heap.size y x) => hr1y.below hx
            have H2 := fun {x : World} (hx : Below y.heap.size y x) => hr2y.below hx
            have tok : True := trivial
            go_wp2_with (first | (go_at_call 21; have _t := tok; refine (same_any g sk A7 A8 A9 A10 c7 c8 c9 c10 day _ (Hs hw) (H1 hw) (H2 hw)).mono ?_; rintro e w6 ⟨rfl, hb6⟩; have hC6 := (hB.below hb6 hB.lt).all; clear tok hC hZ) | (go_at_call 21; refine (same_any gc sv A5 A6 A1 A2 c5 c6 c1 c2 day _ (SurAt.frm hS6 (Frm.of_below hb6 []) (by simp) (by simp) (by simp)) (hr1.below hb6) (hr2.below hb6)).mono ?_; rintro e w7 ⟨rfl, hb7⟩))
            go_ret
            exact ⟨rfl, Below.go hwy (Below.go hw (Below.go hb6 hb7))⟩
      · go_simp
        refine hK.out _ _ ?_ (fun hHeld => ?_)
        · exact fun i => (hBy.drew.alloc (.cells #[.string ⟨#[]⟩, .string ⟨#[]⟩, .string ⟨#[]⟩, .string ⟨#[]⟩, .string ⟨#[]⟩, .int .i64 0, .int .i64 0, .int .i64 0, .slice none 0 0, .slice none 0 0] 38)).all i
        clear hK K
        try simp only [Act.put, List.setIfInBounds_toArray, List.set_cons_zero, List.set_cons_succ]
        refine wpAnyH_ready (rs := [1]) (by kernel_rfl) (by simp) ?_
        refine AllReadyH.cons rfl (fun K hK => ?_) AllReadyH.nil
        go_simp
        have hby0 : Below y.heap.size y (y.drew.alloc (.cells #[.string ⟨#[]⟩, .string ⟨#[]⟩, .string ⟨#[]⟩, .string ⟨#[]⟩, .string ⟨#[]⟩, .int .i64 0, .int .i64 0, .int .i64 0, .slice none 0 0, .slice none 0 0] 38)) := (Below.refl _ _).drew.alloc (Nat.le_refl _) _
        refine (copy_any g sk A7 A8 c7 c8 _ (SurAt.frm hSy (Frm.of_below hby0 []) (by simp) (by simp) (by simp))).mono ?_
        rintro e yc ⟨gc, fpc, rfl, hSc, hnc, hbc⟩
        have hbyc : Below y.heap.size y yc := Below.go hby0 hbc
        have hBc := hBy.below hbyc hrly
        have hCc := hBc.all
        have hBv : Blk yc y.heap.size 38 #[.string ⟨#[]⟩, .string ⟨#[]⟩, .string ⟨#[]⟩, .string ⟨#[]⟩, .string ⟨#[]⟩, .int .i64 0, .int .i64 0, .int .i64 0, .slice none 0 0, .slice none 0 0] := (Blk.new' y.drew 38 #[.string ⟨#[]⟩, .string ⟨#[]⟩, .string ⟨#[]⟩, .string ⟨#[]⟩, .string ⟨#[]⟩, .int .i64 0, .int .i64 0, .int .i64 0, .slice none 0 0, .slice none 0 0] y.heap.size rfl).below hbc (by simp)
        have hFv := hBv.frees
        have hCv := hBv.all
        have hzc := hbyc.size
        have hlv := hBv.lt
        have hnc' : ∀ b ∈ fpc, y.heap.size + 1 ≤ b := fun b hb => by simpa using hnc b hb
        dsimp only
        refine hK.out _ _ ?_ (fun hHeld => ?_)
        · exact fun i => hCc i
        clear hK K
        try simp only [Act.put, List.setIfInBounds_toArray, List.set_cons_zero, List.set_cons_succ]
        refine wpAnyH_take (i := 4) (v := ?_) rfl (by kernel_rfl) (by kernel_rfl) (by kernel_rfl) (fun _ _ _ h => h) (Or.inl ⟨by rfl, ?_⟩) (by assumption) ?_
        rotate_left
        · (intro w hSw; (try dsimp only at hSw); go_simp; (try with_reducible rfl))
        try simp only [Act.put, List.setIfInBounds_toArray, List.set_cons_zero, List.set_cons_succ]
        refine wpAnyH_ready (rs := [5]) (by kernel_rfl) (by simp) ?_
        refine AllReadyH.cons rfl (fun K hK => ?_) AllReadyH.nil
        go_simp
        refine store10 (Pr := K _) hBv _ _ _ _ _ _ _ _ _ _ ?_
        intro Z hfZ hBZ
        refine hK.out _ _ ?_ (fun hHeld => ?_)
        · exact fun i => (hBc.frm hfZ (by simp; omega)).all i
        clear hK K
        try simp only [Act.put, List.setIfInBounds_toArray, List.set_cons_zero, List.set_cons_succ]
        refine wpAnyH_done (by kernel_rfl) ?_ _
        have hbZ : Below y.heap.size y Z := Below.frm hbyc hfZ (by simp)
        have hP : PlayAt y Z gc y.heap.size (acted sk (l'.take 0)) := by
          refine ⟨fpc, A9, c9, A10, c10, hSc.frm hfZ (fun b hb => by have := hnc' b hb; simp; omega), fun b hb => by have := hnc' b hb; omega, hBZ, hr1y.below hbZ, hr2y.below hbZ, fun b hb => ?_, fun b hb => ?_, fun hb => ?_, Nat.le_refl _, hbZ⟩
          · have := hr1y.lt b hb
            exact ⟨fun hx => by have := hnc' b hx; omega, by omega⟩
          · have := hr2y.lt b hb
            exact ⟨fun hx => by have := hnc' b hx; omega, by omega⟩
          · have := hnc' _ hb
            omega
        clear hBc hCc hBv hFv hCv hfZ hBZ
        go_wp2
        have hwy : Below w.heap.size w y := Below.go hw0 hwy0
        have HZ := Lib.hid hBy
        go_loopw [66] (fun i wr => ∃ k : Nat, k ≤ n' ∧ i = .int .i64 k ∧ PlayAt y wr gc y.heap.size (acted sk (l'.take k))) (fun i _ => n' - (intOf i).toNat)
        case atStart => exact ⟨0, by omega, rfl, hP⟩
        case round =>
          clear hP
          obtain ⟨k, hk, rfl, hp⟩ := hrel
          have HL := Lib.hid ha'.len
          by_cases hlt : k < n'
          · have hlk : k < l'.length := by rw [HL.out]; exact hlt
            have hq := (by
              have h1 := acted_len sk (l'.take k)
              have h2 : (l'.take k).length ≤ k := List.length_take_le _ _
              omega : (acted sk (l'.take k)).dems.length < 3900 ∧ (acted sk (l'.take k)).cuts.length < 3900)
            have HS := Lib.hid (acted_snoc sk l' k hlk)
            generalize acted sk (l'.take k) = sk at *
            obtain ⟨fp, A1, c1, A2, c2, hS1, hfp, hB, hr1, hr2, hd1, hd2, hrf, hr0, hw⟩ := hp
            obtain ⟨ba, oa, rfl, hba, f0, f1, f2, f3, f4⟩ := (ha'.below (Below.go hwy hw)).get k hlk
            have hC := hB.all
            have hF := hB.frees
            have hrl := hB.lt
            have hko := ha'.ok _ (List.getElem_mem hlk)
            unfold Ac.ok at hko
            have hoks := hS1.ok
            go_wp2_with fail
            refine (want_any sk l'[k] A1 A2 c1 c2 _ (hr1.alloc _) (hr2.alloc _) hoks hko).mono ?_
            rintro e w3 ⟨A3, c3, A4, c4, rfl, hR⟩
            generalize hact : act sk l'[k] = q at *
            obtain ⟨s', m, code⟩ := q
            have HA := Lib.hid hact
            clear hact
            have hz3 := hR.below.size
            simp at hz3
            have hB3 := (hB.alloc (.cells #[.int .u8 l'[k].kind, .string l'[k].by_, .int .i64 l'[k].sum, .int .i64 l'[k].day, .int .i64 l'[k].n] 40)).below hR.below (by simp; omega)
            have hE3 := (Blk.new' wr 40 #[.int .u8 l'[k].kind, .string l'[k].by_, .int .i64 l'[k].sum, .int .i64 l'[k].day, .int .i64 l'[k].n] _ rfl).below hR.below (by simp)
            have hC3 := hB3.all
            have hF3 := hB3.frees
            have hD3 := hE3.all
            have hrl3 : y.heap.size < w3.heap.size := by omega
            clear hC hF f0 f1 f2 f3 f4
            dsimp only
            go_upto_region 18 with (fail)
            refine store10 (Pr := fun W => Code.wp _ _ _ _ W) hB3 _ _ _ _ _ _ _ _ _ _ ?_
            intro W hfW hBW
            have hlw : wr.heap.size < W.heap.size := by have := hfW.size; omega
            have hEW := (hE3.frm hfW (by simp; omega)).all
            have hSW := (((hS1.below ((Below.refl _ _).alloc (Nat.le_refl _) _)).below hR.below).frm hfW (fun b hb => by simp; rintro rfl; exact hrf hb))
            clear hC3 hF3 hD3
            go_wp2_with fail
            refine (do_any gc sk fp l'[k] _ hSW (by omega) (by omega) hko).mono ?_
            rw [HA.out]
            rintro e w5 ⟨rfl, fp', hS5, hf5, hn5⟩
            have hP5 : PlayAt y w5 gc y.heap.size s' := play_step hS1 hfp hd1 hd2 hrf hr0 hw hrl hR hfW hBW hS5 hf5 hn5
            clear hEW hlw
            go_wp2
            go_roundw
            case rel => exact ⟨k + 1, by omega, by go_num, by rw [HS.out]; exact hP5⟩
            case measure => simp [intOf]; omega
          · obtain rfl : k = n' := by omega
            clear hlt
            obtain ⟨fp, A1, c1, A2, c2, hS1, hfp, hB, hr1, hr2, hd1, hd2, hrf, hr0, hw⟩ := hp
            generalize acted sk (l'.take k) = sv at *
            obtain ⟨A5, c5, A6, c6, hS6⟩ := sur_at hS1
            have hC := hB.all
            have hZ := ((HZ.out.below hw HZ.out.lt)).all
            have Hs := fun {x : World} (hx : Below y.heap.size y x) => SurAt.frm hSy (Frm.of_below hx []) (by simp) (by simp) (by simp)
            have H1 := fun {x : World} (hx : Below y.heap.size y x) => hr1y.below hx
            have H2 := fun {x : World} (hx : Below y.heap.size y x) => hr2y.below hx
            have tok : True := trivial
            go_wp2_with (first | (go_at_call 21; have _t := tok; refine (same_any g sk A7 A8 A9 A10 c7 c8 c9 c10 day _ (Hs hw) (H1 hw) (H2 hw)).mono ?_; rintro e w6 ⟨rfl, hb6⟩; have hC6 := (hB.below hb6 hB.lt).all; clear tok hC hZ) | (go_at_call 21; refine (same_any gc sv A5 A6 A1 A2 c5 c6 c1 c2 day _ (SurAt.frm hS6 (Frm.of_below hb6 []) (by simp) (by simp) (by simp)) (hr1.below hb6) (hr2.below hb6)).mono ?_; rintro e w7 ⟨rfl, hb7⟩))
            go_ret
            exact ⟨rfl, Below.go hwy (Below.go hw (Below.go hb6 hb7))⟩

theorem copies_any (b : Bd) (A A' : Option Addr) (n c n' c' : Nat) (l l' : List Ac) (day : Int) (w : World) (hs : b.fits) (ha : Acts w A n c l) (ha' : Acts w A' n' c' l') :
    Calls Try.prog 8 #[.agg #[.string b.num, .string b.gua, .string b.fro, .string b.to, .string b.cur, .int .i64 b.amt, .int .i64 b.exp], .slice A n c, .slice A' n' c', .int .i64 day] w (fun e w' => e = .returned (.bool true) ∧ Below w.heap.size w w') := by
  by_cases hn : 40 < n ∨ 40 < n'
  · exact copies_long b A A' n c n' c' l l' day w hs ha ha' hn
  · cases hm : mayB b
    · exact copies_not b A A' n c n' c' l l' day w hs ha ha' (by omega) (by omega) hm
    · exact copies_main b A A' n c n' c' l l' day w hs ha ha' (by omega) (by omega) hm
end Go.Proofs.Ytcjheabcnipnlaa
