/-
  SuretyPlays: the walk.
-/
import Derived.Test.YtcjheabcnipnlaaSame
import Derived.Test.YtcjheabcnipnlaaDo
import Derived.Test.YtcjheabcnipnlaaWant
import Derived.Test.YtcjheabcnipnlaaAwakeB
import Derived.Test.YtcjheabcnipnlaaMayRef
namespace Go.Proofs.Ytcjheabcnipnlaa
open Go.RowKit

/-- The acts that came in. -/
def Ac.cells (a : Ac) : List Value := [.int .u8 a.kind, .string a.by_, .int .i64 a.sum, .int .i64 a.day, .int .i64 a.n]
def Ac.ok (a : Ac) : Prop := 0 ≤ a.kind ∧ a.kind ≤ 255
theorem Ac.cells_len (a : Ac) : a.cells.length = 5 := rfl
structure Acts (w : World) (A : Option Addr) (n c : Nat) (l : List Ac) : Prop where
  len : l.length = n
  ok : ∀ a ∈ l, a.ok
  cells : ∀ (i : Nat) (hi : i < l.length) (j : Nat) (u : Value), l[i].cells[j]? = some u → ∃ b o, A = some ⟨b, o, none⟩ ∧ w.cell? ⟨b, o + i * 5 + j, none⟩ = some u
theorem Acts.below {w w' : World} {A : Option Addr} {n c : Nat} {l : List Ac} (h : Acts w A n c l) (hb : Below w.heap.size w w') : Acts w' A n c l :=
  ⟨h.len, h.ok, fun i hi j u hu => by
    obtain ⟨b, o, hA, hc⟩ := h.cells i hi j u hu
    exact ⟨b, o, hA, hb.cell (p := ⟨b, o + i * 5 + j, none⟩) (World.block_lt_of_cell? w _ hc) ▸ hc⟩⟩
theorem Acts.get {w : World} {A : Option Addr} {n c : Nat} {l : List Ac} (h : Acts w A n c l) (i : Nat) (hi : i < l.length) :
    ∃ b o, A = some ⟨b, o, none⟩ ∧ b < w.heap.size ∧ w.cell? ⟨b, o + i * 5, none⟩ = some (.int .u8 l[i].kind) ∧ w.cell? ⟨b, o + i * 5 + 1, none⟩ = some (.string l[i].by_) ∧ w.cell? ⟨b, o + i * 5 + 2, none⟩ = some (.int .i64 l[i].sum) ∧ w.cell? ⟨b, o + i * 5 + 3, none⟩ = some (.int .i64 l[i].day) ∧ w.cell? ⟨b, o + i * 5 + 4, none⟩ = some (.int .i64 l[i].n) := by
  obtain ⟨b, o, rfl, c0⟩ := h.cells i hi 0 _ rfl
  have key : ∀ j u, l[i].cells[j]? = some u → w.cell? ⟨b, o + i * 5 + j, none⟩ = some u := by
    intro j u hu
    obtain ⟨b', o', he, hc⟩ := h.cells i hi j u hu
    simp only [Option.some.injEq, Addr.mk.injEq, and_true] at he
    obtain ⟨rfl, rfl⟩ := he
    exact hc
  exact ⟨b, o, rfl, World.block_lt_of_cell? w _ c0, c0, key 1 _ rfl, key 2 _ rfl, key 3 _ rfl, key 4 _ rfl⟩

/-- Behind the first k acts. -/
def acted (s : Sty) (l : List Ac) : Sty := l.foldl (fun s a => (act s a).1) s
theorem acted_snoc (s : Sty) (l : List Ac) (k : Nat) (hk : k < l.length) : acted s (l.take (k + 1)) = (act (acted s (l.take k)) l[k]).1 := by
  unfold acted
  rw [List.take_succ_eq_append_getElem hk, List.foldl_append]
  rfl
theorem act_len (s : Sty) (a : Ac) : (act s a).1.dems.length ≤ s.dems.length + 1 ∧ (act s a).1.cuts.length ≤ s.cuts.length + 1 := by
  unfold act ask extend pay reduce stand
  repeat' split
  all_goals simp
theorem acted_len (s : Sty) (l : List Ac) : (acted s l).dems.length ≤ s.dems.length + l.length ∧ (acted s l).cuts.length ≤ s.cuts.length + l.length := by
  induction l generalizing s with
  | nil => simp [acted]
  | cons a r ih =>
    have h1 := ih (act s a).1
    have h2 := act_len s a
    have e : acted s (a :: r) = acted (act s a).1 r := rfl
    rw [e]
    simp only [List.length_cons]
    omega

/-- Ten cells of a block are written: the world behind it under a name. -/
theorem store10 {Pr : World → Prop} {w : World} {r : Nat} {t : TypeId} {a0 a1 a2 a3 a4 a5 a6 a7 a8 a9 : Value} (h : Blk w r t #[a0, a1, a2, a3, a4, a5, a6, a7, a8, a9]) (v0 v1 v2 v3 v4 v5 v6 v7 v8 v9 : Value)
    (H : ∀ W, Frm [r] w W → Blk W r t #[v0, v1, v2, v3, v4, v5, v6, v7, v8, v9] → Pr W) : Pr ((((((((((((((((((((w).setCell ⟨r, 0, none⟩ v0)).setCell ⟨r, 1, none⟩ v1)).setCell ⟨r, 2, none⟩ v2)).setCell ⟨r, 3, none⟩ v3)).setCell ⟨r, 4, none⟩ v4)).setCell ⟨r, 5, none⟩ v5)).setCell ⟨r, 6, none⟩ v6)).setCell ⟨r, 7, none⟩ v7)).setCell ⟨r, 8, none⟩ v8)).setCell ⟨r, 9, none⟩ v9) := by
  have d := ((((((((((((((((((((h).set_ 0 v0)).set_ 1 v1)).set_ 2 v2)).set_ 3 v3)).set_ 4 v4)).set_ 5 v5)).set_ 6 v6)).set_ 7 v7)).set_ 8 v8)).set_ 9 v9)
  simp only [List.setIfInBounds_toArray, List.set_cons_zero, List.set_cons_succ] at d
  exact H _ ((((((((((((((((((((Frm.refl [r] w).setCell (p := ⟨r, 0, none⟩) (.inl (by simp)) v0)).setCell (p := ⟨r, 1, none⟩) (.inl (by simp)) v1)).setCell (p := ⟨r, 2, none⟩) (.inl (by simp)) v2)).setCell (p := ⟨r, 3, none⟩) (.inl (by simp)) v3)).setCell (p := ⟨r, 4, none⟩) (.inl (by simp)) v4)).setCell (p := ⟨r, 5, none⟩) (.inl (by simp)) v5)).setCell (p := ⟨r, 6, none⟩) (.inl (by simp)) v6)).setCell (p := ⟨r, 7, none⟩) (.inl (by simp)) v7)).setCell (p := ⟨r, 8, none⟩) (.inl (by simp)) v8)).setCell (p := ⟨r, 9, none⟩) (.inl (by simp)) v9) d

/-- The program's surety and the reference's stand alike. -/
def PlayAt (w0 wr : World) (g r : Nat) (s : Sty) : Prop :=
  ∃ fp A1 c1 A2 c2, Sur wr g s fp ∧ (∀ b ∈ fp, w0.heap.size ≤ b) ∧ Blk wr r 38 #[.string s.b.num, .string s.b.gua, .string s.b.fro, .string s.b.to, .string s.b.cur, .int .i64 s.b.amt, .int .i64 s.b.exp, .int .i64 s.expiry, .slice A1 s.dems.length c1, .slice A2 s.cuts.length c2] ∧ Rd wr 3 A1 s.dems.length c1 (s.dems.flatMap Dm.cells) ∧ Rd wr 2 A2 s.cuts.length c2 (s.cuts.flatMap Dw.cells) ∧
    (∀ b ∈ fpo A1, b ∉ fp ∧ b ≠ r) ∧ (∀ b ∈ fpo A2, b ∉ fp ∧ b ≠ r) ∧ r ∉ fp ∧ w0.heap.size ≤ r ∧ Below w0.heap.size w0 wr

set_option maxRecDepth 100000 in
set_option maxHeartbeats 4000000 in
theorem plays_long (b : Bd) (A : Option Addr) (n c : Nat) (l : List Ac) (day : Int) (w : World) (hs : b.fits) (ha : Acts w A n c l) (hn : 40 < n) :
    Calls Try.prog 6 #[.agg #[.string b.num, .string b.gua, .string b.fro, .string b.to, .string b.cur, .int .i64 b.amt, .int .i64 b.exp], .slice A n c, .int .i64 day] w fun e w' => e = .returned (.bool true) ∧ Below w.heap.size w w' := by
  have hw0 : Below w.heap.size w (w.alloc (.cells #[.string b.num, .string b.gua, .string b.fro, .string b.to, .string b.cur, .int .i64 b.amt, .int .i64 b.exp] 25)) := by repeat (first | with_reducible exact Below.refl _ _ | (with_reducible refine Below.setCell ?_ (by first | omega | (simp <;> omega)) _) | (with_reducible refine Below.alloc ?_ (by first | omega | (simp <;> omega)) _) | (with_reducible refine Below.drew ?_) | (with_reducible refine belowN ?_ _))
  have hn' : (40 : Int) < (n : Int) := by omega
  go_enter Try.func6, Try.ntmps6
  go_wp2_with (go_at_call 9; refine (awake_any _).mono ?_; rintro e w1 ⟨rfl, hb1⟩; have hw1 := Below.go hw0 hb1; clear hw0 hb1; have hw0 := hw1; clear hw1)
  go_ret
  exact ⟨rfl, hw0⟩

set_option maxRecDepth 100000 in
set_option maxHeartbeats 4000000 in
theorem plays_not (b : Bd) (A : Option Addr) (n c : Nat) (l : List Ac) (day : Int) (w : World) (hs : b.fits) (ha : Acts w A n c l) (hn : n ≤ 40) (hm : mayB b = false) :
    Calls Try.prog 6 #[.agg #[.string b.num, .string b.gua, .string b.fro, .string b.to, .string b.cur, .int .i64 b.amt, .int .i64 b.exp], .slice A n c, .int .i64 day] w fun e w' => e = .returned (.bool true) ∧ Below w.heap.size w w' := by
  have hw0 : Below w.heap.size w (w.alloc (.cells #[.string b.num, .string b.gua, .string b.fro, .string b.to, .string b.cur, .int .i64 b.amt, .int .i64 b.exp] 25)) := by repeat (first | with_reducible exact Below.refl _ _ | (with_reducible refine Below.setCell ?_ (by first | omega | (simp <;> omega)) _) | (with_reducible refine Below.alloc ?_ (by first | omega | (simp <;> omega)) _) | (with_reducible refine Below.drew ?_) | (with_reducible refine belowN ?_ _))
  have B0 := Blk.new' w 25 #[.string b.num, .string b.gua, .string b.fro, .string b.to, .string b.cur, .int .i64 b.amt, .int .i64 b.exp] _ rfl
  have hn' : ¬ (40 : Int) < (n : Int) := by omega
  go_enter Try.func6, Try.ntmps6
  go_wp2_with (first | (go_at_call 9; refine (awake_any _).mono ?_; rintro e w1 ⟨rfl, hb1⟩; have hw1 := Below.go hw0 hb1; have B1 := B0.below hb1 B0.lt; have C1 := B1.all; clear hb1) | (go_at_call 11; refine (new_no b _ hs hm).mono ?_; rintro e w2 ⟨rfl, hb2⟩; have hw2 := Below.go hw1 hb2; have B2 := B1.below hb2 B1.lt; have C2 := B2.all; clear hb2 C1) | (go_at_call 10; refine (mayRef_any b _ hs).mono ?_; rw [hm]; rintro e w3 ⟨rfl, hb3⟩; have hw3 := Below.go hw2 hb3; clear C2))
  go_ret
  exact ⟨rfl, hw3⟩

set_option maxRecDepth 100000 in
set_option maxHeartbeats 4000000 in
theorem plays_main (b : Bd) (A : Option Addr) (n c : Nat) (l : List Ac) (day : Int) (w : World) (hs : b.fits) (ha : Acts w A n c l) (hn : n ≤ 40) (hm : mayB b = true) :
    Calls Try.prog 6 #[.agg #[.string b.num, .string b.gua, .string b.fro, .string b.to, .string b.cur, .int .i64 b.amt, .int .i64 b.exp], .slice A n c, .int .i64 day] w fun e w' => e = .returned (.bool true) ∧ Below w.heap.size w w' := by
  have hw0 : Below w.heap.size w (w.alloc (.cells #[.string b.num, .string b.gua, .string b.fro, .string b.to, .string b.cur, .int .i64 b.amt, .int .i64 b.exp] 25)) := by repeat (first | with_reducible exact Below.refl _ _ | (with_reducible refine Below.setCell ?_ (by first | omega | (simp <;> omega)) _) | (with_reducible refine Below.alloc ?_ (by first | omega | (simp <;> omega)) _) | (with_reducible refine Below.drew ?_) | (with_reducible refine belowN ?_ _))
  have B0 := Blk.new' w 25 #[.string b.num, .string b.gua, .string b.fro, .string b.to, .string b.cur, .int .i64 b.amt, .int .i64 b.exp] _ rfl
  have hn' : ¬ (40 : Int) < (n : Int) := by omega
  go_enter Try.func6, Try.ntmps6
  go_wp2_with (first | (go_at_call 9; refine (awake_any _).mono ?_; rintro e w1 ⟨rfl, hb1⟩; have hw1 := Below.go hw0 hb1; have B1 := B0.below hb1 B0.lt; have C1 := B1.all; clear hb1) | (go_at_call 11; refine (new_yes b _ hs hm).mono ?_; rintro e w2 ⟨g, rfl, hS, hg, hb2⟩; have hw2 := Below.go hw1 hb2; have B2 := B1.below hb2 B1.lt; have C2 := B2.all; clear hb2 C1))
  have hP : PlayAt w (w2.alloc (.cells #[.string b.num, .string b.gua, .string b.fro, .string b.to, .string b.cur, .int .i64 b.amt, .int .i64 b.exp, .int .i64 b.exp, .slice none 0 0, .slice none 0 0] 38)) g w2.heap.size (acted (start b) (l.take 0)) := by
    refine ⟨[g], none, 0, none, 0, ?_, ?_, ?_, ?_, ?_, by simp, by simp, ?_, ?_, ?_⟩
    · exact hS.below ((Below.refl _ _).alloc (Nat.le_refl _) _)
    · have := hw1.size; simp; omega
    · exact Blk.new' _ _ _ _ rfl
    · exact (Own.nil _ 3 _).rd
    · exact (Own.nil _ 3 _).rd
    · have := hS.lt g (by simp); simp; omega
    · have := hw2.size; omega
    · exact hw2.alloc hw2.size _
  clear C2
  go_loopw [41] (fun i wr => ∃ k : Nat, k ≤ n ∧ i = .int .i64 k ∧ PlayAt w wr g w2.heap.size (acted (start b) (l.take k))) (fun i _ => n - (intOf i).toNat)
  case atStart => exact ⟨0, by omega, rfl, hP⟩
  case round =>
    clear hP
    obtain ⟨k, hk, rfl, hp⟩ := hrel
    have HL := Lib.hid ha.len
    generalize hr : w2.heap.size = r at *
    clear hr
    by_cases hlt : k < n
    · have hlk : k < l.length := by rw [HL.out]; exact hlt
      generalize hsk : acted (start b) (l.take k) = sk at *
      obtain ⟨fp, A1, c1, A2, c2, hS1, hfp, hB, hr1, hr2, hd1, hd2, hrf, hr0, hw⟩ := hp
      obtain ⟨ba, oa, rfl, hba, f0, f1, f2, f3, f4⟩ := (ha.below hw).get k hlk
      have hC := hB.all
      have hF := hB.frees
      have hrl := hB.lt
      have hko := ha.ok _ (List.getElem_mem hlk)
      unfold Ac.ok at hko
      have HS := Lib.hid hsk
      clear hsk
      have hoks := hS1.ok
      have hz0 := hw.size
      go_wp2_with fail
      refine (want_any sk l[k] A1 A2 c1 c2 _ (hr1.alloc _) (hr2.alloc _) hoks hko).mono ?_
      rintro e w3 ⟨A3, c3, A4, c4, rfl, hR⟩
      generalize hact : act sk l[k] = q at *
      obtain ⟨s', m, code⟩ := q
      have HA := Lib.hid hact
      clear hact
      have hz3 := hR.below.size
      simp at hz3
      have hw3 : Below w.heap.size w w3 := Below.go (hw.alloc hw.size _) hR.below
      have hB3 := (hB.alloc (.cells #[.int .u8 l[k].kind, .string l[k].by_, .int .i64 l[k].sum, .int .i64 l[k].day, .int .i64 l[k].n] 40)).below hR.below (by simp; omega)
      have hE3 := (Blk.new' wr 40 #[.int .u8 l[k].kind, .string l[k].by_, .int .i64 l[k].sum, .int .i64 l[k].day, .int .i64 l[k].n] _ rfl).below hR.below (by simp)
      have hC3 := hB3.all
      have hF3 := hB3.frees
      have hD3 := hE3.all
      have hrl3 : r < w3.heap.size := by omega
      clear hC hF f0 f1 f2 f3 f4
      dsimp only
      go_upto_region 12 with (fail)
      refine store10 (Pr := fun W => Code.wp _ _ _ _ (W.alloc _)) hB3 _ _ _ _ _ _ _ _ _ _ ?_
      intro W hfW hBW
      have hzW := hfW.size
      have hlw : wr.heap.size < W.heap.size := by omega
      have hEW := (hE3.frm hfW (by simp; omega)).all
      have hwW : Below w.heap.size w W := Below.frm hw3 hfW (by simpa using hr0)
      have hSW := (((hS1.below ((Below.refl _ _).alloc (Nat.le_refl _) _)).below hR.below).frm hfW (fun b hb => by simp; rintro rfl; exact hrf hb))
      have hqA : (acted (start b) (l.take k)).dems.length ≤ k ∧ (acted (start b) (l.take k)).cuts.length ≤ k := by
        have h1 := acted_len (start b) (l.take k)
        have h2 : (l.take k).length ≤ k := List.length_take_le _ _
        have h3 : (start b).dems.length = 0 := rfl
        have h4 : (start b).cuts.length = 0 := rfl
        omega
      rw [HS.out] at hqA
      clear hC3 hF3 hD3
      go_wp2_with fail
      refine (do_any g sk fp l[k] _ (hSW.below ((Below.refl _ _).alloc (Nat.le_refl _) _)) (by omega) (by omega) hko).mono ?_
      rw [HA.out]
      rintro e w5 ⟨rfl, fp', hS5, hf5, hn5⟩
      try dsimp only at hS5 ⊢
      simp only [World.size_alloc] at hn5
      have hB5 := (hBW.alloc _).frm hf5 hrf
      have hC5 := hB5.all
      have hw5 : Below w.heap.size w w5 := Below.frm (hwW.alloc hwW.size _) hf5 hfp
      have hlt1 := hS1.lt
      have hd3 : ∀ b ∈ fpo A3, b ∉ fp ∧ b ≠ r ∧ b < w3.heap.size := fun b hb => by
        have h3 := hR.r1.lt b hb
        rcases hR.fp1 b hb with h | h
        · exact ⟨(hd1 b h).1, (hd1 b h).2, h3⟩
        · simp at h
          exact ⟨fun hx => by have := hlt1 b hx; omega, by omega, h3⟩
      have hd4 : ∀ b ∈ fpo A4, b ∉ fp ∧ b ≠ r ∧ b < w3.heap.size := fun b hb => by
        have h3 := hR.r2.lt b hb
        rcases hR.fp2 b hb with h | h
        · exact ⟨(hd2 b h).1, (hd2 b h).2, h3⟩
        · simp at h
          exact ⟨fun hx => by have := hlt1 b hx; omega, by omega, h3⟩
      have hr5 := ((hR.r1.frm hfW (fun b hb => by simpa using (hd3 b hb).2.1)).alloc (.cells #[.string s'.b.num, .string s'.b.gua, .string s'.b.fro, .string s'.b.to, .string s'.b.cur, .int .i64 s'.b.amt, .int .i64 s'.b.exp, .int .i64 s'.expiry, .slice A3 s'.dems.length c3, .slice A4 s'.cuts.length c4] 38)).frm hf5 (fun b hb => (hd3 b hb).1)
      have hr6 := ((hR.r2.frm hfW (fun b hb => by simpa using (hd4 b hb).2.1)).alloc (.cells #[.string s'.b.num, .string s'.b.gua, .string s'.b.fro, .string s'.b.to, .string s'.b.cur, .int .i64 s'.b.amt, .int .i64 s'.b.exp, .int .i64 s'.expiry, .slice A3 s'.dems.length c3, .slice A4 s'.cuts.length c4] 38)).frm hf5 (fun b hb => (hd4 b hb).1)
      try dsimp only at hr5 hr6
      obtain ⟨A5, c5, A6, c6, hS6, hfp6⟩ := hS5
      have hx1 : (m != m) = false := by simp
      have hx2 : (code != code) = false := by simp
      clear hEW hlw
      go_wp2_with (go_at_call 21; refine (same_any g s' A5 A6 A3 A4 c5 c6 c3 c4 day _ hS6 hr5 hr6).mono ?_; rintro e w6 ⟨rfl, hb6⟩)
      go_roundw
      case rel =>
        refine ⟨k + 1, by omega, by go_num, ?_⟩
        rw [acted_snoc _ _ _ hlk, HS.out, HA.out]
        have hfp' : ∀ b ∈ fp', b ∈ fp ∨ w3.heap.size ≤ b := fun b hb => by
          rcases hn5 b hb with h | h
          · exact .inl h
          · exact .inr (by omega)
        show PlayAt w w6 g r s'
        refine ⟨fp', A3, c3, A4, c4, by rw [hfp6]; exact hS6.sur.below hb6, fun b hb => ?_, hB5.below hb6 hB5.lt, hr5.below hb6, hr6.below hb6, fun b hb => ⟨fun hx => ?_, (hd3 b hb).2.1⟩, fun b hb => ⟨fun hx => ?_, (hd4 b hb).2.1⟩, fun hx => ?_, hr0, Below.go hw5 hb6⟩
        · rcases hfp' b hb with h | h
          · exact hfp b h
          · have := hw3.size
            omega
        · rcases hfp' b hx with h | h
          · exact (hd3 b hb).1 h
          · have := (hd3 b hb).2.2
            omega
        · rcases hfp' b hx with h | h
          · exact (hd4 b hb).1 h
          · have := (hd4 b hb).2.2
            omega
        · rcases hfp' r hx with h | h
          · exact hrf h
          · omega
      case measure => simp [intOf]; omega
    · obtain rfl : k = n := by omega
      obtain ⟨fp, A1, c1, A2, c2, hS1, hfp, hB, hr1, hr2, hd1, hd2, hrf, hr0, hw⟩ := hp
      obtain ⟨A5, c5, A6, c6, hS6, hfp6⟩ := hS1
      generalize hsk : acted (start b) (l.take k) = sk at *
      clear hsk
      have hC := hB.all
      go_wp2_with (go_at_call 21; refine (same_any g sk A5 A6 A1 A2 c5 c6 c1 c2 day _ hS6 hr1 hr2).mono ?_; rintro e w6 ⟨rfl, hb6⟩)
      go_ret
      exact ⟨rfl, Below.go hw hb6⟩

theorem plays_any (b : Bd) (A : Option Addr) (n c : Nat) (l : List Ac) (day : Int) (w : World) (hs : b.fits) (ha : Acts w A n c l) :
    Calls Try.prog 6 #[.agg #[.string b.num, .string b.gua, .string b.fro, .string b.to, .string b.cur, .int .i64 b.amt, .int .i64 b.exp], .slice A n c, .int .i64 day] w fun e w' => e = .returned (.bool true) ∧ Below w.heap.size w w' := by
  by_cases hn : 40 < n
  · exact plays_long b A n c l day w hs ha hn
  · cases hm : mayB b
    · exact plays_not b A n c l day w hs ha (by omega) hm
    · exact plays_main b A n c l day w hs ha (by omega) hm
end Go.Proofs.Ytcjheabcnipnlaa
