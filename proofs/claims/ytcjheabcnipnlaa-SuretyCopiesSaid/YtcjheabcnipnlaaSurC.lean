/-
  The program's surety: Demand, Reduce.
-/
import Derived.Test.YtcjheabcnipnlaaSurA
import Derived.Test.YtcjheabcnipnlaaRefC
namespace Go.Proofs.Ytcjheabcnipnlaa
open Go.RowKit

theorem Try.infoPDem : (Try.prog.info? 68).map (fun i => (i.zero, i.size, i.bytes)) = some (some (.agg #[.int .i64 0, .int .i64 0, .int .i64 0]), 3, 24) := by kernel_rfl

/-- Behind an act: the struct stands for s'; what has turned is its own. -/
def SurPost (w : World) (g : Nat) (fp : List Nat) (s' : Sty) (w' : World) : Prop :=
  ∃ fp', Sur w' g s' fp' ∧ Frm fp w w' ∧ ∀ b ∈ fp', b ∈ fp ∨ w.heap.size ≤ b
theorem SurPost.same {w w' : World} {g : Nat} {s : Sty} {fp : List Nat} (h : Sur w g s fp) (hb : Below w.heap.size w w') : SurPost w g fp s w' :=
  ⟨fp, h.below hb, Frm.of_below hb fp, fun _ h => .inl h⟩
theorem SurAt.sur {w : World} {g : Nat} {s : Sty} {A1 A2 : Option Addr} {c1 c2 : Nat} (h : SurAt w g s A1 c1 A2 c2) : Sur w g s (g :: (fpo A1 ++ fpo A2)) := ⟨A1, c1, A2, c2, h, rfl⟩

theorem Own.apart {w : World} {e e' : TypeId} {k k' : Nat} {A A' : Option Addr} {n c n' c' : Nat} {xs xs' : List Value} (h : Own w e k A n c xs) (h' : Own w e' k' A' n' c' xs') (ht : e ≠ e') : ∀ b ∈ fpo A, b ∉ fpo A' := by
  intro b hb
  rcases h.cases_ with ⟨rfl, _⟩ | ⟨g, cur, rfl, hg, _⟩
  · simp at hb
  · simp at hb
    subst hb
    exact h'.ne_ hg ht

/-- The demands are others: behind an append to their row, and its store. -/
theorem sur_dems {w wa w3 : World} {g : Nat} {s : Sty} {A1 A2 A4 : Option Addr} {c1 c2 c4 : Nat} {l : List Dm} (h : SurAt w g s A1 c1 A2 c2) (hba : Below w.heap.size w wa) (hfr : Frm (fpo A2) wa w3)
    (hown : Own w3 68 3 A4 l.length c4 (l.flatMap Dm.cells)) (hfp : ∀ b ∈ fpo A4, b ∈ fpo A2 ∨ b = wa.heap.size) (hok : ({ s with dems := l } : Sty).ok) :
    SurPost w g (g :: (fpo A1 ++ fpo A2)) { s with dems := l } (w3.setCell ⟨g, 9, none⟩ (.slice A4 l.length c4)) := by
  have hg := h.blk.lt
  have hsz := hba.size
  have n2 : g ∉ fpo A2 := h.dems.ne_ h.blk (by decide)
  have n1 : g ∉ fpo A1 := h.cuts.ne_ h.blk (by decide)
  have n12 := h.cuts.apart h.dems (by decide)
  have d := (((h.blk.below hba hg).frm hfr n2).set_ 9 (.slice A4 l.length c4))
  refine ⟨g :: (fpo A1 ++ fpo A4), ⟨A1, c1, A4, c4, ⟨by simpa using d, ?_, ?_, hok⟩, rfl⟩, ?_, ?_⟩
  · exact ((h.cuts.below hba).frm hfr n12).setCell (by simpa using n1) _
  · refine hown.far (fun b hb e => ?_) _
    rcases hfp b hb with h1 | h1
    · simp at e; exact n2 (e ▸ h1)
    · simp at e; omega
  · refine ((Frm.of_below hba (g :: (fpo A1 ++ fpo A2))).trans hfr (fun x hx => .inl (by simp [hx]))).setCell (.inl (by simp)) _
  · intro b hb
    simp at hb
    rcases hb with rfl | hb | hb
    · simp
    · simp [hb]
    · rcases hfp b hb with h1 | h1
      · simp [h1]
      · exact .inr (by omega)
theorem sur_cuts {w wa w3 : World} {g : Nat} {s : Sty} {A1 A2 A4 : Option Addr} {c1 c2 c4 : Nat} {l : List Dw} (h : SurAt w g s A1 c1 A2 c2) (hba : Below w.heap.size w wa) (hfr : Frm (fpo A1) wa w3)
    (hown : Own w3 55 2 A4 l.length c4 (l.flatMap Dw.cells)) (hfp : ∀ b ∈ fpo A4, b ∈ fpo A1 ∨ b = wa.heap.size) (hok : ({ s with cuts := l } : Sty).ok) :
    SurPost w g (g :: (fpo A1 ++ fpo A2)) { s with cuts := l } (w3.setCell ⟨g, 8, none⟩ (.slice A4 l.length c4)) := by
  have hg := h.blk.lt
  have hsz := hba.size
  have n2 : g ∉ fpo A2 := h.dems.ne_ h.blk (by decide)
  have n1 : g ∉ fpo A1 := h.cuts.ne_ h.blk (by decide)
  have n21 := h.dems.apart h.cuts (by decide)
  have d := (((h.blk.below hba hg).frm hfr n1).set_ 8 (.slice A4 l.length c4))
  refine ⟨g :: (fpo A4 ++ fpo A2), ⟨A4, c4, A2, c2, ⟨by simpa using d, ?_, ?_, hok⟩, rfl⟩, ?_, ?_⟩
  · refine hown.far (fun b hb e => ?_) _
    rcases hfp b hb with h1 | h1
    · simp at e; exact n1 (e ▸ h1)
    · simp at e; omega
  · exact ((h.dems.below hba).frm hfr n21).setCell (by simpa using n2) _
  · refine ((Frm.of_below hba (g :: (fpo A1 ++ fpo A2))).trans hfr (fun x hx => .inl (by simp [hx]))).setCell (.inl (by simp)) _
  · intro b hb
    simp at hb
    rcases hb with rfl | hb | hb
    · simp
    · rcases hfp b hb with h1 | h1
      · simp [h1]
      · exact .inr (by omega)
    · simp [hb]
theorem Sty.ok_dem {s : Sty} (h : s.ok) (x : Dm) (hx : x.ok) (hl : s.dems.length < 4000) : ({ s with dems := s.dems ++ [x] } : Sty).ok :=
  ⟨h.a1, h.a2, h.e1, h.e2, h.c1, fun y hy => by rcases List.mem_append.1 hy with hy | hy; exact h.d1 y hy; simp at hy; rw [hy]; exact hx, h.c2, by simp; omega⟩
theorem Sty.ok_cut {s : Sty} (h : s.ok) (x : Dw) (hx : x.ok) (hl : s.cuts.length < 4000) : ({ s with cuts := s.cuts ++ [x] } : Sty).ok :=
  ⟨h.a1, h.a2, h.e1, h.e2, fun y hy => by rcases List.mem_append.1 hy with hy | hy; exact h.c1 y hy; simp at hy; rw [hy]; exact hx, h.d1, by simp; omega, h.d2⟩

set_option maxRecDepth 100000 in
set_option maxHeartbeats 2000000 in
theorem demand_any (g : Nat) (s : Sty) (A1 A2 : Option Addr) (c1 c2 : Nat) (by_ : ByteArray) (sum day : Int) (w : World) (h : SurAt w g s A1 c1 A2 c2) (hl : s.dems.length < 3900) :
    Calls Try.prog 17 #[.pointer (some ⟨g, 0, none⟩), .string by_, .int .i64 sum, .int .i64 day] w fun e w' =>
      e = .returned (.tuple #[.int .i64 (ask s by_ sum day).2.1, .int .i64 (ask s by_ sum day).2.2]) ∧ SurPost w g (g :: (fpo A1 ++ fpo A2)) (ask s by_ sum day).1 w' := by
  have C0 := h.blk.all
  have F0 := h.blk.frees
  have hg := h.blk.lt
  by_cases g1 : eqB by_ s.b.to = false
  · have hask : ask s by_ sum day = (s, 0, 8) := by simp [ask, g1]
    rw [hask]
    clear hask
    unfold eqB at g1
    dsimp only
    go_enter Try.func17, Try.ntmps17
    go_wp2
    go_ret2
    exact ⟨rfl, SurPost.same h.sur (Below.refl _ _)⟩
  have g1' : (by_.toList == s.b.to.toList) = true := by simpa [eqB] using g1
  by_cases g2 : rightB sum day = false
  · have hask : ask s by_ sum day = (s, 0, 3) := by simp [ask, g1, g2]
    rw [hask]
    clear hask g1
    dsimp only
    have g3 : (sumB sum = false) ∨ (sumB sum = true ∧ dayB day = false) := by
      unfold rightB at g2
      revert g2
      cases sumB sum <;> cases dayB day <;> simp
    clear g2
    rcases g3 with g3 | ⟨g3, g4⟩
    all_goals
      go_enter Try.func17, Try.ntmps17
      go_wp2_with (first | (go_at_call 28; refine (isSum_any _ _).mono ?_; rintro e w' ⟨rfl, rfl⟩) | (go_at_call 29; refine (isDay_any _ _).mono ?_; rintro e w' ⟨rfl, rfl⟩))
      go_ret2
      exact ⟨rfl, SurPost.same h.sur (Below.refl _ _)⟩
  have g2' : sumB sum = true ∧ dayB day = true := by
    unfold rightB at g2
    revert g2
    cases sumB sum <;> cases dayB day <;> simp
  obtain ⟨g2a, g2b⟩ := g2'
  have hr : 1 ≤ sum ∧ sum ≤ 1099511627776 ∧ 0 ≤ day ∧ day ≤ 1048576 := by
    have x1 := g2a
    have x2 := g2b
    simp [sumB] at x1
    simp [dayB] at x2
    omega
  by_cases g3 : s.expiry < day
  · have hask : ask s by_ sum day = (s, 0, 11) := by simp [ask, g1, g2, g3]
    rw [hask]
    clear hask g1 g2
    dsimp only
    go_enter Try.func17, Try.ntmps17
    go_wp2_with (first | (go_at_call 28; refine (isSum_any _ _).mono ?_; rintro e w' ⟨rfl, rfl⟩) | (go_at_call 29; refine (isDay_any _ _).mono ?_; rintro e w' ⟨rfl, rfl⟩))
    go_ret2
    exact ⟨rfl, SurPost.same h.sur (Below.refl _ _)⟩
  by_cases g4 : left s day < sum
  · have hask : ask s by_ sum day = (s, 0, 10) := by simp [ask, g1, g2, g3, g4]
    rw [hask]
    clear hask g1 g2
    dsimp only
    go_enter Try.func17, Try.ntmps17
    go_wp2_with (first | (go_at_call 28; refine (isSum_any _ _).mono ?_; rintro e w' ⟨rfl, rfl⟩) | (go_at_call 29; refine (isDay_any _ _).mono ?_; rintro e w' ⟨rfl, rfl⟩) | (go_at_call 14; refine (left_any g s A1 A2 c1 c2 day _ h).mono ?_; rintro e w1 ⟨rfl, hb⟩))
    go_ret2
    exact ⟨rfl, SurPost.same h.sur hb⟩
  have hask : ask s by_ sum day = (({ s with dems := s.dems ++ [Dm.mk day sum 0] }, (s.dems.length : Int), 0) : Sty × Int × Int) := by simp [ask, g1, g2, g3, g4]
  rw [hask]
  clear hask g1 g2
  dsimp only
  obtain ⟨i0, hi, hz0, hz1, hz2⟩ := info_parts Try.infoPDem
  have h4 : (s.dems.length : Int) < 4096 := by omega
  have hgn : ∀ b ∈ fpo A2, b ≠ g := fun b hb e => h.dems.ne_ h.blk (by decide) (e ▸ hb)
  have HGN := Lib.hid hgn
  clear hgn
  go_enter Try.func17, Try.ntmps17
  go_wp2_with (first | (go_at_call 28; refine (isSum_any _ _).mono ?_; rintro e w' ⟨rfl, rfl⟩) | (go_at_call 29; refine (isDay_any _ _).mono ?_; rintro e w' ⟨rfl, rfl⟩) | (go_at_call 14; refine (left_any g s A1 A2 c1 c2 day _ h).mono ?_; rintro e w1 ⟨rfl, hb⟩; have D0 := (h.blk.below hb hg).all; have hgz : g < w1.heap.size := (by have := hb.size; omega)) | (at_builtin; go_loud (refine wpList_app _ rfl (.tmp 51) (.tmp 56) 62 rfl 68 i0 _ 3 24 Try.underlying62 hi hz0 hz1 hz2 rfl (by decide) rfl rfl ((h.dems.below hb).alloc _) (Rd.lit _ 68 3 _ 1 (by simp [maxLen]) rfl _ (by simp)) (by intro u hu; simp at hu; rcases hu with rfl | rfl | rfl <;> rfl) (s.dems.length + 1) (by simp) ((s.dems ++ [Dm.mk day sum 0]).flatMap Dm.cells) (by simp [Dm.cells]) (by unfold maxLen; omega) (by omega) ?_; intro A4 c4 w3 hown2 hfr2 hfp2; have d0 := ((h.blk.below hb hg).alloc _).frm hfr2 (fun hx => HGN.out _ hx rfl); clear D0; have C3 := d0.all; have F3 := d0.frees)))
  go_ret2
  refine ⟨rfl, ?_⟩
  have hw : Below w.heap.size w (w1.alloc (.cells #[.int .i64 day, .int .i64 sum, .int .i64 0] 68)) := hb.alloc hb.size _
  have hp := sur_dems h hw hfr2 (l := s.dems ++ [Dm.mk day sum 0]) (by simpa using hown2) hfp2 (Sty.ok_dem h.ok ⟨day, sum, 0⟩ ⟨hr.2.2.1, hr.2.2.2, hr.1, hr.2.1, by show (0 : Int) ≤ 0; omega, by show (0 : Int) ≤ 2; omega⟩ (by omega))
  simpa using hp
end Go.Proofs.Ytcjheabcnipnlaa
