/-
  The reference's surety, by value: stand, Ask, Reduce: they make a new list.
-/
import Derived.Test.YtcjheabcnipnlaaRefB
import Derived.Deep.RegionWith
import Derived.Test.YtcjheabcnipnlaaMem
namespace Go.Proofs.Ytcjheabcnipnlaa
open Go.RowKit

theorem Try.infoDem : (Try.prog.info? 81).map (fun i => (i.zero, i.size, i.bytes)) = some (some (.agg #[.int .i64 0, .int .i64 0, .int .i64 0]), 3, 24) := by kernel_rfl
theorem Try.infoDraw : (Try.prog.info? 55).map (fun i => (i.zero, i.size, i.bytes)) = some (some (.agg #[.int .i64 0, .int .i64 0]), 2, 16) := by kernel_rfl
theorem dem_one (l : List Dm) : ∀ u ∈ l.flatMap Dm.cells, u.oneCell' = true := by
  intro u hu
  obtain ⟨x, _, hx⟩ := List.mem_flatMap.1 hu
  simp [Dm.cells] at hx
  rcases hx with rfl | rfl | rfl <;> rfl
theorem draw_one (l : List Dw) : ∀ u ∈ l.flatMap Dw.cells, u.oneCell' = true := by
  intro u hu
  obtain ⟨x, _, hx⟩ := List.mem_flatMap.1 hu
  simp [Dw.cells] at hx
  rcases hx with rfl | rfl <;> rfl

/-- The reference's surety stands so behind a call: what it reads; its rows are elder ones of B, or new. -/
structure RefRes (w : World) (B1 B2 : List Nat) (s' : Sty) (A1 : Option Addr) (c1 : Nat) (A2 : Option Addr) (c2 : Nat) (w' : World) : Prop where
  r1 : Rd w' 3 A1 s'.dems.length c1 (s'.dems.flatMap Dm.cells)
  r2 : Rd w' 2 A2 s'.cuts.length c2 (s'.cuts.flatMap Dw.cells)
  fp1 : ∀ b ∈ fpo A1, b ∈ B1 ∨ w.heap.size ≤ b
  fp2 : ∀ b ∈ fpo A2, b ∈ B2 ∨ w.heap.size ≤ b
  below : Below w.heap.size w w'

def StandPost (w : World) (s : Sty) (k : Nat) (how : Int) (A2 : Option Addr) (c2 : Nat) (e : Ending) (w' : World) : Prop :=
  ∃ A1 c1, e = .returned (.agg #[.string (stand s k how).b.num, .string (stand s k how).b.gua, .string (stand s k how).b.fro, .string (stand s k how).b.to, .string (stand s k how).b.cur, .int .i64 (stand s k how).b.amt, .int .i64 (stand s k how).b.exp, .int .i64 (stand s k how).expiry, .slice A1 (stand s k how).dems.length c1, .slice A2 (stand s k how).cuts.length c2]) ∧ RefRes w [] (fpo A2) (stand s k how) A1 c1 A2 c2 w'

theorem stand_flat (s : Sty) (k : Nat) (how : Int) (hk : k < s.dems.length) : (s.dems.flatMap Dm.cells).set (k * 3 + 2) (.int .i64 how) = (stand s k how).dems.flatMap Dm.cells := by
  unfold stand
  exact flat_set Dm.cells 3 Dm.cells_len s.dems k 2 _ _ hk (by omega) (by simp [Dm.cells, hk])

set_option maxHeartbeats 2000000 in
theorem stand_any (s : Sty) (A1 A2 : Option Addr) (c1 c2 : Nat) (k : Nat) (how : Int) (w : World) (h1 : Rd w 3 A1 s.dems.length c1 (s.dems.flatMap Dm.cells)) (h2 : Rd w 2 A2 s.cuts.length c2 (s.cuts.flatMap Dw.cells)) (hok : s.ok) (hk : k < s.dems.length) :
    Calls Try.prog 49 #[.agg #[.string s.b.num, .string s.b.gua, .string s.b.fro, .string s.b.to, .string s.b.cur, .int .i64 s.b.amt, .int .i64 s.b.exp, .int .i64 s.expiry, .slice A1 s.dems.length c1, .slice A2 s.cuts.length c2], .int .i64 k, .int .i64 how] w (StandPost w s k how A2 c2) := by
  have hd2 := hok.d2
  obtain ⟨i0, hi, hz0, hz1, hz2⟩ := info_parts Try.infoDem
  go_enter Try.func49, Try.ntmps49
  go_wp2_with (at_builtin; go_loud (refine wpList_app _ rfl _ _ 36 rfl 81 i0 _ 3 24 Try.underlying36 hi hz0 hz1 hz2 rfl (by decide) rfl rfl (Own.lit _ 81 3 #[] 0 (by simp [maxLen]) rfl _ (by simp)) (((h1.alloc _).alloc _).alloc _) (dem_one _) s.dems.length (by simp) (s.dems.flatMap Dm.cells) (by simp) (by unfold maxLen; omega) (by omega) ?_; intro A3 c3 w1 hown hfr hfp; have B0 := (((Blk.new' _ _ _ _ rfl).alloc _).alloc _).frm hfr (by simp; omega); have B1 := ((Blk.new' _ _ _ (w.heap.size + 1) (by simp)).alloc _).frm hfr (by simp); have C0 := B0.all; have F0 := B0.frees; have C1 := B1.all; have F1 := B1.frees; obtain ⟨g3, hA3, hg3, f2, hF3⟩ := hown.elem Dm.cells_len (by omega) k hk; have hn3 : w.heap.size + 2 ≤ g3 := (by rcases hfp g3 (by simp [hA3]) with h | h <;> simp at h <;> omega); have f3 := f2 2 _ rfl))
  refine bodyPost_ret (v := .agg #[.string s.b.num, .string s.b.gua, .string s.b.fro, .string s.b.to, .string s.b.cur, .int .i64 s.b.amt, .int .i64 s.b.exp, .int .i64 s.expiry, .slice (some ⟨g3, 0, none⟩) s.dems.length c3, .slice A2 s.cuts.length c2]) (by simp [results, Try.results49, go_sem, C1]) rfl ⟨some ⟨g3, 0, none⟩, c3, by simp [stand], ?_⟩
  subst hA3
  have hW : Below w.heap.size w w1 := (((((Below.refl _ w).alloc (Nat.le_refl _) _).alloc (by simp) _).alloc (by simp; omega) _)).trans ⟨hfr.os, hfr.tape, hfr.output, hfr.size, fun j hj => hfr.block j (by simp; omega) (by simp; omega)⟩
  have hR2 := h2.below hW
  refine ⟨Own.rd (e := 81) ?_, ?_, ?_, fun b hb => .inl hb, ?_⟩
  · iterate 10 with_reducible refine Own.far ?_ (by simp <;> omega) _
    have h := (hown.far (p := ⟨w.heap.size, 8, none⟩) (by simp; omega) (.slice (some ⟨g3, 0, none⟩) s.dems.length c3)).set_ (k * 3 + 2) (.int .i64 how)
    rw [stand_flat s k how hk] at h
    simpa [stand] using h
  · have hx : (stand s k how).cuts = s.cuts := rfl
    rw [hx]
    refine h2.below ?_
    iterate 12 with_reducible refine Below.setCell ?_ (by simp <;> omega) _
    exact hW
  · simp
    omega
  · iterate 12 with_reducible refine Below.setCell ?_ (by simp <;> omega) _
    exact hW
end Go.Proofs.Ytcjheabcnipnlaa
