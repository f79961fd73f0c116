/-
  The reference's Ask: the way on which the demand is made.
-/
import Derived.Test.YtcjheabcnipnlaaRefD
namespace Go.Proofs.Ytcjheabcnipnlaa
open Go.RowKit
set_option maxHeartbeats 1000000 in
theorem ask_yes (s : Sty) (A1 A2 : Option Addr) (c1 c2 : Nat) (by_ : ByteArray) (sum day : Int) (w : World) (h1 : Rd w 3 A1 s.dems.length c1 (s.dems.flatMap Dm.cells)) (h2 : Rd w 2 A2 s.cuts.length c2 (s.cuts.flatMap Dw.cells)) (hok : s.ok)
    (g1' : (by_.toList == s.b.to.toList) = true) (g2' : rightB sum day = true) (g3 : ¬ s.expiry < day) (g4 : ¬ left s day < sum) (hd2 : s.dems.length ≤ 4000) :
    Calls Try.prog 30 #[.agg #[.string s.b.num, .string s.b.gua, .string s.b.fro, .string s.b.to, .string s.b.cur, .int .i64 s.b.amt, .int .i64 s.b.exp, .int .i64 s.expiry, .slice A1 s.dems.length c1, .slice A2 s.cuts.length c2], .string by_, .int .i64 sum, .int .i64 day] w
      (RefPost w (fpo A1) (fpo A2) { s with dems := s.dems ++ [⟨day, sum, 0⟩] } [.int .i64 s.dems.length, .int .i64 0]) := by
  obtain ⟨i0, hi, hz0, hz1, hz2⟩ := info_parts Try.infoDem
  go_enter Try.func30, Try.ntmps30
  have tok1 : True := trivial
  go_wp2_with (first | (go_at_call 47; refine (right_any _ _ _).mono ?_; rintro e w' ⟨rfl, rfl⟩) | (go_at_call 39; refine (leftRef_any s A1 A2 c1 c2 day _ ((h1.alloc _).alloc _) ((h2.alloc _).alloc _) hok).mono ?_; rintro e w1 ⟨rfl, hb⟩; have B0 := ((Blk.new' _ _ _ w.heap.size rfl).alloc _).below hb (by simp; omega); have B1 := (Blk.new' _ _ _ (w.heap.size + 1) (by simp)).below hb (by simp); have C0 := B0.all; have F0 := B0.frees; have C1 := B1.all; have F1 := B1.frees; have hb' : Below w.heap.size w w1 := Below.go (by repeat (first | with_reducible exact Below.refl _ _ | (with_reducible refine Below.setCell ?_ (by first | omega | (simp <;> omega)) _) | (with_reducible refine Below.alloc ?_ (by first | omega | (simp <;> omega)) _) | (with_reducible refine Below.drew ?_) | (with_reducible refine belowN ?_ _))) hb; have hz : w.heap.size + 2 ≤ w1.heap.size := (by simpa using hb.size); have hza : w.heap.size < w1.heap.size := (by omega); have hzb : w.heap.size + 1 < w1.heap.size := (by omega); clear hb) | (at_builtin; have _t := tok1; go_loud (refine wpList_app _ rfl (.tmp 33) (.tmp 35) 36 rfl 81 i0 _ 3 24 Try.underlying36 hi hz0 hz1 hz2 rfl (by decide) rfl rfl (Own.lit _ 81 3 #[] 0 (by simp [maxLen]) rfl _ (by simp)) ((h1.below hb').alloc _) (dem_one _) s.dems.length (by simp) (s.dems.flatMap Dm.cells) (by simp) (by unfold maxLen; omega) (by omega) ?_; intro A3 c3 w2 hown hfr hfp; have hlo : ∀ b ∈ fpo A3, w1.heap.size ≤ b := (by intro b hb; rcases hfp b hb with h | h <;> simp at h <;> omega); have HLO := Lib.hid hlo; have b0 := (B0.alloc _).frm hfr (by simp; omega); have b1 := (B1.alloc _).frm hfr (by simp; omega); clear C0 F0 C1 F1 B0 B1 hlo; have C0 := b0.all; have F0 := b0.frees; have hw2 : Below w.heap.size w w2 := Below.frm (hb'.alloc (by omega) _) hfr (by simp; omega); have hq2 := hfr.size; simp at hq2; have hza2 : w.heap.size < w2.heap.size := (by omega); have hzb2 : w.heap.size + 1 < w2.heap.size := (by omega); clear hfr hfp tok1)) | (at_builtin; go_loud (refine wpList_app _ rfl (.tmp 36) (.tmp 40) 36 rfl 81 i0 _ 3 24 Try.underlying36 hi hz0 hz1 hz2 rfl (by decide) rfl rfl (hown.alloc _) (Rd.lit _ 81 3 _ 1 (by simp [maxLen]) rfl _ (by simp)) (by intro u hu; simp at hu; rcases hu with rfl | rfl | rfl <;> rfl) (s.dems.length + 1) (by simp) ((s.dems ++ [Dm.mk day sum 0]).flatMap Dm.cells) (by simp [Dm.cells]) (by unfold maxLen; omega) (by omega) ?_; intro A4 c4 w3 hown2 hfr2 hfp2; have d0 := (b0.alloc _).frm hfr2 (fun hx => by have := HLO.out _ hx; omega); have d1 := (b1.alloc _).frm hfr2 (fun hx => by have := HLO.out _ hx; omega); have hlo4 : ∀ b ∈ fpo A4, w.heap.size + 2 ≤ b := (by intro b hb; rcases hfp2 b hb with h | h <;> first | (have := HLO.out b h; omega) | (simp at h; omega)); have HLO4 := Lib.hid hlo4; have hw3 : Below w.heap.size w w3 := Below.frm (hw2.alloc (by omega) _) hfr2 (fun x hx => by have := HLO.out x hx; omega); clear C0 F0 b0 b1 hlo4 hfr2 hfp2 hw2; have C0 := d0.all; have F0 := d0.frees; have C1 := d1.all; have F1 := d1.frees)))
  go_region
  go_wp2
  refine bodyPost_ret (v := .tuple #[.agg #[.string s.b.num, .string s.b.gua, .string s.b.fro, .string s.b.to, .string s.b.cur, .int .i64 s.b.amt, .int .i64 s.b.exp, .int .i64 s.expiry, .slice A4 (s.dems.length + 1) c4, .slice A2 s.cuts.length c2], .int .i64 s.dems.length, .int .i64 0]) (by simp [results, Try.results30, go_sem, C1]) rfl ⟨A4, c4, A2, c2, by simp, ?_⟩
  have hW : Below w.heap.size w w3 := hw3
  refine ⟨Own.rd (e := 81) ?_, ?_, ?_, fun b hb => .inl hb, ?_⟩
  · with_reducible refine Own.drew ?_
    iterate 11 with_reducible refine Own.far ?_ (fun b hb => by have := HLO4.out b hb; simp <;> omega) _
    simpa using hown2
  · refine h2.below ?_
    repeat (first | with_reducible exact hW | (with_reducible refine Below.setCell ?_ (by first | omega | (simp <;> omega)) _) | (with_reducible refine Below.alloc ?_ (by first | omega | (simp <;> omega)) _) | (with_reducible refine Below.drew ?_) | (with_reducible refine belowN ?_ _))
  · intro b hb
    have := HLO4.out b hb
    exact .inr (by omega)
  · repeat (first | with_reducible exact hW | (with_reducible refine Below.setCell ?_ (by first | omega | (simp <;> omega)) _) | (with_reducible refine Below.alloc ?_ (by first | omega | (simp <;> omega)) _) | (with_reducible refine Below.drew ?_) | (with_reducible refine belowN ?_ _))
end Go.Proofs.Ytcjheabcnipnlaa
