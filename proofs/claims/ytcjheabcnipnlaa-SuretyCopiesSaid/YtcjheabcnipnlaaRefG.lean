/-
  The reference's Reduce.
-/
import Derived.Test.YtcjheabcnipnlaaRefD
namespace Go.Proofs.Ytcjheabcnipnlaa
open Go.RowKit

set_option maxHeartbeats 2000000 in
theorem reduceRef_any (s : Sty) (A1 A2 : Option Addr) (c1 c2 : Nat) (sum day : Int) (w : World) (h1 : Rd w 3 A1 s.dems.length c1 (s.dems.flatMap Dm.cells)) (h2 : Rd w 2 A2 s.cuts.length c2 (s.cuts.flatMap Dw.cells)) (hok : s.ok) :
    Calls Try.prog 33 #[.agg #[.string s.b.num, .string s.b.gua, .string s.b.fro, .string s.b.to, .string s.b.cur, .int .i64 s.b.amt, .int .i64 s.b.exp, .int .i64 s.expiry, .slice A1 s.dems.length c1, .slice A2 s.cuts.length c2], .int .i64 sum, .int .i64 day] w
      (RefPost w (fpo A1) (fpo A2) (reduce s sum day).1 [.int .i64 (reduce s sum day).2]) := by
  have hd2 := hok.d2
  have hc2 := hok.c2
  by_cases g2 : rightB sum day = false
  · have hask : reduce s sum day = (s, 3) := by simp [reduce, g2]
    rw [hask]
    clear hask
    dsimp only
    go_enter Try.func33, Try.ntmps33
    go_wp2_with (go_at_call 47; refine (right_any _ _ _).mono ?_; rintro e w' ⟨rfl, rfl⟩)
    refine bodyPost_ret (v := .tuple #[.agg #[.string s.b.num, .string s.b.gua, .string s.b.fro, .string s.b.to, .string s.b.cur, .int .i64 s.b.amt, .int .i64 s.b.exp, .int .i64 s.expiry, .slice A1 s.dems.length c1, .slice A2 s.cuts.length c2], .int .i64 3]) (by simp [results, Try.results33, go_sem]) rfl (RefPost.same h1 h2 ?_)
    repeat (first | with_reducible exact Below.refl _ _ | (with_reducible refine Below.setCell ?_ (by first | omega | (simp <;> omega)) _) | (with_reducible refine Below.alloc ?_ (by first | omega | (simp <;> omega)) _) | (with_reducible refine Below.drew ?_) | (with_reducible refine belowN ?_ _))
  have g2' : rightB sum day = true := by simpa using g2
  have hr : 1 ≤ sum ∧ sum ≤ 1099511627776 ∧ 0 ≤ day ∧ day ≤ 1048576 := by simpa [rightB, sumB, dayB, and_assoc] using g2'
  have ha2 := hok.a2
  have ha1 := hok.a1
  obtain ⟨i1, hj, hy0, hy1, hy2⟩ := info_parts Try.infoDraw
  have hno : s.b.amt < sum + allSum s.cuts → reduce s sum day = (s, 10) := fun g => by simp [reduce, g2, g]
  have hyes : ¬ s.b.amt < sum + allSum s.cuts → reduce s sum day = ({ s with cuts := s.cuts ++ [Dw.mk day sum] }, 0) := fun g => by simp [reduce, g2, g]
  have HNO := Lib.hid hno
  have HYES := Lib.hid hyes
  clear hno hyes g2
  go_enter Try.func33, Try.ntmps33
  go_wp2_with (go_at_call 47; refine (right_any _ _ _).mono ?_; rintro e w' ⟨rfl, rfl⟩)
  go_loop [8, 9] (fun n i => ∃ k : Nat, k ≤ s.cuts.length ∧ i = .int .i64 k ∧ n = .int .i64 (sum + allSum (s.cuts.take k))) (fun _ i => s.cuts.length - (intOf i).toNat)
  case atStart => exact ⟨0, by omega, rfl, by simp [allSum]⟩
  case round =>
    obtain ⟨k, hk, rfl, rfl⟩ := hrel
    have hcs := allSum_bd _ (take_ok hok.c1 k)
    have hcl : (s.cuts.take k).length ≤ k := List.length_take_le _ _
    by_cases hlt : k < s.cuts.length
    · obtain ⟨b, o, hA, hbl, f0, f1⟩ := h2.draw k hlt
      have ho := hok.c1 s.cuts[k] (List.getElem_mem hlt)
      unfold Dw.ok at ho
      have hs := Lib.hid (sum_snoc Dw.amount s.cuts k hlt)
      go_wp2
      go_round
      case rel =>
        refine ⟨k + 1, by omega, by go_num, ?_⟩
        unfold allSum
        rw [hs.out]
        go_num
      case measure => simp [intOf]; omega
    · obtain rfl : k = s.cuts.length := by omega
      rw [List.take_length] at hcs ⊢
      by_cases g : s.b.amt < sum + allSum s.cuts
      · go_wp2
        rw [HNO.out (by omega)]
        refine bodyPost_ret (v := .tuple #[.agg #[.string s.b.num, .string s.b.gua, .string s.b.fro, .string s.b.to, .string s.b.cur, .int .i64 s.b.amt, .int .i64 s.b.exp, .int .i64 s.expiry, .slice A1 s.dems.length c1, .slice A2 s.cuts.length c2], .int .i64 10]) (by simp [results, Try.results33, go_sem]) rfl (RefPost.same h1 h2 ?_)
        repeat (first | with_reducible exact Below.refl _ _ | (with_reducible refine Below.setCell ?_ (by first | omega | (simp <;> omega)) _) | (with_reducible refine Below.alloc ?_ (by first | omega | (simp <;> omega)) _) | (with_reducible refine Below.drew ?_) | (with_reducible refine belowN ?_ _))
      · have tok1 : True := trivial
        have hb0 : Below w.heap.size w ((w.alloc (.cells #[.string s.b.num, .string s.b.gua, .string s.b.fro, .string s.b.to, .string s.b.cur, .int .i64 s.b.amt, .int .i64 s.b.exp, .int .i64 s.expiry, .slice A1 s.dems.length c1, .slice A2 s.cuts.length c2] 38)).alloc (.cells #[.string ⟨#[]⟩, .string ⟨#[]⟩, .string ⟨#[]⟩, .string ⟨#[]⟩, .string ⟨#[]⟩, .int .i64 0, .int .i64 0, .int .i64 0, .slice none 0 0, .slice none 0 0] 38)) := by repeat (first | with_reducible exact Below.refl _ _ | (with_reducible refine Below.setCell ?_ (by first | omega | (simp <;> omega)) _) | (with_reducible refine Below.alloc ?_ (by first | omega | (simp <;> omega)) _) | (with_reducible refine Below.drew ?_) | (with_reducible refine belowN ?_ _))
        go_wp2_with (first | (at_builtin; have _t := tok1; go_loud (refine wpList_app _ rfl (.tmp 38) (.tmp 40) 32 rfl 55 i1 _ 2 16 Try.underlying32 hj hy0 hy1 hy2 rfl (by decide) rfl rfl (Own.lit _ 55 2 #[] 0 (by simp [maxLen]) rfl _ (by simp)) ((h2.below hb0).alloc _) (draw_one _) s.cuts.length (by simp) (s.cuts.flatMap Dw.cells) (by simp) (by unfold maxLen; omega) (by omega) ?_; intro A3 c3 w2 hown hfr hfp; have hlo : ∀ b ∈ fpo A3, w.heap.size + 2 ≤ b := (by intro b hb; rcases hfp b hb with h | h <;> simp at h <;> omega); have HLO := Lib.hid hlo; have b0 := (((Blk.new' _ _ _ w.heap.size rfl).alloc _).alloc _).frm hfr (by simp; omega); have b1 := ((Blk.new' _ _ _ (w.heap.size + 1) (by simp)).alloc _).frm hfr (by simp); clear hlo; have C0 := b0.all; have F0 := b0.frees; have hw2 : Below w.heap.size w w2 := Below.frm (hb0.alloc (by simp; omega) _) hfr (by simp; omega); have hq2 := hfr.size; simp at hq2; have hza2 : w.heap.size < w2.heap.size := (by omega); have hzb2 : w.heap.size + 1 < w2.heap.size := (by omega); clear hfr hfp tok1 _t)) | (at_builtin; have _t := hown; go_loud (refine wpList_app _ rfl (.tmp 41) (.tmp 45) 32 rfl 55 i1 _ 2 16 Try.underlying32 hj hy0 hy1 hy2 rfl (by decide) rfl rfl (hown.alloc _) (Rd.lit _ 55 2 _ 1 (by simp [maxLen]) rfl _ (by simp)) (by intro u hu; simp at hu; rcases hu with rfl | rfl <;> rfl) (s.cuts.length + 1) (by simp) ((s.cuts ++ [Dw.mk day sum]).flatMap Dw.cells) (by simp [Dw.cells]) (by unfold maxLen; omega) (by omega) ?_; intro A4 c4 w3 hown2 hfr2 hfp2; have d0 := (b0.alloc _).frm hfr2 (fun hx => by have := HLO.out _ hx; omega); have d1 := (b1.alloc _).frm hfr2 (fun hx => by have := HLO.out _ hx; omega); have hlo4 : ∀ b ∈ fpo A4, w.heap.size + 2 ≤ b := (by intro b hb; rcases hfp2 b hb with h | h <;> first | (have := HLO.out b h; omega) | (simp at h; omega)); have HLO4 := Lib.hid hlo4; have hw3 : Below w.heap.size w w3 := Below.frm (hw2.alloc (by omega) _) hfr2 (fun x hx => by have := HLO.out x hx; omega); clear C0 F0 b0 b1 hlo4 hfr2 hfp2 hw2; have C0 := d0.all; have F0 := d0.frees; have C1 := d1.all; have F1 := d1.frees)))
        rw [HYES.out (by omega)]
        refine bodyPost_ret (v := .tuple #[.agg #[.string s.b.num, .string s.b.gua, .string s.b.fro, .string s.b.to, .string s.b.cur, .int .i64 s.b.amt, .int .i64 s.b.exp, .int .i64 s.expiry, .slice A1 s.dems.length c1, .slice A4 (s.cuts.length + 1) c4], .int .i64 0]) (by simp [results, Try.results33, go_sem, C1]) rfl ⟨A1, c1, A4, c4, by simp, ?_⟩
        refine ⟨?_, Own.rd (e := 55) ?_, fun b hb => .inl hb, ?_, ?_⟩
        · refine h1.below ?_
          repeat (first | with_reducible exact hw3 | (with_reducible refine Below.setCell ?_ (by first | omega | (simp <;> omega)) _) | (with_reducible refine Below.alloc ?_ (by first | omega | (simp <;> omega)) _) | (with_reducible refine Below.drew ?_) | (with_reducible refine belowN ?_ _))
        · iterate 11 with_reducible refine Own.far ?_ (fun b hb => by have := HLO4.out b hb; simp <;> omega) _
          simpa using hown2
        · intro b hb
          have := HLO4.out b hb
          exact .inr (by omega)
        · repeat (first | with_reducible exact hw3 | (with_reducible refine Below.setCell ?_ (by first | omega | (simp <;> omega)) _) | (with_reducible refine Below.alloc ?_ (by first | omega | (simp <;> omega)) _) | (with_reducible refine Below.drew ?_) | (with_reducible refine belowN ?_ _))
end Go.Proofs.Ytcjheabcnipnlaa
