/-
  The program's surety: a struct behind a pointer, two rows: what only reads: Left, Expired.
-/
import Derived.Test.YtcjheabcnipnlaaRefA
import Derived.Test.YtcjheabcnipnlaaRefB
import Derived.Test.YtcjheabcnipnlaaMem
namespace Go.Proofs.Ytcjheabcnipnlaa
open Go.RowKit

/-- The struct at block g stands for s; fp: the blocks that are its own. -/
structure SurAt (w : World) (g : Nat) (s : Sty) (A1 : Option Addr) (c1 : Nat) (A2 : Option Addr) (c2 : Nat) : Prop where
  blk : Blk w g 64 #[.string s.b.num, .string s.b.gua, .string s.b.fro, .string s.b.to, .string s.b.cur, .int .i64 s.b.amt, .int .i64 s.b.exp, .int .i64 s.expiry, .slice A1 s.cuts.length c1, .slice A2 s.dems.length c2]
  cuts : Own w 55 2 A1 s.cuts.length c1 (s.cuts.flatMap Dw.cells)
  dems : Own w 68 3 A2 s.dems.length c2 (s.dems.flatMap Dm.cells)
  ok : s.ok
def Sur (w : World) (g : Nat) (s : Sty) (fp : List Nat) : Prop := ∃ A1 c1 A2 c2, SurAt w g s A1 c1 A2 c2 ∧ fp = g :: (fpo A1 ++ fpo A2)

theorem SurAt.frm {w w' : World} {g : Nat} {s : Sty} {A1 A2 : Option Addr} {c1 c2 : Nat} {S : List Nat} (h : SurAt w g s A1 c1 A2 c2) (hf : Frm S w w') (hg : g ∉ S) (h1 : ∀ b ∈ fpo A1, b ∉ S) (h2 : ∀ b ∈ fpo A2, b ∉ S) : SurAt w' g s A1 c1 A2 c2 :=
  ⟨h.blk.frm hf hg, h.cuts.frm hf h1, h.dems.frm hf h2, h.ok⟩
theorem Sur.frm {w w' : World} {g : Nat} {s : Sty} {fp : List Nat} {S : List Nat} (h : Sur w g s fp) (hf : Frm S w w') (hd : ∀ b ∈ fp, b ∉ S) : Sur w' g s fp := by
  obtain ⟨A1, c1, A2, c2, h, rfl⟩ := h
  exact ⟨A1, c1, A2, c2, h.frm hf (hd _ (by simp)) (fun b hb => hd b (by simp [hb])) (fun b hb => hd b (by simp [hb])), rfl⟩
theorem Sur.below {w w' : World} {g : Nat} {s : Sty} {fp : List Nat} (h : Sur w g s fp) (hb : Below w.heap.size w w') : Sur w' g s fp := h.frm (Frm.of_below hb []) (by simp)
theorem Sur.lt {w : World} {g : Nat} {s : Sty} {fp : List Nat} (h : Sur w g s fp) : ∀ b ∈ fp, b < w.heap.size := by
  obtain ⟨A1, c1, A2, c2, h, rfl⟩ := h
  intro b hb
  simp at hb
  rcases hb with rfl | hb | hb
  · exact h.blk.lt
  · exact h.cuts.lt b hb
  · exact h.dems.lt b hb
theorem Sur.ok {w : World} {g : Nat} {s : Sty} {fp : List Nat} (h : Sur w g s fp) : s.ok := by
  obtain ⟨A1, c1, A2, c2, h, rfl⟩ := h
  exact h.ok
theorem Sur.self {w : World} {g : Nat} {s : Sty} {fp : List Nat} (h : Sur w g s fp) : g ∈ fp := by
  obtain ⟨A1, c1, A2, c2, h, rfl⟩ := h
  simp

set_option maxHeartbeats 2000000 in
theorem left_any (g : Nat) (s : Sty) (A1 A2 : Option Addr) (c1 c2 : Nat) (day : Int) (w : World) (h : SurAt w g s A1 c1 A2 c2) :
    Calls Try.prog 14 #[.pointer (some ⟨g, 0, none⟩), .int .i64 day] w fun e w' => e = .returned (.int .i64 (left s day)) ∧ Below w.heap.size w w' := by
  have hd2 := h.ok.d2
  have hc2 := h.ok.c2
  have ha1 := h.ok.a1
  have ha2 := h.ok.a2
  have hds := askSum_bd _ h.ok.d1
  have C0 := h.blk.all
  have hg := h.blk.lt
  go_enter Try.func14, Try.ntmps14
  go_wp2
  go_loopw [5, 21] (fun l i wr => ∃ k : Nat, k ≤ s.cuts.length ∧ i = .int .i64 k ∧ l = .int .i64 (s.b.amt - cutSum day (s.cuts.take k)) ∧ Below w.heap.size w wr)
    (fun _ i _ => s.cuts.length - (intOf i).toNat)
  case atStart => exact ⟨0, by omega, rfl, by simp [cutSum], Below.refl _ _⟩
  case round =>
    obtain ⟨k, hk, rfl, rfl, hb⟩ := hrel
    have hcs := cutSum_bd day _ (take_ok h.ok.c1 k)
    have hcl : (s.cuts.take k).length ≤ k := List.length_take_le _ _
    by_cases hlt : k < s.cuts.length
    · obtain ⟨b, o, hA, hbl, f0, f1⟩ := (h.cuts.rd.below hb).draw k hlt
      have ho := h.ok.c1 s.cuts[k] (List.getElem_mem hlt)
      unfold Dw.ok at ho
      have hs := Lib.hid (sum_snoc (cutAt day) s.cuts k hlt)
      by_cases hst : s.cuts[k].day ≤ day
      all_goals
        go_wp2
        go_roundw
        case rel =>
          refine ⟨k + 1, by omega, by go_num, ?_, hb.alloc hb.size _⟩
          unfold cutSum
          rw [hs.out]
          unfold cutAt
          first | (rw [if_pos hst]; go_num) | (rw [if_neg (by omega)]; go_num)
        case measure => simp [intOf]; omega
    · have D0 := (h.blk.below hb hg).all
      obtain rfl : k = s.cuts.length := by omega
      rw [List.take_length] at hcs ⊢
      go_wp2
      go_loopw [5, 39] (fun l i wr => ∃ k : Nat, k ≤ s.dems.length ∧ i = .int .i64 k ∧ l = .int .i64 (s.b.amt - cutSum day s.cuts - askSum (s.dems.take k)) ∧ Below w.heap.size w wr)
        (fun _ i _ => s.dems.length - (intOf i).toNat)
      case atStart => exact ⟨0, by omega, rfl, by simp [askSum], hb⟩
      case round =>
        obtain ⟨k, hk, rfl, rfl, hb⟩ := hrel
        have hes := askSum_bd _ (take_ok h.ok.d1 k)
        have hel : (s.dems.take k).length ≤ k := List.length_take_le _ _
        by_cases hlt : k < s.dems.length
        · obtain ⟨b, o, hA, hbl, f0, f1, f2⟩ := (h.dems.rd.below hb).dem k hlt
          have ho := h.ok.d1 s.dems[k] (List.getElem_mem hlt)
          unfold Dm.ok at ho
          have hs := Lib.hid (sum_snoc askAt s.dems k hlt)
          by_cases hst : s.dems[k].st = 2
          all_goals
            have HS := Lib.hid hst
            first | (have hst' : (s.dems[k].st != 2) = false := by rw [hst]; rfl) | (have hst' : (s.dems[k].st != 2) = true := by simpa using hst)
            clear hst D0
            go_wp2
            go_roundw
            case rel =>
              refine ⟨k + 1, by omega, by go_num, ?_, hb.alloc hb.size _⟩
              unfold askSum
              rw [hs.out]
              unfold askAt
              first | (rw [if_pos HS.out]; go_num) | (rw [if_neg HS.out]; go_num)
            case measure => simp [intOf]; omega
        · obtain rfl : k = s.dems.length := by omega
          rw [List.take_length] at hes ⊢
          clear D0
          go_wp2
          all_goals
            go_ret
            refine ⟨ret_int ?_, hb⟩
            unfold left
            omega
end Go.Proofs.Ytcjheabcnipnlaa
