/-
  field.Read at the text of a paper's record.
-/
import Derived.Test.YthmpdgbhbbbknaaDoorFPaper
import Derived.Test.YthmpdgbhbbbknaaDoorFParse
import Derived.Test.YthmpdgbhbbbknaaDoorFClone
namespace Go.Proofs.YthmpdgbhbbbknaaDoor
open Go.RowKit

def ReadPost (a : Dc) (w : World) (e : Ending) (w' : World) : Prop :=
  ∃ A c, e = .returned (.tuple #[.agg #[.int .i64 a.kind, .string a.number, .string a.issuer, .slice A a.fields.length c], .int .i64 0, .int .i64 0]) ∧ DocIn w' A a ∧ a.fields.length ≤ c ∧ c ≤ maxLen ∧ (A = none → a.fields.length = 0 ∧ c = 0) ∧ Below w.heap.size w w'

theorem sub_lst {w : World} {g c : Nat} (h l : List Fd) (hh : h.length = 3) (ho : Own w 43 2 (some ⟨g, 0, none⟩) (3 + l.length) c ((h ++ l).flatMap Fd.cells)) :
    Lst Fd.cells 2 w (if c = 3 then some ⟨g, 0, none⟩ else some ⟨g, 6, none⟩) l.length l ∧ (if c = 3 then some (⟨g, 0, none⟩ : Addr) else some ⟨g, 6, none⟩) ≠ none := by
  refine ⟨⟨rfl, fun i hi j u hu => ?_⟩, by split <;> simp⟩
  have hj : j < 2 := by rw [← Fd.cells_len l[i]]; exact (List.getElem?_eq_some_iff.1 hu).1
  have hcap := ho.rd.cap
  rw [if_neg (by omega)]
  obtain ⟨b, o, he, hc⟩ := ho.rd.get ((i + 3) * 2 + j) u (by
    rw [flat_get Fd.cells 2 Fd.cells_len (h ++ l) (i + 3) j (by simp; omega) hj]
    have e : (h ++ l)[i + 3]'(by simp; omega) = l[i] := by
      rw [List.getElem_append_right (by omega)]
      congr 1
      omega
    rw [e]
    exact hu)
  simp only [Option.some.injEq, Addr.mk.injEq, and_true] at he
  obtain ⟨rfl, rfl⟩ := he
  refine ⟨_, _, rfl, ?_⟩
  have e : 0 + ((i + 3) * 2 + j) = 6 + i * 2 + j := by omega
  rw [e] at hc
  exact hc

theorem cell_far {w : World} {p q : Addr} {u v : Value} (h : w.cell? q = some v) (hb : q.block ≠ p.block) : (w.setCell p u).cell? q = some v :=
  ((Frm.refl [p.block] w).setCell (.inl (by simp)) u).cell h (by simpa using hb)

set_option maxRecDepth 100000 in
set_option maxHeartbeats 8000000 in
theorem read_any (a : Dc) (k : Nat) (hk : k < 6) (hak : a.kind = (k : Int)) (w : World) (hl : a.fields.length ≤ 61) (hm : ∀ f ∈ recM a, mayF f = true) (hki : KindsAt w) :
    Calls Tryd.prog 11 #[.string ⟨(textL (recM a)).toArray⟩] w (ReadPost a w) := by
  have hlen : (recM a).length = 3 + a.fields.length := by simp [recM, recH]; omega
  have HLN := Lib.hid hlen
  have HP := Lib.hid (fun W => parse_any (recM a) W (by omega) hm)
  have HKI := Lib.hid hki
  clear hlen hki hm
  have hw0 : Below w.heap.size w (w.alloc (.cells #[.int .i64 0, .string ⟨#[]⟩, .string ⟨#[]⟩, .slice none 0 0] 24)) := (Below.refl _ _).alloc (Nat.le_refl _) _
  have B0 := Blk.new' w 24 #[.int .i64 0, .string ⟨#[]⟩, .string ⟨#[]⟩, .slice none 0 0] _ rfl
  go_enter Tryd.func11, Tryd.ntmps11
  go_wp2_with (go_at_call 19; refine (HP.out _).mono ?_; rintro e w1 ⟨A, c, rfl, ho1, hn1, hb1⟩; rw [HLN.out] at ho1 ⊢; have hw1 := Below.go hw0 hb1; have B1 := B0.below hb1 B0.lt; have BC1 := B1.all)
  obtain ⟨g, cur, rfl, hcur, hc1, hc2, hc3, hc4⟩ : ∃ g cur, A = some ⟨g, 0, none⟩ ∧ Blk w1 g 43 cur ∧ 3 + a.fields.length ≤ c ∧ c ≤ maxLen ∧ cur.size = c * 2 ∧ cur.toList.take ((3 + a.fields.length) * 2) = (recM a).flatMap Fd.cells := by
    rcases ho1.cases_ with ⟨_, h, _⟩ | h
    · omega
    · exact h
  have hw2 : Below w.heap.size w (w1.alloc (.cells #[.string ⟨#[112, 97, 112, 101, 114]⟩, .string ⟨#[110, 117, 109, 98, 101, 114]⟩, .string ⟨#[105, 115, 115, 117, 101, 114]⟩] 9)) := hw1.alloc hw1.size _
  have ho2 := ho1.alloc (.cells #[.string ⟨#[112, 97, 112, 101, 114]⟩, .string ⟨#[110, 117, 109, 98, 101, 114]⟩, .string ⟨#[105, 115, 115, 117, 101, 114]⟩] 9)
  have B2 := B1.alloc (.cells #[.string ⟨#[112, 97, 112, 101, 114]⟩, .string ⟨#[110, 117, 109, 98, 101, 114]⟩, .string ⟨#[105, 115, 115, 117, 101, 114]⟩] 9)
  have L2 := (Blk.new' w1 9 #[.string ⟨#[112, 97, 112, 101, 114]⟩, .string ⟨#[110, 117, 109, 98, 101, 114]⟩, .string ⟨#[105, 115, 115, 117, 101, 114]⟩] _ rfl).all
  have hk2 := HKI.out.below hw2
  have HK2 := Lib.hid hk2
  have HC1 := Lib.hid hc1
  have HC2 := Lib.hid hc2
  have get : ∀ (j : Nat) (u : Value), ((recM a).flatMap Fd.cells)[j]? = some u → (w1.alloc (.cells #[.string ⟨#[112, 97, 112, 101, 114]⟩, .string ⟨#[110, 117, 109, 98, 101, 114]⟩, .string ⟨#[105, 115, 115, 117, 101, 114]⟩] 9)).cell? ⟨g, j, none⟩ = some u := fun j u hu => by
    obtain ⟨b, o, he, hc⟩ := ho2.rd.get j u hu
    simp only [Option.some.injEq, Addr.mk.injEq, and_true] at he
    obtain ⟨rfl, rfl⟩ := he
    simpa using hc
  have c0 := get 0 (.string ⟨#[112, 97, 112, 101, 114]⟩) rfl
  have c1 := get 1 (.string (kindS a.kind)) rfl
  have c2 := get 2 (.string ⟨#[110, 117, 109, 98, 101, 114]⟩) rfl
  have c3 := get 3 (.string a.number) rfl
  have c4 := get 4 (.string ⟨#[105, 115, 115, 117, 101, 114]⟩) rfl
  have c5 := get 5 (.string a.issuer) rfl
  rw [hak] at c1
  have hg : w.heap.size + 1 ≤ g := by have := hn1 g (by simp); simpa using this
  have hgl : g < w1.heap.size := hcur.lt
  have HO := Lib.hid ho2
  have HB := Lib.hid B2
  clear get ho1 ho2 hc1 hc2 hc3 hc4 hcur BC1 hk2 B1 B0 hw1 hb1 hn1 B2
  go_loop [23] (fun i => ∃ k : Nat, k ≤ 3 ∧ i = .int .i64 k) (fun i => 3 - (intOf i).toNat)
  case atStart => exact ⟨0, by omega, rfl⟩
  case round =>
    obtain ⟨i, hi, rfl⟩ := hrel
    have h4 : i = 0 ∨ i = 1 ∨ i = 2 ∨ i = 3 := by omega
    rcases h4 with rfl | rfl | rfl | rfl
    · go_wp2_with (go_at_call 22; (with_reducible refine (kind_any k hk _ HK2.out).mono ?_); rintro e w3 ⟨rfl, rfl⟩)
      go_round
      case rel => exact ⟨1, by omega, rfl⟩
      case measure => simp [intOf]
    · go_wp2
      go_round
      case rel => exact ⟨2, by omega, rfl⟩
      case measure => simp [intOf]
    · go_wp2
      go_round
      case rel => exact ⟨3, by omega, rfl⟩
      case measure => simp [intOf]
    · go_wp2
      have i0 : (0 : Int) < 3 + (a.fields.length : Int) := by omega
      have i1 : (1 : Int) < 3 + (a.fields.length : Int) := by omega
      have i2 : (2 : Int) < 3 + (a.fields.length : Int) := by omega
      have i3 : (3 : Int) ≤ 3 + (a.fields.length : Int) := by omega
      have i4 : 3 + (a.fields.length : Int) ≤ (c : Int) := by have := HC1.out; omega
      have i5 : (3 : Int) ≤ (c : Int) := by omega
      refine wp_region_plan [(true, 0, none), (true, 1, none), (true, 2, none), (true, 3, none), (true, 5, none), (true, 6, none), (true, 7, none), (true, 8, none), (true, 9, none), (true, 10, none), (true, 11, none), (true, 12, none), (true, 13, none), (true, 14, none), (false, 4, none), (false, 15, none), (true, 16, none), (false, 17, none), (true, 18, none), (true, 19, none)] (fun w' => w'.cell? ⟨g, 1, none⟩ = some (.string (kindS k)) ∧ w'.cell? ⟨g, 3, none⟩ = some (.string a.number) ∧ w'.cell? ⟨g, 5, none⟩ = some (.string a.issuer)) (by kernel_rfl) (by kernel_rfl) (fun _ _ d _ _ h => by cases d <;> exact h) rfl ⟨c1, c3, c5⟩ (fun hHeld => ?_)
      repeat (first | (refine wpPlan_skip (by rfl) ?_; (try simp only [Act.put, List.setIfInBounds_toArray, List.set_cons_zero, List.set_cons_succ])) | (refine wpPlan_take (v := ?_) (by rfl) (by rfl) ?_ ?_; rotate_left; (focus (intro w hSw; (try dsimp only at hSw); go_simp; (try with_reducible rfl))); (try simp only [Act.put, List.setIfInBounds_toArray, List.set_cons_zero, List.set_cons_succ])))
      have hz0 := hw2.drew
      refine wpPlan_do (by rfl) (by rfl) (fun K hK => ?_); (try dsimp only)
      go_simp
      refine (kind_any k hk _ (HK2.out.below ((Below.refl _ _).drew))).mono ?_
      rintro e v1 ⟨rfl, rfl⟩
      dsimp only
      refine hK.out _ _ ?_ (fun hHeld => ?_)
      · exact ⟨c1, c3, c5⟩
      clear hK K
      try simp only [Act.put, List.setIfInBounds_toArray, List.set_cons_zero, List.set_cons_succ]
      repeat (first | (refine wpPlan_skip (by rfl) ?_; (try simp only [Act.put, List.setIfInBounds_toArray, List.set_cons_zero, List.set_cons_succ])) | (refine wpPlan_take (v := ?_) (by rfl) (by rfl) ?_ ?_; rotate_left; (focus (intro w hSw; (try dsimp only at hSw); go_simp; (try with_reducible rfl))); (try simp only [Act.put, List.setIfInBounds_toArray, List.set_cons_zero, List.set_cons_succ])))
      refine wpPlan_do (by rfl) (by rfl) (fun K hK => ?_); (try dsimp only)
      go_simp
      have hsub := sub_lst (recH a) a.fields rfl HO.out
      generalize (if c = 3 then some (⟨g, 0, none⟩ : Addr) else some ⟨g, 6, none⟩) = A' at *
      obtain ⟨hsl, hsn⟩ := hsub
      refine (cloneFd_any a.fields A' a.fields.length (c - 3) _ (hsl.below ((Below.refl _ _).drew)) (by have := HC1.out; omega) (by have := HC2.out; omega) (fun h => absurd h hsn) (by omega)).mono ?_
      rintro e w5 ⟨A5, c5', rfl, ho5, hn5, hb5⟩
      have hw5 := Below.go hz0 hb5
      have B5 := (HB.out.drew).below hb5 (HB.out.drew).lt
      have k1 := (hb5.cell (p := ⟨g, 1, none⟩) (World.block_lt_of_cell? _ ⟨g, 1, none⟩ c1)).trans c1
      have k3 := (hb5.cell (p := ⟨g, 3, none⟩) (World.block_lt_of_cell? _ ⟨g, 3, none⟩ c3)).trans c3
      have k5 := (hb5.cell (p := ⟨g, 5, none⟩) (World.block_lt_of_cell? _ ⟨g, 5, none⟩ c5)).trans c5
      dsimp only
      refine hK.out _ _ ?_ (fun hHeld => ?_)
      · exact ⟨k1, k3, k5⟩
      clear hK K c1 c3 c5
      try simp only [Act.put, List.setIfInBounds_toArray, List.set_cons_zero, List.set_cons_succ]
      repeat (first | (refine wpPlan_skip (by rfl) ?_; (try simp only [Act.put, List.setIfInBounds_toArray, List.set_cons_zero, List.set_cons_succ])) | (refine wpPlan_take (v := ?_) (by rfl) (by rfl) ?_ ?_; rotate_left; (focus (intro w hSw; (try dsimp only at hSw); go_simp; (try with_reducible rfl))); (try simp only [Act.put, List.setIfInBounds_toArray, List.set_cons_zero, List.set_cons_succ])))
      have BC5 := B5.all
      have BF5 := B5.frees
      refine wpPlan_do (by rfl) (by rfl) (fun K hK => ?_); (try dsimp only)
      go_simp
      have B6 := (((B5.set_ 0 (.int .i64 k)).set_ 1 (.string a.number)).set_ 2 (.string a.issuer)).set_ 3 (.slice A5 a.fields.length c5')
      have hgn : g ≠ w.heap.size := by omega
      have r1 := cell_far (p := ⟨w.heap.size, 3, none⟩) (u := .slice A5 a.fields.length c5') (cell_far (p := ⟨w.heap.size, 2, none⟩) (u := .string a.issuer) (cell_far (p := ⟨w.heap.size, 1, none⟩) (u := .string a.number) (cell_far (p := ⟨w.heap.size, 0, none⟩) (u := .int .i64 k) k1 hgn) hgn) hgn) hgn
      have r3 := cell_far (p := ⟨w.heap.size, 3, none⟩) (u := .slice A5 a.fields.length c5') (cell_far (p := ⟨w.heap.size, 2, none⟩) (u := .string a.issuer) (cell_far (p := ⟨w.heap.size, 1, none⟩) (u := .string a.number) (cell_far (p := ⟨w.heap.size, 0, none⟩) (u := .int .i64 k) k3 hgn) hgn) hgn) hgn
      have r5 := cell_far (p := ⟨w.heap.size, 3, none⟩) (u := .slice A5 a.fields.length c5') (cell_far (p := ⟨w.heap.size, 2, none⟩) (u := .string a.issuer) (cell_far (p := ⟨w.heap.size, 1, none⟩) (u := .string a.number) (cell_far (p := ⟨w.heap.size, 0, none⟩) (u := .int .i64 k) k5 hgn) hgn) hgn) hgn
      have hw6 := (((hw5.setCell (p := ⟨w.heap.size, 0, none⟩) (by simp) (.int .i64 k)).setCell (p := ⟨w.heap.size, 1, none⟩) (by simp) (.string a.number)).setCell (p := ⟨w.heap.size, 2, none⟩) (by simp) (.string a.issuer)).setCell (p := ⟨w.heap.size, 3, none⟩) (by simp) (.slice A5 a.fields.length c5')
      have hnb : ∀ b ∈ fpo A5, b ≠ w.heap.size := fun b hb => by have h0 := hn5 b hb; have := hw2.size; simp at h0 this; omega
      have ho6 := (((ho5.far (p := ⟨w.heap.size, 0, none⟩) hnb (.int .i64 k)).far (p := ⟨w.heap.size, 1, none⟩) hnb (.string a.number)).far (p := ⟨w.heap.size, 2, none⟩) hnb (.string a.issuer)).far (p := ⟨w.heap.size, 3, none⟩) hnb (.slice A5 a.fields.length c5')
      clear BC5 BF5 B5 hw5 hb5 k1 k3 k5 ho5 hnb
      generalize (((w5.setCell ⟨w.heap.size, 0, none⟩ (.int .i64 k)).setCell ⟨w.heap.size, 1, none⟩ (.string a.number)).setCell ⟨w.heap.size, 2, none⟩ (.string a.issuer)).setCell ⟨w.heap.size, 3, none⟩ (.slice A5 a.fields.length c5') = W6 at *
      refine hK.out _ _ ?_ (fun hHeld => ?_)
      · exact ⟨r1, r3, r5⟩
      clear hK K
      try simp only [Act.put, List.setIfInBounds_toArray, List.set_cons_zero, List.set_cons_succ]
      repeat (first | (refine wpPlan_skip (by rfl) ?_; (try simp only [Act.put, List.setIfInBounds_toArray, List.set_cons_zero, List.set_cons_succ])) | (refine wpPlan_take (v := ?_) (by rfl) (by rfl) ?_ ?_; rotate_left; (focus (intro w hSw; (try dsimp only at hSw); go_simp; (try with_reducible rfl))); (try simp only [Act.put, List.setIfInBounds_toArray, List.set_cons_zero, List.set_cons_succ])))
      refine wpPlan_nil ?_
      have BC6 := B6.all
      have q0 := BC6 0
      have q1 := BC6 1
      have q2 := BC6 2
      have q3 := BC6 3
      simp at q0 q1 q2 q3
      go_wp2
      refine bodyPost_ret (v := .tuple #[.agg #[.int .i64 k, .string a.number, .string a.issuer, .slice A5 a.fields.length c5'], .int .i64 0, .int .i64 0]) (by simp [results, Tryd.results11, go_sem, q0, q1, q2, q3]) rfl ?_
      rw [← hak]
      exact ⟨A5, c5', rfl, ⟨Rd.lst Fd.cells_len rfl ho6.rd, by unfold maxLen; omega⟩, ho6.rd.cap, ho6.rd.max, ho6.rd.nil_, hw6⟩
end Go.Proofs.YthmpdgbhbbbknaaDoor
