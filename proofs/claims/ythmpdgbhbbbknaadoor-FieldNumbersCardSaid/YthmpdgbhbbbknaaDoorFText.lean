/-
  field.Text: the walk.
-/
import Derived.Test.YthmpdgbhbbbknaaDoorFName
import Derived.Test.YthmpdgbhbbbknaaDoorBuilder
import Derived.Test.YthmpdgbhbbbknaaDoorLst
namespace Go.Proofs.YthmpdgbhbbbknaaDoor
open Go.RowKit

theorem Lst.fd {w : World} {A : Option Addr} {n : Nat} {l : List Fd} (h : Lst Fd.cells 2 w A n l) (i : Nat) (hi : i < l.length) :
    ∃ b o, A = some ⟨b, o, none⟩ ∧ b < w.heap.size ∧ w.cell? ⟨b, o + i * 2, none⟩ = some (.string l[i].name) ∧ w.cell? ⟨b, o + i * 2 + 1, none⟩ = some (.string l[i].value) := by
  obtain ⟨b, o, hA, hb, f⟩ := h.elem i hi _ rfl
  exact ⟨b, o, hA, hb, f 0 _ rfl, f 1 _ rfl⟩
theorem textC_bad {l : List Fd} {k : Nat} (hk : k < l.length) (hn : l.length ≤ 64) (h : mayF l[k] = false) : textC l = 1 := by
  unfold textC
  rw [if_neg (by omega), if_neg]
  intro hall
  rw [List.all_eq_true] at hall
  rw [hall _ (List.getElem_mem hk)] at h
  cases h
theorem textC_good {l : List Fd} (hn : l.length ≤ 64) (h : ∀ k (hk : k < l.length), mayF l[k] = true) : textC l = 0 := by
  unfold textC
  rw [if_neg (by omega), if_pos]
  rw [List.all_eq_true]
  intro x hx
  obtain ⟨k, hk, rfl⟩ := List.getElem_of_mem hx
  exact h k hk

theorem esc_byte (s : ByteArray) (m : Nat) (h : m < s.size) : esc (s.data.toList.take (m + 1)) = esc (s.data.toList.take m) ++ esc1 s[m] := esc_snoc s.data.toList m (by simpa using h)
theorem byte_ways (c : UInt8) : (((c.toNat : Int) == 92) = true ∧ esc1 c = [92, 92]) ∨ (((c.toNat : Int) == 92) = false ∧ ((c.toNat : Int) == 10) = true ∧ esc1 c = [92, 110]) ∨ (((c.toNat : Int) == 92) = false ∧ ((c.toNat : Int) == 10) = false ∧ esc1 c = [c]) := by
  have k1 : (c.toNat : Int) = 92 ↔ c = 92 := ⟨fun h => UInt8.toNat_inj.1 (by show c.toNat = 92; omega), by rintro rfl; rfl⟩
  have k2 : (c.toNat : Int) = 10 ↔ c = 10 := ⟨fun h => UInt8.toNat_inj.1 (by show c.toNat = 10; omega), by rintro rfl; rfl⟩
  unfold esc1
  by_cases h1 : c = 92
  · exact .inl ⟨by rw [beq_iff_eq]; exact k1.2 h1, by rw [if_pos h1]⟩
  have e1 : ((c.toNat : Int) == 92) = false := by rw [beq_eq_false_iff_ne]; exact fun h => h1 (k1.1 h)
  by_cases h2 : c = 10
  · exact .inr (.inl ⟨e1, by rw [beq_iff_eq]; exact k2.2 h2, by rw [if_neg h1, if_pos h2]⟩)
  · exact .inr (.inr ⟨e1, by rw [beq_eq_false_iff_ne]; exact fun h => h2 (k2.1 h), by rw [if_neg h1, if_neg h2]⟩)
theorem mayF_bd {x : Fd} (h : mayF x = true) : x.name.size ≤ 16 ∧ x.value.size ≤ 4096 := by
  unfold mayF nameB at h
  simp only [Bool.and_eq_true, decide_eq_true_eq] at h
  omega
theorem upto_len {l : List Fd} {k : Nat} (hk : k ≤ 64) (h : ∀ j (hj : j < l.length), j < k → mayF l[j] = true) : (textL (l.take k)).length ≤ 525440 := by
  have h1 := textL_len (l.take k) (fun f hf => by
    obtain ⟨j, hj, rfl⟩ := List.getElem_of_mem hf
    have hj' := hj
    rw [List.length_take] at hj'
    rw [List.getElem_take]
    exact h j (by omega) (by omega))
  have h2 : (l.take k).length ≤ k := List.length_take_le _ _
  have h3 : (l.take k).length * 8210 ≤ 64 * 8210 := Nat.mul_le_mul_right _ (by omega)
  omega

def TextPost (l : List Fd) (w : World) (e : Ending) (w' : World) : Prop := e = .returned (.tuple #[.string ⟨(textS l).toArray⟩, .int .i64 (textC l)]) ∧ Below w.heap.size w w'

set_option maxRecDepth 100000 in
set_option maxHeartbeats 8000000 in
theorem text_any (l : List Fd) (A : Option Addr) (n c : Nat) (w : World) (h : Lst Fd.cells 2 w A n l) (hs : ∀ f ∈ l, f.name.size ≤ maxLen) :
    Calls Tryd.prog 18 #[.slice A n c] w (TextPost l w) := by
  have HL := Lib.hid h.len
  by_cases hn : 64 < n
  · have hc : textC l = 7 := by unfold textC; rw [if_pos (by rw [HL.out]; exact hn)]
    have hS : textS l = [] := by unfold textS; rw [if_neg (by rw [hc]; decide)]
    have HP : TextPost l w = fun e w' => e = .returned (.tuple #[.string ⟨#[]⟩, .int .i64 7]) ∧ Below w.heap.size w w' := by unfold TextPost; rw [hc, hS]
    rw [HP]
    clear HP hc hS
    have hn' : (64 : Int) < (n : Int) := by omega
    go_enter Tryd.func18, Tryd.ntmps18
    go_wp2
    go_ret2
    exact ⟨rfl, Below.refl _ _⟩
  have hn' : ¬ (64 : Int) < (n : Int) := by omega
  go_enter Tryd.func18, Tryd.ntmps18
  go_wp2
  go_loopw [13] (fun i wr => ∃ k : Nat, k ≤ n ∧ i = .int .i64 k ∧ Bld wr w.heap.size (textL (l.take k)) ∧ Below w.heap.size w wr ∧ ∀ j (hj : j < l.length), j < k → mayF l[j] = true) (fun i _ => n - (intOf i).toNat)
  case atStart => exact ⟨0, by omega, rfl, bld_new w _ rfl, (Below.refl _ _).alloc (Nat.le_refl _) _, fun j hj h => by omega⟩
  case round =>
    obtain ⟨k, hk, rfl, hB, hw, hall⟩ := hrel
    have HA := Lib.hid hall
    clear hall
    by_cases hlt : k < n
    · have hlk : k < l.length := by rw [HL.out]; exact hlt
      obtain ⟨ba, oa, rfl, hba, f0, f1⟩ := (h.below hw).fd k hlk
      have hns := hs _ (List.getElem_mem hlk)
      have hbl := hB.lt
      generalize hx : l[k] = x at *
      have HX := Lib.hid hx
      clear hx
      have hw0 : Below w.heap.size w (wr.alloc (.cells #[.string x.name, .string x.value] 43)) := hw.alloc hw.size _
      cases hm : mayF x
      · have HP : TextPost l w = fun e w' => e = .returned (.tuple #[.string ⟨#[]⟩, .int .i64 1]) ∧ Below w.heap.size w w' := by
          have hc : textC l = 1 := textC_bad hlk (by rw [HL.out]; omega) (by rw [HX.out]; exact hm)
          have hS : textS l = [] := by unfold textS; rw [if_neg (by rw [hc]; decide)]
          unfold TextPost
          rw [hc, hS]
        rw [HP]
        clear HP
        have HM := Lib.hid hm
        clear hm
        go_wp2_with (go_at_call 28; refine (may_any x _ hns).mono ?_; rw [HM.out]; rintro e w1 ⟨rfl, hb1⟩; have hw1 := Below.go hw0 hb1)
        go_ret2
        exact ⟨rfl, hw1⟩
      · have HM := Lib.hid hm
        have hbd := mayF_bd hm
        have htl := upto_len (by omega) HA.out
        clear hm
        go_wp2_with (go_at_call 28; refine (may_any x _ hns).mono ?_; rw [HM.out]; rintro e w1 ⟨rfl, hb1⟩; have hB1 := (hB.alloc (.cells #[.string x.name, .string x.value] 43)).below hb1; have hE1 := (Blk.new' wr 43 #[.string x.name, .string x.value] _ rfl).below hb1 (by simp); have C1 := hE1.all; have hw1 := Below.go hw0 hb1)
        refine (bld_str hB1 x.name (by omega)).mono ?_
        rintro e w2 ⟨rfl, hB2, hb2, hk2⟩
        have hE2 := hk2.blk hE1 (by omega) (by decide)
        have C2 := hE2.all
        have hw2 := hw1.trans hb2
        clear C1
        dsimp only
        go_wp2_with fail
        refine (bld_sign hB2 61 61 rfl (by simp; omega)).mono ?_
        rintro e w3 ⟨rfl, hB3, hb3, hk3⟩
        have hE3 := hk3.blk hE2 (by omega) (by decide)
        have C3 := hE3.all
        have hw3 := hw2.trans hb3
        clear C2
        dsimp only
        go_wp2_with fail
        have hne : wr.heap.size ≠ w.heap.size := by omega
        clear hw hw0 hw1 hw2 hb1 hb2 hb3 hk2 hk3 hE1 hE2 hB hB1 hB2
        generalize wr.heap.size = g6 at *
        clear f0 f1
        generalize hT : textL (l.take k) = T at *
        have HT := Lib.hid hT
        clear hT
        go_loopw [27] (fun i wq => ∃ m : Nat, m ≤ x.value.size ∧ i = .int .i64 m ∧ Bld wq w.heap.size (T ++ x.name.data.toList ++ [61] ++ esc (x.value.data.toList.take m)) ∧ Below w.heap.size w wq ∧ Blk wq g6 43 #[.string x.name, .string x.value]) (fun i _ => x.value.size - (intOf i).toNat)
        case atStart => exact ⟨0, by omega, rfl, by simpa [esc] using hB3, hw3, hE3⟩
        case round =>
          clear hB3 hw3 hE3 C3
          obtain ⟨m, hm, rfl, hB, hw, hE⟩ := hrel
          have C0 := hE.all
          have hel : (esc (x.value.data.toList.take m)).length ≤ 8192 := by
            have h1 := esc_len (x.value.data.toList.take m)
            have h2 : (x.value.data.toList.take m).length ≤ m := List.length_take_le _ _
            omega
          by_cases hlm : m < x.value.size
          · have hsn := esc_byte x.value m hlm
            rcases byte_ways x.value[m] with ⟨q1, q3⟩ | ⟨q1, q2, q3⟩ | ⟨q1, q2, q3⟩
            all_goals
              rw [q3] at hsn
              have HS := Lib.hid hsn
              clear hsn q3
            · go_wp2_with fail
              refine (bld_str hB ⟨#[92, 92]⟩ (by have h1 : x.name.data.size = x.name.size := rfl; have h2 : (ByteArray.mk #[92, 92]).size = 2 := rfl; simp only [List.length_append, List.length_cons, List.length_nil, Array.length_toList, h2]; omega)).mono ?_
              rintro e w4 ⟨rfl, hB4, hb4, hk4⟩
              dsimp only
              go_wp2
              go_roundw
              case rel => exact ⟨m + 1, by omega, by go_num, by rw [HS.out, ← List.append_assoc]; exact hB4, hw.trans hb4, hk4.blk hE hne (by decide)⟩
              case measure => simp [intOf]; omega
            · go_wp2_with fail
              refine (bld_str hB ⟨#[92, 110]⟩ (by have h1 : x.name.data.size = x.name.size := rfl; have h2 : (ByteArray.mk #[92, 110]).size = 2 := rfl; simp only [List.length_append, List.length_cons, List.length_nil, Array.length_toList, h2]; omega)).mono ?_
              rintro e w4 ⟨rfl, hB4, hb4, hk4⟩
              dsimp only
              go_wp2
              go_roundw
              case rel => exact ⟨m + 1, by omega, by go_num, by rw [HS.out, ← List.append_assoc]; exact hB4, hw.trans hb4, hk4.blk hE hne (by decide)⟩
              case measure => simp [intOf]; omega
            · go_wp2_with fail
              refine (bld_byte hB x.value[m] (by simp only [List.length_append, List.length_cons, List.length_nil, Array.length_toList]; have h1 : x.name.data.size = x.name.size := rfl; omega)).mono ?_
              rintro e w4 ⟨rfl, hB4, hb4, hk4⟩
              dsimp only
              go_wp2
              go_roundw
              case rel => exact ⟨m + 1, by omega, by go_num, by rw [HS.out, ← List.append_assoc]; exact hB4, hw.trans hb4, hk4.blk hE hne (by decide)⟩
              case measure => simp [intOf]; omega
          · obtain rfl : m = x.value.size := by omega
            have hfull : x.value.data.toList.take x.value.size = x.value.data.toList := List.take_of_length_le (by simp)
            rw [hfull] at hB hel
            clear hfull
            go_wp2_with fail
            refine (bld_sign hB 10 10 rfl (by simp only [List.length_append, List.length_cons, List.length_nil, Array.length_toList]; have h1 : x.name.data.size = x.name.size := rfl; omega)).mono ?_
            rintro e w4 ⟨rfl, hB4, hb4, hk4⟩
            dsimp only
            go_wp2
            go_roundw
            case rel =>
              refine ⟨k + 1, by omega, by go_num, ?_, hw.trans hb4, fun j hj hjk => ?_⟩
              · rw [textL_snoc l k hlk, HT.out, HX.out]
                have e : T ++ lineL x = T ++ x.name.data.toList ++ [61] ++ esc x.value.data.toList ++ [10] := by simp [lineL]
                rw [e]
                exact hB4
              · by_cases e : j = k
                · subst e; rw [HX.out]; exact HM.out
                · exact HA.out j hj (by omega)
            case measure => simp [intOf]; omega
    · obtain rfl : k = n := by omega
      have hc : textC l = 0 := textC_good (by rw [HL.out]; omega) (fun j hj => HA.out j hj (by rw [← HL.out]; exact hj))
      have hS : textS l = textL l := by unfold textS; rw [if_pos hc]
      have HC := Lib.hid hc
      have HS := Lib.hid hS
      clear hc hS
      rw [List.take_of_length_le (by rw [HL.out]; omega)] at hB
      go_wp2_with (go_at_call 31; refine (bld_string hB).mono ?_; rintro e w1 ⟨rfl, hB1, hb1, hk1⟩; have hw1 := hw.trans hb1)
      go_ret2
      refine ⟨?_, hw1⟩
      rw [HC.out, HS.out]
      rfl
end Go.Proofs.YthmpdgbhbbbknaaDoor
