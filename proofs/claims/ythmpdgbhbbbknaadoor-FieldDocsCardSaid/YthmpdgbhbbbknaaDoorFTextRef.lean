/-
  The reference's Text (layer 5): the walk.
-/
import Derived.Test.YthmpdgbhbbbknaaDoorFText
namespace Go.Proofs.YthmpdgbhbbbknaaDoor
open Go.RowKit

theorem one_byte (s : ByteArray) (m : Nat) (h : m < s.size) : (s.data.toList.drop m).take 1 = [s[m]] := by
  rw [List.drop_eq_getElem_cons (by simpa using h)]
  rfl
theorem size_of_list' {S : ByteArray} {L : List UInt8} (h : S.data.toList = L) : S.size = L.length := by rw [← h]; simp

set_option maxRecDepth 100000 in
set_option maxHeartbeats 8000000 in
theorem refText_any (l : List Fd) (A : Option Addr) (n c : Nat) (w : World) (h : Lst Fd.cells 2 w A n l) (hs : ∀ f ∈ l, f.name.size ≤ maxLen) :
    Calls Tryd.prog 9 #[.slice A n c] w (TextPost l w) := by
  have HL := Lib.hid h.len
  by_cases hn : 64 < n
  · have hc : textC l = 7 := by unfold textC; rw [if_pos (by rw [HL.out]; exact hn)]
    have hS : textS l = [] := by unfold textS; rw [if_neg (by rw [hc]; decide)]
    have HP : TextPost l w = fun e w' => e = .returned (.tuple #[.string ⟨#[]⟩, .int .i64 7]) ∧ Below w.heap.size w w' := by unfold TextPost; rw [hc, hS]
    rw [HP]
    clear HP hc hS
    have hn' : (64 : Int) < (n : Int) := by omega
    go_enter Tryd.func9, Tryd.ntmps9
    go_wp2
    go_ret2
    exact ⟨rfl, Below.refl _ _⟩
  have hn' : ¬ (64 : Int) < (n : Int) := by omega
  go_enter Tryd.func9, Tryd.ntmps9
  go_wp2
  go_loopw [4, 5] (fun t i wr => ∃ k : Nat, k ≤ n ∧ i = .int .i64 k ∧ (∃ S : ByteArray, t = .string S ∧ S.data.toList = textL (l.take k)) ∧ Below w.heap.size w wr ∧ ∀ j (hj : j < l.length), j < k → mayF l[j] = true) (fun _ i _ => n - (intOf i).toNat)
  case atStart => exact ⟨0, by omega, rfl, ⟨_, rfl, rfl⟩, Below.refl _ _, fun j hj h => by omega⟩
  case round =>
    obtain ⟨k, hk, rfl, ⟨S0, rfl, hS0⟩, hw, hall⟩ := hrel
    have HS0 := Lib.hid hS0
    clear hS0
    have HA := Lib.hid hall
    clear hall
    by_cases hlt : k < n
    · have hlk : k < l.length := by rw [HL.out]; exact hlt
      obtain ⟨ba, oa, rfl, hba, f0, f1⟩ := (h.below hw).fd k hlk
      have hns := hs _ (List.getElem_mem hlk)
      have htl := upto_len (by omega) HA.out
      have hz0 : S0.size ≤ 525440 := by rw [size_of_list' HS0.out]; exact htl
      have hg2 := (h.below hw)
      generalize hx : l[k] = x at *
      have HX := Lib.hid hx
      clear hx
      generalize hT : textL (l.take k) = T at *
      have HT := Lib.hid hT
      clear hT
      cases hm : mayF x
      · have hc : textC l = 1 := textC_bad hlk (by rw [HL.out]; omega) (by rw [HX.out]; exact hm)
        have hS : textS l = [] := by unfold textS; rw [if_neg (by rw [hc]; decide)]
        have HC := Lib.hid hc
        have HS := Lib.hid hS
        have HM := Lib.hid hm
        clear hm hc hS
        go_wp2_with (go_at_call 20; refine (refMay_any x _ hns).mono ?_; rw [HM.out]; rintro e w1 ⟨rfl, hb1⟩; have hw1 := Below.go hw hb1)
        go_ret2
        refine ⟨?_, hw1⟩
        rw [HC.out, HS.out]
        rfl
      · have HM := Lib.hid hm
        have hbd := mayF_bd hm
        clear hm
        go_wp2_with (go_at_call 20; refine (refMay_any x _ hns).mono ?_; rw [HM.out]; rintro e w1 ⟨rfl, hb1⟩; have hw1 := Below.go hw hb1; have e0 := hb1.cell (p := ⟨ba, oa + k * 2, none⟩) hba; have e1 := hb1.cell (p := ⟨ba, oa + k * 2 + 1, none⟩) hba; rw [f0] at e0; rw [f1] at e1; have hz1 := hb1.size; have hba1 : ba < w1.heap.size := (by have := hb1.size; omega); clear f0 f1)
        clear hw hb1 hg2
        go_loop [4, 6] (fun t i => ∃ m : Nat, m ≤ x.value.size ∧ i = .int .i64 m ∧ ∃ S : ByteArray, t = .string S ∧ S.data.toList = T ++ x.name.data.toList ++ [61] ++ esc (x.value.data.toList.take m)) (fun _ i => x.value.size - (intOf i).toNat)
        case atStart => exact ⟨0, by omega, rfl, _, rfl, by simp [esc, HS0.out]⟩
        case round =>
          obtain ⟨m, hm, rfl, S, rfl, hS⟩ := hrel
          have hzS : S.size ≤ 534000 := by
            rw [size_of_list' hS]
            have h1 := esc_len (x.value.data.toList.take m)
            have h2 : (x.value.data.toList.take m).length ≤ m := List.length_take_le _ _
            have h3 : x.name.data.size = x.name.size := rfl
            simp only [List.length_append, List.length_cons, List.length_nil, Array.length_toList]
            omega
          have HS := Lib.hid hS
          clear hS
          by_cases hlm : m < x.value.size
          · have hsn := esc_byte x.value m hlm
            rcases byte_ways x.value[m] with ⟨q1, q3⟩ | ⟨q1, q2, q3⟩ | ⟨q1, q2, q3⟩
            all_goals
              rw [q3] at hsn
              have HN := Lib.hid hsn
              clear hsn q3
              go_wp2
            all_goals
              go_round
              case rel =>
                refine ⟨m + 1, by omega, by go_num, _, rfl, ?_⟩
                rw [HN.out]
                first | (simp [HS.out]; done) | (simp [HS.out]; exact one_byte x.value m hlm)
              case measure => simp [intOf]; omega
          · obtain rfl : m = x.value.size := by omega
            have hfull : x.value.data.toList.take x.value.size = x.value.data.toList := List.take_of_length_le (by simp)
            rw [hfull] at HS
            clear hfull
            go_wp2
            go_roundw
            case rel =>
              refine ⟨k + 1, by omega, by go_num, ⟨_, rfl, ?_⟩, hw1, fun j hj hjk => ?_⟩
              · rw [textL_snoc l k hlk, HT.out, HX.out]
                simp [HS.out, lineL]
              · by_cases e : j = k
                · subst e; rw [HX.out]; exact HM.out
                · exact HA.out j hj (by omega)
            case measure => simp [intOf]; omega
    · obtain rfl : k = n := by omega
      have hc : textC l = 0 := textC_good (by rw [HL.out]; omega) (fun j hj => HA.out j hj (by rw [← HL.out]; exact hj))
      have hS : textS l = textL l := by unfold textS; rw [if_pos hc]
      have HC := Lib.hid hc
      have HS := Lib.hid hS
      clear hc hS
      rw [List.take_of_length_le (by rw [HL.out]; omega)] at HS0
      go_wp2
      go_ret2
      refine ⟨?_, hw⟩
      have e : S0 = ⟨(textL l).toArray⟩ := by
        cases S0
        have := HS0.out
        simp only at this
        rw [← this]
      rw [HC.out, HS.out, e]
      rfl
end Go.Proofs.YthmpdgbhbbbknaaDoor
