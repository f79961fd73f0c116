/-
  FieldNumbers: the walk.
-/
import Derived.Test.YthmpdgbhbbbknaaDoorNumRef
import Derived.Test.YthmpdgbhbbbknaaDoorFAwake
namespace Go.Proofs.YthmpdgbhbbbknaaDoor
open Go.RowKit

set_option maxRecDepth 100000 in
set_option maxHeartbeats 4000000 in
theorem numbers_any (s : ByteArray) (n : Int) (h0 : -9223372036854775808 ≤ n) (h1 : n ≤ 9223372036854775807) (w : World) (h : NumVars w) :
    Calls Tryd.prog 4 #[.string s, .int .i64 n] w fun e w' => e = .returned (.bool true) ∧ Below w.heap.size w w' := by
  have HV := Lib.hid h
  clear h
  by_cases hs : 100 < s.size
  · go_enter Tryd.func4, Tryd.ntmps4
    go_wp2_with (go_at_call 6; refine (awake_any _).mono ?_; rintro e w6 ⟨rfl, hb6⟩)
    go_ret
    exact ⟨rfl, hb6⟩
  have HN1 := Lib.hid (fun W hW => number_any s (by omega) W hW)
  have HR1 := Lib.hid (fun W => (ref_prog s.data.toList) ▸ refNumber_any s (by omega) W)
  have HDG := Lib.hid (fun W => digits_any _ n rfl h0 h1 W)
  have hln : (⟨(Lib.itoa n).toArray⟩ : ByteArray).size ≤ 281474976710656 := by
    have : (Lib.itoa n).length ≤ 20 := by
      unfold Lib.itoa
      split
      · have := dec_len 19 n.natAbs (by omega) (by omega)
        simp; omega
      · have := dec_len 19 n.toNat (by omega) (by omega)
        omega
    show (Lib.itoa n).toArray.size ≤ _
    simp; omega
  have HN2 := Lib.hid (fun W hW => number_any ⟨(Lib.itoa n).toArray⟩ hln W hW)
  have hq := numP_itoa n ⟨h0, h1⟩
  have HQ := Lib.hid hq
  clear hq hln
  generalize numP s.data.toList = o at HN1 HR1
  by_cases hi : inR n
  · have hq := HQ.out.1 hi
    have HN3 : Hid (∀ W, NumVars W → Calls Tryd.prog 14 #[.string ⟨(Lib.itoa n).toArray⟩] W (NumPost (some n) W)) := Lib.hid (fun W hW => by
      have := HN2.out W hW
      have e : numP (⟨(Lib.itoa n).toArray⟩ : ByteArray).data.toList = some n := by simpa using hq
      rw [e] at this
      exact this)
    unfold inR at hi
    have hi1 := hi.1
    have hi2 := hi.2
    clear hi hq HN2 HQ
    go_enter Tryd.func4, Tryd.ntmps4
    go_wp2_with fail
    refine (HN1.out _ HV.out).mono ?_
    unfold NumPost
    rintro e w1 ⟨rfl, hw1⟩
    go_wp2_with fail
    refine (HR1.out _).mono ?_
    unfold NumPost
    rintro e w2 ⟨rfl, hb2⟩
    have hw2 := Below.go hw1 hb2
    go_wp2_with fail
    refine (HDG.out _).mono ?_
    unfold StrPost
    rintro e w3 ⟨rfl, hb3⟩
    have hw3 := Below.go hw2 hb3
    go_wp2_with fail
    refine (HN3.out _ (HV.out.below hw3)).mono ?_
    unfold NumPost
    rintro e w4 ⟨rfl, hb4⟩
    have hw4 := Below.go hw3 hb4
    simp only [Option.getD_some, Option.isSome_some]
    go_wp2_with fail
    refine (awake_any _).mono ?_
    rintro e w5 ⟨rfl, hb5⟩
    have hw5 := Below.go hw4 hb5
    go_wp2
    go_ret
    exact ⟨rfl, hw5⟩
  · have hq := HQ.out.2 hi
    have HN3 : Hid (∀ W, NumVars W → Calls Tryd.prog 14 #[.string ⟨(Lib.itoa n).toArray⟩] W (NumPost none W)) := Lib.hid (fun W hW => by
      have := HN2.out W hW
      have e : numP (⟨(Lib.itoa n).toArray⟩ : ByteArray).data.toList = none := by simpa using hq
      rw [e] at this
      exact this)
    unfold inR at hi
    have hways : n < -4611686018427387904 ∨ (-4611686018427387904 ≤ n ∧ 4611686018427387904 < n) := by omega
    clear hi hq HN2 HQ
    rcases hways with hi1 | ⟨hi1, hi2⟩
    all_goals
      go_enter Tryd.func4, Tryd.ntmps4
      go_wp2_with fail
      refine (HN1.out _ HV.out).mono ?_
      unfold NumPost
      rintro e w1 ⟨rfl, hw1⟩
      go_wp2_with fail
      refine (HR1.out _).mono ?_
      unfold NumPost
      rintro e w2 ⟨rfl, hb2⟩
      have hw2 := Below.go hw1 hb2
      go_wp2_with fail
      refine (HDG.out _).mono ?_
      unfold StrPost
      rintro e w3 ⟨rfl, hb3⟩
      have hw3 := Below.go hw2 hb3
      go_wp2_with fail
      refine (HN3.out _ (HV.out.below hw3)).mono ?_
      unfold NumPost
      rintro e w4 ⟨rfl, hb4⟩
      have hw4 := Below.go hw3 hb4
      simp only [Option.getD_none, Option.isSome_none]
      go_wp2_with fail
      refine (awake_any _).mono ?_
      rintro e w5 ⟨rfl, hb5⟩
      have hw5 := Below.go hw4 hb5
      go_wp2
      go_ret
      exact ⟨rfl, hw5⟩
end Go.Proofs.YthmpdgbhbbbknaaDoor
