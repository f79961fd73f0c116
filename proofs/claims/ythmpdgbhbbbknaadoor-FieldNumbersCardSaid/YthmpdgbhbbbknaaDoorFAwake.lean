/-
  Layer 5's example; the look at the inputs' size.
-/
import Derived.Test.YthmpdgbhbbbknaaDoorFParse
namespace Go.Proofs.YthmpdgbhbbbknaaDoor
open Go.RowKit

set_option maxRecDepth 100000 in
set_option maxHeartbeats 2000000 in
theorem parseA_any (w : World) : Calls Tryd.prog 19 #[.string ⟨#[97]⟩] w fun e w' => e = .returned (.tuple #[.slice none 0 0, .int .i64 1, .int .i64 2]) ∧ Below w.heap.size w w' := by
  have hx : Lib.indexByte [97] 10 = -1 := by decide
  have HX := Lib.hid hx
  clear hx
  go_enter Tryd.func19, Tryd.ntmps19
  go_wp2
  go_step3
  go_wp2
  go_step3
  go_wp2
  go_loopw [0, 5, 6, 7] (fun s out line fault wr => s = .string ⟨#[97]⟩ ∧ out = .slice none 0 0 ∧ line = .int .i64 0 ∧ fault = .int .i64 0 ∧ wr = w) (fun _ _ line _ _ => 0)
  case atStart => exact ⟨rfl, rfl, rfl, rfl, rfl⟩
  case round =>
    obtain ⟨rfl, rfl, rfl, rfl, rfl⟩ := hrel
    go_wp2_with (go_at_call 32; refine (indexByte_any _ 10 10 rfl _).mono ?_; rw [show (ByteArray.mk #[97]).data.toList = [97] from rfl, HX.out]; rintro e w1 ⟨rfl, rfl⟩)
    try rw [Exit.noGoto_ret]
    go_ret3
    exact ⟨rfl, Below.refl _ _⟩

def exF : List Fd := [⟨⟨#[97]⟩, ⟨#[120]⟩⟩, ⟨⟨#[98]⟩, ⟨#[10]⟩⟩]
theorem exF_text : textS exF = [97, 61, 120, 10, 98, 61, 92, 110, 10] := by decide +kernel
theorem exF_code : textC exF = 0 := by decide +kernel

set_option maxRecDepth 100000 in
set_option maxHeartbeats 2000000 in
theorem awake_any (w : World) : Calls Tryd.prog 6 #[] w fun e w' => e = .returned (.bool true) ∧ Below w.heap.size w w' := by
  have h0 : Lst Fd.cells 2 (w.alloc (.cells #[.string ⟨#[97]⟩, .string ⟨#[120]⟩, .string ⟨#[98]⟩, .string ⟨#[10]⟩] 43)) (some ⟨w.heap.size, 0, none⟩) 2 exF :=
    Rd.lst (c := 2) Fd.cells_len rfl (Rd.lit w 43 2 #[.string ⟨#[97]⟩, .string ⟨#[120]⟩, .string ⟨#[98]⟩, .string ⟨#[10]⟩] 2 (by simp [maxLen]) rfl _ rfl)
  have hw0 : Below w.heap.size w (w.alloc (.cells #[.string ⟨#[97]⟩, .string ⟨#[120]⟩, .string ⟨#[98]⟩, .string ⟨#[10]⟩] 43)) := (Below.refl _ _).alloc (Nat.le_refl _) _
  go_enter Tryd.func6, Tryd.ntmps6
  go_wp2_with (first | (go_at_call 18; refine (text_any exF _ 2 2 _ h0 (by decide)).mono ?_; unfold TextPost; rw [exF_text, exF_code]; rintro e w1 ⟨rfl, hb1⟩; have hw1 := Below.go hw0 hb1) | (go_at_call 19; refine (parseA_any _).mono ?_; rintro e w2 ⟨rfl, hb2⟩; have hw2 := Below.go hw1 hb2))
  go_ret
  exact ⟨rfl, hw2⟩

def LongPost (w : World) (e : Ending) (w' : World) : Prop := ∃ b : Bool, e = .returned (.bool b) ∧ Below w.heap.size w w'
set_option maxRecDepth 100000 in
set_option maxHeartbeats 2000000 in
theorem long_any (l : List Fd) (A : Option Addr) (n c : Nat) (w : World) (h : Lst Fd.cells 2 w A n l) (hnm : n ≤ maxLen) :
    Calls Tryd.prog 17 #[.slice A n c] w (LongPost w) := by
  have HL := Lib.hid h.len
  unfold maxLen at hnm
  go_enter Tryd.func17, Tryd.ntmps17
  go_wp2
  go_loopw [7] (fun i wr => ∃ k : Nat, k ≤ n ∧ i = .int .i64 k ∧ Below w.heap.size w wr) (fun i _ => n - (intOf i).toNat)
  case atStart => exact ⟨0, by omega, rfl, Below.refl _ _⟩
  case round =>
    obtain ⟨k, hk, rfl, hw⟩ := hrel
    by_cases hlt : k < n
    · have hlk : k < l.length := by rw [HL.out]; exact hlt
      obtain ⟨ba, oa, rfl, hba, f0, f1⟩ := (h.below hw).fd k hlk
      generalize l[k] = x at *
      have hw0 : Below w.heap.size w (wr.alloc (.cells #[.string x.name, .string x.value] 43)) := hw.alloc hw.size _
      by_cases h1 : 100 < x.name.size
      · go_wp2
        go_ret
        exact ⟨true, rfl, hw0⟩
      by_cases h2 : 4200 < x.value.size
      · go_wp2
        go_ret
        exact ⟨true, rfl, hw0⟩
      · go_wp2
        go_roundw
        case rel => exact ⟨k + 1, by omega, by go_num, hw0⟩
        case measure => simp [intOf]; omega
    · obtain rfl : k = n := by omega
      go_wp2
      go_ret
      exact ⟨_, rfl, hw⟩
end Go.Proofs.YthmpdgbhbbbknaaDoor
