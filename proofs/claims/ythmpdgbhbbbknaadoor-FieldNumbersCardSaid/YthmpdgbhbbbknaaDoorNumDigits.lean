/-
  The reference's Digits.
-/
import Derived.Test.YthmpdgbhbbbknaaDoorNumLaw
import Derived.Test.YthmpdgbhbbbknaaDoorPlan
import Derived.Test.YthmpdgbhbbbknaaDoorFParse
import Derived.Test.YthmpdgbhbbbknaaDoorMem
import Derived.Test.YthmpdgbhbbbknaaDoorChecked
import Derived.Deep.RegionHeld3
import Derived.Deep.DrawnRows
import Derived.IntWalk
namespace Go.Proofs.YthmpdgbhbbbknaaDoor
open Go.RowKit
attribute [local go_sem ↓] Go.wp_at_zero Go.wp_at_succ

def StrPost (l : List UInt8) (w : World) (e : Ending) (w' : World) : Prop := e = .returned (.string ⟨l.toArray⟩) ∧ Below w.heap.size w w'

theorem one_conv (w : World) (c : UInt8) (n : Int) (hn : (c.toNat : Int) = n) : (convert 58 9 (.slice (some ⟨w.heap.size, 0, none⟩) 1 1)).run Tryd.prog (w.alloc (.cells #[.int .u8 n] 5)) = .ok (.string ⟨#[c]⟩) (w.alloc (.cells #[.int .u8 n] 5)) := by
  subst hn
  exact conv_own (l := [c]) (Own.lit w 5 1 #[.int .u8 c.toNat] 1 (by simp [maxLen]) rfl _ rfl)

set_option maxRecDepth 100000 in
set_option maxHeartbeats 2000000 in
theorem digits_small (u : Nat) (h : u < 10) (w : World) : Calls Tryd.prog 16 #[.int .i64 u] w (StrPost (Lib.decDigits u) w) := by
  rw [dec_lt u h]
  have hcv := one_conv w (UInt8.ofNat (48 + u)) (48 + u) (by rw [dig_nat u h]; push_cast; rfl)
  generalize UInt8.ofNat (48 + u) = c at *
  go_enter Tryd.func16, Tryd.ntmps16
  go_wp2
  go_ret
  exact ⟨rfl, by repeat (first | with_reducible exact Below.refl _ _ | (with_reducible refine Below.setCell ?_ (by first | omega | (simp <;> omega)) _) | (with_reducible refine Below.alloc ?_ (by first | omega | (simp <;> omega)) _) | (with_reducible refine Below.drew ?_) | (with_reducible refine belowN ?_ _))⟩
theorem one_conv' (w w1 : World) (c : UInt8) (n : Int) (hn : (c.toNat : Int) = n) (hb : Below (w.heap.size + 1) (w.alloc (.cells #[.int .u8 n] 5)) w1) : (convert 58 9 (.slice (some ⟨w.heap.size, 0, none⟩) 1 1)).run Tryd.prog w1 = .ok (.string ⟨#[c]⟩) w1 := by
  subst hn
  have ho := Own.lit w 5 1 #[.int .u8 c.toNat] 1 (by simp [maxLen]) rfl _ rfl
  exact conv_own (l := [c]) (ho.frm (Frm.of_below (by simpa using hb) []) (by simp))

theorem str_app (a b : List UInt8) : (⟨a.toArray⟩ : ByteArray) ++ (⟨b.toArray⟩ : ByteArray) = ⟨(a ++ b).toArray⟩ := by
  apply ByteArray.ext
  simp

set_option maxRecDepth 100000 in
set_option maxHeartbeats 4000000 in
theorem digits_big (u : Nat) (h : 10 ≤ u) (hu : u ≤ 9223372036854775807) (w : World) (ih : ∀ w, Calls Tryd.prog 16 #[.int .i64 ((u / 10 : Nat) : Int)] w (StrPost (Lib.decDigits (u / 10)) w)) : Calls Tryd.prog 16 #[.int .i64 u] w (StrPost (Lib.decDigits u) w) := by
  rw [dec_ge u (by omega)]
  have hll := dec_len 19 (u / 10) (by omega) (by omega)
  have e1 : IntKind.i64.wrap ((u : Int) / 10) = ((u / 10 : Nat) : Int) := by rw [IntWalk.i64_in _ (by omega)]; omega
  have e2 : (u : Int).tmod 10 = ((u % 10 : Nat) : Int) := by rw [Int.tmod_eq_emod_of_nonneg (by omega)]; omega
  have hd : u % 10 < 10 := by omega
  generalize u / 10 = q at *
  generalize u % 10 = d at *
  have e3 : IntKind.i64.wrap (48 + (d : Int)) = 48 + (d : Int) := IntWalk.i64_in _ (by omega)
  have e4 : IntKind.u8.wrap (48 + (d : Int)) = 48 + (d : Int) := IntWalk.u8_in _ (by omega)
  have IH := Lib.hid ih
  clear ih
  have hcd : ((UInt8.ofNat (48 + d)).toNat : Int) = 48 + (d : Int) := by rw [dig_nat _ hd]; push_cast; rfl
  generalize UInt8.ofNat (48 + d) = c at *
  generalize Lib.decDigits q = L at *
  have HCD := Lib.hid hcd
  clear hcd
  go_enter Tryd.func16, Tryd.ntmps16
  go_wp2
  refine wp_region_held_drew (S := fun _ => True) (by kernel_rfl) trivial (fun hHeld => ?_)
  refine wpAnyH_take (i := 0) (v := ?_) rfl (by kernel_rfl) (by kernel_rfl) (by kernel_rfl) (fun _ _ _ h => h) (Or.inl ⟨by rfl, ?_⟩) (by assumption) ?_
  rotate_left
  · (intro w hSw; (try dsimp only at hSw); go_simp; (try with_reducible rfl))
  try simp only [Act.put, List.setIfInBounds_toArray, List.set_cons_zero, List.set_cons_succ]
  refine wpAnyH_take (i := 1) (v := ?_) rfl (by kernel_rfl) (by kernel_rfl) (by kernel_rfl) (fun _ _ _ h => h) (Or.inl ⟨by rfl, ?_⟩) (by assumption) ?_
  rotate_left
  · (intro w hSw; (try dsimp only at hSw); go_simp; (try with_reducible rfl))
  try simp only [Act.put, List.setIfInBounds_toArray, List.set_cons_zero, List.set_cons_succ]
  refine wpAnyH_take (i := 3) (v := ?_) rfl (by kernel_rfl) (by kernel_rfl) (by kernel_rfl) (fun _ _ _ h => h) (Or.inl ⟨by rfl, ?_⟩) (by assumption) ?_
  rotate_left
  · (intro w hSw; (try dsimp only at hSw); go_simp; (try with_reducible rfl))
  try simp only [Act.put, List.setIfInBounds_toArray, List.set_cons_zero, List.set_cons_succ]
  refine wpAnyH_take (i := 4) (v := ?_) rfl (by kernel_rfl) (by kernel_rfl) (by kernel_rfl) (fun _ _ _ h => h) (Or.inl ⟨by rfl, ?_⟩) (by assumption) ?_
  rotate_left
  · (intro w hSw; (try dsimp only at hSw); go_simp; (try with_reducible rfl))
  try simp only [Act.put, List.setIfInBounds_toArray, List.set_cons_zero, List.set_cons_succ]
  refine wpAnyH_take (i := 5) (v := ?_) rfl (by kernel_rfl) (by kernel_rfl) (by kernel_rfl) (fun _ _ _ h => h) (Or.inl ⟨by rfl, ?_⟩) (by assumption) ?_
  rotate_left
  · (intro w hSw; (try dsimp only at hSw); go_simp; (try with_reducible rfl))
  try simp only [Act.put, List.setIfInBounds_toArray, List.set_cons_zero, List.set_cons_succ]
  refine wpAnyH_take (i := 6) (v := ?_) rfl (by kernel_rfl) (by kernel_rfl) (by kernel_rfl) (fun _ _ _ h => h) (Or.inl ⟨by rfl, ?_⟩) (by assumption) ?_
  rotate_left
  · (intro w hSw; (try dsimp only at hSw); go_simp; (try with_reducible rfl))
  try simp only [Act.put, List.setIfInBounds_toArray, List.set_cons_zero, List.set_cons_succ]
  refine wpAnyH_ready (rs := [2, 7]) (by kernel_rfl) (by simp) ?_
  refine AllReadyH.cons rfl (fun K hK => ?_) (AllReadyH.cons rfl (fun K hK => ?_) AllReadyH.nil)
  · go_simp
    refine (IH.out _).mono ?_
    rintro e w1 ⟨rfl, hb⟩
    dsimp only
    refine hK.out _ _ trivial (fun hHeld => ?_)
    clear hK K
    try simp only [Act.put, List.setIfInBounds_toArray, List.set_cons_zero, List.set_cons_succ]
    refine wpAnyH_ready (rs := [7]) (by kernel_rfl) (by simp) ?_
    refine AllReadyH.cons rfl (fun K hK => ?_) AllReadyH.nil
    go_simp
    refine hK.out _ _ trivial (fun hHeld => ?_)
    clear hK K
    try simp only [Act.put, List.setIfInBounds_toArray, List.set_cons_zero, List.set_cons_succ]
    have hcv := one_conv w1 c _ HCD.out
    refine wpAnyH_ready (rs := [8]) (by kernel_rfl) (by simp) ?_
    refine AllReadyH.cons rfl (fun K hK => ?_) AllReadyH.nil
    go_simp
    refine hK.out _ _ trivial (fun hHeld => ?_)
    clear hK K
    try simp only [Act.put, List.setIfInBounds_toArray, List.set_cons_zero, List.set_cons_succ]
    have hx : ¬ 9223372036854775807 < L.length + 1 := by omega
    refine wpAnyH_ready (rs := [9]) (by kernel_rfl) (by simp) ?_
    refine AllReadyH.cons rfl (fun K hK => ?_) AllReadyH.nil
    go_simp
    refine hK.out _ _ trivial (fun hHeld => ?_)
    clear hK K
    try simp only [Act.put, List.setIfInBounds_toArray, List.set_cons_zero, List.set_cons_succ]
    refine wpAnyH_ready (rs := [10]) (by kernel_rfl) (by simp) ?_
    refine AllReadyH.cons rfl (fun K hK => ?_) AllReadyH.nil
    go_simp
    refine hK.out _ _ trivial (fun hHeld => ?_)
    clear hK K
    try simp only [Act.put, List.setIfInBounds_toArray, List.set_cons_zero, List.set_cons_succ]
    refine wpAnyH_done (by kernel_rfl) ?_ _
    go_wp2
    go_ret
    exact ⟨by rw [← str_app]; rfl, by have := hb.size; exact Below.alloc (Below.go (Below.refl _ _).drew hb) (by simpa using this) _⟩
  · go_simp
    refine hK.out _ _ trivial (fun hHeld => ?_)
    clear hK K
    try simp only [Act.put, List.setIfInBounds_toArray, List.set_cons_zero, List.set_cons_succ]
    refine wpAnyH_ready (rs := [2, 8]) (by kernel_rfl) (by simp) ?_
    refine AllReadyH.cons rfl (fun K hK => ?_) (AllReadyH.cons rfl (fun K hK => ?_) AllReadyH.nil)
    · go_simp
      refine (IH.out _).mono ?_
      rintro e w1 ⟨rfl, hb⟩
      dsimp only
      refine hK.out _ _ trivial (fun hHeld => ?_)
      clear hK K
      try simp only [Act.put, List.setIfInBounds_toArray, List.set_cons_zero, List.set_cons_succ]
      have hb' : Below (w.heap.size + 1) (w.alloc (.cells #[.int .u8 (48 + (d : Int))] 5)) w1 := by
        simp at hb
        exact ⟨hb.os, hb.tape, hb.output, hb.size, hb.block⟩
      have hcv := one_conv' w w1 c _ HCD.out hb'
      have hx : ¬ 9223372036854775807 < L.length + 1 := by omega
      refine wpAnyH_ready (rs := [8]) (by kernel_rfl) (by simp) ?_
      refine AllReadyH.cons rfl (fun K hK => ?_) AllReadyH.nil
      go_simp
      refine hK.out _ _ trivial (fun hHeld => ?_)
      clear hK K
      try simp only [Act.put, List.setIfInBounds_toArray, List.set_cons_zero, List.set_cons_succ]
      refine wpAnyH_ready (rs := [9]) (by kernel_rfl) (by simp) ?_
      refine AllReadyH.cons rfl (fun K hK => ?_) AllReadyH.nil
      go_simp
      refine hK.out _ _ trivial (fun hHeld => ?_)
      clear hK K
      try simp only [Act.put, List.setIfInBounds_toArray, List.set_cons_zero, List.set_cons_succ]
      refine wpAnyH_ready (rs := [10]) (by kernel_rfl) (by simp) ?_
      refine AllReadyH.cons rfl (fun K hK => ?_) AllReadyH.nil
      go_simp
      refine hK.out _ _ trivial (fun hHeld => ?_)
      clear hK K
      try simp only [Act.put, List.setIfInBounds_toArray, List.set_cons_zero, List.set_cons_succ]
      refine wpAnyH_done (by kernel_rfl) ?_ _
      go_wp2
      go_ret
      exact ⟨by rw [← str_app]; rfl, ((Below.refl _ _).alloc (Nat.le_refl _) _).trans (hb'.mono (by simp))⟩
    · have hcv := one_conv' w (w.alloc (.cells #[.int .u8 (48 + (d : Int))] 5)).drew c _ HCD.out ((Below.refl _ _).drew)
      go_simp
      refine hK.out _ _ trivial (fun hHeld => ?_)
      clear hK K
      try simp only [Act.put, List.setIfInBounds_toArray, List.set_cons_zero, List.set_cons_succ]
      refine wpAnyH_ready (rs := [2]) (by kernel_rfl) (by simp) ?_
      refine AllReadyH.cons rfl (fun K hK => ?_) AllReadyH.nil
      go_simp
      refine (IH.out _).mono ?_
      rintro e w1 ⟨rfl, hb⟩
      dsimp only
      refine hK.out _ _ trivial (fun hHeld => ?_)
      clear hK K
      try simp only [Act.put, List.setIfInBounds_toArray, List.set_cons_zero, List.set_cons_succ]
      have hx : ¬ 9223372036854775807 < L.length + 1 := by omega
      refine wpAnyH_ready (rs := [9]) (by kernel_rfl) (by simp) ?_
      refine AllReadyH.cons rfl (fun K hK => ?_) AllReadyH.nil
      go_simp
      refine hK.out _ _ trivial (fun hHeld => ?_)
      clear hK K
      try simp only [Act.put, List.setIfInBounds_toArray, List.set_cons_zero, List.set_cons_succ]
      refine wpAnyH_ready (rs := [10]) (by kernel_rfl) (by simp) ?_
      refine AllReadyH.cons rfl (fun K hK => ?_) AllReadyH.nil
      go_simp
      refine hK.out _ _ trivial (fun hHeld => ?_)
      clear hK K
      try simp only [Act.put, List.setIfInBounds_toArray, List.set_cons_zero, List.set_cons_succ]
      refine wpAnyH_done (by kernel_rfl) ?_ _
      go_wp2
      go_ret
      exact ⟨by rw [← str_app]; rfl, (((Below.refl _ _).alloc (Nat.le_refl _) _).drew).trans (hb.mono (by simp))⟩
set_option maxRecDepth 100000 in
set_option maxHeartbeats 4000000 in
theorem digits_neg (n m r : Int) (hn : n ≤ -10) (e1 : IntKind.i64.wrap (n.tdiv 10) = m) (e2 : n.tmod 10 = r) (hr : -9 ≤ r ∧ r ≤ 0) (hn2 : -9223372036854775808 ≤ n) (c : UInt8) (HCD : Hid ((c.toNat : Int) = 48 - r)) (L : List UInt8) (hll : L.length ≤ 20) (w : World)
    (IH : Hid (∀ w, Calls Tryd.prog 16 #[.int .i64 m] w (StrPost L w))) : Calls Tryd.prog 16 #[.int .i64 n] w (StrPost (L ++ [c]) w) := by
  have e3 : IntKind.i64.wrap (48 - r) = 48 - r := IntWalk.i64_in _ (by omega)
  have e4 : IntKind.u8.wrap (48 - r) = 48 - r := IntWalk.u8_in _ (by omega)
  go_enter Tryd.func16, Tryd.ntmps16
  go_wp2
  refine wp_region_held_drew (S := fun _ => True) (by kernel_rfl) trivial (fun hHeld => ?_)
  refine wpAnyH_take (i := 0) (v := ?_) rfl (by kernel_rfl) (by kernel_rfl) (by kernel_rfl) (fun _ _ _ h => h) (Or.inl ⟨by rfl, ?_⟩) (by assumption) ?_
  rotate_left
  · (intro w hSw; (try dsimp only at hSw); go_simp; (try with_reducible rfl))
  try simp only [Act.put, List.setIfInBounds_toArray, List.set_cons_zero, List.set_cons_succ]
  refine wpAnyH_take (i := 1) (v := ?_) rfl (by kernel_rfl) (by kernel_rfl) (by kernel_rfl) (fun _ _ _ h => h) (Or.inl ⟨by rfl, ?_⟩) (by assumption) ?_
  rotate_left
  · (intro w hSw; (try dsimp only at hSw); go_simp; (try with_reducible rfl))
  try simp only [Act.put, List.setIfInBounds_toArray, List.set_cons_zero, List.set_cons_succ]
  refine wpAnyH_take (i := 3) (v := ?_) rfl (by kernel_rfl) (by kernel_rfl) (by kernel_rfl) (fun _ _ _ h => h) (Or.inl ⟨by rfl, ?_⟩) (by assumption) ?_
  rotate_left
  · (intro w hSw; (try dsimp only at hSw); go_simp; (try with_reducible rfl))
  try simp only [Act.put, List.setIfInBounds_toArray, List.set_cons_zero, List.set_cons_succ]
  refine wpAnyH_take (i := 4) (v := ?_) rfl (by kernel_rfl) (by kernel_rfl) (by kernel_rfl) (fun _ _ _ h => h) (Or.inl ⟨by rfl, ?_⟩) (by assumption) ?_
  rotate_left
  · (intro w hSw; (try dsimp only at hSw); go_simp; (try with_reducible rfl))
  try simp only [Act.put, List.setIfInBounds_toArray, List.set_cons_zero, List.set_cons_succ]
  refine wpAnyH_take (i := 5) (v := ?_) rfl (by kernel_rfl) (by kernel_rfl) (by kernel_rfl) (fun _ _ _ h => h) (Or.inl ⟨by rfl, ?_⟩) (by assumption) ?_
  rotate_left
  · (intro w hSw; (try dsimp only at hSw); go_simp; (try with_reducible rfl))
  try simp only [Act.put, List.setIfInBounds_toArray, List.set_cons_zero, List.set_cons_succ]
  refine wpAnyH_take (i := 6) (v := ?_) rfl (by kernel_rfl) (by kernel_rfl) (by kernel_rfl) (fun _ _ _ h => h) (Or.inl ⟨by rfl, ?_⟩) (by assumption) ?_
  rotate_left
  · (intro w hSw; (try dsimp only at hSw); go_simp; (try with_reducible rfl))
  try simp only [Act.put, List.setIfInBounds_toArray, List.set_cons_zero, List.set_cons_succ]
  refine wpAnyH_ready (rs := [2, 7]) (by kernel_rfl) (by simp) ?_
  refine AllReadyH.cons rfl (fun K hK => ?_) (AllReadyH.cons rfl (fun K hK => ?_) AllReadyH.nil)
  · go_simp
    refine (IH.out _).mono ?_
    rintro e w1 ⟨rfl, hb⟩
    dsimp only
    refine hK.out _ _ trivial (fun hHeld => ?_)
    clear hK K
    try simp only [Act.put, List.setIfInBounds_toArray, List.set_cons_zero, List.set_cons_succ]
    refine wpAnyH_ready (rs := [7]) (by kernel_rfl) (by simp) ?_
    refine AllReadyH.cons rfl (fun K hK => ?_) AllReadyH.nil
    go_simp
    refine hK.out _ _ trivial (fun hHeld => ?_)
    clear hK K
    try simp only [Act.put, List.setIfInBounds_toArray, List.set_cons_zero, List.set_cons_succ]
    have hcv := one_conv w1 c _ HCD.out
    refine wpAnyH_ready (rs := [8]) (by kernel_rfl) (by simp) ?_
    refine AllReadyH.cons rfl (fun K hK => ?_) AllReadyH.nil
    go_simp
    refine hK.out _ _ trivial (fun hHeld => ?_)
    clear hK K
    try simp only [Act.put, List.setIfInBounds_toArray, List.set_cons_zero, List.set_cons_succ]
    have hx : ¬ 9223372036854775807 < L.length + 1 := by omega
    refine wpAnyH_ready (rs := [9]) (by kernel_rfl) (by simp) ?_
    refine AllReadyH.cons rfl (fun K hK => ?_) AllReadyH.nil
    go_simp
    refine hK.out _ _ trivial (fun hHeld => ?_)
    clear hK K
    try simp only [Act.put, List.setIfInBounds_toArray, List.set_cons_zero, List.set_cons_succ]
    refine wpAnyH_ready (rs := [10]) (by kernel_rfl) (by simp) ?_
    refine AllReadyH.cons rfl (fun K hK => ?_) AllReadyH.nil
    go_simp
    refine hK.out _ _ trivial (fun hHeld => ?_)
    clear hK K
    try simp only [Act.put, List.setIfInBounds_toArray, List.set_cons_zero, List.set_cons_succ]
    refine wpAnyH_done (by kernel_rfl) ?_ _
    go_wp2
    go_ret
    exact ⟨by rw [← str_app]; rfl, by have := hb.size; exact Below.alloc (Below.go (Below.refl _ _).drew hb) (by simpa using this) _⟩
  · go_simp
    refine hK.out _ _ trivial (fun hHeld => ?_)
    clear hK K
    try simp only [Act.put, List.setIfInBounds_toArray, List.set_cons_zero, List.set_cons_succ]
    refine wpAnyH_ready (rs := [2, 8]) (by kernel_rfl) (by simp) ?_
    refine AllReadyH.cons rfl (fun K hK => ?_) (AllReadyH.cons rfl (fun K hK => ?_) AllReadyH.nil)
    · go_simp
      refine (IH.out _).mono ?_
      rintro e w1 ⟨rfl, hb⟩
      dsimp only
      refine hK.out _ _ trivial (fun hHeld => ?_)
      clear hK K
      try simp only [Act.put, List.setIfInBounds_toArray, List.set_cons_zero, List.set_cons_succ]
      have hb' : Below (w.heap.size + 1) (w.alloc (.cells #[.int .u8 (48 - r)] 5)) w1 := by
        simp at hb
        exact ⟨hb.os, hb.tape, hb.output, hb.size, hb.block⟩
      have hcv := one_conv' w w1 c _ HCD.out hb'
      have hx : ¬ 9223372036854775807 < L.length + 1 := by omega
      refine wpAnyH_ready (rs := [8]) (by kernel_rfl) (by simp) ?_
      refine AllReadyH.cons rfl (fun K hK => ?_) AllReadyH.nil
      go_simp
      refine hK.out _ _ trivial (fun hHeld => ?_)
      clear hK K
      try simp only [Act.put, List.setIfInBounds_toArray, List.set_cons_zero, List.set_cons_succ]
      refine wpAnyH_ready (rs := [9]) (by kernel_rfl) (by simp) ?_
      refine AllReadyH.cons rfl (fun K hK => ?_) AllReadyH.nil
      go_simp
      refine hK.out _ _ trivial (fun hHeld => ?_)
      clear hK K
      try simp only [Act.put, List.setIfInBounds_toArray, List.set_cons_zero, List.set_cons_succ]
      refine wpAnyH_ready (rs := [10]) (by kernel_rfl) (by simp) ?_
      refine AllReadyH.cons rfl (fun K hK => ?_) AllReadyH.nil
      go_simp
      refine hK.out _ _ trivial (fun hHeld => ?_)
      clear hK K
      try simp only [Act.put, List.setIfInBounds_toArray, List.set_cons_zero, List.set_cons_succ]
      refine wpAnyH_done (by kernel_rfl) ?_ _
      go_wp2
      go_ret
      exact ⟨by rw [← str_app]; rfl, ((Below.refl _ _).alloc (Nat.le_refl _) _).trans (hb'.mono (by simp))⟩
    · have hcv := one_conv' w (w.alloc (.cells #[.int .u8 (48 - r)] 5)).drew c _ HCD.out ((Below.refl _ _).drew)
      go_simp
      refine hK.out _ _ trivial (fun hHeld => ?_)
      clear hK K
      try simp only [Act.put, List.setIfInBounds_toArray, List.set_cons_zero, List.set_cons_succ]
      refine wpAnyH_ready (rs := [2]) (by kernel_rfl) (by simp) ?_
      refine AllReadyH.cons rfl (fun K hK => ?_) AllReadyH.nil
      go_simp
      refine (IH.out _).mono ?_
      rintro e w1 ⟨rfl, hb⟩
      dsimp only
      refine hK.out _ _ trivial (fun hHeld => ?_)
      clear hK K
      try simp only [Act.put, List.setIfInBounds_toArray, List.set_cons_zero, List.set_cons_succ]
      have hx : ¬ 9223372036854775807 < L.length + 1 := by omega
      refine wpAnyH_ready (rs := [9]) (by kernel_rfl) (by simp) ?_
      refine AllReadyH.cons rfl (fun K hK => ?_) AllReadyH.nil
      go_simp
      refine hK.out _ _ trivial (fun hHeld => ?_)
      clear hK K
      try simp only [Act.put, List.setIfInBounds_toArray, List.set_cons_zero, List.set_cons_succ]
      refine wpAnyH_ready (rs := [10]) (by kernel_rfl) (by simp) ?_
      refine AllReadyH.cons rfl (fun K hK => ?_) AllReadyH.nil
      go_simp
      refine hK.out _ _ trivial (fun hHeld => ?_)
      clear hK K
      try simp only [Act.put, List.setIfInBounds_toArray, List.set_cons_zero, List.set_cons_succ]
      refine wpAnyH_done (by kernel_rfl) ?_ _
      go_wp2
      go_ret
      exact ⟨by rw [← str_app]; rfl, (((Below.refl _ _).alloc (Nat.le_refl _) _).drew).trans (hb.mono (by simp))⟩

set_option maxRecDepth 100000 in
set_option maxHeartbeats 4000000 in
theorem digits_nsmall (n : Int) (h0 : n < 0) (h1 : -10 < n) (c : UInt8) (HCD : Hid ((c.toNat : Int) = 48 - n)) (w : World) : Calls Tryd.prog 16 #[.int .i64 n] w (StrPost [45, c] w) := by
  have e3 : IntKind.i64.wrap (48 - n) = 48 - n := IntWalk.i64_in _ (by omega)
  have e4 : IntKind.u8.wrap (48 - n) = 48 - n := IntWalk.u8_in _ (by omega)
  have hcv := one_conv w c (48 - n) HCD.out
  go_enter Tryd.func16, Tryd.ntmps16
  go_wp2
  go_ret
  exact ⟨by first | rfl | (rw [← str_app [45] [c]]), by repeat (first | with_reducible exact Below.refl _ _ | (with_reducible refine Below.setCell ?_ (by first | omega | (simp <;> omega)) _) | (with_reducible refine Below.alloc ?_ (by first | omega | (simp <;> omega)) _) | (with_reducible refine Below.drew ?_) | (with_reducible refine belowN ?_ _))⟩

theorem itoa_n (n : Int) (h : n < 0) : Lib.itoa n = 45 :: Lib.decDigits n.natAbs := by unfold Lib.itoa; rw [if_pos h]
/-- Digits of any int64. -/
theorem digits_any : ∀ (u : Nat) (n : Int), n.natAbs = u → -9223372036854775808 ≤ n → n ≤ 9223372036854775807 → ∀ w : World, Calls Tryd.prog 16 #[.int .i64 n] w (StrPost (Lib.itoa n) w) := by
  intro u
  induction u using Nat.strongRecOn with
  | _ u ih =>
    intro n hu h0 h1 w
    by_cases hneg : n < 0
    · rw [itoa_n n hneg, hu]
      by_cases hs : u < 10
      · rw [dec_lt u hs]
        exact digits_nsmall n hneg (by omega) _ (Lib.hid (by rw [dig_nat u hs]; omega)) w
      · rw [dec_ge u hs]
        have hq : (-((u / 10 : Nat) : Int)) < 0 := by omega
        have hI := fun w => ih (u / 10) (by omega) (-((u / 10 : Nat) : Int)) (by omega) (by omega) (by omega) w
        rw [itoa_n _ hq] at hI
        have hab : (-((u / 10 : Nat) : Int)).natAbs = u / 10 := by omega
        rw [hab] at hI
        have hlen := dec_len 19 (u / 10) (by omega) (by omega)
        have hd : n.tdiv 10 = -((u / 10 : Nat) : Int) := by
          have e : n = -((u : Nat) : Int) := by omega
          rw [e, Int.neg_tdiv, Int.tdiv_eq_ediv_of_nonneg (by omega)]; omega
        have hm : n.tmod 10 = -((u % 10 : Nat) : Int) := by
          have e : n = -((u : Nat) : Int) := by omega
          rw [e, Int.neg_tmod, Int.tmod_eq_emod_of_nonneg (by omega)]; omega
        have hk := digits_neg n (-((u / 10 : Nat) : Int)) (-((u % 10 : Nat) : Int)) (by omega) (by rw [hd, IntWalk.i64_in _ (by omega)]) hm (by omega) h0 (UInt8.ofNat (48 + u % 10)) (Lib.hid (by rw [dig_nat _ (by omega)]; omega)) (45 :: Lib.decDigits (u / 10)) (by simp; omega) w (Lib.hid hI)
        exact hk
    · obtain rfl : n = (u : Int) := by omega
      have hi : Lib.itoa (u : Int) = Lib.decDigits u := Lib.itoa_nonneg u
      rw [hi]
      by_cases hs : u < 10
      · exact digits_small u hs w
      · refine digits_big u (by omega) (by omega) w (fun w => ?_)
        have hI := ih (u / 10) (by omega) ((u / 10 : Nat) : Int) (by omega) (by omega) (by omega) w
        rw [Lib.itoa_nonneg] at hI
        exact hI
end Go.Proofs.YthmpdgbhbbbknaaDoor
