/-
  FieldGets: the walk.
-/
import Derived.Test.YthmpdgbhbbbknaaFAwake
import Derived.Test.YthmpdgbhbbbknaaFCaps
namespace Go.Proofs.Ythmpdgbhbbbknaa
open Go.RowKit

set_option maxRecDepth 100000 in
set_option maxHeartbeats 8000000 in
theorem gets_any (l : List Fd) (nm v o : ByteArray) (A : Option Addr) (n c : Nat) (w : World) (h : Lst Fd.cells 2 w A n l) (hnm : n ≤ maxLen) (h1 : n ≤ c) (h2 : c ≤ maxLen) (h3 : A = none → n = 0 ∧ c = 0) :
    Calls Try.prog 5 #[.slice A n c, .string nm, .string v, .string o] w fun e w' => e = .returned (.bool true) ∧ Below w.heap.size w w' := by
  obtain ⟨i1, hj, hy0, hy1, hy2⟩ := info_parts Try.infoFd
  have HS := Lib.hid (getM_set l nm v)
  have HF := Lib.hid (getM_far l nm v o)
  have HSL := Lib.hid (setM_len l nm v)
  have HLN := Lib.hid h.len
  obtain ⟨⟨g1, k1⟩, hg1⟩ : ∃ x, getM l nm = x := ⟨_, rfl⟩
  obtain ⟨⟨g2, k2⟩, hg2⟩ : ∃ x, getM l o = x := ⟨_, rfl⟩
  obtain ⟨⟨g3, k3⟩, hg3⟩ : ∃ x, getM (setM l nm v) o = x := ⟨_, rfl⟩
  have HG1 := Lib.hid hg1
  have HG2 := Lib.hid hg2
  have HG3 := Lib.hid hg3
  have K1 := Lib.hid (fun (w' : World) (hb : Below w.heap.size w w') => (show Calls Try.prog 15 #[.slice A n c, .string nm] w' fun e w'' => e = .returned (.tuple #[.string g1, .bool k1]) ∧ Below w'.heap.size w' w'' from by have := get_any l nm A n c w' (h.below hb) hnm; rw [hg1] at this; exact this))
  have K2 := Lib.hid (fun (w' : World) (hb : Below w.heap.size w w') => (show Calls Try.prog 16 #[.slice A n c, .string nm] w' fun e w'' => e = .returned (.tuple #[.string g1, .bool k1]) ∧ Below w'.heap.size w' w'' from by have := refGet_any l nm A n c w' (h.below hb) hnm; rw [hg1] at this; exact this))
  have K3 := Lib.hid (fun (w' : World) (hb : Below w.heap.size w w') => (show Calls Try.prog 15 #[.slice A n c, .string o] w' fun e w'' => e = .returned (.tuple #[.string g2, .bool k2]) ∧ Below w'.heap.size w' w'' from by have := get_any l o A n c w' (h.below hb) hnm; rw [hg2] at this; exact this))
  have K4 := Lib.hid (fun (w' : World) (A5 : Option Addr) (c5 : Nat) (ho : Own w' 42 2 A5 (setM l nm v).length c5 ((setM l nm v).flatMap Fd.cells)) (hm : (setM l nm v).length ≤ maxLen) => (show Calls Try.prog 15 #[.slice A5 (setM l nm v).length c5, .string nm] w' fun e w'' => e = .returned (.tuple #[.string v, .bool true]) ∧ Below w'.heap.size w' w'' from by have := get_any (setM l nm v) nm A5 _ c5 w' (Rd.lst Fd.cells_len rfl ho.rd) hm; rw [HS.out] at this; exact this))
  have K5 := Lib.hid (fun (w' : World) (A5 : Option Addr) (c5 : Nat) (ho : Own w' 42 2 A5 (setM l nm v).length c5 ((setM l nm v).flatMap Fd.cells)) (hm : (setM l nm v).length ≤ maxLen) => (show Calls Try.prog 15 #[.slice A5 (setM l nm v).length c5, .string o] w' fun e w'' => e = .returned (.tuple #[.string g3, .bool k3]) ∧ Below w'.heap.size w' w'' from by have := get_any (setM l nm v) o A5 _ c5 w' (Rd.lst Fd.cells_len rfl ho.rd) hm; rw [hg3] at this; exact this))
  clear hg1 hg2 hg3
  go_enter Try.func5, Try.ntmps5
  go_wp2_with fail
  refine (long70_any l A n c _ h hnm).mono ?_
  rintro e w1 ⟨lb, rfl, h70, hb1⟩
  cases lb
  case true =>
    dsimp only
    go_wp2_with (go_at_call 7; refine (awake_any _).mono ?_; rintro e w6 ⟨rfl, hb6⟩; have hw6 := Below.go hb1 hb6)
    go_ret
    exact ⟨rfl, hw6⟩
  dsimp only
  have h70' := h70 rfl
  clear h70
  by_cases z1 : 100 < nm.size
  · go_wp2_with (go_at_call 7; refine (awake_any _).mono ?_; rintro e w6 ⟨rfl, hb6⟩; have hw6 := Below.go hb1 hb6)
    go_ret
    exact ⟨rfl, hw6⟩
  by_cases z2 : 200 < v.size
  · go_wp2_with (go_at_call 7; refine (awake_any _).mono ?_; rintro e w6 ⟨rfl, hb6⟩; have hw6 := Below.go hb1 hb6)
    go_ret
    exact ⟨rfl, hw6⟩
  by_cases z3 : 100 < o.size
  · go_wp2_with (go_at_call 7; refine (awake_any _).mono ?_; rintro e w6 ⟨rfl, hb6⟩; have hw6 := Below.go hb1 hb6)
    go_ret
    exact ⟨rfl, hw6⟩
  have hll : l.length ≤ 70 := by rw [HLN.out]; exact h70'
  have hss : (setM l nm v).length ≤ maxLen := by have := HSL.out; unfold maxLen; omega
  have HSS := Lib.hid hss
  clear hss
  have hsrc := ((h.src (by omega) Fd.cells_len h1 h2 h3).below hb1)
  have HLL := Lib.hid hnm
  have hmain : (o.toList == nm.toList) = true ∨ ((o.toList == nm.toList) = false ∧ g3 = g2 ∧ k3 = k2) := by
    cases hm : (o.toList == nm.toList)
    · have := (HG3.out.symm.trans (HF.out hm)).trans HG2.out
      simp at this
      exact .inr ⟨rfl, this.1, this.2⟩
    · exact .inl rfl
  rcases hmain with hm | ⟨hm, rfl, rfl⟩
  all_goals
    go_wp2_with (first | (at_builtin; go_loud (refine wpList_appS _ rfl _ _ 22 rfl 42 i1 _ 2 32 Try.underlying22 hj hy0 hy1 hy2 rfl (by decide) rfl rfl (Own.lit _ 42 2 #[] 0 (by simp [maxLen]) rfl _ (by simp)) (hsrc.alloc _) (fd_one _) n (by simp) (l.flatMap Fd.cells) (by simp) (by unfold maxLen; omega) (by omega) ?_; intro A3 c3 w2 ho2 hfr hfp; have hw2 : Below w.heap.size w w2 := Below.frm (hb1.alloc hb1.size _) hfr (by have := hb1.size; simp; exact this); clear hfr hfp)) | (go_at_call 15; (with_reducible refine (K1.out _ hw2).mono ?_); rintro e w3 ⟨rfl, hb3⟩; have hw3 := Below.go hw2 hb3) | (go_at_call 16; (with_reducible refine (K2.out _ hw3).mono ?_); rintro e w4 ⟨rfl, hb4⟩; have hw4 := Below.go hw3 hb4) | (go_at_call 17; (with_reducible refine (set_any l nm v A n c _ (h.below hw4) h1 h2 h3 (by omega)).mono ?_); rintro e w5 ⟨A5, c5, rfl, ho5, hn5, hb5⟩; have hw5 := Below.go hw4 hb5) | (go_at_call 18; (with_reducible refine (refSet_any l nm v A n c _ (h.below hw5) (by omega)).mono ?_); rintro e w6 ⟨A6, c6, rfl, ho6, hn6, hb6⟩; have hw6 := Below.go hw5 hb6; have hp6 := ho5.below hb6) | (go_at_call 11; (with_reducible refine (refEq_any (setM l nm v) (setM l nm v) A5 A6 _ c5 _ c6 _ (Rd.lst Fd.cells_len rfl hp6.rd) (Rd.lst Fd.cells_len rfl ho6.rd) HSS.out HSS.out).mono ?_); rw [sameL_self]; rintro e w7 ⟨rfl, hb7⟩; have hw7 := Below.go hw6 hb7; have hp7 := hp6.below hb7; have hq7 := (((ho2.below hb3).below hb4).below hb5).below hb6) | (go_at_call 11; (with_reducible refine (refEq_any l l A A3 n c n c3 _ (h.below hw7) (Rd.lst Fd.cells_len HLN.out (hq7.below hb7).rd) HLL.out HLL.out).mono ?_); rw [sameL_self]; rintro e w8 ⟨rfl, hb8⟩; have hw8 := Below.go hw7 hb8; have hp8 := hp7.below hb8) | (go_at_call 15; (with_reducible refine (K4.out _ A5 c5 hp8 HSS.out).mono ?_); rintro e w9 ⟨rfl, hb9⟩; have hw9 := Below.go hw8 hb9; have hp9 := hp8.below hb9) | (go_at_call 15; (with_reducible refine (K3.out _ hw9).mono ?_); rintro e w10 ⟨rfl, hb10⟩; have hw10 := Below.go hw9 hb10; have hp10 := hp9.below hb10) | (go_at_call 15; (with_reducible refine (K5.out _ A5 c5 hp10 HSS.out).mono ?_); rintro e w11 ⟨rfl, hb11⟩; have hw11 := Below.go hw10 hb11) | (go_at_call 7; refine (awake_any _).mono ?_; rintro e w12 ⟨rfl, hb12⟩; have hw12 := Below.go hw11 hb12))
    go_ret
    exact ⟨rfl, hw12⟩
end Go.Proofs.Ythmpdgbhbbbknaa
