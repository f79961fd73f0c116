/-
  field.Number.
-/
import Derived.Test.YthmpdgbhbbbknaaDoorNumLib
import Derived.Test.YthmpdgbhbbbknaaDoorPlan
import Derived.Lib.AtoiErrMem
namespace Go.Proofs.YthmpdgbhbbbknaaDoor
open Go.Shelf Go.RowKit

/-- The library's variables that the walk reads. -/
structure NumVars (w : World) : Prop where
  tab : Lib.TabIs Tryd.prog w "internal/strconv.uint64pow10" .u64 Lib.pow10Tab
  syn : ∃ tp p, w.var? Tryd.prog "strconv.ErrSyntax" = some #[.iface tp p]
  rng : ∃ tp p, w.var? Tryd.prog "strconv.ErrRange" = some #[.iface tp p]
theorem var_below {P : Program} {w w' : World} {n : String} {cs : Array Value} (h : w.var? P n = some cs) (hb : Below w.heap.size w w') : w'.var? P n = some cs := by
  unfold World.var? at h ⊢
  cases hg : P.globalNamed n with
  | none => rw [hg] at h; cases h
  | some g =>
    rw [hg] at h
    simp only [Option.bind_some] at h ⊢
    have hlt : g < w.heap.size := by
      by_cases hlt : g < w.heap.size
      · exact hlt
      · rw [Array.getElem?_eq_none (by omega)] at h; cases h
    rw [hb.block g hlt]
    exact h
theorem NumVars.below {w w' : World} (h : NumVars w) (hb : Below w.heap.size w w') : NumVars w' := by
  obtain ⟨h1, ⟨t2, p2, h2⟩, ⟨t3, p3, h3⟩⟩ := h
  exact ⟨var_below h1 hb, ⟨t2, p2, var_below h2 hb⟩, ⟨t3, p3, var_below h3 hb⟩⟩
theorem below_grow (w : World) (k : Nat) (os : Array Obj) : Below w.heap.size w (Sort.grow (w.drewN k) os) :=
  ⟨rfl, rfl, rfl, by simp [Sort.grow, World.drewN], fun j hj => by
    show ((w.drewN k).heap ++ os)[j]? = _
    rw [Array.getElem?_append_left (by exact hj)]
    rfl⟩

def IsErr (w : World) (e : Ending) (w' : World) : Prop := ∃ (n : Int) (t : TypeId) (p : Value), e = .returned (.tuple #[.int .i64 n, .iface t p]) ∧ Below w.heap.size w w'
theorem parse_err (s : ByteArray) (hs : s.size ≤ 281474976710656) (w : World) (h : NumVars w) (hp : ∀ v, Lib.parseIntB 64 s.data.toList ≠ .ok v) :
    Calls Tryd.prog 26 #[.string s, .int .i64 10, .int .i64 64] w (IsErr w) := by
  rcases hl : Lib.parseIntB 64 s.data.toList with v | _ | _
  · exact absurd hl (hp v)
  · obtain ⟨tp, p, hv⟩ := h.syn
    exact (Any.strconv_ParseInt_10_at64_syntax_var laysC174 s hs hl tp p w hv).mono fun e w' ⟨N, he, _, _, hb⟩ => ⟨_, _, _, he, hb⟩
  · obtain ⟨tp, p, hv⟩ := h.rng
    exact (Any.strconv_ParseInt_10_at64_range_var laysC174 s hs hl tp p w hv).mono fun e w' ⟨N, he, _, _, hb⟩ => ⟨_, _, _, he, hb⟩
theorem parse_ok (s : ByteArray) (hs : s.size ≤ 281474976710656) (w : World) (v : Int) (hl : Lib.parseIntB 64 s.data.toList = .ok v) :
    Calls Tryd.prog 26 #[.string s, .int .i64 10, .int .i64 64] w fun e w' => e = .returned (.tuple #[.int .i64 v, .nilIface]) ∧ Below w.heap.size w w' :=
  (Any.strconv_ParseInt_10_at64_ok laysC174 s (by omega) v hl w).mono fun e w' ⟨he, hw⟩ => ⟨he, by
    rcases hw with rfl | ⟨t, rfl⟩
    · exact Below.refl _ _
    · exact Lib.bytesWorld_below _ _ _⟩
theorem format_any (n : Int) (h0 : -9223372036854775808 ≤ n) (h1 : n ≤ 9223372036854775807) (w : World) (h : NumVars w) :
    Calls Tryd.prog 27 #[.int .i64 n, .int .i64 10] w fun e w' => e = .returned (.string ⟨(Lib.itoa n).toArray⟩) ∧ Below w.heap.size w w' :=
  (Any.strconv_FormatInt_10 laysM173 n h0 h1 w h.tab).mono fun e w' ⟨he, k, os, hw⟩ => ⟨he, by subst hw; exact below_grow _ _ _⟩

def NumPost (o : Option Int) (w : World) (e : Ending) (w' : World) : Prop := e = .returned (.tuple #[.int .i64 (o.getD 0), .bool o.isSome]) ∧ Below w.heap.size w w'

set_option maxRecDepth 100000 in
set_option maxHeartbeats 4000000 in
theorem number_any (s : ByteArray) (hs : s.size ≤ 281474976710656) (w : World) (h : NumVars w) :
    Calls Tryd.prog 14 #[.string s] w (NumPost (numP s.data.toList) w) := by
  have HV := Lib.hid h
  clear h
  have HS := Lib.hid hs
  clear hs
  by_cases hok : ∃ v, Lib.parseIntB 64 s.data.toList = .ok v
  · obtain ⟨v, hv⟩ := hok
    have hbd := Lib.parseIntB_bounds hv
    have hb0 : -9223372036854775808 ≤ v := by have := hbd.1; omega
    have hb1 : v ≤ 9223372036854775807 := by have := hbd.2; omega
    clear hbd
    have hn : numP s.data.toList = if inR v ∧ Lib.itoa v = s.data.toList then some v else none := by unfold numP; rw [hv]
    rw [hn]
    have HP := Lib.hid hv
    clear hn hv
    by_cases h1 : v < -4611686018427387904
    · rw [if_neg (by unfold inR; omega)]
      go_enter Tryd.func14, Tryd.ntmps14
      go_wp2_with (go_at_call 26; refine (parse_ok s HS.out _ v HP.out).mono ?_; rintro e w1 ⟨rfl, hb⟩)
      go_ret2
      exact ⟨rfl, hb⟩
    by_cases h2 : 4611686018427387904 < v
    · rw [if_neg (by unfold inR; omega)]
      go_enter Tryd.func14, Tryd.ntmps14
      go_wp2_with (go_at_call 26; refine (parse_ok s HS.out _ v HP.out).mono ?_; rintro e w1 ⟨rfl, hb⟩)
      go_ret2
      exact ⟨rfl, hb⟩
    have HI : Hid (inR v) := Lib.hid (by unfold inR; omega)
    by_cases h3 : Lib.itoa v = s.data.toList
    · rw [if_pos ⟨HI.out, h3⟩]
      have HQ := Lib.hid h3
      have h4 : (⟨(Lib.itoa v).toArray⟩ : ByteArray) = s := by rw [h3]
      have H4 := Lib.hid h4
      clear h3 h4
      go_enter Tryd.func14, Tryd.ntmps14
      go_wp2_with (first | (go_at_call 26; refine (parse_ok s HS.out _ v HP.out).mono ?_; rintro e w1 ⟨rfl, hb⟩) | (go_at_call 27; refine (format_any v hb0 hb1 _ (HV.out.below hb)).mono ?_; rw [H4.out]; rintro e w2 ⟨rfl, hb2⟩; have hw2 := Below.go hb hb2))
      go_ret2
      exact ⟨rfl, hw2⟩
    · rw [if_neg (fun h => h3 h.2)]
      have h4 : ((⟨(Lib.itoa v).toArray⟩ : ByteArray).toList == s.toList) = false := by
        rw [beq_eq_false_iff_ne]
        intro h
        apply h3
        rw [Go.ByteArray.toList_eq, Go.ByteArray.toList_eq] at h
        exact h
      have h5 : ((⟨(Lib.itoa v).toArray⟩ : ByteArray).toList != s.toList) = true := by unfold bne; rw [h4]; rfl
      clear h3
      obtain ⟨T, hT⟩ : ∃ T : ByteArray, T = ⟨(Lib.itoa v).toArray⟩ := ⟨_, rfl⟩
      rw [← hT] at h4 h5
      have HT := Lib.hid hT
      clear hT
      go_enter Tryd.func14, Tryd.ntmps14
      go_wp2_with (first | (go_at_call 26; refine (parse_ok s HS.out _ v HP.out).mono ?_; rintro e w1 ⟨rfl, hb⟩) | (go_at_call 27; refine (format_any v hb0 hb1 _ (HV.out.below hb)).mono ?_; rw [← HT.out]; rintro e w2 ⟨rfl, hb2⟩; have hw2 := Below.go hb hb2))
      go_ret2
      exact ⟨rfl, hw2⟩
  · have hn : numP s.data.toList = none := by
      unfold numP
      split
      · rename_i v hv; exact absurd ⟨v, hv⟩ hok
      · rfl
    rw [hn]
    have HE := Lib.hid (fun W hW => parse_err s HS.out W hW (fun v hv => hok ⟨v, hv⟩))
    clear hn hok
    go_enter Tryd.func14, Tryd.ntmps14
    go_wp2_with (go_at_call 26; refine (HE.out _ HV.out).mono ?_; rintro e w1 ⟨n, t, p, rfl, hb⟩)
    go_ret2
    exact ⟨rfl, hb⟩
end Go.Proofs.YthmpdgbhbbbknaaDoor
