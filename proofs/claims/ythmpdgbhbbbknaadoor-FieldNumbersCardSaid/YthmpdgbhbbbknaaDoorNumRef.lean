/-
  The reference's Number.
-/
import Derived.Test.YthmpdgbhbbbknaaDoorNumber
import Derived.Test.YthmpdgbhbbbknaaDoorNumDigits
namespace Go.Proofs.YthmpdgbhbbbknaaDoor
open Go.RowKit

def sgn (l : List UInt8) : Nat := if l.head? = some 45 then 1 else 0
def outN (l : List UInt8) (o : Option Nat) : Option Int := o.bind fun m => if inR (refV l m) ∧ Lib.itoa (refV l m) = l then some (refV l m) else none
theorem refNum_eq (l : List UInt8) (h0 : l ≠ []) (h1 : l.length ≤ 20) : refNum l = outN l (refLoop 0 (l.drop (sgn l))) := by
  unfold refNum sgn outN
  rw [if_neg (by rintro (h | h); exact h0 h; omega)]
  by_cases h : l.head? = some 45
  · rw [if_pos h, if_pos h, List.drop_one]
    cases refLoop 0 l.tail <;> rfl
  · rw [if_neg h, if_neg h, List.drop_zero]
    cases refLoop 0 l <;> rfl
theorem refLoop_cons (v : Nat) (c : UInt8) (r : List UInt8) : refLoop v (c :: r) = if c.toNat < 48 ∨ 57 < c.toNat ∨ 461168601842738790 < v then none else refLoop (10 * v + (c.toNat - 48)) r := rfl
theorem drop_cons (s : ByteArray) (k : Nat) (h : k < s.size) : s.data.toList.drop k = s[k] :: s.data.toList.drop (k + 1) := by
  rw [List.drop_eq_getElem_cons (by simpa using h)]; rfl

theorem ret_val {k : IntKind} {a b : Int} (h : a = b) : Value.int k a = .int k b := by rw [h]

set_option maxRecDepth 100000 in
set_option maxHeartbeats 8000000 in
theorem refNumber_any (s : ByteArray) (hs : s.size ≤ 100) (w : World) :
    Calls Tryd.prog 15 #[.string s] w (NumPost (refNum s.data.toList) w) := by
  have hz : s.data.toList.length = s.size := by simp
  by_cases h0 : s.size = 0
  · have hl : s.data.toList = [] := List.eq_nil_of_length_eq_zero (by omega)
    have hn : refNum s.data.toList = none := by unfold refNum; rw [if_pos (.inl hl)]
    rw [hn]
    have e0 : s.toList = [] := by rw [Go.ByteArray.toList_eq]; exact hl
    clear hn hl hz
    go_enter Tryd.func15, Tryd.ntmps15
    go_wp2
    go_ret2
    exact ⟨rfl, Below.refl _ _⟩
  have hl0 : s.data.toList ≠ [] := fun h => h0 (by rw [← hz, h]; rfl)
  have e0 : s.toList ≠ [] := by rw [Go.ByteArray.toList_eq]; exact hl0
  have e1 : s.toList.isEmpty = false := by simpa using e0
  have e2 : (!s.toList.isEmpty) = true := by rw [e1]; rfl
  by_cases h20 : 20 < s.size
  · have hn : refNum s.data.toList = none := by unfold refNum; rw [if_pos (.inr (by omega))]
    rw [hn]
    clear hn hz hl0
    go_enter Tryd.func15, Tryd.ntmps15
    go_wp2
    go_ret2
    exact ⟨rfl, Below.refl _ _⟩
  have hpos : 0 < s.size := by omega
  have HE := Lib.hid (refNum_eq s.data.toList hl0 (by omega))
  have HD := Lib.hid (drop_cons s)
  have hhd : s.data.toList.head? = some s[0] := by
    have := HD.out 0 hpos
    rw [List.drop_zero] at this
    rw [this]
    rfl
  have hsg : sgn s.data.toList = if s[0] = 45 then 1 else 0 := by unfold sgn; rw [hhd]; simp
  have hrv : ∀ m, refV s.data.toList m = if s[0] = 45 then -(m : Int) else (m : Int) := fun m => by unfold refV; rw [hhd]; simp
  have HSG := Lib.hid hsg
  have HRV := Lib.hid hrv
  have HZ := Lib.hid hz
  clear hsg hrv hhd hz hl0 e0
  by_cases hm : s[0] = 45
  · have hm1 : ((s[0].toNat : Nat) : Int) = 45 := by rw [hm]; rfl
    have hm2 : (((s[0].toNat : Nat) : Int) == 45) = true := by rw [hm1]; rfl
    have HX := Lib.hid (fun m => (HRV.out m).trans (if_pos hm))
    have HF := Lib.hid ((HSG.out).trans (if_pos hm))
    clear hm hm1
    rw [HF.out] at HE
    go_enter Tryd.func15, Tryd.ntmps15
    go_wp2
    go_loop [4, 6] (fun n i => ∃ k v : Nat, 1 ≤ k ∧ k ≤ s.size ∧ v ≤ 4611686018427387909 ∧ i = .int .i64 k ∧ n = .int .i64 v ∧ refLoop 0 (s.data.toList.drop 1) = refLoop v (s.data.toList.drop k)) (fun _ i => s.size - (intOf i).toNat)
    case atStart => exact ⟨1, 0, by omega, by omega, by omega, rfl, rfl, rfl⟩
    case round =>
      obtain ⟨k, v, hk1, hk2, hv, rfl, rfl, hr⟩ := hrel
      by_cases hlt : k < s.size
      · rw [HD.out k hlt, refLoop_cons] at hr
        have HR := Lib.hid hr
        clear hr
        by_cases b1 : s[k].toNat < 48
        · have hn : refNum s.data.toList = none := by rw [HE.out, HR.out, if_pos (.inl b1)]; rfl
          have HN := Lib.hid hn
          clear hn
          go_wp2
          go_ret2
          exact ⟨by rw [HN.out]; rfl, Below.refl _ _⟩
        by_cases b2 : 57 < s[k].toNat
        · have hn : refNum s.data.toList = none := by rw [HE.out, HR.out, if_pos (.inr (.inl b2))]; rfl
          have HN := Lib.hid hn
          clear hn
          go_wp2
          go_ret2
          exact ⟨by rw [HN.out]; rfl, Below.refl _ _⟩
        by_cases b3 : 461168601842738790 < v
        · have hn : refNum s.data.toList = none := by rw [HE.out, HR.out, if_pos (.inr (.inr b3))]; rfl
          have HN := Lib.hid hn
          clear hn
          go_wp2
          go_ret2
          exact ⟨by rw [HN.out]; rfl, Below.refl _ _⟩
        · have HN : Hid (refLoop 0 (s.data.toList.drop 1) = refLoop (10 * v + (s[k].toNat - 48)) (s.data.toList.drop (k + 1))) := Lib.hid (HR.out.trans (if_neg (by omega)))
          have hlt256 := s[k].toNat_lt
          go_wp2
          go_round
          case rel => exact ⟨k + 1, 10 * v + (s[k].toNat - 48), by omega, by omega, by omega, by go_num, ret_val (by omega), HN.out⟩
          case measure => simp [intOf]; omega
      · obtain rfl : k = s.size := by omega
        have hdn : s.data.toList.drop s.size = [] := List.drop_eq_nil_of_le (by rw [HZ.out]; omega)
        rw [hdn] at hr
        have hro : refNum s.data.toList = if inR (-((v : Nat) : Int)) ∧ Lib.itoa (-((v : Nat) : Int)) = s.data.toList then some (-((v : Nat) : Int)) else none := by rw [HE.out, hr]; unfold outN refLoop; rw [Option.bind_some, HX.out]
        clear hr hdn
        by_cases h2 : 4611686018427387904 < v
        · rw [if_neg (by unfold inR; omega)] at hro
          have HRO := Lib.hid hro
          clear hro
          go_wp2
          go_ret2
          exact ⟨by rw [HRO.out]; rfl, Below.refl _ _⟩
        have HI : Hid (inR (-((v : Nat) : Int))) := Lib.hid (by unfold inR; omega)
        have HDG := Lib.hid (fun W => digits_any _ (-((v : Nat) : Int)) rfl (by omega) (by omega) W)
        by_cases h3 : Lib.itoa (-((v : Nat) : Int)) = s.data.toList
        · rw [if_pos ⟨HI.out, h3⟩] at hro
          have HRO := Lib.hid hro
          clear hro
          have h4 : (⟨(Lib.itoa (-((v : Nat) : Int))).toArray⟩ : ByteArray) = s := by rw [h3]
          have H4 := Lib.hid h4
          clear h3 h4
          go_wp2_with (go_at_call 16; (with_reducible refine (HDG.out _).mono ?_); unfold StrPost; rw [H4.out]; rintro e w2 ⟨rfl, hb2⟩)
          go_ret2
          exact ⟨by rw [HRO.out]; rfl, hb2⟩
        · rw [if_neg (fun h => h3 h.2)] at hro
          have HRO := Lib.hid hro
          clear hro
          have h4 : ((⟨(Lib.itoa (-((v : Nat) : Int))).toArray⟩ : ByteArray).toList == s.toList) = false := by
            rw [beq_eq_false_iff_ne]
            intro h
            apply h3
            rw [Go.ByteArray.toList_eq, Go.ByteArray.toList_eq] at h
            exact h
          have h5 : ((⟨(Lib.itoa (-((v : Nat) : Int))).toArray⟩ : ByteArray).toList != s.toList) = true := by unfold bne; rw [h4]; rfl
          obtain ⟨T, hT⟩ : ∃ T : ByteArray, T = ⟨(Lib.itoa (-((v : Nat) : Int))).toArray⟩ := ⟨_, rfl⟩
          rw [← hT] at h4 h5
          have HT := Lib.hid hT
          clear hT h3
          go_wp2_with (go_at_call 16; (with_reducible refine (HDG.out _).mono ?_); unfold StrPost; rw [← HT.out]; rintro e w2 ⟨rfl, hb2⟩)
          go_ret2
          exact ⟨by rw [HRO.out]; rfl, hb2⟩
  · have hm1 : ¬ ((s[0].toNat : Nat) : Int) = 45 := fun h => hm (by apply UInt8.toNat_inj.1; exact (by omega : s[0].toNat = 45))
    have hm2 : (((s[0].toNat : Nat) : Int) == 45) = false := by simpa using hm1
    have HX := Lib.hid (fun m => (HRV.out m).trans (if_neg hm))
    have HF := Lib.hid ((HSG.out).trans (if_neg hm))
    clear hm hm1
    rw [HF.out] at HE
    go_enter Tryd.func15, Tryd.ntmps15
    go_wp2
    go_loop [4, 6] (fun n i => ∃ k v : Nat, 0 ≤ k ∧ k ≤ s.size ∧ v ≤ 4611686018427387909 ∧ i = .int .i64 k ∧ n = .int .i64 v ∧ refLoop 0 (s.data.toList.drop 0) = refLoop v (s.data.toList.drop k)) (fun _ i => s.size - (intOf i).toNat)
    case atStart => exact ⟨0, 0, by omega, by omega, by omega, rfl, rfl, rfl⟩
    case round =>
      obtain ⟨k, v, hk1, hk2, hv, rfl, rfl, hr⟩ := hrel
      by_cases hlt : k < s.size
      · rw [HD.out k hlt, refLoop_cons] at hr
        have HR := Lib.hid hr
        clear hr
        by_cases b1 : s[k].toNat < 48
        · have hn : refNum s.data.toList = none := by rw [HE.out, HR.out, if_pos (.inl b1)]; rfl
          have HN := Lib.hid hn
          clear hn
          go_wp2
          go_ret2
          exact ⟨by rw [HN.out]; rfl, Below.refl _ _⟩
        by_cases b2 : 57 < s[k].toNat
        · have hn : refNum s.data.toList = none := by rw [HE.out, HR.out, if_pos (.inr (.inl b2))]; rfl
          have HN := Lib.hid hn
          clear hn
          go_wp2
          go_ret2
          exact ⟨by rw [HN.out]; rfl, Below.refl _ _⟩
        by_cases b3 : 461168601842738790 < v
        · have hn : refNum s.data.toList = none := by rw [HE.out, HR.out, if_pos (.inr (.inr b3))]; rfl
          have HN := Lib.hid hn
          clear hn
          go_wp2
          go_ret2
          exact ⟨by rw [HN.out]; rfl, Below.refl _ _⟩
        · have HN : Hid (refLoop 0 (s.data.toList.drop 0) = refLoop (10 * v + (s[k].toNat - 48)) (s.data.toList.drop (k + 1))) := Lib.hid (HR.out.trans (if_neg (by omega)))
          have hlt256 := s[k].toNat_lt
          go_wp2
          go_round
          case rel => exact ⟨k + 1, 10 * v + (s[k].toNat - 48), by omega, by omega, by omega, by go_num, ret_val (by omega), HN.out⟩
          case measure => simp [intOf]; omega
      · obtain rfl : k = s.size := by omega
        have hdn : s.data.toList.drop s.size = [] := List.drop_eq_nil_of_le (by rw [HZ.out]; omega)
        rw [hdn] at hr
        have hro : refNum s.data.toList = if inR (((v : Nat) : Int)) ∧ Lib.itoa (((v : Nat) : Int)) = s.data.toList then some (((v : Nat) : Int)) else none := by rw [HE.out, hr]; unfold outN refLoop; rw [Option.bind_some, HX.out]
        clear hr hdn
        by_cases h2 : 4611686018427387904 < v
        · rw [if_neg (by unfold inR; omega)] at hro
          have HRO := Lib.hid hro
          clear hro
          go_wp2
          go_ret2
          exact ⟨by rw [HRO.out]; rfl, Below.refl _ _⟩
        have HI : Hid (inR (((v : Nat) : Int))) := Lib.hid (by unfold inR; omega)
        have HDG := Lib.hid (fun W => digits_any _ (((v : Nat) : Int)) rfl (by omega) (by omega) W)
        by_cases h3 : Lib.itoa (((v : Nat) : Int)) = s.data.toList
        · rw [if_pos ⟨HI.out, h3⟩] at hro
          have HRO := Lib.hid hro
          clear hro
          have h4 : (⟨(Lib.itoa (((v : Nat) : Int))).toArray⟩ : ByteArray) = s := by rw [h3]
          have H4 := Lib.hid h4
          clear h3 h4
          go_wp2_with (go_at_call 16; (with_reducible refine (HDG.out _).mono ?_); unfold StrPost; rw [H4.out]; rintro e w2 ⟨rfl, hb2⟩)
          go_ret2
          exact ⟨by rw [HRO.out]; rfl, hb2⟩
        · rw [if_neg (fun h => h3 h.2)] at hro
          have HRO := Lib.hid hro
          clear hro
          have h4 : ((⟨(Lib.itoa (((v : Nat) : Int))).toArray⟩ : ByteArray).toList == s.toList) = false := by
            rw [beq_eq_false_iff_ne]
            intro h
            apply h3
            rw [Go.ByteArray.toList_eq, Go.ByteArray.toList_eq] at h
            exact h
          have h5 : ((⟨(Lib.itoa (((v : Nat) : Int))).toArray⟩ : ByteArray).toList != s.toList) = true := by unfold bne; rw [h4]; rfl
          obtain ⟨T, hT⟩ : ∃ T : ByteArray, T = ⟨(Lib.itoa (((v : Nat) : Int))).toArray⟩ := ⟨_, rfl⟩
          rw [← hT] at h4 h5
          have HT := Lib.hid hT
          clear hT h3
          go_wp2_with (go_at_call 16; (with_reducible refine (HDG.out _).mono ?_); unfold StrPost; rw [← HT.out]; rintro e w2 ⟨rfl, hb2⟩)
          go_ret2
          exact ⟨by rw [HRO.out]; rfl, hb2⟩
end Go.Proofs.YthmpdgbhbbbknaaDoor
