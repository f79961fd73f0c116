/-
  Numbers and their digits: the plain law.
-/
import Derived.Lib.ParseIntBCases
import Derived.Lib.ItoaMem
namespace Go.Proofs.YthmpdgbhbbbknaaDoor

theorem dec_lt (u : Nat) (h : u < 10) : Lib.decDigits u = [UInt8.ofNat (48 + u)] := by rw [Lib.decDigits, dif_pos h]
theorem dec_ge (u : Nat) (h : ¬ u < 10) : Lib.decDigits u = Lib.decDigits (u / 10) ++ [UInt8.ofNat (48 + u % 10)] := by rw [Lib.decDigits, dif_neg h]
theorem dig_nat (d : Nat) (h : d < 10) : (UInt8.ofNat (48 + d)).toNat = 48 + d := by
  rw [UInt8.toNat_ofNat']; omega
theorem dec_len : ∀ (k u : Nat), 1 ≤ k → u < 10 ^ k → (Lib.decDigits u).length ≤ k
  | 0, u, h, _ => by omega
  | k + 1, u, _, h => by
    by_cases h0 : u < 10
    · rw [dec_lt u h0]; simp
    · rw [dec_ge u h0]
      have hk : 1 ≤ k := by
        rcases k with _ | k
        · simp at h; omega
        · omega
      have := dec_len k (u / 10) hk (by rw [Nat.pow_succ] at h; omega)
      simp; omega
theorem dec_head (u : Nat) : ∃ c r, Lib.decDigits u = c :: r ∧ 48 ≤ c.toNat ∧ c.toNat ≤ 57 := by
  induction u using Nat.strongRecOn with
  | _ u ih =>
    by_cases h0 : u < 10
    · rw [dec_lt u h0]
      exact ⟨_, _, rfl, by rw [dig_nat u h0]; omega, by rw [dig_nat u h0]; omega⟩
    · obtain ⟨c, r, h1, h2, h3⟩ := ih (u / 10) (by omega)
      rw [dec_ge u h0, h1]
      exact ⟨c, _, rfl, h2, h3⟩

/-! ### the library's -/
theorem pM_snoc (M : Nat) (c : UInt8) (hc : 48 ≤ c.toNat ∧ c.toNat ≤ 57) (v : Nat) (hv : v < 1844674407370955162) (hM : v * 10 + (c.toNat - 48) ≤ M) :
    ∀ (l : List UInt8) (acc : Nat), Lib.parseUintM M acc l = .ok v → Lib.parseUintM M acc (l ++ [c]) = .ok (v * 10 + (c.toNat - 48))
  | [], acc, h => by
    simp only [Lib.parseUintM, Lib.NumEnd.ok.injEq] at h
    subst h
    simp only [List.nil_append, Lib.parseUintM]
    rw [if_pos hc, if_neg (by omega), if_neg (by omega)]
  | x :: r, acc, h => by
    simp only [List.cons_append, Lib.parseUintM] at h ⊢
    split at h
    · rename_i h1
      rw [if_pos h1]
      split at h
      · cases h
      · rename_i h2
        rw [if_neg h2]
        split at h
        · cases h
        · rename_i h3
          rw [if_neg h3]
          exact pM_snoc M c hc v hv hM r _ h
    · cases h
theorem pM_dec (u : Nat) (h : u ≤ 18446744073709551615) : Lib.parseUintM 18446744073709551615 0 (Lib.decDigits u) = .ok u := by
  induction u using Nat.strongRecOn with
  | _ u ih =>
    by_cases h0 : u < 10
    · rw [dec_lt u h0]
      simp only [Lib.parseUintM]
      rw [dig_nat u h0, if_pos (by omega), if_neg (by omega), if_neg (by omega)]
      simp
    · rw [dec_ge u h0]
      have h1 := ih (u / 10) (by omega) (by omega)
      have h2 := pM_snoc 18446744073709551615 (UInt8.ofNat (48 + u % 10)) (by rw [dig_nat _ (by omega)]; omega) (u / 10) (by omega) (by rw [dig_nat _ (by omega)]; omega) _ _ h1
      rw [dig_nat _ (by omega)] at h2
      rw [h2]
      congr 1
      omega
theorem pB_dec (u : Nat) (h : u ≤ 18446744073709551615) : Lib.parseUintB 64 (Lib.decDigits u) = .ok u := by
  obtain ⟨c, r, h1, _⟩ := dec_head u
  unfold Lib.parseUintB
  rw [if_neg (by rw [h1]; simp)]
  exact pM_dec u h

def inR (n : Int) : Prop := -4611686018427387904 ≤ n ∧ n ≤ 4611686018427387904
instance (n : Int) : Decidable (inR n) := by unfold inR; infer_instance
theorem parse_itoa64 (n : Int) (h : -9223372036854775808 ≤ n ∧ n ≤ 9223372036854775807) : Lib.parseIntB 64 (Lib.itoa n) = .ok n := by
  unfold Lib.itoa
  by_cases h0 : n < 0
  · rw [if_pos h0]
    have h1 := pB_dec n.natAbs (by omega)
    simp only [Lib.parseIntB]
    rw [if_pos (by simp), h1]
    simp only
    rw [if_neg (by simp), if_neg (by simp; omega), if_pos (by simp)]
    congr 1
    omega
  · rw [if_neg h0]
    have h1 := pB_dec n.toNat (by omega)
    obtain ⟨c, r, h2, h3, h4⟩ := dec_head n.toNat
    rw [h2] at h1 ⊢
    simp only [Lib.parseIntB]
    rw [if_neg (by omega), h1]
    simp only
    rw [if_neg (by simp; omega), if_neg (by omega), if_neg (by omega)]
    congr 1
    omega
theorem parse_itoa (n : Int) (h : inR n) : Lib.parseIntB 64 (Lib.itoa n) = .ok n := parse_itoa64 n (by unfold inR at h; omega)
/-- The number of digits, by the program. -/
def numP (l : List UInt8) : Option Int :=
  match Lib.parseIntB 64 l with
  | .ok v => if inR v ∧ Lib.itoa v = l then some v else none
  | _ => none
theorem numP_iff (l : List UInt8) (v : Int) : numP l = some v ↔ inR v ∧ l = Lib.itoa v := by
  unfold numP
  constructor
  · intro h
    split at h
    · split at h
      · rename_i h1
        cases h
        exact ⟨h1.1, h1.2.symm⟩
      · cases h
    · cases h
  · rintro ⟨h1, rfl⟩
    rw [parse_itoa v h1]
    simp only
    rw [if_pos ⟨h1, trivial⟩]

theorem numP_itoa (n : Int) (h : -9223372036854775808 ≤ n ∧ n ≤ 9223372036854775807) : (inR n → numP (Lib.itoa n) = some n) ∧ (¬ inR n → numP (Lib.itoa n) = none) := by
  unfold numP
  rw [parse_itoa64 n h]
  exact ⟨fun h1 => if_pos ⟨h1, rfl⟩, fun h1 => if_neg (fun h2 => h1 h2.1)⟩

/-! ### the reference's -/
def refLoop (n : Nat) : List UInt8 → Option Nat
  | [] => some n
  | c :: r => if c.toNat < 48 ∨ 57 < c.toNat ∨ 461168601842738790 < n then none else refLoop (10 * n + (c.toNat - 48)) r
theorem refLoop_snoc (c : UInt8) : ∀ (l : List UInt8) (n : Nat), refLoop n (l ++ [c]) = (refLoop n l).bind fun v => if c.toNat < 48 ∨ 57 < c.toNat ∨ 461168601842738790 < v then none else some (10 * v + (c.toNat - 48))
  | [], n => by simp only [List.nil_append, refLoop, Option.bind_some]
  | x :: r, n => by
    simp only [List.cons_append, refLoop]
    split
    · rfl
    · exact refLoop_snoc c r _
theorem refLoop_dec (u : Nat) (h : u ≤ 4611686018427387904) : refLoop 0 (Lib.decDigits u) = some u := by
  induction u using Nat.strongRecOn with
  | _ u ih =>
    by_cases h0 : u < 10
    · rw [dec_lt u h0]
      simp only [refLoop]
      rw [dig_nat u h0, if_neg (by omega)]
      simp
    · rw [dec_ge u h0, refLoop_snoc, ih (u / 10) (by omega) (by omega)]
      simp only [Option.bind_some]
      rw [dig_nat _ (by omega), if_neg (by omega)]
      congr 1
      omega
def refV (l : List UInt8) (m : Nat) : Int := if l.head? = some 45 then -(m : Int) else m
def refNum (l : List UInt8) : Option Int :=
  if l = [] ∨ 20 < l.length then none
  else match refLoop 0 (if l.head? = some 45 then l.tail else l) with
    | none => none
    | some m => if inR (refV l m) ∧ Lib.itoa (refV l m) = l then some (refV l m) else none
theorem refNum_iff (l : List UInt8) (v : Int) : refNum l = some v ↔ inR v ∧ l = Lib.itoa v := by
  unfold refNum
  constructor
  · intro h
    split at h
    · cases h
    · split at h
      · cases h
      · split at h
        · rename_i h1
          cases h
          exact ⟨h1.1, h1.2.symm⟩
        · cases h
  · rintro ⟨h1, rfl⟩
    have h1' := h1
    unfold inR at h1'
    unfold Lib.itoa
    by_cases h0 : v < 0
    · rw [if_pos h0]
      have hl := dec_len 19 v.natAbs (by omega) (by omega)
      rw [if_neg (by simp; omega)]
      simp only [List.head?_cons, List.tail_cons, if_true]
      rw [refLoop_dec v.natAbs (by omega)]
      have e : refV (45 :: Lib.decDigits v.natAbs) v.natAbs = v := by unfold refV; simp; omega
      simp only [e]
      rw [if_pos ⟨h1, by rw [if_pos h0]⟩]
    · rw [if_neg h0]
      have hl := dec_len 19 v.toNat (by omega) (by omega)
      obtain ⟨c, r, h2, h3, h4⟩ := dec_head v.toNat
      have hh : ¬ (Lib.decDigits v.toNat).head? = some 45 := by
        rw [h2]
        simp
        rintro rfl
        simp at h3
      rw [if_neg (by rw [h2]; rw [h2] at hl; simp at hl ⊢; omega), if_neg hh, refLoop_dec v.toNat (by omega)]
      have e : refV (Lib.decDigits v.toNat) v.toNat = v := by unfold refV; rw [if_neg hh]; omega
      simp only [e]
      rw [if_pos ⟨h1, by rw [if_neg h0]⟩]
theorem ref_prog (l : List UInt8) : refNum l = numP l := by
  cases h : numP l with
  | some v => exact (refNum_iff l v).2 ((numP_iff l v).1 h)
  | none =>
    cases h' : refNum l with
    | none => rfl
    | some v => rw [(numP_iff l v).2 ((refNum_iff l v).1 h')] at h; cases h
end Go.Proofs.YthmpdgbhbbbknaaDoor
