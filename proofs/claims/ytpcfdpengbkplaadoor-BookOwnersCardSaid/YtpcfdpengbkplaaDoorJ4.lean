/-
  Texts of this proof, joined: NumLaw, BA, BB, Y, Search, ParseM, BC, BD, BE, BF, BG, VU, BH, BI, BJ, BK, BL, BM, BN, BP, BQ, BR, BS, BT, BU, BV, BW.
-/
import Derived.Test.YtpcfdpengbkplaaDoorJ3
import Derived.Lib.ParseIntBCases
import Derived.Lib.ItoaMem
import Derived.Lib.Walk
import Derived.Shelf.Strconv.Itoa4
import Derived.BigCall
import Derived.BigGuard
import Derived.Lib.AppendIntMem
import Derived.WalkKit
import Derived.Test.YtpcfdpengbkplaaDoorChecked
import Derived.Shelf.Strings.Search2
import Derived.Shelf.Small.Strs
import Derived.Laws.Cover4
import Derived.IntWalk
import Derived.KernelRfl
set_option linter.unusedVariables false
set_option linter.unusedSimpArgs false
/-
  Numbers and their digits: the plain law.
-/
namespace Go.Proofs.YtpcfdpengbkplaaDoor

theorem dec_lt (u : Nat) (h : u < 10) : Lib.decDigits u = [UInt8.ofNat (48 + u)] := by rw [Lib.decDigits, dif_pos h]
theorem dec_ge (u : Nat) (h : ¬ u < 10) : Lib.decDigits u = Lib.decDigits (u / 10) ++ [UInt8.ofNat (48 + u % 10)] := by rw [Lib.decDigits, dif_neg h]
theorem dig_nat (d : Nat) (h : d < 10) : (UInt8.ofNat (48 + d)).toNat = 48 + d := by
  rw [UInt8.toNat_ofNat']; omega
theorem dec_len : ∀ (k u : Nat), 1 ≤ k → u < 10 ^ k → (Lib.decDigits u).length ≤ k
  | 0, u, h, _ => by omega
  | k + 1, u, _, h => by
    by_cases h0 : u < 10
    · rw [dec_lt u h0]; simp
    · rw [dec_ge u h0]
      have hk : 1 ≤ k := by
        rcases k with _ | k
        · simp at h; omega
        · omega
      have := dec_len k (u / 10) hk (by rw [Nat.pow_succ] at h; omega)
      simp; omega
theorem dec_head (u : Nat) : ∃ c r, Lib.decDigits u = c :: r ∧ 48 ≤ c.toNat ∧ c.toNat ≤ 57 := by
  induction u using Nat.strongRecOn with
  | _ u ih =>
    by_cases h0 : u < 10
    · rw [dec_lt u h0]
      exact ⟨_, _, rfl, by rw [dig_nat u h0]; omega, by rw [dig_nat u h0]; omega⟩
    · obtain ⟨c, r, h1, h2, h3⟩ := ih (u / 10) (by omega)
      rw [dec_ge u h0, h1]
      exact ⟨c, _, rfl, h2, h3⟩

/-! ### the library's -/
theorem pM_snoc (M : Nat) (c : UInt8) (hc : 48 ≤ c.toNat ∧ c.toNat ≤ 57) (v : Nat) (hv : v < 1844674407370955162) (hM : v * 10 + (c.toNat - 48) ≤ M) :
    ∀ (l : List UInt8) (acc : Nat), Lib.parseUintM M acc l = .ok v → Lib.parseUintM M acc (l ++ [c]) = .ok (v * 10 + (c.toNat - 48))
  | [], acc, h => by
    simp only [Lib.parseUintM, Lib.NumEnd.ok.injEq] at h
    subst h
    simp only [List.nil_append, Lib.parseUintM]
    rw [if_pos hc, if_neg (by omega), if_neg (by omega)]
  | x :: r, acc, h => by
    simp only [List.cons_append, Lib.parseUintM] at h ⊢
    split at h
    · rename_i h1
      rw [if_pos h1]
      split at h
      · cases h
      · rename_i h2
        rw [if_neg h2]
        split at h
        · cases h
        · rename_i h3
          rw [if_neg h3]
          exact pM_snoc M c hc v hv hM r _ h
    · cases h
theorem pM_dec (u : Nat) (h : u ≤ 18446744073709551615) : Lib.parseUintM 18446744073709551615 0 (Lib.decDigits u) = .ok u := by
  induction u using Nat.strongRecOn with
  | _ u ih =>
    by_cases h0 : u < 10
    · rw [dec_lt u h0]
      simp only [Lib.parseUintM]
      rw [dig_nat u h0, if_pos (by omega), if_neg (by omega), if_neg (by omega)]
      simp
    · rw [dec_ge u h0]
      have h1 := ih (u / 10) (by omega) (by omega)
      have h2 := pM_snoc 18446744073709551615 (UInt8.ofNat (48 + u % 10)) (by rw [dig_nat _ (by omega)]; omega) (u / 10) (by omega) (by rw [dig_nat _ (by omega)]; omega) _ _ h1
      rw [dig_nat _ (by omega)] at h2
      rw [h2]
      congr 1
      omega
theorem pB_dec (u : Nat) (h : u ≤ 18446744073709551615) : Lib.parseUintB 64 (Lib.decDigits u) = .ok u := by
  obtain ⟨c, r, h1, _⟩ := dec_head u
  unfold Lib.parseUintB
  rw [if_neg (by rw [h1]; simp)]
  exact pM_dec u h

def inR (n : Int) : Prop := -4611686018427387904 ≤ n ∧ n ≤ 4611686018427387904
instance (n : Int) : Decidable (inR n) := by unfold inR; infer_instance
theorem parse_itoa64 (n : Int) (h : -9223372036854775808 ≤ n ∧ n ≤ 9223372036854775807) : Lib.parseIntB 64 (Lib.itoa n) = .ok n := by
  unfold Lib.itoa
  by_cases h0 : n < 0
  · rw [if_pos h0]
    have h1 := pB_dec n.natAbs (by omega)
    simp only [Lib.parseIntB]
    rw [if_pos (by simp), h1]
    simp only
    rw [if_neg (by simp), if_neg (by simp; omega), if_pos (by simp)]
    congr 1
    omega
  · rw [if_neg h0]
    have h1 := pB_dec n.toNat (by omega)
    obtain ⟨c, r, h2, h3, h4⟩ := dec_head n.toNat
    rw [h2] at h1 ⊢
    simp only [Lib.parseIntB]
    rw [if_neg (by omega), h1]
    simp only
    rw [if_neg (by simp; omega), if_neg (by omega), if_neg (by omega)]
    congr 1
    omega
theorem parse_itoa (n : Int) (h : inR n) : Lib.parseIntB 64 (Lib.itoa n) = .ok n := parse_itoa64 n (by unfold inR at h; omega)
/-- The number of digits, by the program. -/
def numP (l : List UInt8) : Option Int :=
  match Lib.parseIntB 64 l with
  | .ok v => if inR v ∧ Lib.itoa v = l then some v else none
  | _ => none
theorem numP_iff (l : List UInt8) (v : Int) : numP l = some v ↔ inR v ∧ l = Lib.itoa v := by
  unfold numP
  constructor
  · intro h
    split at h
    · split at h
      · rename_i h1
        cases h
        exact ⟨h1.1, h1.2.symm⟩
      · cases h
    · cases h
  · rintro ⟨h1, rfl⟩
    rw [parse_itoa v h1]
    simp only
    rw [if_pos ⟨h1, trivial⟩]

theorem numP_itoa (n : Int) (h : -9223372036854775808 ≤ n ∧ n ≤ 9223372036854775807) : (inR n → numP (Lib.itoa n) = some n) ∧ (¬ inR n → numP (Lib.itoa n) = none) := by
  unfold numP
  rw [parse_itoa64 n h]
  exact ⟨fun h1 => if_pos ⟨h1, rfl⟩, fun h1 => if_neg (fun h2 => h1 h2.1)⟩

/-! ### the reference's -/
def refLoop (n : Nat) : List UInt8 → Option Nat
  | [] => some n
  | c :: r => if c.toNat < 48 ∨ 57 < c.toNat ∨ 461168601842738790 < n then none else refLoop (10 * n + (c.toNat - 48)) r
theorem refLoop_snoc (c : UInt8) : ∀ (l : List UInt8) (n : Nat), refLoop n (l ++ [c]) = (refLoop n l).bind fun v => if c.toNat < 48 ∨ 57 < c.toNat ∨ 461168601842738790 < v then none else some (10 * v + (c.toNat - 48))
  | [], n => by simp only [List.nil_append, refLoop, Option.bind_some]
  | x :: r, n => by
    simp only [List.cons_append, refLoop]
    split
    · rfl
    · exact refLoop_snoc c r _
theorem refLoop_dec (u : Nat) (h : u ≤ 4611686018427387904) : refLoop 0 (Lib.decDigits u) = some u := by
  induction u using Nat.strongRecOn with
  | _ u ih =>
    by_cases h0 : u < 10
    · rw [dec_lt u h0]
      simp only [refLoop]
      rw [dig_nat u h0, if_neg (by omega)]
      simp
    · rw [dec_ge u h0, refLoop_snoc, ih (u / 10) (by omega) (by omega)]
      simp only [Option.bind_some]
      rw [dig_nat _ (by omega), if_neg (by omega)]
      congr 1
      omega
def refV (l : List UInt8) (m : Nat) : Int := if l.head? = some 45 then -(m : Int) else m
def refNum (l : List UInt8) : Option Int :=
  if l = [] ∨ 20 < l.length then none
  else match refLoop 0 (if l.head? = some 45 then l.tail else l) with
    | none => none
    | some m => if inR (refV l m) ∧ Lib.itoa (refV l m) = l then some (refV l m) else none
theorem refNum_iff (l : List UInt8) (v : Int) : refNum l = some v ↔ inR v ∧ l = Lib.itoa v := by
  unfold refNum
  constructor
  · intro h
    split at h
    · cases h
    · split at h
      · cases h
      · split at h
        · rename_i h1
          cases h
          exact ⟨h1.1, h1.2.symm⟩
        · cases h
  · rintro ⟨h1, rfl⟩
    have h1' := h1
    unfold inR at h1'
    unfold Lib.itoa
    by_cases h0 : v < 0
    · rw [if_pos h0]
      have hl := dec_len 19 v.natAbs (by omega) (by omega)
      rw [if_neg (by simp; omega)]
      simp only [List.head?_cons, List.tail_cons, if_true]
      rw [refLoop_dec v.natAbs (by omega)]
      have e : refV (45 :: Lib.decDigits v.natAbs) v.natAbs = v := by unfold refV; simp; omega
      simp only [e]
      rw [if_pos ⟨h1, by rw [if_pos h0]⟩]
    · rw [if_neg h0]
      have hl := dec_len 19 v.toNat (by omega) (by omega)
      obtain ⟨c, r, h2, h3, h4⟩ := dec_head v.toNat
      have hh : ¬ (Lib.decDigits v.toNat).head? = some 45 := by
        rw [h2]
        simp
        rintro rfl
        simp at h3
      rw [if_neg (by rw [h2]; rw [h2] at hl; simp at hl ⊢; omega), if_neg hh, refLoop_dec v.toNat (by omega)]
      have e : refV (Lib.decDigits v.toNat) v.toNat = v := by unfold refV; rw [if_neg hh]; omega
      simp only [e]
      rw [if_pos ⟨h1, by rw [if_neg h0]⟩]
theorem ref_prog (l : List UInt8) : refNum l = numP l := by
  cases h : numP l with
  | some v => exact (refNum_iff l v).2 ((numP_iff l v).1 h)
  | none =>
    cases h' : refNum l with
    | none => rfl
    | some v => rw [(numP_iff l v).2 ((refNum_iff l v).1 h')] at h; cases h
end Go.Proofs.YtpcfdpengbkplaaDoor
/-
 Texts, fields, numbers: what the book shares with letters (picked out of other texts by pick.py).
-/
namespace Go.Proofs.YtpcfdpengbkplaaDoor
open Go.RowKit
set_option maxHeartbeats 8000000
set_option maxRecDepth 100000
noncomputable def FdA : Fd → AV
 | ⟨name, value⟩ => .agg [.str name, .str value]
theorem VRel.str_eq {pub : Pub} {w : World} {r : Rho} {s : ByteArray} {v : Value} (h : VRel pub w r (.str s) v) : v = .string s := by cases h; rfl
theorem flat_fd : FlatE Fd.cells FdA := by
 rintro ⟨n, v⟩ j u hu
 match j with
 | 0 => cases hu; exact ⟨_, rfl, fun _ _ _ _ h => h.str_eq⟩
 | 1 => cases hu; exact ⟨_, rfl, fun _ _ _ _ h => h.str_eq⟩
 | j + 2 => simp [Fd.cells] at hu
/-- One answer behind the other: a text and a number. -/
theorem tup2 {pub : Pub} {w : World} {r : Rho} {a b : AV} {u v : Value} (h1 : VRel pub w r a u) (h2 : VRel pub w r b v) : VRel pub w r (.tup [a, b]) (.tuple #[u, v]) :=
 .tup rfl fun i x y hx hy => match i with
  | 0 => by cases hx; cases hy; exact h1
  | 1 => by cases hx; cases hy; exact h2
  | i + 2 => by simp at hx
noncomputable def TextC : Ctr := spec (fun l : List Fd => [.sl 2 (mapA FdA l)]) (fun _ => []) (fun l => ∀ f ∈ l, f.name.size ≤ maxLen) (fun l => .tup [.str ⟨(textS l).toArray⟩, .i (textC l)]) fun _ => []
theorem k_text : FnOk Tryd.prog 41 TextC := fn_add fun l hp pub w vals hf _ hv => by
 obtain ⟨u, us', hl, h1, h2⟩ := hv.cons_inv
 have h3 := h2.nil_inv
 subst h3
 obtain ⟨A, c, rfl, _, _, _, hL⟩ := h1.lst flat_fd
 have h4 : vals = #[.slice A l.length c] := Array.toList_inj.1 (by simpa using hl)
 subst h4
 refine (text_any l A _ c w hL hp).mono fun e w' ⟨he, hb⟩ => ?_
 exact AddPost.plain he hb hf (tup2 (.str _) (.int _ _))
theorem K_of {K : AV → List Ent → Prop} {x y : AV} {H : List Ent} (h : K y H) (e : x = y) : K x H := e ▸ h
theorem K_bl {K : AV → List Ent → Prop} {b c : Bool} {H : List Ent} (h : K (.bl c) H) (e : b = c) : K (.bl b) H := e ▸ h
theorem K_i {K : AV → List Ent → Prop} {b c : Int} {H : List Ent} (h : K (.i c) H) (e : b = c) : K (.i b) H := e ▸ h
def StrC (p : ByteArray → Prop) (g : ByteArray → Bool) : Ctr := spec (fun s : ByteArray => [.str s]) (fun _ => []) p (fun s => .bl (g s)) fun _ => []
def shortS (s : ByteArray) : Prop := s.size ≤ maxLen
theorem K_s {K : AV → List Ent → Prop} {b c : ByteArray} {H : List Ent} (h : K (.str c) H) (e : b = c) : K (.str b) H := e ▸ h
structure NamesS (l : List Fd) : Prop where
 len : l.length ≤ maxLen
 each : ∀ f ∈ l, f.name.size ≤ maxLen
theorem callG_eq {P : Program} {keep : List Nat} {f : Nat} {args args' : List AV} {st : St} {K : AV → St → Prop} (e : args = args') (h : CallG P keep f args' st K) : CallG P keep f args st K := e ▸ h
noncomputable def eqB {α : Type} (a b : α) : Bool := @decide (a = b) (Classical.propDecidable _)
theorem eqB_true {α : Type} {a b : α} (h : a = b) : eqB a b = true := by unfold eqB; exact @decide_eq_true _ (Classical.propDecidable _) h
theorem eqB_false {α : Type} {a b : α} (h : ¬ a = b) : eqB a b = false := by unfold eqB; exact @decide_eq_false _ (Classical.propDecidable _) h
def EqTo {α : Type} (l m : List α) (k : Nat) : Prop := ∀ j, j < k → l[j]? = m[j]?
theorem EqTo.zero {α : Type} (l m : List α) : EqTo l m 0 := fun j h => absurd h (Nat.not_lt_zero j)
theorem EqTo.succ {α : Type} {l m : List α} {k : Nat} {x : α} (h : EqTo l m k) (hl : l[k]? = some x) (hm : m[k]? = some x) : EqTo l m (k + 1) := fun j hj => by
 by_cases e : j = k
 ·subst e; rw [hl, hm]
 ·exact h j (by omega)
theorem EqTo.all {α : Type} {l m : List α} (hl : l.length = m.length) (h : EqTo l m l.length) : l = m := List.ext_getElem? fun j => by
 rcases Nat.lt_or_ge j l.length with h1 | h1
 ·exact h j h1
 ·rw [List.getElem?_eq_none h1, List.getElem?_eq_none (by omega)]
theorem ne_at {α : Type} {l m : List α} {k : Nat} {x y : α} (hl : l[k]? = some x) (hm : m[k]? = some y) (h : ¬ x = y) : ¬ l = m := fun e => h (by subst e; rw [hl] at hm; exact Option.some.inj hm)
noncomputable def EqLC {α : Type} (sz : Nat) (F : α → AV) : Ctr := spec (fun q : List α × List α => [.sl sz (mapA F q.1), .sl sz (mapA F q.2)]) (fun _ => []) (fun q => q.1.length ≤ 9223372036854775807 ∧ q.2.length ≤ 9223372036854775807) (fun q => .bl (eqB q.1 q.2)) fun _ => []
theorem refF_body (P : Program) : BodyOk P x27 (EqLC 2 FdA) := by
 intro args H K hc
 obtain ⟨⟨l, m⟩, rfl, rfl, ⟨hp1, hp2⟩, hK⟩ := hc
 refine ⟨Nat.le_of_ble_eq_true rfl, ?_⟩
 dsimp only at hK hp1 hp2 ⊢
 have no : ¬ l = m → K (.bl false) [] := fun h => K_bl hK (eqB_false h).symm
 have yes : l = m → K (.bl true) [] := fun h => K_bl hK (eqB_true h).symm
 clear hK
 have h1 := mapA_len FdA l
 have h2 := mapA_len FdA m
 cbv; repeat' ((first | refine .mk (fun h => ?_) fun h => ?_ | refine .k fun z hz => ?_ | fail) <;> cbv)
 rotate_left
 ·exact FinK.mk ⟨_, Gh.refl _, .inl (CutK.val rfl (Le.refl _) (no (by rintro rfl; exact h ((by assumption : _ = _).trans (by symm; assumption)))))⟩
 have hlm : l.length = m.length := by ((try simp only [vn] at *) <;> omega)
 refine xloopV [] (fun p : { k : Nat // k ≤ l.length ∧ EqTo l m k } => [(5, .i (nI p.1))]) (fun _ => []) (fun p => lft 9223372036854775808 p.1) ⟨0, Nat.zero_le _, .zero l m⟩ ?_
 rintro ⟨k, hk, hf⟩
 dsimp only
 cbv; repeat' ((first | refine .mk (fun h => ?_) fun h => ?_ | refine .k fun z hz => ?_ | fail) <;> cbv)
 ·refine askEl_int (by ((try simp only [vn] at *) <;> omega)) (by ((try simp only [vn] at *) <;> omega)) fun i x hi hx => ?_
  obtain rfl : k = i := by ((try simp only [vn] at *) <;> omega)
  have hx0 := hx
  have key : ∀ y, m[k]? = some y → (¬ x = y → ¬ l = m) ∧ (x = y → EqTo l m (k + 1)) := fun y hy => ⟨ne_at hx0 hy, fun e => by subst e; exact hf.succ hx0 hy⟩
  obtain ⟨n1, v1⟩ := x
  cbv
  refine askEl_int (by ((try simp only [vn] at *) <;> omega)) (by ((try simp only [vn] at *) <;> omega)) fun j y hj hy => ?_
  obtain rfl : k = j := by ((try simp only [vn] at *) <;> omega)
  obtain ⟨ky1, ky2⟩ := key y hy
  obtain ⟨n2, v2⟩ := y
  cbv; repeat' ((first | refine .mk (fun h => ?_) fun h => ?_ | refine .k fun z hz => ?_ | fail) <;> cbv)
  ·obtain rfl : z = nI (k + 1) := by ((try simp only [vn] at *) <;> omega)
   exact roundV ⟨k + 1, by ((try simp only [vn] at *) <;> omega), ky2 (by rw [h.1, h.2.1])⟩ (lft_lt (by ((try simp only [vn] at *) <;> omega)))
  ·exact FinK.mk ⟨_, Gh.refl _, .inl (CutK.val rfl (Le.refl _) (no (ky1 (fun e => h (by cases e; exact ⟨rfl, rfl, trivial⟩)))))⟩
 ·obtain rfl : k = l.length := by ((try simp only [vn] at *) <;> omega)
  exact FinK.mk ⟨_, Gh.refl _, .inl (CutK.val rfl (Le.refl _) (yes (hf.all hlm)))⟩
theorem k_refText : FnOk Tryd.prog 50 TextC := fn_add fun l hp pub w vals hf _ hv => by
 obtain ⟨u, us', hl, h1, h2⟩ := hv.cons_inv
 have h3 := h2.nil_inv
 subst h3
 obtain ⟨A, c, rfl, _, _, _, hL⟩ := h1.lst flat_fd
 have h4 : vals = #[.slice A l.length c] := Array.toList_inj.1 (by simpa using hl)
 subst h4
 refine (refText_any l A _ c w hL hp).mono fun e w' ⟨he, hb⟩ => ?_
 exact AddPost.plain he hb hf (tup2 (.str _) (.int _ _))
end Go.Proofs.YtpcfdpengbkplaaDoor
/-
 Book: decimal letters, a record kept (picked out of other texts by pick.py).
-/
namespace Go.Proofs.YtpcfdpengbkplaaDoor
open Go.RowKit
set_option maxHeartbeats 8000000
set_option maxRecDepth 100000
def laysM171_ren : Go.Shelf.Ren := ⟨fun | 171 => 42 | 243 => 69 | 246 => 77 | 283 => 90 | 284 => 91 | 285 => 92 | 286 => 93 | 129 => 103 | 317 => 102 | 318 => 104 | 319 => 105 | 320 => 106 | 337 => 108 | 338 => 109 | n => n, fun | 3 => 3 | 9 => 9 | 2 => 2 | 4 => 4 | 171 => 120 | 0 => 0 | 53 => 91 | 37 => 85 | 5 => 5 | 173 => 123 | 212 => 133 | 51 => 134 | 20 => 20 | 213 => 135 | 46 => 93 | 232 => 144 | 233 => 145 | n => n, fun | 17 => 3 | 18 => 4 | 19 => 5 | n => n⟩
theorem laysM171 : Go.Proofs.LaysM.n171 Tryd.prog laysM171_ren := {
 mixed := by kernel_rfl
 f129 := Tryd.func103.trans (congrArg some (by kernel_rfl))
 f171 := Tryd.func42.trans (congrArg some (by kernel_rfl))
 f243 := Tryd.func69.trans (congrArg some (by kernel_rfl))
 f246 := Tryd.func77.trans (congrArg some (by kernel_rfl))
 f283 := Tryd.func90.trans (congrArg some (by kernel_rfl))
 f284 := Tryd.func91.trans (congrArg some (by kernel_rfl))
 f285 := Tryd.func92.trans (congrArg some (by kernel_rfl))
 f286 := Tryd.func93.trans (congrArg some (by kernel_rfl))
 f317 := Tryd.func102.trans (congrArg some (by kernel_rfl))
 f318 := Tryd.func104.trans (congrArg some (by kernel_rfl))
 f319 := Tryd.func105.trans (congrArg some (by kernel_rfl))
 f320 := Tryd.func106.trans (congrArg some (by kernel_rfl))
 f337 := Tryd.func108.trans (congrArg some (by kernel_rfl))
 f338 := Tryd.func109.trans (congrArg some (by kernel_rfl))
 t0 := Tryd.underlying0
 a0 := Tryd.isAgg0
 z0 := Tryd.sizeOf0
 v0 := Tryd.zeroValue0
 t2 := Tryd.underlying2
 a2 := Tryd.isAgg2
 z2 := Tryd.sizeOf2
 v2 := Tryd.zeroValue2
 t3 := Tryd.underlying3
 a3 := Tryd.isAgg3
 z3 := Tryd.sizeOf3
 v3 := Tryd.zeroValue3
 t4 := Tryd.underlying4
 a4 := Tryd.isAgg4
 z4 := Tryd.sizeOf4
 v4 := Tryd.zeroValue4
 t5 := Tryd.underlying5
 a5 := Tryd.isAgg5
 z5 := Tryd.sizeOf5
 v5 := Tryd.zeroValue5
 t9 := Tryd.underlying9
 a9 := Tryd.isAgg9
 z9 := Tryd.sizeOf9
 v9 := Tryd.zeroValue9
 t20 := Tryd.underlying20
 a20 := Tryd.isAgg20
 z20 := Tryd.sizeOf20
 v20 := Tryd.zeroValue20
 t37 := Tryd.underlying85
 a37 := Tryd.isAgg85
 z37 := Tryd.sizeOf85
 v37 := Tryd.zeroValue85
 t46 := Tryd.underlying93
 a46 := Tryd.isAgg93
 z46 := Tryd.sizeOf93
 v46 := Tryd.zeroValue93
 t51 := Tryd.underlying134
 a51 := Tryd.isAgg134
 z51 := Tryd.sizeOf134
 v51 := Tryd.zeroValue134
 t53 := Tryd.underlying91
 a53 := Tryd.isAgg91
 z53 := Tryd.sizeOf91
 v53 := Tryd.zeroValue91
 t171 := Tryd.underlying120
 a171 := Tryd.isAgg120
 z171 := Tryd.sizeOf120
 v171 := Tryd.zeroValue120
 t173 := Tryd.underlying123
 a173 := Tryd.isAgg123
 z173 := Tryd.sizeOf123
 v173 := Tryd.zeroValue123
 t212 := Tryd.underlying133
 a212 := Tryd.isAgg133
 z212 := Tryd.sizeOf133
 v212 := Tryd.zeroValue133
 t213 := Tryd.underlying135
 a213 := Tryd.isAgg135
 z213 := Tryd.sizeOf135
 t232 := Tryd.underlying144
 a232 := Tryd.isAgg144
 z232 := Tryd.sizeOf144
 v232 := Tryd.zeroValue144
 t233 := Tryd.underlying145
 a233 := Tryd.isAgg145
 z233 := Tryd.sizeOf145
 v233 := Tryd.zeroValue145
 g17 := by kernel_rfl
 g18 := by kernel_rfl
 g19 := by kernel_rfl
 i0 := by kernel_rfl
 i2 := by kernel_rfl
 i3 := by kernel_rfl
 i4 := by kernel_rfl
 i5 := by kernel_rfl
 i9 := by kernel_rfl
 i20 := by kernel_rfl
 i37 := by kernel_rfl
 i46 := by kernel_rfl
 i51 := by kernel_rfl
 i53 := by kernel_rfl
 i171 := by kernel_rfl
 i173 := by kernel_rfl
 i212 := by kernel_rfl
 i232 := by kernel_rfl
 i233 := by kernel_rfl
 m17 := by kernel_rfl
 m18 := by kernel_rfl
 m19 := by kernel_rfl }
theorem below_grow (w : World) (k : Nat) (os : Array Obj) : Below w.heap.size w (Sort.grow (w.drewN k) os) :=
 ⟨rfl, rfl, rfl, by simp [Sort.grow, World.drewN], fun j hj => by
  show ((w.drewN k).heap ++ os)[j]? = _
  rw [Array.getElem?_append_left (by exact hj)]
  rfl⟩
theorem tab_of_glob {pub : Pub} {w : World} (h : GlobOk pub w) : Lib.TabIs Tryd.prog w "internal/strconv.uint64pow10" .u64 Lib.pow10Tab := by
 obtain ⟨t, fz, hb⟩ := h.block (g := 3) (by show 0 < 20; omega)
 have hg : Tryd.prog.globalNamed "internal/strconv.uint64pow10" = some 3 := by kernel_rfl
 unfold Lib.TabIs World.var?
 rw [hg]
 simp only [Option.bind_some]
 rw [hb]
 rfl
def itoS (n : Int) : ByteArray := ⟨(Lib.itoa n).toArray⟩
def ItoC (ito : Int → ByteArray) : Ctr := spec (fun n : Int => [.i n]) (fun _ => []) (fun n => -9223372036854775808 ≤ n ∧ n ≤ 9223372036854775807) (fun n => .str (ito n)) fun _ => []
theorem k_itoa : FnOk Tryd.prog 42 (ItoC itoS) := fn_add fun n hp pub w vals hf hg hv => by
 obtain ⟨u, us', hl, h1, h2⟩ := hv.cons_inv
 have h3 := h2.nil_inv
 subst h3
 cases h1
 have h4 : vals = #[.int .i64 n] := Array.toList_inj.1 (by simpa using hl)
 subst h4
 refine (Any.strconv_Itoa laysM171 n hp.1 hp.2 w (tab_of_glob hg)).mono fun e w' ⟨he, k, os, hw⟩ => ?_
 subst hw
 exact AddPost.plain he (below_grow w k os) hf (.str _)

open Go.Sort Go.Lib in
def FldC : Ctr := spec (fun f : Fd => [.agg [.str f.name, .str f.value]]) (fun _ => []) (fun f => f.name.size ≤ maxLen) (fun f => .bl (mayF f)) fun _ => []
theorem rfmay_body (P : Program) (hn : FnOk P 71 (StrC shortS nameB)) : BodyOk P x47 FldC := by
 intro args H K hc
 obtain ⟨⟨n, v⟩, rfl, rfl, hp, hK⟩ := hc
 refine ⟨Nat.le_of_ble_eq_true rfl, ?_⟩
 unfold mayF at hK
 dsimp only at hp hK ⊢
 obtain ⟨b, hb⟩ : ∃ b, b = nameB n := ⟨_, rfl⟩
 rw [← hb] at hK
 cbv
 refine callG_spec0 hn n hp rfl rfl rfl ?_
 rw [← hb]
 cases b
 ·cbv
  exact FinK.mk ⟨_, Gh.refl _, .inl (CutK.val rfl (Le.refl _) (K_bl hK (by rfl)))⟩
 ·cbv; repeat' ((first | refine .mk (fun h => ?_) fun h => ?_ | refine .k fun z hz => ?_ | fail) <;> cbv)
  all_goals exact FinK.mk ⟨_, Gh.refl _, .inl (CutK.val rfl (Le.refl _) (K_bl hK (by (simp; ((try simp only [vn] at *) <;> omega)))))⟩
def DigK (k : Nat) : Ctr := spec (fun n : Int => [.i n]) (fun _ => []) (fun n => n.natAbs = k ∧ -9223372036854775808 ≤ n ∧ n ≤ 9223372036854775807) (fun n => .str (itoS n)) fun _ => []
theorem strOf_one {z : Int} {d : Nat} (hd : d < 10) (h : z = IntKind.u8.wrap (48 + (d : Int))) : strOf [z] = ⟨#[UInt8.ofNat (48 + d)]⟩ := by
 have e : z = ((48 + d : Nat) : Int) := by rw [h, IntKind.wrap_u8]; omega
 rw [e]; rfl
theorem itoS_small {n : Int} (h0 : 0 ≤ n) (h1 : n < 10) {z1 z : Int} (e1 : z1 = 48 + n) (e2 : z = IntKind.u8.wrap z1) : itoS n = strOf [z] := by
 obtain ⟨m, rfl⟩ : ∃ m : Nat, n = m := ⟨n.toNat, by omega⟩
 rw [strOf_one (d := m) (by omega) (by rw [e2, e1])]
 unfold itoS
 rw [Lib.itoa_nonneg, dec_lt m (by omega)]
theorem itoS_big {n : Int} (h0 : 10 ≤ n) {q r z1 z : Int} (eq : q = n.tdiv 10) (er : r = n.tmod 10) (e1 : z1 = 48 + r) (e2 : z = IntKind.u8.wrap z1) : itoS n = itoS q ++ strOf [z] := by
 obtain ⟨m, rfl⟩ : ∃ m : Nat, n = m := ⟨n.toNat, by omega⟩
 have er' : r = ((m % 10 : Nat) : Int) := er
 have eq' : q = ((m / 10 : Nat) : Int) := eq
 rw [strOf_one (d := m % 10) (by omega) (by rw [e2, e1, er']), eq']
 unfold itoS
 rw [Lib.itoa_nonneg, Lib.itoa_nonneg, dec_ge m (by omega)]
 apply ByteArray.ext
 simp
theorem itoS_nsmall {n : Int} (h0 : n < 0) (h1 : -10 < n) {z1 z : Int} (e1 : z1 = 48 - n) (e2 : z = IntKind.u8.wrap z1) : itoS n = ⟨⟨[45]⟩⟩ ++ strOf [z] := by
 obtain ⟨m, rfl⟩ : ∃ m : Nat, n = -(m : Int) := ⟨n.natAbs, by omega⟩
 rw [strOf_one (d := m) (by omega) (by rw [e2, e1]; congr 1; omega)]
 unfold itoS
 rw [Lib.itoa_neg m (by omega), dec_lt m (by omega)]
 apply ByteArray.ext
 simp
theorem itoS_nbig {n : Int} (h0 : n ≤ -10) {q r z1 z : Int} (eq : q = n.tdiv 10) (er : r = n.tmod 10) (e1 : z1 = 48 - r) (e2 : z = IntKind.u8.wrap z1) : itoS n = itoS q ++ strOf [z] := by
 obtain ⟨m, rfl⟩ : ∃ m : Nat, n = -(m : Int) := ⟨n.natAbs, by omega⟩
 have er' : r = -((m % 10 : Nat) : Int) := by rw [er, Int.neg_tmod]; rfl
 have eq' : q = -((m / 10 : Nat) : Int) := by rw [eq, Int.neg_tdiv]; rfl
 rw [strOf_one (d := m % 10) (by omega) (by rw [e2, e1, er']; congr 1; omega), eq']
 unfold itoS
 rw [Lib.itoa_neg m (by omega), Lib.itoa_neg (m / 10) (by omega), dec_ge m (by omega)]
 apply ByteArray.ext
 simp
theorem tdiv10 (n : Int) : (n.tdiv 10).natAbs = n.natAbs / 10 := by
 rw [Int.natAbs_tdiv]; rfl
theorem itoS_size {q : Int} (h : q.natAbs < 100000000000000000000) : (itoS q).size ≤ 21 := by
 have hd := dec_len 20 q.natAbs (by omega) h
 have : (itoS q).size = (Lib.itoa q).length := by simp [itoS, ByteArray.size]
 rw [this]
 unfold Lib.itoa
 split
 ·simp only [List.length_cons]; omega
 ·rw [show q.toNat = q.natAbs by omega]; omega
theorem rdig_step (P : Program) (k : Nat) (ih : ∀ m, m < k → FnOk P 48 (DigK m)) : BodyOk P x48 (DigK k) := by
 intro args H K hc
 obtain ⟨n, rfl, rfl, hp, hK⟩ := hc
 refine ⟨Nat.le_of_ble_eq_true rfl, ?_⟩
 dsimp only at hK hp ⊢
 have hq := tdiv10 n
 have h1 : ∀ z : Int, (strOf [z]).size = 1 := fun z => rfl
 have z45 : (ByteArray.mk (Array.mk [45])).size = 1 := rfl
 have qk : ∀ {K : Int → Prop}, (∀ q, q = n.tdiv 10 → q.natAbs = n.natAbs / 10 → K q) → QuoK .i64 n 10 K := fun h => ⟨⟨by decide, IntWalk.i64_in _ (by omega)⟩, fun z hz => h z hz (by rw [hz]; exact hq)⟩
 have rk : ∀ {K : Int → Prop}, (∀ r, r = n.tmod 10 → r.natAbs < 10 → K r) → RemK n 10 K := fun h => ⟨by decide, fun z hz => h z hz (by rw [hz, Int.natAbs_tmod]; exact Nat.mod_lt _ (by decide))⟩
 have small : ∀ q : Int, q.natAbs = n.natAbs / 10 → -9223372036854775808 ≤ q ∧ q ≤ 9223372036854775807 ∧ (itoS q).size ≤ 21 := fun q h => ⟨by omega, by omega, itoS_size (by omega)⟩
 cbv; repeat' ((first | refine .q fun z hz hz0 hz1 => ?_ | refine .mk (fun h => ?_) fun h => ?_ | refine .k fun z hz => ?_ | refine .u fun u hu hul => ?_ | refine .s fun s hs hsl => ?_ | refine And.intro ?_ ?_ | fail) <;> cbv)
 ·exact FinK.mk ⟨_, Gh.refl _, .inl (CutK.val rfl (Le.refl _) (K_s hK (by rw [itoS_nsmall (by assumption) (by assumption) (by assumption) (by assumption)]; subst_vars; rfl)))⟩
 ·refine qk fun q hq1 hq2 => ?_
  cbv
  refine rk fun r hr1 hr2 => ?_
  obtain ⟨sm1, sm2, sm3⟩ := small q hq2
  cbv; repeat' ((first | refine .k fun z hz => ?_ | refine .s fun s hs hsl => ?_ | refine And.intro ?_ ?_ | fail) <;> cbv)
  ·refine callG_spec0 (ih q.natAbs (by omega)) q ⟨rfl, sm1, sm2⟩ rfl rfl rfl ?_
   obtain ⟨w, hw⟩ : ∃ w, w = itoS q := ⟨_, rfl⟩
   rw [← hw] at sm3 ⊢
   cbv; repeat' ((first | refine .u fun u hu hul => ?_ | refine .s fun s hs hsl => ?_ | fail) <;> cbv)
   exact FinK.mk ⟨_, Gh.refl _, .inl (CutK.val rfl (Le.refl _) (K_s hK (by rw [itoS_nbig (by assumption) hq1 hr1 (by assumption) (by assumption), ← hw]; subst_vars; rfl)))⟩
  ·refine callG_spec0 (ih q.natAbs (by omega)) q ⟨rfl, sm1, sm2⟩ rfl rfl rfl ?_
   obtain ⟨w, hw⟩ : ∃ w, w = itoS q := ⟨_, rfl⟩
   rw [← hw] at sm3 ⊢
   cbv; repeat' ((first | refine .u fun u hu hul => ?_ | fail) <;> cbv)
   exact FinK.mk ⟨_, Gh.refl _, .inl (CutK.val rfl (Le.refl _) (K_s hK (by rw [itoS_nbig (by assumption) hq1 hr1 (by assumption) (by assumption), ← hw]; subst_vars; rfl)))⟩
 ·exact FinK.mk ⟨_, Gh.refl _, .inl (CutK.val rfl (Le.refl _) (K_s hK (by rw [itoS_small (by assumption) (by assumption) (by assumption) (by assumption)]; subst_vars; rfl)))⟩
 all_goals
  rename_i q hq1 _ _ r hr1 _ _
  obtain ⟨sm1, sm2, sm3⟩ := small q (by rw [hq1]; exact hq)
  have hq2 : q.natAbs = n.natAbs / 10 := by rw [hq1]; exact hq
  refine callG_spec0 (ih q.natAbs (by omega)) q ⟨rfl, sm1, sm2⟩ rfl rfl rfl ?_
  obtain ⟨w, hw⟩ : ∃ w, w = itoS q := ⟨_, rfl⟩
  rw [← hw] at sm3 ⊢
  cbv; repeat' ((first | refine .u fun u hu hul => ?_ | refine .s fun s hs hsl => ?_ | fail) <;> cbv)
  exact FinK.mk ⟨_, Gh.refl _, .inl (CutK.val rfl (Le.refl _) (K_s hK (by rw [itoS_big (by assumption) hq1 hr1 (by assumption) (by assumption), ← hw]; subst_vars; rfl)))⟩
theorem k_rdig {P : Program} (h : cFn P 48 = some x48) : FnOk P 48 (ItoC itoS) := by
 have key : ∀ k, FnOk P 48 (DigK k) := fun k => by
  induction k using Nat.strongRecOn with
  | _ k ih => exact body_ok h (rdig_step P k ih)
 intro args H K ⟨n, h1, h2, h3, h4⟩
 exact key n.natAbs args H K ⟨n, h1, h2, ⟨rfl, h3⟩, h4⟩
end Go.Proofs.YtpcfdpengbkplaaDoor
/-
  Functions of the program as code on abstract values (printed by xgen.sh).
-/
namespace Go.Proofs.YtpcfdpengbkplaaDoor
def x53 : XFn := ⟨13, .seq (.reg [(zs 4 (.mov (.c (.str ⟨#[]⟩)))), (zs 5 (.mov (.c (.str ⟨#[]⟩)))), (zs 6 (.mov (.c (.bl false))))]) (.seq (.reg [(zm 7 0), (zm 8 1), (zs 9 (.call 74 [.t 7, .t 8])), (zs 10 (.ext (.t 9) 0)), (zs 11 (.ext (.t 9) 1)), (zs 12 (.ext (.t 9) 2)), (zm 4 10), (zm 5 11), (zm 6 12)]) .ret), [.tmp 4, .tmp 5, .tmp 6]⟩
def x74 : XFn := ⟨23, .seq (.reg [(zs 4 (.mov (.c (.str ⟨#[]⟩)))), (zs 5 (.mov (.c (.str ⟨#[]⟩)))), (zs 6 (.mov (.c (.bl false))))]) (.seq (.seq (.reg [(zm 8 0), (zm 9 1), (zs 10 (.call 84 [.t 8, .t 9])), (zm 7 10)]) (.seq (.reg [(zm 11 7), (zs 12 (.cmp .geq (.t 11) (.c (.int .i64 0))))]) (.cond (.t 12) (.seq (.dreg (.take 0 (zm 13 0) (.take 1 (zm 14 7) (.take 2 (zs 15 (.sls (.t 13) none (some (.t 14)))) (.take 3 (zm 16 0) (.take 4 (zm 17 7) (.take 5 (zm 18 1) (.take 6 (zs 19 (.lens (.t 18))) (.take 7 (zs 20 (.ari .add .i64 (.t 17) (.t 19))) (.take 8 (zs 21 (.sls (.t 16) (some (.t 20)) none)) (.take 9 (zm 4 15) (.take 10 (zm 5 21) (.take 11 (zs 6 (.mov (.c (.bl true)))) .nil)))))))))))) 0 [1]) .ret) .skip))) (.seq (.reg [(zm 22 0), (zm 4 22), (zs 5 (.mov (.c (.str ⟨#[]⟩)))), (zs 6 (.mov (.c (.bl false))))]) .ret)), [.tmp 4, .tmp 5, .tmp 6]⟩
end Go.Proofs.YtpcfdpengbkplaaDoor
/-
  strings.IndexByte, strings.Cut at one byte: the library contracts at this program.
-/
namespace Go.Proofs.YtpcfdpengbkplaaDoor
open Go.Shelf Go.RowKit Go.Lib

def lays137_ren : Go.Shelf.Ren := ⟨fun | 137 => 52 | 217 => 73 | 266 => 83 | n => n, fun | 9 => 9 | 5 => 5 | 3 => 3 | n => n, fun | n => n⟩
theorem lays137 : Go.Proofs.Lays.n137 Tryd.prog lays137_ren := {
  mixed := by kernel_rfl
  f137 := Tryd.func52.trans (congrArg some (by kernel_rfl))
  f217 := Tryd.func73.trans (congrArg some (by kernel_rfl))
  f266 := Tryd.func83.trans (congrArg some (by kernel_rfl))
  t3 := Tryd.underlying3
  a3 := Tryd.isAgg3
  z3 := Tryd.sizeOf3
  v3 := Tryd.zeroValue3
  t5 := Tryd.underlying5
  a5 := Tryd.isAgg5
  z5 := Tryd.sizeOf5
  v5 := Tryd.zeroValue5
  t9 := Tryd.underlying9
  a9 := Tryd.isAgg9
  z9 := Tryd.sizeOf9
  v9 := Tryd.zeroValue9 }
def lays219_ren : Go.Shelf.Ren := ⟨fun | 219 => 84 | 217 => 73 | 225 => 95 | 224 => 96 | 267 => 97 | 266 => 83 | 314 => 107 | n => n, fun | 9 => 9 | 3 => 3 | 4 => 4 | 5 => 5 | 46 => 93 | 146 => 138 | 51 => 134 | n => n, fun | 1 => 0 | n => n⟩
theorem lays219 : Go.Proofs.Lays.n219 Tryd.prog lays219_ren := {
  mixed := by kernel_rfl
  f217 := Tryd.func73.trans (congrArg some (by kernel_rfl))
  f219 := Tryd.func84.trans (congrArg some (by kernel_rfl))
  f224 := Tryd.func96.trans (congrArg some (by kernel_rfl))
  f225 := Tryd.func95.trans (congrArg some (by kernel_rfl))
  f266 := Tryd.func83.trans (congrArg some (by kernel_rfl))
  f267 := Tryd.func97.trans (congrArg some (by kernel_rfl))
  f314 := Tryd.func107.trans (congrArg some (by kernel_rfl))
  t3 := Tryd.underlying3
  a3 := Tryd.isAgg3
  z3 := Tryd.sizeOf3
  v3 := Tryd.zeroValue3
  t4 := Tryd.underlying4
  a4 := Tryd.isAgg4
  z4 := Tryd.sizeOf4
  v4 := Tryd.zeroValue4
  t5 := Tryd.underlying5
  a5 := Tryd.isAgg5
  z5 := Tryd.sizeOf5
  v5 := Tryd.zeroValue5
  t9 := Tryd.underlying9
  a9 := Tryd.isAgg9
  z9 := Tryd.sizeOf9
  v9 := Tryd.zeroValue9
  t46 := Tryd.underlying93
  a46 := Tryd.isAgg93
  z46 := Tryd.sizeOf93
  v46 := Tryd.zeroValue93
  t51 := Tryd.underlying134
  a51 := Tryd.isAgg134
  z51 := Tryd.sizeOf134
  v51 := Tryd.zeroValue134
  t146 := Tryd.underlying138
  a146 := Tryd.isAgg138
  z146 := Tryd.sizeOf138
  v146 := Tryd.zeroValue138
  g1 := by kernel_rfl }

theorem indexByte_any (s : ByteArray) (c : UInt8) (x : Int) (hx : x = c.toNat) (w : World) :
    Calls Tryd.prog 52 #[.string s, .int .u8 x] w fun e w1 => e = .returned (.int .i64 (Lib.indexByte s.data.toList c)) ∧ w = w1 :=
  (Any.strings_IndexByte lays137 s x w).mono fun e w1 ⟨h1, h2⟩ => ⟨by
    have e1 : x.toNat.toUInt8 = c := by subst hx; simp
    rw [e1] at h1
    exact h1, h2.symm⟩
theorem index_one (s : ByteArray) (c : UInt8) (w : World) :
    Calls Tryd.prog 84 #[.string s, .string ⟨#[c]⟩] w fun e w1 => e = .returned (.int .i64 (Lib.indexByte s.data.toList c)) ∧ w = w1 :=
  (Any.stringslite_Index_one lays219 s c w).mono fun e w1 ⟨h1, h2⟩ => ⟨h1, h2.symm⟩
end Go.Proofs.YtpcfdpengbkplaaDoor
/-
  Reading a record's text, in plain words: what is read, or the line at which it goes wrong and why; it is the inverse of writing.
-/
namespace Go.Proofs.YtpcfdpengbkplaaDoor
def cutL (c : UInt8) : List UInt8 → Option (List UInt8 × List UInt8)
  | [] => none
  | x :: r => if x = c then some ([], r) else match cutL c r with
    | some (a, b) => some (x :: a, b)
    | none => none
theorem cutL_some {c : UInt8} : ∀ {l a b : List UInt8}, cutL c l = some (a, b) → l = a ++ c :: b ∧ ∀ x ∈ a, x ≠ c
  | [], _, _, h => by cases h
  | x :: r, a, b, h => by
    unfold cutL at h
    split at h
    · rename_i e; cases h; exact ⟨by rw [e]; rfl, fun y hy => (by cases hy)⟩
    · rename_i e
      cases hc : cutL c r with
      | none => rw [hc] at h; cases h
      | some p =>
        obtain ⟨a1, b1⟩ := p
        rw [hc] at h
        cases h
        obtain ⟨h1, h2⟩ := cutL_some hc
        refine ⟨by rw [h1]; rfl, fun y hy => ?_⟩
        rcases List.mem_cons.1 hy with rfl | hy
        · exact e
        · exact h2 y hy
theorem cutL_none {c : UInt8} : ∀ {l : List UInt8}, cutL c l = none → ∀ x ∈ l, x ≠ c
  | [], _, x, hx => by cases hx
  | y :: r, h, x, hx => by
    unfold cutL at h
    split at h
    · cases h
    · rename_i e
      cases hc : cutL c r with
      | some p => rw [hc] at h; cases h
      | none =>
        rcases List.mem_cons.1 hx with rfl | hx
        · exact e
        · exact cutL_none hc x hx
theorem cutL_at {c : UInt8} {b : List UInt8} : ∀ {a : List UInt8}, (∀ x ∈ a, x ≠ c) → cutL c (a ++ c :: b) = some (a, b)
  | [], _ => by unfold cutL; simp
  | x :: a, h => by
    have e : ¬ x = c := h x (List.mem_cons_self ..)
    show cutL c (x :: (a ++ c :: b)) = _
    unfold cutL
    rw [if_neg e, cutL_at fun y hy => h y (List.mem_cons_of_mem _ hy)]
theorem cutL_index {c : UInt8} : ∀ l : List UInt8, Lib.indexByte l c = match cutL c l with
    | some (a, _) => (a.length : Int)
    | none => -1 := fun l => by
  cases h : cutL c l with
  | none =>
    have h2 := cutL_none h
    dsimp only
    clear h
    induction l with
    | nil => rfl
    | cons x r ih =>
      have e := ih fun y hy => h2 y (List.mem_cons_of_mem _ hy)
      have hx : ¬ x = c := h2 x (List.mem_cons_self ..)
      unfold Lib.indexByte
      rw [e]
      simp [hx]
  | some p =>
    obtain ⟨a, b⟩ := p
    obtain ⟨h1, h2⟩ := cutL_some h
    rw [h1]
    exact index_here a b c h2
/-- A value as it was written, read back. -/
def unE : List UInt8 → Option (List UInt8)
  | [] => some []
  | [c] => if c = 92 then none else some [c]
  | c :: d :: r => if c = 92 then (if d = 92 then (unE r).map (92 :: ·) else if d = 110 then (unE r).map (10 :: ·) else none) else (unE (d :: r)).map (c :: ·)
theorem unE_esc1 (c : UInt8) (r : List UInt8) : unE (esc1 c ++ r) = (unE r).map (c :: ·) := by
  unfold esc1
  by_cases h : c = 92
  · subst h
    simp only [if_true, List.cons_append, List.nil_append]
    rw [unE]
    simp
  · rw [if_neg h]
    by_cases h2 : c = 10
    · subst h2
      simp only [if_true, List.cons_append, List.nil_append]
      rw [unE]
      simp
    · rw [if_neg h2]
      cases r with
      | nil => simp [unE, h]
      | cons d r => simp only [List.cons_append, List.nil_append]; rw [unE, if_neg h]
theorem unE_esc : ∀ v : List UInt8, unE (esc v) = some v
  | [] => rfl
  | c :: v => by
    show unE (esc1 c ++ esc v) = _
    rw [unE_esc1, unE_esc v]; rfl
theorem esc_unE : ∀ (t v : List UInt8), (∀ x ∈ t, x ≠ 10) → unE t = some v → esc v = t
  | [], v, _, h => by cases h; rfl
  | [c], v, hn, h => by
    rw [unE] at h
    split at h
    · cases h
    · rename_i hc
      cases h
      have : ¬ c = 10 := hn c (List.mem_cons_self ..)
      simp [esc, esc1, hc, this]
  | c :: d :: r, v, hn, h => by
    rw [unE] at h
    have hr : ∀ x ∈ r, x ≠ 10 := fun x hx => hn x (List.mem_cons_of_mem _ (List.mem_cons_of_mem _ hx))
    have hdr : ∀ x ∈ d :: r, x ≠ 10 := fun x hx => hn x (List.mem_cons_of_mem _ hx)
    split at h
    · rename_i hc
      subst hc
      split at h
      · rename_i hd
        subst hd
        obtain ⟨u, hu, rfl⟩ := Option.map_eq_some_iff.1 h
        have := esc_unE r u hr hu
        show esc1 92 ++ esc u = _
        rw [this]; rfl
      · split at h
        · rename_i _ hd
          subst hd
          obtain ⟨u, hu, rfl⟩ := Option.map_eq_some_iff.1 h
          have := esc_unE r u hr hu
          show esc1 10 ++ esc u = _
          rw [this]; rfl
        · cases h
    · rename_i hc
      obtain ⟨u, hu, rfl⟩ := Option.map_eq_some_iff.1 h
      have := esc_unE (d :: r) u hdr hu
      have hc10 : ¬ c = 10 := hn c (List.mem_cons_self ..)
      show esc1 c ++ esc u = _
      rw [this]
      unfold esc1
      rw [if_neg hc, if_neg hc10]; rfl
def valP (n v : List UInt8) : Option Fd := match unE v with
  | some u => if u.length ≤ 4096 then some ⟨⟨n.toArray⟩, ⟨u.toArray⟩⟩ else none
  | none => none
/-- A line that is a field. -/
def lineP (t : List UInt8) : Option Fd := match cutL 61 t with
  | some (n, v) => if nameB ⟨n.toArray⟩ then valP n v else none
  | none => none
theorem lineP_some {t : List UInt8} {f : Fd} (hn : ∀ x ∈ t, x ≠ 10) (h : lineP t = some f) : mayF f = true ∧ lineL f = t ++ [10] := by
  unfold lineP at h
  cases hc : cutL 61 t with
  | none => rw [hc] at h; cases h
  | some p =>
    obtain ⟨n, v⟩ := p
    rw [hc] at h
    dsimp only at h
    split at h
    · rename_i hb
      unfold valP at h
      cases hu : unE v with
      | none => rw [hu] at h; cases h
      | some u =>
        rw [hu] at h
        dsimp only at h
        split at h
        · rename_i hl
          cases h
          obtain ⟨h1, _⟩ := cutL_some hc
          have hv : ∀ x ∈ v, x ≠ 10 := fun x hx => hn x (by rw [h1]; exact List.mem_append_right _ (List.mem_cons_of_mem _ hx))
          have he := esc_unE v u hv hu
          have hsz : (⟨u.toArray⟩ : ByteArray).size = u.length := by simp [ByteArray.size]
          refine ⟨by unfold mayF; rw [hb, decide_eq_true (by dsimp only; rw [hsz]; exact hl)]; rfl, ?_⟩
          unfold lineL
          dsimp only
          rw [he, h1]
          simp
        · cases h
    · cases h
theorem lineP_line {f : Fd} (h : mayF f = true) : lineP (f.name.data.toList ++ 61 :: esc f.value.data.toList) = some f := by
  unfold mayF at h
  simp only [Bool.and_eq_true, decide_eq_true_eq] at h
  unfold lineP
  rw [cutL_at (name_no f.name h.1 61 (by decide))]
  dsimp only
  have e : (⟨f.name.data.toList.toArray⟩ : ByteArray) = f.name := rfl
  rw [e, if_pos h.1]
  unfold valP
  rw [unE_esc]
  dsimp only
  have hl : f.value.data.toList.length ≤ 4096 := by rw [Array.length_toList]; exact h.2
  rw [if_pos hl]
/-- What is read: the fields; or the line, and why not. -/
def parseG : Nat → List UInt8 → List Fd → List UInt8 → List Fd × Int × Int
  | n, cur, acc, [] => if cur = [] then (acc, 0, 0) else if 64 < n then ([], n, 7) else ([], n, 2)
  | n, cur, acc, c :: r => if c = 10 then (if 64 < n then ([], n, 7) else match lineP cur with
      | none => ([], n, 2)
      | some f => parseG (n + 1) [] (acc ++ [f]) r)
    else parseG n (cur ++ [c]) acc r
def parseS (s : List UInt8) : List Fd × Int × Int := parseG 1 [] [] s
theorem parseG_cut (n : Nat) (acc : List Fd) (r : List UInt8) : ∀ (t cur : List UInt8), (∀ x ∈ t, x ≠ 10) → parseG n cur acc (t ++ 10 :: r) = if 64 < n then ([], (n : Int), 7) else match lineP (cur ++ t) with
      | none => ([], n, 2)
      | some f => parseG (n + 1) [] (acc ++ [f]) r
  | [], cur, _ => by
    show parseG n cur acc (10 :: r) = _
    rw [parseG, if_pos rfl, List.append_nil]
  | c :: t, cur, h => by
    show parseG n cur acc (c :: (t ++ 10 :: r)) = _
    rw [parseG, if_neg (h c (List.mem_cons_self ..)), parseG_cut n acc r t (cur ++ [c]) fun x hx => h x (List.mem_cons_of_mem _ hx)]
    simp
theorem parseG_end (n : Nat) (acc : List Fd) : ∀ (t cur : List UInt8), (∀ x ∈ t, x ≠ 10) → parseG n cur acc t = if cur ++ t = [] then (acc, 0, 0) else if 64 < n then ([], (n : Int), 7) else ([], n, 2)
  | [], cur, _ => by rw [parseG, List.append_nil]
  | c :: t, cur, h => by
    rw [parseG, if_neg (h c (List.mem_cons_self ..)), parseG_end n acc t (cur ++ [c]) fun x hx => h x (List.mem_cons_of_mem _ hx)]
    simp
theorem parseG_textL : ∀ (gs : List Fd) (n : Nat) (acc : List Fd) (r : List UInt8), (∀ f ∈ gs, mayF f = true) → n + gs.length ≤ 65 → parseG n [] acc (textL gs ++ r) = parseG (n + gs.length) [] (acc ++ gs) r
  | [], n, acc, r, _, _ => by simp [textL]
  | g :: gs, n, acc, r, hm, hl => by
    have hg := hm g (List.mem_cons_self ..)
    have e : textL (g :: gs) ++ r = (g.name.data.toList ++ 61 :: esc g.value.data.toList) ++ 10 :: (textL gs ++ r) := by
      show lineL g ++ textL gs ++ r = _
      unfold lineL
      simp
    have hb : nameB g.name = true := by unfold mayF at hg; simp only [Bool.and_eq_true] at hg; exact hg.1
    have hno : ∀ x ∈ g.name.data.toList ++ 61 :: esc g.value.data.toList, x ≠ 10 := fun x hx => by
      rcases List.mem_append.1 hx with h | h
      · exact name_no g.name hb 10 (by decide) x h
      · rcases List.mem_cons.1 h with rfl | h
        · decide
        · exact esc_no10 _ x h
    rw [e, parseG_cut n acc _ _ [] hno, if_neg (by simp only [List.length_cons] at hl; omega), List.nil_append, lineP_line hg]
    dsimp only
    rw [parseG_textL gs (n + 1) (acc ++ [g]) r (fun f hf => hm f (List.mem_cons_of_mem _ hf)) (by simp only [List.length_cons] at hl; omega)]
    have e2 : n + (gs.length + 1) = n + 1 + gs.length := by omega
    simp only [List.length_cons, List.append_assoc, List.singleton_append]
    rw [e2]
theorem parseG_ok : ∀ (r : List UInt8) (n : Nat) (cur : List UInt8) (acc fs : List Fd) (a : Int), (∀ x ∈ cur, x ≠ 10) → n ≤ 65 → parseG n cur acc r = (fs, a, 0) → ∃ gs, fs = acc ++ gs ∧ (∀ f ∈ gs, mayF f = true) ∧ textL gs = cur ++ r ∧ n + gs.length ≤ 65 ∧ a = 0
  | [], n, cur, acc, fs, a, hc, hn, h => by
    rw [parseG] at h
    split at h
    · rename_i e
      cases h
      exact ⟨[], by simp, fun f hf => (by cases hf), by rw [e]; rfl, by simpa using hn, rfl⟩
    · split at h
      · injection h with _ h; injection h with _ h; cases h
      · injection h with _ h; injection h with _ h; cases h
  | c :: r, n, cur, acc, fs, a, hc, hn, h => by
    rw [parseG] at h
    split at h
    · rename_i e
      subst e
      split at h
      · injection h with _ h; injection h with _ h; cases h
      · rename_i hn64
        cases hl : lineP cur with
        | none => rw [hl] at h; injection h with _ h; injection h with _ h; cases h
        | some f =>
          rw [hl] at h
          dsimp only at h
          obtain ⟨gs, rfl, hm, ht, hg, ha⟩ := parseG_ok r (n + 1) [] (acc ++ [f]) fs a (fun x hx => (by cases hx)) (by omega) h
          obtain ⟨hf, hfl⟩ := lineP_some hc hl
          refine ⟨f :: gs, by simp, fun g hg => ?_, ?_, by simp only [List.length_cons]; omega, ha⟩
          · rcases List.mem_cons.1 hg with rfl | hg
            · exact hf
            · exact hm g hg
          · show lineL f ++ textL gs = _
            rw [hfl, ht]; simp
    · rename_i e
      obtain ⟨gs, h1, h2, h3, h4⟩ := parseG_ok r n (cur ++ [c]) acc fs a (fun x hx => by
        rcases List.mem_append.1 hx with hx | hx
        · exact hc x hx
        · obtain rfl := List.mem_singleton.1 hx; exact e) hn h
      exact ⟨gs, h1, h2, by rw [h3]; simp, h4⟩
theorem parseG_full {n : Nat} (hn : 64 < n) (acc : List Fd) : ∀ (r cur : List UInt8), cur ++ r ≠ [] → parseG n cur acc r = ([], (n : Int), 7)
  | [], cur, h => by
    rw [List.append_nil] at h
    rw [parseG, if_neg h, if_pos hn]
  | c :: r, cur, h => by
    rw [parseG]
    split
    · rfl
    · exact parseG_full hn acc r (cur ++ [c]) (by simp)
/-- Read without an error is just what is written so. -/
theorem parseS_iff (s : List UInt8) (fs : List Fd) : (∃ a, parseS s = (fs, a, 0)) ↔ textC fs = 0 ∧ textS fs = s := by
  have key : textC fs = 0 ↔ fs.length ≤ 64 ∧ ∀ f ∈ fs, mayF f = true := by
    unfold textC
    split
    · exact ⟨fun h => (by cases h), fun h => (by omega)⟩
    · split
      · rename_i h1 h2
        exact ⟨fun _ => ⟨by omega, fun f hf => List.all_eq_true.1 h2 f hf⟩, fun _ => rfl⟩
      · rename_i h1 h2
        exact ⟨fun h => (by cases h), fun h => absurd (List.all_eq_true.2 fun f hf => h.2 f hf) h2⟩
  constructor
  · rintro ⟨a, h⟩
    obtain ⟨gs, h1, hm, ht, hg, _⟩ := parseG_ok s 1 [] [] fs a (fun x hx => (by cases hx)) (by omega) h
    rw [List.nil_append] at h1 ht
    subst h1
    have h0 := key.2 ⟨by omega, hm⟩
    exact ⟨h0, by unfold textS; rw [if_pos h0]; exact ht⟩
  · rintro ⟨h0, ht⟩
    unfold textS at ht
    rw [if_pos h0] at ht
    obtain ⟨hl, hm⟩ := key.1 h0
    refine ⟨0, ?_⟩
    unfold parseS
    have := parseG_textL fs 1 [] [] hm (by omega)
    rw [List.append_nil, ht] at this
    rw [this, parseG]
    simp
theorem parseS_line {s : List UInt8} {fs : List Fd} {a : Int} (h : parseS s = (fs, a, 0)) : a = 0 := (parseG_ok s 1 [] [] fs a (fun x hx => (by cases hx)) (by omega) h).choose_spec.2.2.2.2
theorem parseG_err : ∀ (r : List UInt8) (n : Nat) (cur : List UInt8) (acc fs : List Fd) (a e : Int), parseG n cur acc r = (fs, a, e) → e ≠ 0 → fs = [] ∧ (e = 7 ∨ e = 2) ∧ n ≤ a ∧ a ≤ n + r.length
  | [], n, cur, acc, fs, a, e, h, he => by
    rw [parseG] at h
    split at h
    · cases h; exact absurd rfl he
    · split at h <;> (cases h; simp)
  | c :: r, n, cur, acc, fs, a, e, h, he => by
    rw [parseG] at h
    simp only [List.length_cons]
    split at h
    · split at h
      · cases h; exact ⟨rfl, .inl rfl, by omega, by omega⟩
      · cases hl : lineP cur with
        | none => rw [hl] at h; cases h; exact ⟨rfl, .inr rfl, by omega, by omega⟩
        | some f =>
          rw [hl] at h
          obtain ⟨h1, h2, h3, h4⟩ := parseG_err r (n + 1) [] (acc ++ [f]) fs a e h he
          exact ⟨h1, h2, by omega, by omega⟩
    · obtain ⟨h1, h2, h3, h4⟩ := parseG_err r n (cur ++ [c]) acc fs a e h he
      exact ⟨h1, h2, h3, by omega⟩
end Go.Proofs.YtpcfdpengbkplaaDoor
/-
 Book: cuts and the parts of a text (picked out of other texts by pick.py).
-/
namespace Go.Proofs.YtpcfdpengbkplaaDoor
open Go.RowKit
set_option maxHeartbeats 8000000
set_option maxRecDepth 100000
/-- The place of a byte in a text. -/
def IdxC (c : UInt8) (z : Int) : Ctr := spec (fun s : ByteArray => [.str s, .int .u8 z]) (fun _ => []) (fun _ => True) (fun s => .i (Lib.indexByte s.data.toList c)) fun _ => []
theorem k_idx10 : FnOk Tryd.prog 52 (IdxC 10 10) := fn_pure fun s _ pub w vals hv => by
 obtain ⟨us, h1, hv⟩ := VRels.str_inv hv |>.imp fun _ h => h
 obtain ⟨us2, h2, hv⟩ := VRels.int_inv hv |>.imp fun _ h => h
 have h3 := hv.nil_inv
 have e : vals = #[.string s, .int .u8 10] := Array.toList_inj.1 (by rw [h1, h2, h3])
 rw [e]
 exact (indexByte_any s 10 10 (by decide) w).mono fun e w' ⟨he, hw⟩ => ⟨hw.symm, _, he, .int ..⟩
def Idx1C (c : UInt8) : Ctr := spec (fun s : ByteArray => [.str s, .str ⟨#[c]⟩]) (fun _ => []) (fun _ => True) (fun s => .i (Lib.indexByte s.data.toList c)) fun _ => []
theorem k_idx61 : FnOk Tryd.prog 84 (Idx1C 61) := fn_pure fun s _ pub w vals hv => by
 obtain ⟨us, h1, hv⟩ := VRels.str_inv hv |>.imp fun _ h => h
 obtain ⟨us2, h2, hv⟩ := VRels.str_inv hv |>.imp fun _ h => h
 have h3 := hv.nil_inv
 have e : vals = #[.string s, .string ⟨#[61]⟩] := Array.toList_inj.1 (by rw [h1, h2, h3])
 rw [e]
 exact (index_one s 61 w).mono fun e w' ⟨he, hw⟩ => ⟨hw.symm, _, he, .int ..⟩
/-- A text cut at the first of a byte. -/
def CutA (c : UInt8) (s : ByteArray) : AV := match cutL c s.data.toList with
 | some (a, b) => .tup [.str ⟨a.toArray⟩, .str ⟨b.toArray⟩, .bl true]
 | none => .tup [.str s, .str ⟨#[]⟩, .bl false]
def CutC (c : UInt8) : Ctr := spec (fun s : ByteArray => [.str s, .str ⟨#[c]⟩]) (fun _ => []) (fun s => s.size ≤ maxLen) (CutA c) fun _ => []
theorem bytes_sub {s : ByteArray} {a b : List UInt8} {c : UInt8} (h : s.data.toList = a ++ c :: b) : s.size = a.length + b.length + 1 ∧ s.extract 0 a.length = ⟨a.toArray⟩ ∧ s.extract (a.length + 1) s.size = ⟨b.toArray⟩ := by
 have hs : s = ⟨(a ++ c :: b).toArray⟩ := ByteArray.ext (Array.toList_inj.1 h)
 have hz : s.size = a.length + b.length + 1 := by rw [hs]; simp [ByteArray.size]; omega
 refine ⟨hz, ?_, ?_⟩
 ·apply ByteArray.ext
  apply Array.toList_inj.1
  rw [ByteArray.data_extract, hs]
  simp
 ·apply ByteArray.ext
  apply Array.toList_inj.1
  rw [ByteArray.data_extract, hz, hs]
  have e : (a ++ c :: b).drop (a.length + 1) = b := by
   rw [show a.length + 1 = (a ++ [c]).length by simp, show a ++ c :: b = (a ++ [c]) ++ b by simp, List.drop_left]
  simp only [List.extract_toArray, List.extract_eq_take_drop]
  rw [e, List.take_of_length_le (by omega)]
theorem cut_body (P : Program) (h : FnOk P 84 (Idx1C 61)) : BodyOk P x74 (CutC 61) := by
 intro args H K hc
 obtain ⟨s, rfl, rfl, hp, hK⟩ := hc
 refine ⟨Nat.le_of_ble_eq_true rfl, ?_⟩
 dsimp only at hK ⊢
 unfold CutA at hK
 have hx := cutL_index (c := 61) s.data.toList
 cbv
 refine callG_spec0 h s trivial rfl rfl rfl ?_
 try dsimp only
 cases hcut : cutL 61 s.data.toList with
 | none =>
  rw [hcut] at hx hK
  dsimp only at hx hK
  rw [hx]
  cbv; repeat' ((first | refine .n fun h => ?_ | fail) <;> cbv)
  exact FinK.mk ⟨_, Gh.refl _, .inl (CutK.val rfl (Le.refl _) hK)⟩
 | some p =>
  obtain ⟨a, b⟩ := p
  rw [hcut] at hx hK
  dsimp only at hx hK
  obtain ⟨h1, h2, h3⟩ := bytes_sub (cutL_some hcut).1
  rw [hx]
  obtain ⟨n, hn⟩ : ∃ n, n = a.length := ⟨_, rfl⟩
  rw [← hn] at h1 h2 h3 ⊢
  have hp' : s.size ≤ maxLen := hp
  unfold maxLen at hp'
  cbv; repeat' ((first | refine .y fun h => ?_ | refine .k fun z hz => ?_ | refine .u fun u hu hul => ?_ | fail) <;> cbv)
  obtain rfl : z = 1 := by rw [hz]; rfl
  cbv; repeat' ((first | refine .k fun z hz => ?_ | refine .u fun u hu hul => ?_ | fail) <;> cbv)
  obtain rfl : z = nI (n + 1) := by ((try simp only [vn] at *) <;> omega)
  obtain rfl : u = ⟨b.toArray⟩ := hu.trans h3
  rename_i hu1 hul1 hz1
  obtain rfl := hu1.trans h2
  exact FinK.mk ⟨_, Gh.refl _, .inl (CutK.val rfl (Le.refl _) hK)⟩
theorem cutS_body (P : Program) (h : FnOk P 74 (CutC 61)) : BodyOk P x53 (CutC 61) := by
 intro args H K hc
 obtain ⟨s, rfl, rfl, hp, hK⟩ := hc
 refine ⟨Nat.le_of_ble_eq_true rfl, ?_⟩
 dsimp only at hK ⊢
 cbv
 cases hcut : cutL 61 s.data.toList with
 | none =>
  have e : CutA 61 s = .tup [.str s, .str ⟨#[]⟩, .bl false] := by unfold CutA; rw [hcut]
  refine callG_spec0 h s hp rfl (by rw [e]; rfl) rfl ?_
  rw [e] at hK ⊢
  cbv
  exact FinK.mk ⟨_, Gh.refl _, .inl (CutK.val rfl (Le.refl _) hK)⟩
 | some p =>
  obtain ⟨a, b⟩ := p
  have e : CutA 61 s = .tup [.str ⟨a.toArray⟩, .str ⟨b.toArray⟩, .bl true] := by unfold CutA; rw [hcut]
  refine callG_spec0 h s hp rfl (by rw [e]; rfl) rfl ?_
  rw [e] at hK ⊢
  cbv
  exact FinK.mk ⟨_, Gh.refl _, .inl (CutK.val rfl (Le.refl _) hK)⟩
theorem k_fisName : FnOk Tryd.prog 54 (StrC shortS nameB) := fn_strB fun s w hs => isName_any s w hs
end Go.Proofs.YtpcfdpengbkplaaDoor
/-
 Book: field.Parse (picked out of other texts by pick.py).
-/
namespace Go.Proofs.YtpcfdpengbkplaaDoor
open Go.RowKit
set_option maxHeartbeats 8000000
set_option maxRecDepth 100000
def byA (b : UInt8) : AV := .int .u8 (b.toNat : Int)
theorem bytesA_by : ∀ l : List UInt8, bytesA (mapA byA l) = some (l.map fun b => (b.toNat : Int))
 | [] => rfl
 | b :: l => by
  show (bytesA (mapA byA l)).map ((b.toNat : Int) :: ·) = _
  rw [bytesA_by l]; rfl
theorem strOf_by (l : List UInt8) : strOf (l.map fun b => (b.toNat : Int)) = ⟨l.toArray⟩ := by
 unfold strOf
 congr 2
 rw [List.map_map]
 conv => rhs; rw [← List.map_id l]
 exact List.map_congr_left fun b _ => by simp
theorem drop_at (s : ByteArray) {k : Nat} {c : UInt8} (h : s.data[k]? = some c) : s.data.toList.drop k = c :: s.data.toList.drop (k + 1) := by
 have hk : k < s.data.toList.length := by
  have := (Array.getElem?_eq_some_iff.1 h).1
  simpa using this
 rw [List.drop_eq_getElem_cons hk]
 congr 1
 have := (Array.getElem?_eq_some_iff.1 h).2
 simpa using this
theorem drop_end (s : ByteArray) {k : Nat} (h : s.size ≤ k) : s.data.toList.drop k = [] := List.drop_eq_nil_of_le (by rw [Array.length_toList]; exact h)
theorem unE_plain {c : UInt8} (r : List UInt8) (h : ¬ c = 92) : unE (c :: r) = (unE r).map (c :: ·) := by
 cases r with
 | nil =>
  have e : unE [c] = if c = 92 then none else some [c] := by rw [unE]
  rw [e, if_neg h]; rfl
 | cons d r => rw [unE, if_neg h]
theorem unE_bs (r : List UInt8) : unE (92 :: 92 :: r) = (unE r).map (92 :: ·) := by rw [unE]; simp
theorem unE_nl (r : List UInt8) : unE (92 :: 110 :: r) = (unE r).map (10 :: ·) := by rw [unE]; simp
theorem unE_bad {d : UInt8} (r : List UInt8) (h1 : ¬ d = 92) (h2 : ¬ d = 110) : unE (92 :: d :: r) = none := by rw [unE]; simp [h1, h2]
theorem unE_one : unE [92] = none := by rw [unE]; simp
theorem u8_eq {c d : UInt8} {x : Int} (hx : x = c.toNat) (h : x = (d.toNat : Int)) : c = d := UInt8.toNat_inj.1 (by omega)
/-- How far a value is read: what stands already, what still comes. -/
def UnTo (t : List UInt8) (k : Nat) (B : List UInt8) : Prop := unE t = (unE (t.drop k)).map (B ++ ·)
theorem UnTo.zero (t : List UInt8) : UnTo t 0 [] := by unfold UnTo; simp
theorem UnTo.step {t : List UInt8} {k m : Nat} {B : List UInt8} {c : UInt8} (h : UnTo t k B) (e : unE (t.drop k) = (unE (t.drop m)).map (c :: ·)) : UnTo t m (B ++ [c]) := by
 unfold UnTo at *
 rw [h, e, Option.map_map]
 congr 1
 funext x
 simp
theorem UnTo.bad {t : List UInt8} {k : Nat} {B : List UInt8} (h : UnTo t k B) (e : unE (t.drop k) = none) (n : List UInt8) : valP n t = none := by
 unfold UnTo at h
 rw [e] at h
 unfold valP
 rw [h]; rfl
theorem UnTo.long {t : List UInt8} {k m : Nat} {B : List UInt8} {c : UInt8} (h : UnTo t k B) (e : unE (t.drop k) = (unE (t.drop m)).map (c :: ·)) (hl : 4096 ≤ B.length) (n : List UInt8) : valP n t = none := by
 have h2 := h.step e
 unfold UnTo at h2
 unfold valP
 rw [h2]
 cases unE (t.drop m) with
 | none => rfl
 | some u =>
  simp only [Option.map_some]
  rw [if_neg]
  simp only [List.length_append, List.length_cons, List.length_nil]
  omega
theorem UnTo.done {t : List UInt8} {k : Nat} {B : List UInt8} (h : UnTo t k B) (e : t.drop k = []) (hl : B.length ≤ 4096) (n : List UInt8) : valP n t = some ⟨⟨n.toArray⟩, ⟨B.toArray⟩⟩ := by
 unfold UnTo at h
 rw [e] at h
 unfold valP
 rw [h]
 show (if (B ++ []).length ≤ 4096 then some (⟨⟨n.toArray⟩, ⟨(B ++ []).toArray⟩⟩ : Fd) else none) = _
 rw [List.append_nil, if_pos hl]
noncomputable def ParA (r : List Fd × Int × Int) : AV := .tup [.sl 2 (mapA FdA r.1), .i r.2.1, .i r.2.2]
noncomputable def ParseC : Ctr := spec (fun s : ByteArray => [.str s]) (fun _ => []) shortS (fun s => ParA (parseS s.data.toList)) fun _ => []
theorem parse_body (P : Program) (hI : FnOk P 52 (IdxC 10 10)) (hC : FnOk P 53 (CutC 61)) (hN : FnOk P 54 (StrC shortS nameB)) : BodyOk P x34 ParseC := by
 intro args H K hc
 obtain ⟨s0, rfl, rfl, hp, hK⟩ := hc
 refine ⟨Nat.le_of_ble_eq_true rfl, ?_⟩
 dsimp only at hK ⊢
 obtain ⟨R, hR⟩ : ∃ R, R = parseS s0.data.toList := ⟨_, rfl⟩
 rw [← hR] at hK
 have hp0 : s0.size ≤ maxLen := hp
 unfold parseS at hR
 cbv
 refine xscope (ι := Empty) 0 (fun e => nomatch e) (fun e => nomatch e) rfl ?_ (fun e => nomatch e)
 cbv
 refine xloopG (Gh.adopt 5 65 2 rfl) ?_
 cbv
 refine xloopV [0] (fun q : { q : (ByteArray × Nat) × Nat × List Fd // R = parseG (q.2.1 + 1) [] q.2.2 q.1.1.data.toList ∧ q.1.1.size ≤ maxLen ∧ q.2.1 ≤ 64 ∧ q.2.2.length = q.2.1 ∧ q.1.1.size = q.1.2 } => [(0, .str q.1.1.1), (6, .i (nI q.1.2.1)), (7, .i 0), (5, .hd 0)]) (fun q => [.row 65 2 (mapA FdA q.1.2.2)]) (fun q => lft q.1.1.2 0) ⟨((s0, s0.size), 0, []), hR, hp0, Nat.zero_le _, rfl, rfl⟩ ?_
 rintro ⟨⟨⟨s, sl⟩, n, L⟩, hq, hs, hn, hL, hsl⟩
 dsimp only at hq hs hn hL hsl ⊢
 have hL2 := mapA_len FdA L
 cbv; repeat' ((first | refine .n fun h => ?_ | refine .y fun h => ?_ | refine .mk (fun h => ?_) fun h => ?_ | refine .k fun z hz => ?_ | fail) <;> cbv)
 ·obtain rfl : z = nI (n + 1) := by ((try simp only [vn] at *) <;> omega)
  have hne : s.data.toList ≠ [] := fun e => by
   have : s.size = 0 := by rw [show s.size = s.data.toList.length from by rw [Array.length_toList]; rfl, e]; rfl
   ((try simp only [vn] at *) <;> omega)
  obtain rfl := hq.trans (parseG_full (by ((try simp only [vn] at *) <;> omega)) L s.data.toList [] hne)
  exact FinK.mk ⟨_, Gh.refl _, .inl (CutK.pre _ (by rfl) (by exact Nat.le_of_ble_eq_true rfl) (by rfl) (by rfl) (by repeat' (first | exact LeL.nil | exact LeL0.nil | exact LeH.nil | exact LeE.refl _ | exact Le.refl _ | exact Le0.one (.refl _) | exact Le0.one (.nil _) | exact Le1.refl _ | exact Le1.nil _ | refine LeH.cons ?_ ?_ | refine LeE.row ?_ | refine LeE.blk ?_ | refine LeL0.cons ?_ ?_ | refine LeL.cons ?_ ?_ | refine Le0.agg ?_ | refine Le.tup ?_ | exact Le.one (.one (.nil _)) | refine Le.one (.agg ?_))) (LeH.refl _) hK)⟩
 ·obtain rfl : z = nI (n + 1) := by ((try simp only [vn] at *) <;> omega)
  have hne : s.data.toList ≠ [] := fun e => by
   have : s.size = 0 := by rw [show s.size = s.data.toList.length from by rw [Array.length_toList]; rfl, e]; rfl
   ((try simp only [vn] at *) <;> omega)
  have hx := cutL_index (c := 10) s.data.toList
  refine callG_spec0 hI s trivial rfl rfl rfl ?_
  try dsimp only
  cases hcut : cutL 10 s.data.toList with
  | none =>
   rw [hcut] at hx
   dsimp only at hx
   rw [hx]
   obtain rfl := hq.trans ((parseG_end (n + 1) L s.data.toList [] (cutL_none hcut)).trans ((if_neg hne).trans (if_neg (by ((try simp only [vn] at *) <;> omega)))))
   cbv; repeat' ((first | refine .n fun h => ?_ | refine .y fun h => ?_ | fail) <;> cbv)
   exact FinK.mk ⟨_, Gh.refl _, .inl (CutK.pre _ (by rfl) (by exact Nat.le_of_ble_eq_true rfl) (by rfl) (by rfl) (by repeat' (first | exact LeL.nil | exact LeL0.nil | exact LeH.nil | exact LeE.refl _ | exact Le.refl _ | exact Le0.one (.refl _) | exact Le0.one (.nil _) | exact Le1.refl _ | exact Le1.nil _ | refine LeH.cons ?_ ?_ | refine LeE.row ?_ | refine LeE.blk ?_ | refine LeL0.cons ?_ ?_ | refine LeL.cons ?_ ?_ | refine Le0.agg ?_ | refine Le.tup ?_ | exact Le.one (.one (.nil _)) | refine Le.one (.agg ?_))) (LeH.refl _) hK)⟩
  | some p =>
   obtain ⟨a, b⟩ := p
   rw [hcut] at hx
   dsimp only at hx
   rw [hx]
   obtain ⟨h1, h2, h3⟩ := bytes_sub (cutL_some hcut).1
   have hq2 := hq.trans (((congrArg (parseG (n + 1) [] L) (cutL_some hcut).1).trans (parseG_cut (n + 1) L b a [] (cutL_some hcut).2)).trans (if_neg (by ((try simp only [vn] at *) <;> omega))))
   rw [List.nil_append] at hq2
   clear hq hx
   obtain ⟨m, hm⟩ : ∃ n, n = a.length := ⟨_, rfl⟩
   rw [← hm] at h1 h2 h3 ⊢
   unfold maxLen at hs
   cbv; repeat' ((first | refine .n fun h => ?_ | refine .u fun u hu hul => ?_ | fail) <;> cbv)
   obtain rfl := hu.trans h2
   have ha1 : (⟨a.toArray⟩ : ByteArray).size = a.length := by simp [ByteArray.size]
   have hal : (⟨a.toArray⟩ : ByteArray).size ≤ maxLen := by unfold maxLen; omega
   clear hu hul h2
   cases hc2 : cutL 61 a with
   | none =>
    have e : CutA 61 ⟨a.toArray⟩ = .tup [.str ⟨a.toArray⟩, .str ⟨#[]⟩, .bl false] := by unfold CutA; rw [show (⟨a.toArray⟩ : ByteArray).data.toList = a from rfl, hc2]
    have hl : lineP a = none := by unfold lineP; rw [hc2]
    rw [hl] at hq2
    subst hq2
    refine callG_spec0 hC ⟨a.toArray⟩ hal rfl (by rw [e]; rfl) rfl ?_
    rw [e]
    cbv; repeat' ((first | refine .n fun h => ?_ | refine .k fun z hz => ?_ | refine .u fun u hu hul => ?_ | fail) <;> cbv)
    exact FinK.mk ⟨_, Gh.refl _, .inl (CutK.pre _ (by rfl) (by exact Nat.le_of_ble_eq_true rfl) (by rfl) (by rfl) (by repeat' (first | exact LeL.nil | exact LeL0.nil | exact LeH.nil | exact LeE.refl _ | exact Le.refl _ | exact Le0.one (.refl _) | exact Le0.one (.nil _) | exact Le1.refl _ | exact Le1.nil _ | refine LeH.cons ?_ ?_ | refine LeE.row ?_ | refine LeE.blk ?_ | refine LeL0.cons ?_ ?_ | refine LeL.cons ?_ ?_ | refine Le0.agg ?_ | refine Le.tup ?_ | exact Le.one (.one (.nil _)) | refine Le.one (.agg ?_))) (LeH.refl _) hK)⟩
   | some p =>
    obtain ⟨nm, v⟩ := p
    have e : CutA 61 ⟨a.toArray⟩ = .tup [.str ⟨nm.toArray⟩, .str ⟨v.toArray⟩, .bl true] := by unfold CutA; rw [show (⟨a.toArray⟩ : ByteArray).data.toList = a from rfl, hc2]
    have hv1 : (⟨v.toArray⟩ : ByteArray).size = v.length := by simp [ByteArray.size]
    have hn1 : (⟨nm.toArray⟩ : ByteArray).size = nm.length := by simp [ByteArray.size]
    have hlen : a.length = nm.length + v.length + 1 := by rw [(cutL_some hc2).1]; simp; omega
    refine callG_spec0 hC ⟨a.toArray⟩ hal rfl (by rw [e]; rfl) rfl ?_
    rw [e]
    clear e
    obtain ⟨V, hV⟩ : ∃ V : ByteArray, V = ⟨v.toArray⟩ := ⟨_, rfl⟩
    obtain ⟨N, hN1⟩ : ∃ V : ByteArray, V = ⟨nm.toArray⟩ := ⟨_, rfl⟩
    rw [← hV] at hv1 ⊢
    rw [← hN1] at hn1 ⊢
    cbv; repeat' ((first | refine .k fun z hz => ?_ | refine .u fun u hu hul => ?_ | fail) <;> cbv)
    obtain rfl : z = nI (m + 1) := by ((try simp only [vn] at *) <;> omega)
    obtain rfl := hu.trans h3
    have hb1 : (⟨b.toArray⟩ : ByteArray).size = b.length := by simp [ByteArray.size]
    clear hu hul h3
    obtain ⟨S2, hS2⟩ : ∃ V : ByteArray, V = ⟨b.toArray⟩ := ⟨_, rfl⟩
    rw [← hS2] at hb1 ⊢
    refine callG_spec0 hN N (by unfold shortS maxLen; omega) rfl rfl rfl ?_
    try dsimp only
    cases hnb : nameB N with
    | false =>
     have hl : lineP a = none := by unfold lineP; rw [hc2]; dsimp only; rw [← hN1, hnb]; rfl
     rw [hl] at hq2
     subst hq2
     cbv; repeat' ((first | refine .n fun h => ?_ | fail) <;> cbv)
     exact FinK.mk ⟨_, Gh.refl _, .inl (CutK.pre _ (by rfl) (by exact Nat.le_of_ble_eq_true rfl) (by rfl) (by rfl) (by repeat' (first | exact LeL.nil | exact LeL0.nil | exact LeH.nil | exact LeE.refl _ | exact Le.refl _ | exact Le0.one (.refl _) | exact Le0.one (.nil _) | exact Le1.refl _ | exact Le1.nil _ | refine LeH.cons ?_ ?_ | refine LeE.row ?_ | refine LeE.blk ?_ | refine LeL0.cons ?_ ?_ | refine LeL.cons ?_ ?_ | refine Le0.agg ?_ | refine Le.tup ?_ | exact Le.one (.one (.nil _)) | refine Le.one (.agg ?_))) (LeH.refl _) hK)⟩
    | true =>
     have hl : lineP a = valP nm v := by unfold lineP; rw [hc2]; dsimp only; rw [← hN1, if_pos hnb]
     rw [hl] at hq2
     cbv
     refine xloopG (Gh.adopt 12 5 1 rfl) ?_
     cbv
     obtain ⟨vl, hvl⟩ : ∃ n, n = V.size := ⟨_, rfl⟩
     refine xloopV [1] (fun q : { q : Nat × List UInt8 // UnTo v q.1 q.2 ∧ q.2.length ≤ 4096 ∧ q.1 ≤ vl } => [(13, .i (nI q.1.1)), (12, .hd 1), (7, .i 0)]) (fun q => [.row 65 2 (mapA FdA L), .row 5 1 (mapA byA q.1.2)]) (fun q => lft vl q.1.1) ⟨(0, []), UnTo.zero v, Nat.zero_le _, Nat.zero_le _⟩ ?_
     rintro ⟨⟨k, B⟩, hu, hB, hk⟩
     dsimp only at hu hB hk ⊢
     have hB2 := mapA_len byA B
     cbv; repeat' ((first | refine .mk (fun h => ?_) fun h => ?_ | refine .k fun z hz => ?_ | fail) <;> cbv)
     ·have hkl : k < V.size := by ((try simp only [vn] at *) <;> omega)
      refine ⟨k, rfl, hkl, fun c hc x hx => ?_⟩
      have hd : v.drop k = c :: v.drop (k + 1) := by have := drop_at V hc; rw [hV] at this; exact this
      cbv; repeat' ((first | refine .n fun h => ?_ | refine .mk (fun h => ?_) fun h => ?_ | refine .k fun z hz => ?_ | refine .zl fun zs hzs hzl => ?_ | fail) <;> cbv)
      ·obtain rfl : c = 92 := u8_eq hx (by assumption)
       rename_i zi hzi
       obtain rfl : zi = nI (k + 1) := by ((try simp only [vn] at *) <;> omega)
       refine ⟨k + 1, rfl, by ((try simp only [vn] at *) <;> omega), fun d hd2 y hy => ?_⟩
       have hdd : v.drop (k + 1) = d :: v.drop (k + 2) := by have := drop_at V hd2; rw [hV] at this; exact this
       rw [hdd] at hd
       have hk2 : k + 2 ≤ vl := by ((try simp only [vn] at *) <;> omega)
       cbv; repeat' ((first | refine .n fun h => ?_ | refine .y fun h => ?_ | refine .mk (fun h => ?_) fun h => ?_ | refine .k fun z hz => ?_ | refine .zl fun zs hzs hzl => ?_ | fail) <;> cbv)
       ·obtain rfl : d = 92 := u8_eq hy (by assumption)
        have hst : unE (v.drop k) = (unE (v.drop (k + 2))).map (92 :: ·) := by rw [hd, unE_bs]
        rw [hu.long hst (by ((try simp only [vn] at *) <;> omega)) nm] at hq2
        subst hq2
        exact FinK.mk ⟨_, Gh.refl _, .inl (CutK.pre _ (by rfl) (by exact Nat.le_of_ble_eq_true rfl) (by rfl) (by rfl) (by repeat' (first | exact LeL.nil | exact LeL0.nil | exact LeH.nil | exact LeE.refl _ | exact Le.refl _ | exact Le0.one (.refl _) | exact Le0.one (.nil _) | exact Le1.refl _ | exact Le1.nil _ | refine LeH.cons ?_ ?_ | refine LeE.row ?_ | refine LeE.blk ?_ | refine LeL0.cons ?_ ?_ | refine LeL.cons ?_ ?_ | refine Le0.agg ?_ | refine Le.tup ?_ | exact Le.one (.one (.nil _)) | refine Le.one (.agg ?_))) (LeH.refl _) hK)⟩
       ·obtain rfl : d = 92 := u8_eq hy (by assumption)
        have hst : unE (v.drop k) = (unE (v.drop (k + 2))).map (92 :: ·) := by rw [hd, unE_bs]
        obtain rfl : z = nI (k + 2) := by ((try simp only [vn] at *) <;> omega)
        obtain rfl : zs = mapA byA (B ++ [92]) := by rw [mapA_app, mapA_one, hzs, hx]; rfl
        exact roundV ⟨(k + 2, B ++ [92]), hu.step hst, by simp only [List.length_append, List.length_cons, List.length_nil]; ((try simp only [vn] at *) <;> omega), hk2⟩ (by show vl - (k + 2) < vl - k; omega)
       ·refine ⟨k + 1, rfl, by ((try simp only [vn] at *) <;> omega), fun d' hd' y2 hy2 => ?_⟩
        obtain rfl : d = d' := Option.some.inj (hd2.symm.trans hd')
        cbv; repeat' ((first | refine .n fun h => ?_ | refine .mk (fun h => ?_) fun h => ?_ | refine .k fun z hz => ?_ | refine .zl fun zs hzs hzl => ?_ | fail) <;> cbv)
        ·obtain rfl : d = 110 := u8_eq hy2 (by assumption)
         have hst : unE (v.drop k) = (unE (v.drop (k + 2))).map (10 :: ·) := by rw [hd, unE_nl]
         rw [hu.long hst (by ((try simp only [vn] at *) <;> omega)) nm] at hq2
         subst hq2
         exact FinK.mk ⟨_, Gh.refl _, .inl (CutK.pre _ (by rfl) (by exact Nat.le_of_ble_eq_true rfl) (by rfl) (by rfl) (by repeat' (first | exact LeL.nil | exact LeL0.nil | exact LeH.nil | exact LeE.refl _ | exact Le.refl _ | exact Le0.one (.refl _) | exact Le0.one (.nil _) | exact Le1.refl _ | exact Le1.nil _ | refine LeH.cons ?_ ?_ | refine LeE.row ?_ | refine LeE.blk ?_ | refine LeL0.cons ?_ ?_ | refine LeL.cons ?_ ?_ | refine Le0.agg ?_ | refine Le.tup ?_ | exact Le.one (.one (.nil _)) | refine Le.one (.agg ?_))) (LeH.refl _) hK)⟩
        ·obtain rfl : d = 110 := u8_eq hy2 (by assumption)
         have hst : unE (v.drop k) = (unE (v.drop (k + 2))).map (10 :: ·) := by rw [hd, unE_nl]
         obtain rfl : z = nI (k + 2) := by ((try simp only [vn] at *) <;> omega)
         obtain rfl : zs = mapA byA (B ++ [10]) := by rw [mapA_app, mapA_one, hzs]; rfl
         exact roundV ⟨(k + 2, B ++ [10]), hu.step hst, by simp only [List.length_append, List.length_cons, List.length_nil]; ((try simp only [vn] at *) <;> omega), hk2⟩ (by show vl - (k + 2) < vl - k; omega)
        ·have hst : unE (v.drop k) = none := by rw [hd, unE_bad _ (fun e => absurd (show y = 92 by rw [hy, e]; rfl) (by assumption)) (fun e => absurd (show y2 = 110 by rw [hy2, e]; rfl) (by assumption))]
         rw [hu.bad hst nm] at hq2
         subst hq2
         exact FinK.mk ⟨_, Gh.refl _, .inl (CutK.pre _ (by rfl) (by exact Nat.le_of_ble_eq_true rfl) (by rfl) (by rfl) (by repeat' (first | exact LeL.nil | exact LeL0.nil | exact LeH.nil | exact LeE.refl _ | exact Le.refl _ | exact Le0.one (.refl _) | exact Le0.one (.nil _) | exact Le1.refl _ | exact Le1.nil _ | refine LeH.cons ?_ ?_ | refine LeE.row ?_ | refine LeE.blk ?_ | refine LeL0.cons ?_ ?_ | refine LeL.cons ?_ ?_ | refine Le0.agg ?_ | refine Le.tup ?_ | exact Le.one (.one (.nil _)) | refine Le.one (.agg ?_))) (LeH.refl _) hK)⟩
      ·obtain rfl : c = 92 := u8_eq hx (by assumption)
       have hst : unE (v.drop k) = none := by rw [hd, show v.drop (k + 1) = [] from by have := drop_end V (k := k + 1) (by ((try simp only [vn] at *) <;> omega)); rw [hV] at this; exact this, unE_one]
       rw [hu.bad hst nm] at hq2
       subst hq2
       exact FinK.mk ⟨_, Gh.refl _, .inl (CutK.pre _ (by rfl) (by exact Nat.le_of_ble_eq_true rfl) (by rfl) (by rfl) (by repeat' (first | exact LeL.nil | exact LeL0.nil | exact LeH.nil | exact LeE.refl _ | exact Le.refl _ | exact Le0.one (.refl _) | exact Le0.one (.nil _) | exact Le1.refl _ | exact Le1.nil _ | refine LeH.cons ?_ ?_ | refine LeE.row ?_ | refine LeE.blk ?_ | refine LeL0.cons ?_ ?_ | refine LeL.cons ?_ ?_ | refine Le0.agg ?_ | refine Le.tup ?_ | exact Le.one (.one (.nil _)) | refine Le.one (.agg ?_))) (LeH.refl _) hK)⟩
      ·have hst := unE_plain (v.drop (k + 1)) (c := c) fun e => absurd (show x = 92 by rw [hx, e]; rfl) (by assumption)
       rw [← hd] at hst
       rw [hu.long hst (by ((try simp only [vn] at *) <;> omega)) nm] at hq2
       subst hq2
       exact FinK.mk ⟨_, Gh.refl _, .inl (CutK.pre _ (by rfl) (by exact Nat.le_of_ble_eq_true rfl) (by rfl) (by rfl) (by repeat' (first | exact LeL.nil | exact LeL0.nil | exact LeH.nil | exact LeE.refl _ | exact Le.refl _ | exact Le0.one (.refl _) | exact Le0.one (.nil _) | exact Le1.refl _ | exact Le1.nil _ | refine LeH.cons ?_ ?_ | refine LeE.row ?_ | refine LeE.blk ?_ | refine LeL0.cons ?_ ?_ | refine LeL.cons ?_ ?_ | refine Le0.agg ?_ | refine Le.tup ?_ | exact Le.one (.one (.nil _)) | refine Le.one (.agg ?_))) (LeH.refl _) hK)⟩
      ·have hst := unE_plain (v.drop (k + 1)) (c := c) fun e => absurd (show x = 92 by rw [hx, e]; rfl) (by assumption)
       rw [← hd] at hst
       obtain rfl : z = nI (k + 1) := by ((try simp only [vn] at *) <;> omega)
       obtain rfl : zs = mapA byA (B ++ [c]) := by rw [mapA_app, mapA_one, hzs, hx]; rfl
       exact roundV ⟨(k + 1, B ++ [c]), hu.step hst, by simp only [List.length_append, List.length_cons, List.length_nil]; ((try simp only [vn] at *) <;> omega), (by ((try simp only [vn] at *) <;> omega))⟩ (lft_lt (by ((try simp only [vn] at *) <;> omega)))
     ·have hst := hu.done (by have := drop_end V (k := k) (by ((try simp only [vn] at *) <;> omega)); rw [hV] at this; exact this) hB nm
      rw [hst] at hq2
      dsimp only at hq2
      refine BytK.of _ (bytesA_by B) fun s1 hs1 hsl => ?_
      rw [strOf_by] at hs1
      rw [← hN1, ← hs1] at hq2
      clear hsl hu
      cbv; repeat' ((first | refine .zl fun zs hzs hzl => ?_ | fail) <;> cbv)
      obtain rfl : zs = mapA FdA (L ++ [⟨N, s1⟩]) := by rw [mapA_app, mapA_one, hzs]; rfl
      exact roundV ⟨((S2, S2.size), n + 1, L ++ [⟨N, s1⟩]), by rw [hS2]; exact hq2, by unfold maxLen; ((try simp only [vn] at *) <;> omega), by ((try simp only [vn] at *) <;> omega), by simp only [List.length_append, List.length_cons, List.length_nil]; omega, rfl⟩ (num_lt (by ((try simp only [vn] at *) <;> omega)))
 ·have he : s.data.toList = [] := by
   have : s.data.toList.length = 0 := by rw [Array.length_toList]; show s.size = 0; ((try simp only [vn] at *) <;> omega)
   exact List.eq_nil_of_length_eq_zero this
  rw [he, parseG, if_pos rfl] at hq
  subst hq
  refine FinK.mk ⟨_, Gh.plain 0 rfl, ?_⟩
  cbv
  exact .inl (CutK.pre _ (by rfl) (by exact Nat.le_of_ble_eq_true rfl) (by rfl) (by rfl) (Le.refl _) (LeH.refl _) hK)
end Go.Proofs.YtpcfdpengbkplaaDoor
/-
 Book: ref05.Parse (picked out of other texts by pick.py).
-/
namespace Go.Proofs.YtpcfdpengbkplaaDoor
open Go.RowKit
set_option maxHeartbeats 8000000
set_option maxRecDepth 100000
/-- What the reference tells of a line. -/
def lineR (t : List UInt8) : Fd × Bool := match cutL 61 t with
 | some (n, v) => if nameB ⟨n.toArray⟩ then match unE v with
   | some u => (⟨⟨n.toArray⟩, ⟨u.toArray⟩⟩, decide (u.length ≤ 4096))
   | none => (⟨⟨#[]⟩, ⟨#[]⟩⟩, false)
  else (⟨⟨#[]⟩, ⟨#[]⟩⟩, false)
 | none => (⟨⟨#[]⟩, ⟨#[]⟩⟩, false)
theorem lineR_p (t : List UInt8) : lineP t = if (lineR t).2 = true then some (lineR t).1 else none := by
 unfold lineP lineR
 cases cutL 61 t with
 | none => rfl
 | some p =>
  obtain ⟨n, v⟩ := p
  dsimp only
  by_cases hb : nameB ⟨n.toArray⟩ = true
  ·simp only [hb, if_true]
   unfold valP
   cases unE v with
   | none => rfl
   | some u =>
    dsimp only
    by_cases h : u.length ≤ 4096 <;> simp [h]
  ·simp only [hb]; rfl
theorem UnTo.nil {t : List UInt8} {k : Nat} {B : List UInt8} (h : UnTo t k B) (e : unE (t.drop k) = none) : unE t = none := by
 unfold UnTo at h
 rw [h, e]; rfl
theorem UnTo.all {t : List UInt8} {k : Nat} {B : List UInt8} (h : UnTo t k B) (e : t.drop k = []) : unE t = some B := by
 unfold UnTo at h
 rw [h, e]
 show some (B ++ []) = _
 rw [List.append_nil]
def LinC : Ctr := spec (fun s : ByteArray => [.str s]) (fun _ => []) shortS (fun s => .tup [.agg [.str (lineR s.data.toList).1.name, .str (lineR s.data.toList).1.value], .bl (lineR s.data.toList).2]) fun _ => []
def NoIn (c : UInt8) (s : ByteArray) (k : Nat) : Prop := ∀ x ∈ s.data.toList.take k, x ≠ c
theorem NoIn.zero (c : UInt8) (s : ByteArray) : NoIn c s 0 := fun x hx => by simp at hx
theorem NoIn.succ {c d : UInt8} {s : ByteArray} {k : Nat} (h : NoIn c s k) (hd : s.data[k]? = some d) (hne : ¬ d = c) : NoIn c s (k + 1) := fun x hx => by
 rw [List.take_add_one] at hx
 rcases List.mem_append.1 hx with hx | hx
 ·exact h x hx
 ·have e : s.data.toList[k]? = some d := by simpa using hd
  rw [e] at hx
  obtain rfl : x = d := by simpa using hx
  exact hne
theorem NoIn.none {c : UInt8} {s : ByteArray} (h : NoIn c s s.size) : cutL c s.data.toList = .none := by
 cases hc : cutL c s.data.toList with
 | none => rfl
 | some p =>
  obtain ⟨a, b⟩ := p
  have e := (cutL_some hc).1
  refine absurd rfl (h c ?_)
  rw [show s.size = s.data.toList.length from by rw [Array.length_toList]; rfl, List.take_length, e]
  simp
theorem NoIn.some {c : UInt8} {s : ByteArray} {k : Nat} (h : NoIn c s k) (hd : s.data[k]? = some c) : cutL c s.data.toList = .some (s.data.toList.take k, s.data.toList.drop (k + 1)) := by
 have e : s.data.toList = s.data.toList.take k ++ c :: s.data.toList.drop (k + 1) := by rw [← drop_at s hd, List.take_append_drop]
 conv => lhs; rw [e]
 exact cutL_at h
theorem ext_one {s u : ByteArray} {k : Nat} {c : UInt8} (hc : s.data[k]? = some c) (hu : u = s.extract k (k + 1)) : u = ⟨#[c]⟩ := by
 rw [hu]
 apply ByteArray.ext
 apply Array.toList_inj.1
 have hk : k < s.data.toList.length := by
  have := (Array.getElem?_eq_some_iff.1 hc).1
  simpa using this
 rw [ByteArray.data_extract, Array.toList_extract, List.extract_eq_take_drop, drop_at s hc]
 simp
theorem app_byte {W u x : ByteArray} {B : List UInt8} {c : UInt8} (hW : W = ⟨B.toArray⟩) (hu : u = ⟨#[c]⟩) (hx : x = W ++ u) : x = ⟨(B ++ [c]).toArray⟩ := by
 rw [hx, hW, hu]
 apply ByteArray.ext
 simp
theorem line_body (P : Program) (hN : FnOk P 71 (StrC shortS nameB)) : BodyOk P x62 LinC := by
 intro args H K hc
 obtain ⟨s, rfl, rfl, hp, hK⟩ := hc
 refine ⟨Nat.le_of_ble_eq_true rfl, ?_⟩
 dsimp only at hK ⊢
 have hs : s.size ≤ maxLen := hp
 unfold maxLen at hs
 obtain ⟨R, hR⟩ : ∃ R, R = lineR s.data.toList := ⟨_, rfl⟩
 rw [← hR] at hK
 obtain ⟨sl, hsl⟩ : ∃ n, n = s.size := ⟨_, rfl⟩
 unfold lineR at hR
 cbv
 refine xloopV [] (fun q : { k : Nat // k ≤ sl ∧ NoIn 61 s k } => [(4, .i (nI q.1))]) (fun _ => [.blk 65 [.str ⟨#[]⟩, .str ⟨#[]⟩]]) (fun q => lft sl q.1) ⟨0, Nat.zero_le _, .zero 61 s⟩ ?_
 rintro ⟨m, hm, hno⟩
 dsimp only
 cbv; repeat' ((first | refine .y fun h => ?_ | refine .mk (fun h => ?_) fun h => ?_ | refine .k fun z hz => ?_ | fail) <;> cbv)
 ·refine ⟨m, rfl, by ((try simp only [vn] at *) <;> omega), fun c hc x hx => ?_⟩
  cbv; repeat' ((first | refine .n fun h => ?_ | refine .mk (fun h => ?_) fun h => ?_ | refine .k fun z hz => ?_ | refine .u fun u hu hul => ?_ | fail) <;> cbv)
  ·obtain rfl : c = 61 := u8_eq hx (by assumption)
   have hcut := NoIn.some hno hc
   rw [hcut] at hR
   obtain ⟨a, ha⟩ : ∃ a, a = s.data.toList.take m := ⟨_, rfl⟩
   obtain ⟨v, hv⟩ : ∃ a, a = s.data.toList.drop (m + 1) := ⟨_, rfl⟩
   rw [← ha, ← hv] at hcut hR
   have ham : a.length = m := by
    have := (bytes_sub (cutL_some hcut).1).1
    rw [ha, List.length_take, Array.length_toList]
    show min m s.size = m
    omega
   obtain ⟨h1, h2, _⟩ := bytes_sub (cutL_some hcut).1
   rw [ham] at h2 h1
   obtain rfl := hu.trans h2
   have h2k := h2
   clear hu hul
   have han : (⟨a.toArray⟩ : ByteArray).size = a.length := by simp [ByteArray.size]
   dsimp only at hR
   obtain ⟨N, hN1⟩ : ∃ V : ByteArray, V = ⟨a.toArray⟩ := ⟨_, rfl⟩
   rw [← hN1] at hR han h2k ⊢
   refine callG_spec0 hN N (by unfold shortS maxLen; omega) rfl rfl rfl ?_
   try dsimp only
   cases hnb : nameB N with
   | false =>
    rw [hnb] at hR
    subst hR
    cbv
    (refine FinK.mk ⟨_, Gh.refl _, ?_⟩; cbv; exact .inl (CutK.pre [] (by rfl) (by exact Nat.le_of_ble_eq_true rfl) (by rfl) (by rfl) (by repeat' (first | exact LeL.nil | exact LeL0.nil | exact LeH.nil | exact LeE.refl _ | exact Le.refl _ | exact Le0.one (.refl _) | exact Le0.one (.nil _) | exact Le1.refl _ | exact Le1.nil _ | refine LeH.cons ?_ ?_ | refine LeE.row ?_ | refine LeE.blk ?_ | refine LeL0.cons ?_ ?_ | refine LeL.cons ?_ ?_ | refine Le0.agg ?_ | refine Le.tup ?_ | exact Le.one (.one (.nil _)) | refine Le.one (.agg ?_))) (LeH.refl _) hK))
   | true =>
    rw [hnb, if_pos rfl] at hR
    have hvl : v.length + m + 1 = sl := by omega
    cbv; repeat' ((first | refine .k fun z hz => ?_ | refine .u fun u hu hul => ?_ | fail) <;> cbv)
    have hat : ∀ k c, s.data[m + 1 + k]? = some c → v.drop k = c :: v.drop (k + 1) := fun k c h => by
     have := drop_at s h
     rw [hv, List.drop_drop, List.drop_drop]
     rw [show m + 1 + (k + 1) = m + 1 + k + 1 by omega]
     exact this
    obtain rfl := hu.trans h2k
    obtain rfl : z = nI (m + 1) := by ((try simp only [vn] at *) <;> omega)
    clear hu hul hz
    obtain ⟨vl, hvv⟩ : ∃ n, n = v.length := ⟨_, rfl⟩
    rw [← hvv] at hvl
    refine xloopV [] (fun q : { q : Nat × Nat × ByteArray // UnTo v q.1 q.2.2.data.toList ∧ q.1 ≤ vl ∧ q.2.2.size ≤ q.1 ∧ q.2.1 = m + 1 + q.1 } => [(6, .i (nI q.1.2.1))]) (fun q => [.blk 65 [.str ⟨#[]⟩, .str ⟨#[]⟩], .blk 65 [.str u, .str q.1.2.2]]) (fun q => lft vl q.1.1) ⟨(0, m + 1, ⟨#[]⟩), UnTo.zero v, Nat.zero_le _, Nat.le_refl _, rfl⟩ ?_
    rintro ⟨⟨k, i, W⟩, hU, hk, hW, hi⟩
    dsimp only at hU hk hW hi ⊢
    cbv; repeat' ((first | refine .mk (fun h => ?_) fun h => ?_ | refine .k fun z hz => ?_ | fail) <;> cbv)
    ·refine ⟨i, rfl, by ((try simp only [vn] at *) <;> omega), fun c hc x hx => ?_⟩
     have hd := hat k c (by rw [← hi]; exact hc)
     cbv; repeat' ((first | refine .mk (fun h => ?_) fun h => ?_ | refine .k fun z hz => ?_ | refine .u fun u hu hul => ?_ | fail) <;> cbv)
     ·obtain rfl : c = 92 := u8_eq hx (by assumption)
      have hst : unE (v.drop k) = none := by rw [hd, show v.drop (k + 1) = [] from List.drop_eq_nil_of_le (by ((try simp only [vn] at *) <;> omega)), unE_one]
      rw [hU.nil hst] at hR
      subst hR
      (refine FinK.mk ⟨_, Gh.refl _, ?_⟩; cbv; exact .inl (CutK.pre [] (by rfl) (by exact Nat.le_of_ble_eq_true rfl) (by rfl) (by rfl) (by repeat' (first | exact LeL.nil | exact LeL0.nil | exact LeH.nil | exact LeE.refl _ | exact Le.refl _ | exact Le0.one (.refl _) | exact Le0.one (.nil _) | exact Le1.refl _ | exact Le1.nil _ | refine LeH.cons ?_ ?_ | refine LeE.row ?_ | refine LeE.blk ?_ | refine LeL0.cons ?_ ?_ | refine LeL.cons ?_ ?_ | refine Le0.agg ?_ | refine Le.tup ?_ | exact Le.one (.one (.nil _)) | refine Le.one (.agg ?_))) (LeH.refl _) hK))
     ·obtain rfl : c = 92 := u8_eq hx (by assumption)
      rename_i zi hzi
      obtain rfl : zi = nI (i + 1) := by ((try simp only [vn] at *) <;> omega)
      refine ⟨i + 1, rfl, by ((try simp only [vn] at *) <;> omega), fun d hd2 y hy => ?_⟩
      have hdd := hat (k + 1) d (by rw [show m + 1 + (k + 1) = i + 1 by omega]; exact hd2)
      rw [hdd] at hd
      have hk2 : k + 2 ≤ vl := by ((try simp only [vn] at *) <;> omega)
      cbv; repeat' ((first | refine .mk (fun h => ?_) fun h => ?_ | fail) <;> cbv)
      ·refine ⟨i + 1, rfl, by ((try simp only [vn] at *) <;> omega), fun d' hd' y2 hy2 => ?_⟩
       obtain rfl : d = d' := Option.some.inj (hd2.symm.trans hd')
       cbv; repeat' ((first | refine .n fun h => ?_ | fail) <;> cbv)
       refine CatK.u (fun w hw hwl => ?_) (by unfold maxLen; show W.size + 1 ≤ _; omega)
       cbv; repeat' ((first | refine .k fun z hz => ?_ | fail) <;> cbv)
       obtain rfl : d = 92 := u8_eq hy (by assumption)
       have hst : unE (v.drop k) = (unE (v.drop (k + 2))).map (92 :: ·) := by rw [hd, unE_bs]
       obtain rfl : z = nI (i + 2) := by ((try simp only [vn] at *) <;> omega)
       obtain rfl := app_byte (W := W) (B := W.data.toList) (c := 92) rfl rfl hw
       exact roundV ⟨(k + 2, i + 2, ⟨(W.data.toList ++ [92]).toArray⟩), hU.step hst, hk2, by have h1 : (⟨(W.data.toList ++ [92]).toArray⟩ : ByteArray).size = W.size + 1 := hwl; dsimp only; omega, by dsimp only; omega⟩ (by show vl - (k + 2) < vl - k; omega)
      ·refine ⟨i + 1, rfl, by ((try simp only [vn] at *) <;> omega), fun d' hd' y2 hy2 => ?_⟩
       obtain rfl : d = d' := Option.some.inj (hd2.symm.trans hd')
       cbv; repeat' ((first | refine .mk (fun h => ?_) fun h => ?_ | fail) <;> cbv)
       ·refine ⟨i + 1, rfl, by ((try simp only [vn] at *) <;> omega), fun d'' hd'' y3 hy3 => ?_⟩
        obtain rfl : d = d'' := Option.some.inj (hd2.symm.trans hd'')
        cbv; repeat' ((first | refine .y fun h => ?_ | fail) <;> cbv)
        refine CatK.u (fun w hw hwl => ?_) (by unfold maxLen; show W.size + 1 ≤ _; omega)
        cbv; repeat' ((first | refine .k fun z hz => ?_ | fail) <;> cbv)
        obtain rfl : d = 110 := u8_eq hy2 (by assumption)
        have hst : unE (v.drop k) = (unE (v.drop (k + 2))).map (10 :: ·) := by rw [hd, unE_nl]
        obtain rfl : z = nI (i + 2) := by ((try simp only [vn] at *) <;> omega)
        obtain rfl := app_byte (W := W) (B := W.data.toList) (c := 10) rfl rfl hw
        exact roundV ⟨(k + 2, i + 2, ⟨(W.data.toList ++ [10]).toArray⟩), hU.step hst, hk2, by have h1 : (⟨(W.data.toList ++ [10]).toArray⟩ : ByteArray).size = W.size + 1 := hwl; dsimp only; omega, by dsimp only; omega⟩ (by show vl - (k + 2) < vl - k; omega)
       ·have hst : unE (v.drop k) = none := by rw [hd, unE_bad _ (fun e => absurd (show y = 92 by rw [hy, e]; rfl) (by assumption)) (fun e => absurd (show y2 = 110 by rw [hy2, e]; rfl) (by assumption))]
        rw [hU.nil hst] at hR
        subst hR
        (refine FinK.mk ⟨_, Gh.refl _, ?_⟩; cbv; exact .inl (CutK.pre [] (by rfl) (by exact Nat.le_of_ble_eq_true rfl) (by rfl) (by rfl) (by repeat' (first | exact LeL.nil | exact LeL0.nil | exact LeH.nil | exact LeE.refl _ | exact Le.refl _ | exact Le0.one (.refl _) | exact Le0.one (.nil _) | exact Le1.refl _ | exact Le1.nil _ | refine LeH.cons ?_ ?_ | refine LeE.row ?_ | refine LeE.blk ?_ | refine LeL0.cons ?_ ?_ | refine LeL.cons ?_ ?_ | refine Le0.agg ?_ | refine Le.tup ?_ | exact Le.one (.one (.nil _)) | refine Le.one (.agg ?_))) (LeH.refl _) hK))
     ·have hst := unE_plain (v.drop (k + 1)) (c := c) fun e => absurd (show x = 92 by rw [hx, e]; rfl) (by assumption)
      rw [← hd] at hst
      rename_i zi hzi w0 hw0 hwl0
      obtain rfl : zi = nI (i + 1) := by ((try simp only [vn] at *) <;> omega)
      obtain rfl := ext_one hc hw0
      obtain rfl := app_byte (W := W) (B := W.data.toList) (c := c) rfl rfl hu
      obtain rfl : z = nI (i + 1) := by ((try simp only [vn] at *) <;> omega)
      exact roundV ⟨(k + 1, i + 1, ⟨(W.data.toList ++ [c]).toArray⟩), hU.step hst, by ((try simp only [vn] at *) <;> omega), by have h1 : (⟨(W.data.toList ++ [c]).toArray⟩ : ByteArray).size = W.size + 1 := hul; dsimp only; omega, by dsimp only; omega⟩ (by show vl - (k + 1) < vl - k; ((try simp only [vn] at *) <;> omega))
    ·have hst := hU.all (List.drop_eq_nil_of_le (by ((try simp only [vn] at *) <;> omega)))
     rw [hst] at hR
     dsimp only at hR
     rw [show W.data.toList.length = W.size from by rw [Array.length_toList]; rfl, decide_eq_true (by ((try simp only [vn] at *) <;> omega))] at hR
     subst hR
     (refine FinK.mk ⟨_, Gh.refl _, ?_⟩; cbv; exact .inl (CutK.pre [] (by rfl) (by exact Nat.le_of_ble_eq_true rfl) (by rfl) (by rfl) (by repeat' (first | exact LeL.nil | exact LeL0.nil | exact LeH.nil | exact LeE.refl _ | exact Le.refl _ | exact Le0.one (.refl _) | exact Le0.one (.nil _) | exact Le1.refl _ | exact Le1.nil _ | refine LeH.cons ?_ ?_ | refine LeE.row ?_ | refine LeE.blk ?_ | refine LeL0.cons ?_ ?_ | refine LeL.cons ?_ ?_ | refine Le0.agg ?_ | refine Le.tup ?_ | exact Le.one (.one (.nil _)) | refine Le.one (.agg ?_))) (LeH.refl _) hK))
    ·have hst := hU.all (List.drop_eq_nil_of_le (by ((try simp only [vn] at *) <;> omega)))
     rw [hst] at hR
     dsimp only at hR
     rw [show W.data.toList.length = W.size from by rw [Array.length_toList]; rfl, decide_eq_false (by ((try simp only [vn] at *) <;> omega))] at hR
     subst hR
     (refine FinK.mk ⟨_, Gh.refl _, ?_⟩; cbv; exact .inl (CutK.pre [] (by rfl) (by exact Nat.le_of_ble_eq_true rfl) (by rfl) (by rfl) (by repeat' (first | exact LeL.nil | exact LeL0.nil | exact LeH.nil | exact LeE.refl _ | exact Le.refl _ | exact Le0.one (.refl _) | exact Le0.one (.nil _) | exact Le1.refl _ | exact Le1.nil _ | refine LeH.cons ?_ ?_ | refine LeE.row ?_ | refine LeE.blk ?_ | refine LeL0.cons ?_ ?_ | refine LeL.cons ?_ ?_ | refine Le0.agg ?_ | refine Le.tup ?_ | exact Le.one (.one (.nil _)) | refine Le.one (.agg ?_))) (LeH.refl _) hK))
  ·obtain rfl : z = nI (m + 1) := by ((try simp only [vn] at *) <;> omega)
   exact roundV ⟨m + 1, by ((try simp only [vn] at *) <;> omega), hno.succ hc fun e => absurd (show x = 61 by rw [hx, e]; rfl) (by assumption)⟩ (lft_lt (by ((try simp only [vn] at *) <;> omega)))
 ·have hR2 := hR
  rw [NoIn.none (show NoIn 61 s s.size from by rw [← hsl]; obtain rfl : m = sl := (by ((try simp only [vn] at *) <;> omega)); exact hno)] at hR2
  subst hR2
  (refine FinK.mk ⟨_, Gh.refl _, ?_⟩; cbv; exact .inl (CutK.pre [] (by rfl) (by exact Nat.le_of_ble_eq_true rfl) (by rfl) (by rfl) (by repeat' (first | exact LeL.nil | exact LeL0.nil | exact LeH.nil | exact LeE.refl _ | exact Le.refl _ | exact Le0.one (.refl _) | exact Le0.one (.nil _) | exact Le1.refl _ | exact Le1.nil _ | refine LeH.cons ?_ ?_ | refine LeE.row ?_ | refine LeE.blk ?_ | refine LeL0.cons ?_ ?_ | refine LeL.cons ?_ ?_ | refine Le0.agg ?_ | refine Le.tup ?_ | exact Le.one (.one (.nil _)) | refine Le.one (.agg ?_))) (LeH.refl _) hK))
def curL (s : ByteArray) (a i : Nat) : List UInt8 := (s.data.toList.take i).drop a
theorem curL_self (s : ByteArray) (i : Nat) : curL s i i = [] := by
 unfold curL
 apply List.drop_eq_nil_of_le
 rw [List.length_take]
 omega
theorem curL_succ {s : ByteArray} {a i : Nat} {c : UInt8} (h : s.data[i]? = some c) (ha : a ≤ i) : curL s a (i + 1) = curL s a i ++ [c] := by
 unfold curL
 have e : s.data.toList[i]? = some c := by simpa using h
 have hi : i < s.data.toList.length := (List.getElem?_eq_some_iff.1 e).1
 rw [List.take_add_one, e, List.drop_append_of_le_length (by rw [List.length_take]; omega)]
 rfl
theorem curL_ext {s u : ByteArray} {a i : Nat} (hu : u = s.extract a i) : u.data.toList = curL s a i := by
 rw [hu]
 unfold curL
 rw [ByteArray.data_extract, Array.toList_extract, List.extract_eq_take_drop]
 rw [List.drop_take]
theorem curL_ne {s : ByteArray} {a i : Nat} (ha : a < i) (hi : i ≤ s.size) : curL s a i ≠ [] := fun e => by
 have := congrArg List.length e
 unfold curL at this
 have hl : s.data.toList.length = s.size := by rw [Array.length_toList]; rfl
 rw [List.length_drop, List.length_take, hl] at this
 simp only [List.length_nil] at this
 omega
theorem rparse_body (P : Program) (hL : FnOk P 62 LinC) : BodyOk P x39 ParseC := by
 intro args H K hc
 obtain ⟨s, rfl, rfl, hp, hK⟩ := hc
 refine ⟨Nat.le_of_ble_eq_true rfl, ?_⟩
 dsimp only at hK ⊢
 have hs : s.size ≤ maxLen := hp
 unfold maxLen at hs
 obtain ⟨R, hR⟩ : ∃ R, R = parseS s.data.toList := ⟨_, rfl⟩
 rw [← hR] at hK
 obtain ⟨sl, hsl⟩ : ∃ n, n = s.size := ⟨_, rfl⟩
 unfold parseS at hR
 cbv
 refine xloopV [0] (fun q : { q : Nat × Nat × Nat × List Fd // R = parseG q.2.2.1 (curL s q.2.1 q.1) q.2.2.2 (s.data.toList.drop q.1) ∧ q.1 ≤ sl ∧ q.2.1 ≤ q.1 ∧ q.2.2.1 ≤ 65 ∧ q.2.2.2.length ≤ q.2.2.1 } => [(6, .i (nI q.1.2.2.1)), (7, .i (nI q.1.2.1)), (8, .i (nI q.1.1)), (5, .hd 0)]) (fun q => [.row 65 2 (mapA FdA q.1.2.2.2)]) (fun q => lft sl q.1.1) ⟨(0, 0, 1, []), by rw [hR]; rfl, Nat.zero_le _, Nat.le_refl _, by decide, by decide⟩ ?_
 rintro ⟨⟨i, a, n, L⟩, hq, hi, ha, hn, hl⟩
 dsimp only at hq hi ha hn hl ⊢
 have hL2 := mapA_len FdA L
 cbv; repeat' ((first | refine .mk (fun h => ?_) fun h => ?_ | refine .k fun z hz => ?_ | fail) <;> cbv)
 ·refine ⟨i, rfl, by ((try simp only [vn] at *) <;> omega), fun c hc x hx => ?_⟩
  rw [drop_at s hc] at hq
  cbv; repeat' ((first | refine .mk (fun h => ?_) fun h => ?_ | refine .k fun z hz => ?_ | refine .u fun u hu hul => ?_ | fail) <;> cbv)
  ·obtain rfl : c = 10 := u8_eq hx (by assumption)
   rw [parseG, if_pos rfl, if_pos (by ((try simp only [vn] at *) <;> omega))] at hq
   subst hq
   exact FinK.mk ⟨_, Gh.refl _, .inl (CutK.pre _ (by rfl) (by exact Nat.le_of_ble_eq_true rfl) (by rfl) (by rfl) (by repeat' (first | exact LeL.nil | exact LeL0.nil | exact LeH.nil | exact LeE.refl _ | exact Le.refl _ | exact Le0.one (.refl _) | exact Le0.one (.nil _) | exact Le1.refl _ | exact Le1.nil _ | refine LeH.cons ?_ ?_ | refine LeE.row ?_ | refine LeE.blk ?_ | refine LeL0.cons ?_ ?_ | refine LeL.cons ?_ ?_ | refine Le0.agg ?_ | refine Le.tup ?_ | exact Le.one (.one (.nil _)) | refine Le.one (.agg ?_))) (LeH.refl _) hK)⟩
  ·obtain rfl : c = 10 := u8_eq hx (by assumption)
   have hn64 : ¬ 64 < n := by ((try simp only [vn] at *) <;> omega)
   rw [parseG, if_pos rfl, if_neg hn64, ← curL_ext (a := a) (i := i) hu, lineR_p] at hq
   have hus : u.size ≤ 9223372036854775807 := by ((try simp only [vn] at *) <;> omega)
   clear hu hul
   refine callG_spec0 hL u hus rfl rfl rfl ?_
   try dsimp only
   obtain ⟨Z, hZ⟩ : ∃ z, z = lineR u.data.toList := ⟨_, rfl⟩
   rw [← hZ] at hq ⊢
   obtain ⟨⟨nm, v⟩, ok⟩ := Z
   cases ok with
   | false =>
    rw [if_neg (fun e => by cases e)] at hq
    dsimp only at hq
    subst hq
    cbv
    exact FinK.mk ⟨_, Gh.refl _, .inl (CutK.pre _ (by rfl) (by exact Nat.le_of_ble_eq_true rfl) (by rfl) (by rfl) (by repeat' (first | exact LeL.nil | exact LeL0.nil | exact LeH.nil | exact LeE.refl _ | exact Le.refl _ | exact Le0.one (.refl _) | exact Le0.one (.nil _) | exact Le1.refl _ | exact Le1.nil _ | refine LeH.cons ?_ ?_ | refine LeE.row ?_ | refine LeE.blk ?_ | refine LeL0.cons ?_ ?_ | refine LeL.cons ?_ ?_ | refine Le0.agg ?_ | refine Le.tup ?_ | exact Le.one (.one (.nil _)) | refine Le.one (.agg ?_))) (LeH.refl _) hK)⟩
   | true =>
    rw [if_pos rfl] at hq
    dsimp only at hq
    cbv; repeat' ((first | refine .k fun z hz => ?_ | refine .zl fun zs hzs hzl => ?_ | fail) <;> cbv)
    rename_i zn hzn zi hzi
    obtain rfl : zn = nI (n + 1) := by ((try simp only [vn] at *) <;> omega)
    obtain rfl : zi = nI (i + 1) := by ((try simp only [vn] at *) <;> omega)
    obtain rfl : z = nI (i + 1) := by ((try simp only [vn] at *) <;> omega)
    obtain rfl : zs = mapA FdA (L ++ [⟨nm, v⟩]) := by rw [mapA_app, mapA_one, hzs]; rfl
    exact roundV ⟨(i + 1, i + 1, n + 1, L ++ [⟨nm, v⟩]), by dsimp only; rw [curL_self]; exact hq, by ((try simp only [vn] at *) <;> omega), Nat.le_refl _, by ((try simp only [vn] at *) <;> omega), by simp only [List.length_append, List.length_cons, List.length_nil]; omega⟩ (lft_lt (by ((try simp only [vn] at *) <;> omega)))
  ·obtain rfl : z = nI (i + 1) := by ((try simp only [vn] at *) <;> omega)
   rw [parseG, if_neg fun e => absurd (show x = 10 by rw [hx, e]; rfl) (by assumption), ← curL_succ hc ha] at hq
   exact roundV ⟨(i + 1, a, n, L), hq, by ((try simp only [vn] at *) <;> omega), by dsimp only; omega, hn, hl⟩ (lft_lt (by ((try simp only [vn] at *) <;> omega)))
 all_goals rw [drop_end s (k := i) (by ((try simp only [vn] at *) <;> omega)), parseG] at hq
 ·rw [if_neg (curL_ne (by ((try simp only [vn] at *) <;> omega)) (by omega)), if_pos (by ((try simp only [vn] at *) <;> omega))] at hq
  subst hq
  exact FinK.mk ⟨_, Gh.refl _, .inl (CutK.pre _ (by rfl) (by exact Nat.le_of_ble_eq_true rfl) (by rfl) (by rfl) (by repeat' (first | exact LeL.nil | exact LeL0.nil | exact LeH.nil | exact LeE.refl _ | exact Le.refl _ | exact Le0.one (.refl _) | exact Le0.one (.nil _) | exact Le1.refl _ | exact Le1.nil _ | refine LeH.cons ?_ ?_ | refine LeE.row ?_ | refine LeE.blk ?_ | refine LeL0.cons ?_ ?_ | refine LeL.cons ?_ ?_ | refine Le0.agg ?_ | refine Le.tup ?_ | exact Le.one (.one (.nil _)) | refine Le.one (.agg ?_))) (LeH.refl _) hK)⟩
 ·rw [if_neg (curL_ne (by ((try simp only [vn] at *) <;> omega)) (by omega)), if_neg (by ((try simp only [vn] at *) <;> omega))] at hq
  subst hq
  exact FinK.mk ⟨_, Gh.refl _, .inl (CutK.pre _ (by rfl) (by exact Nat.le_of_ble_eq_true rfl) (by rfl) (by rfl) (by repeat' (first | exact LeL.nil | exact LeL0.nil | exact LeH.nil | exact LeE.refl _ | exact Le.refl _ | exact Le0.one (.refl _) | exact Le0.one (.nil _) | exact Le1.refl _ | exact Le1.nil _ | refine LeH.cons ?_ ?_ | refine LeE.row ?_ | refine LeE.blk ?_ | refine LeL0.cons ?_ ?_ | refine LeL.cons ?_ ?_ | refine Le0.agg ?_ | refine Le.tup ?_ | exact Le.one (.one (.nil _)) | refine Le.one (.agg ?_))) (LeH.refl _) hK)⟩
 ·have hai : a = i := by ((try simp only [vn] at *) <;> omega)
  subst hai
  rw [if_pos (curL_self s a)] at hq
  subst hq
  refine FinK.mk ⟨_, Gh.plain 0 rfl, ?_⟩
  cbv
  exact .inl (CutK.pre _ (by rfl) (by exact Nat.le_of_ble_eq_true rfl) (by rfl) (by rfl) (Le.refl _) (LeH.refl _) hK)
end Go.Proofs.YtpcfdpengbkplaaDoor
/-
 Book: the store.
-/
namespace Go.Proofs.YtpcfdpengbkplaaDoor
open Go.RowKit
set_option maxHeartbeats 8000000
set_option maxRecDepth 100000
theorem finG {M : Nat} {res : List XRes} {K : AV → List Ent → Prop} {st st1 : St} (hg : Gh M st st1) (h : FinK M res K st1) : FinK M res K st := by
 obtain ⟨st', h1, h2⟩ := h
 exact ⟨⟨st', hg.trans h1, h2⟩⟩
structure Sto where
 writes : List ByteArray
 lasting : Nat
 armed : Bool
 fuse : Nat
 down : Bool
noncomputable def StoE : Sto → List Ent | ⟨l, n, a, f, d⟩ => [.blk 73 [.hd 1, .i (nI n), .bl a, .i (nI f), .bl d], .row 9 1 (mapA AV.str l)]
def StoOk (s : Sto) : Prop := s.writes.length ≤ 1048576 ∧ s.lasting ≤ s.writes.length ∧ s.fuse ≤ 1048576
def StoG (r : Sto → AV) : Ctr := spec (fun _ : Sto => [.ptr 0 0]) StoE StoOk r StoE
theorem s_len_body (P : Program) : BodyOk P x25 (StoG fun s => .i (nI s.writes.length)) := by
 intro args H K hc; obtain ⟨s, rfl, rfl, hp, hK⟩ := hc; refine ⟨Nat.le_of_ble_eq_true rfl, ?_⟩; dsimp only at hp hK ⊢
 obtain ⟨l, n, a, f, d⟩ := s
 cbv; repeat' ((first | refine .k fun z hz => ?_ | fail) <;> cbv)
 obtain rfl : z = nI l.length := by first | exact hz | (rw [hz, mapA_len]; rfl)
 exact FinK.mk ⟨_, Gh.refl _, .inl (CutK.pre _ (by rfl) (by exact Nat.le_of_ble_eq_true rfl) (by rfl) (by rfl) (Le.refl _) (LeH.refl _) hK)⟩
theorem s_down_body (P : Program) : BodyOk P x24 (StoG fun s => .bl s.down) := by
 intro args H K hc; obtain ⟨s, rfl, rfl, hp, hK⟩ := hc; refine ⟨Nat.le_of_ble_eq_true rfl, ?_⟩; dsimp only at hp hK ⊢
 obtain ⟨l, n, a, f, d⟩ := s
 cbv
 exact FinK.mk ⟨_, Gh.refl _, .inl (CutK.pre _ (by rfl) (by exact Nat.le_of_ble_eq_true rfl) (by rfl) (by rfl) (Le.refl _) (LeH.refl _) hK)⟩
theorem s_lasting_body (P : Program) : BodyOk P x46 (StoG fun s => .i (nI s.lasting)) := by
 intro args H K hc; obtain ⟨s, rfl, rfl, hp, hK⟩ := hc; refine ⟨Nat.le_of_ble_eq_true rfl, ?_⟩; dsimp only at hp hK ⊢
 obtain ⟨l, n, a, f, d⟩ := s
 cbv
 exact FinK.mk ⟨_, Gh.refl _, .inl (CutK.pre _ (by rfl) (by exact Nat.le_of_ble_eq_true rfl) (by rfl) (by rfl) (Le.refl _) (LeH.refl _) hK)⟩
def readR (s : Sto) (i : Int) : AV := if s.down = true then .tup [.str ⟨#[]⟩, .i 14] else if i < 0 ∨ Int.ofNat s.writes.length ≤ i then .tup [.str ⟨#[]⟩, .i 3] else .tup [.str (s.writes.getD i.toNat ⟨#[]⟩), .i 0]
def ReadC : Ctr := spec (fun q : Sto × Int => [.ptr 0 0, .i q.2]) (fun q => StoE q.1) (fun q => StoOk q.1) (fun q => readR q.1 q.2) (fun q => StoE q.1)
theorem s_read_body (P : Program) : BodyOk P x28 ReadC := by
 intro args H K hc; obtain ⟨q, rfl, rfl, hp, hK⟩ := hc; refine ⟨Nat.le_of_ble_eq_true rfl, ?_⟩; dsimp only at hp hK ⊢
 obtain ⟨⟨l, n, a, f, d⟩, i⟩ := q
 dsimp only at hK
 cases d
 ·cbv; repeat' ((first | refine .mk (fun h => ?_) fun h => ?_ | refine .k fun z hz => ?_ | fail) <;> cbv)
  ·have e : readR ⟨l, n, a, f, false⟩ i = .tup [.str ⟨#[]⟩, .i 3] := by unfold readR; rw [if_neg Bool.false_ne_true, if_pos (.inl h)]
   rw [e] at hK
   exact FinK.mk ⟨_, Gh.refl _, .inl (CutK.pre _ (by rfl) (by exact Nat.le_of_ble_eq_true rfl) (by rfl) (by rfl) (Le.refl _) (LeH.refl _) hK)⟩
  ·replace hz : z = (l.length : Int) := by rw [hz, mapA_len]
   have e : readR ⟨l, n, a, f, false⟩ i = .tup [.str ⟨#[]⟩, .i 3] := by unfold readR; rw [if_neg Bool.false_ne_true, if_pos (.inr (by show Int.ofNat l.length ≤ i; rw [Int.ofNat_eq_natCast]; omega))]
   rw [e] at hK
   exact FinK.mk ⟨_, Gh.refl _, .inl (CutK.pre _ (by rfl) (by exact Nat.le_of_ble_eq_true rfl) (by rfl) (by rfl) (Le.refl _) (LeH.refl _) hK)⟩
  ·replace hz : z = (l.length : Int) := by rw [hz, mapA_len]
   obtain ⟨k, rfl⟩ : ∃ k, i = nI k := ⟨i.toNat, by show i = Int.ofNat i.toNat; rw [Int.ofNat_eq_natCast]; omega⟩
   obtain ⟨x, hx⟩ : ∃ x, l[k]? = some x := ⟨_, List.getElem?_eq_getElem (by have h2 : (k : Int) < z := h; omega)⟩
   have e : readR ⟨l, n, a, f, false⟩ (nI k) = .tup [.str x, .i 0] := by
    unfold readR
    rw [if_neg Bool.false_ne_true, if_neg (by have h2 : (k : Int) < z := h; show ¬ ((k : Int) < 0 ∨ (l.length : Int) ≤ (k : Int)); omega)]
    show AV.tup [.str (l.getD k _), _] = _
    rw [List.getD_eq_getElem?_getD, hx]; rfl
   rw [e] at hK
   refine AskIdx.e ?_
   cbv; repeat' ((first | refine .e ?_ | fail) <;> cbv)
   exact FinK.mk ⟨_, Gh.refl _, .inl (CutK.pre _ (by rfl) (by exact Nat.le_of_ble_eq_true rfl) (by rfl) (by rfl) (Le.refl _) (LeH.refl _) hK)⟩
 ·cbv
  have e : readR ⟨l, n, a, f, true⟩ i = .tup [.str ⟨#[]⟩, .i 14] := rfl
  rw [e] at hK
  exact FinK.mk ⟨_, Gh.refl _, .inl (CutK.pre _ (by rfl) (by exact Nat.le_of_ble_eq_true rfl) (by rfl) (by rfl) (Le.refl _) (LeH.refl _) hK)⟩
def NewC : Ctr := spec (fun _ : Unit => []) (fun _ => []) (fun _ => True) (fun _ => .ptr 0 0) (fun _ => StoE ⟨[], 0, false, 0, false⟩)
theorem s_new_body (P : Program) : BodyOk P x17 NewC := by
 intro args H K hc; obtain ⟨q, rfl, rfl, hp, hK⟩ := hc; refine ⟨Nat.le_of_ble_eq_true rfl, ?_⟩; dsimp only at hp hK ⊢
 cbv
 refine finG (Gh.adoptC 0 0 9 1 rfl rfl) ?_
 cbv
 exact FinK.mk ⟨_, Gh.refl _, .inl (CutK.pre _ (by rfl) (by exact Nat.le_of_ble_eq_true rfl) (by rfl) (by rfl) (Le.refl _) (LeH.refl _) hK)⟩
noncomputable def SWE (q : Sto × ByteArray) : List Ent := match q with | ⟨⟨l, n, a, f, d⟩, x⟩ => [.blk 73 [.hd 1, .i (nI n), .bl a, .i (nI f), .bl d], .row 9 1 (mapA AV.str l), .blk 27 [.ptr 0 0], .blk 9 [.str x]]
def addS (s : Sto) (x : ByteArray) : Sto := { s with writes := s.writes ++ [x] }
/-- What Write's closure does. -/
def W1C : Ctr := spec (fun _ : Sto × ByteArray => [.ptr 2 0, .ptr 3 0]) SWE (fun q => StoOk q.1) (fun _ => .tup []) (fun q => SWE (addS q.1 q.2, q.2))
theorem s_w1_body (P : Program) : BodyOk P x59 W1C := by
 intro args H K hc; obtain ⟨q, rfl, rfl, hp, hK⟩ := hc; refine ⟨Nat.le_of_ble_eq_true rfl, ?_⟩; dsimp only at hp hK ⊢
 obtain ⟨⟨l, n, a, f, d⟩, x⟩ := q
 obtain ⟨h1, h2, h3⟩ : l.length ≤ 1048576 ∧ n ≤ l.length ∧ f ≤ 1048576 := hp
 cbv; repeat' ((first | refine .zl fun zs hzs hzl => ?_ | fail) <;> cbv)
 obtain rfl : zs = mapA AV.str (l ++ [x]) := by (rw [mapA_app, mapA_one]; first | exact hzs | (subst_vars; rfl))
 cbv
 exact FinK.mk ⟨_, Gh.refl _, .inl (CutK.pre _ (by rfl) (by exact Nat.le_of_ble_eq_true rfl) (by rfl) (by rfl) (Le.refl _) (LeH.refl _) hK)⟩
def burn (s : Sto) : Sto := { s with fuse := s.fuse - 1 }
/-- A call that does g. -/
def callS (g : Sto → Sto) (s : Sto) : Sto × Int := if s.armed = true then (if s.fuse = 0 then ({ s with down := true }, 14) else (g (burn s), 0)) else (g s, 0)
def CallW : Ctr := spec (fun _ : Sto × ByteArray => [.ptr 0 0, .clo 59 [.ptr 2 0, .ptr 3 0]]) SWE (fun q => StoOk q.1) (fun q => .i (callS (fun s => addS s q.2) q.1).2) (fun q => SWE ((callS (fun s => addS s q.2) q.1).1, q.2))
theorem s_callw_body (P : Program) (hm : MayCall P 59) (hw : FnOk P 59 W1C) : BodyOk P x58 CallW := by
 intro args H K hc; obtain ⟨q, rfl, rfl, hp, hK⟩ := hc; refine ⟨Nat.le_of_ble_eq_true rfl, ?_⟩; dsimp only at hp hK ⊢
 obtain ⟨⟨l, n, a, f, d⟩, x⟩ := q
 obtain ⟨h1, h2, h3⟩ : l.length ≤ 1048576 ∧ n ≤ l.length ∧ f ≤ 1048576 := hp
 dsimp only at hK
 cases a
 ·have e : callS (fun s => addS s x) ⟨l, n, false, f, d⟩ = (⟨l ++ [x], n, false, f, d⟩, 0) := rfl
  rw [e] at hK
  cbv; repeat' ((first | refine And.intro ?_ ?_ | fail) <;> cbv)
  exact hm
  have hp : StoOk ⟨l, n, false, f, d⟩ := ⟨h1, h2, h3⟩
  (refine callG_spec hw ((⟨l, n, false, f, d⟩, x) : Sto × ByteArray) [0, 1, 2, 3] hp rfl rfl (by decide) rfl rfl rfl rfl rfl ?_; try dsimp only)
  obtain ⟨l2, hl2⟩ : ∃ l2, l2 = l ++ [x] := ⟨_, rfl⟩
  rw [show addS ⟨l, n, false, f, d⟩ x = ⟨l2, n, false, f, d⟩ by rw [hl2]; rfl]
  rw [← hl2] at hK
  cbv
  exact FinK.mk ⟨_, Gh.refl _, .inl (CutK.pre _ (by rfl) (by exact Nat.le_of_ble_eq_true rfl) (by rfl) (by rfl) (Le.refl _) (LeH.refl _) hK)⟩
 ·cbv; repeat' ((first | refine .mk (fun h => ?_) fun h => ?_ | refine .k fun z hz => ?_ | refine And.intro ?_ ?_ | fail) <;> cbv)
  ·have e : callS (fun s => addS s x) ⟨l, n, true, f, d⟩ = (⟨l, n, true, f, true⟩, 14) := by
    have h0 : f = 0 := Int.ofNat.inj h
    subst h0; rfl
   rw [e] at hK
   exact FinK.mk ⟨_, Gh.refl _, .inl (CutK.pre _ (by rfl) (by exact Nat.le_of_ble_eq_true rfl) (by rfl) (by rfl) (Le.refl _) (LeH.refl _) hK)⟩
  ·exact hm
  ·obtain ⟨m, hm2⟩ : ∃ m, f = m + 1 := ⟨f - 1, by have h0 : ¬ f = 0 := fun e => h (congrArg Int.ofNat e); omega⟩
   obtain rfl : z = nI m := by subst hm2; rw [hz]; show ((m + 1 : Nat) : Int) - 1 = (m : Int); omega
   have e : callS (fun s => addS s x) ⟨l, n, true, f, d⟩ = (⟨l ++ [x], n, true, m, d⟩, 0) := by subst hm2; rfl
   rw [e] at hK
   have hp2 : StoOk ⟨l, n, true, m, d⟩ := ⟨h1, h2, by show m ≤ 1048576; omega⟩
   (refine callG_spec hw ((⟨l, n, true, m, d⟩, x) : Sto × ByteArray) [0, 1, 2, 3] hp2 rfl rfl (by decide) rfl rfl rfl rfl rfl ?_; try dsimp only)
   obtain ⟨l2, hl2⟩ : ∃ l2, l2 = l ++ [x] := ⟨_, rfl⟩
   rw [show addS ⟨l, n, true, m, d⟩ x = ⟨l2, n, true, m, d⟩ by rw [hl2]; rfl]
   rw [← hl2] at hK
   cbv
   exact FinK.mk ⟨_, Gh.refl _, .inl (CutK.pre _ (by rfl) (by exact Nat.le_of_ble_eq_true rfl) (by rfl) (by rfl) (Le.refl _) (LeH.refl _) hK)⟩
noncomputable def S1E (s : Sto) : List Ent := match s with | ⟨l, n, a, f, d⟩ => [.blk 73 [.hd 1, .i (nI n), .bl a, .i (nI f), .bl d], .row 9 1 (mapA AV.str l), .blk 27 [.ptr 0 0]]
def lastS (s : Sto) : Sto := { s with lasting := s.writes.length }
def S1C : Ctr := spec (fun _ : Sto => [.ptr 2 0]) S1E StoOk (fun _ => .tup []) (fun s => S1E (lastS s))
theorem s_s1_body (P : Program) : BodyOk P x70 S1C := by
 intro args H K hc; obtain ⟨q, rfl, rfl, hp, hK⟩ := hc; refine ⟨Nat.le_of_ble_eq_true rfl, ?_⟩; dsimp only at hp hK ⊢
 obtain ⟨l, n, a, f, d⟩ := q
 have e : lastS ⟨l, n, a, f, d⟩ = ⟨l, l.length, a, f, d⟩ := rfl
 rw [e] at hK
 cbv; repeat' ((first | refine .k fun z hz => ?_ | fail) <;> cbv)
 obtain rfl : z = nI l.length := by rw [hz, mapA_len]; rfl
 exact FinK.mk ⟨_, Gh.refl _, .inl (CutK.pre _ (by rfl) (by exact Nat.le_of_ble_eq_true rfl) (by rfl) (by rfl) (Le.refl _) (LeH.refl _) hK)⟩
def CallY : Ctr := spec (fun _ : Sto => [.ptr 0 0, .clo 70 [.ptr 2 0]]) S1E StoOk (fun q => .i (callS lastS q).2) (fun q => S1E (callS lastS q).1)
theorem s_cally_body (P : Program) (hm : MayCall P 70) (hw : FnOk P 70 S1C) : BodyOk P x58 CallY := by
 intro args H K hc; obtain ⟨q, rfl, rfl, hp, hK⟩ := hc; refine ⟨Nat.le_of_ble_eq_true rfl, ?_⟩; dsimp only at hp hK ⊢
 obtain ⟨l, n, a, f, d⟩ := q
 obtain ⟨h1, h2, h3⟩ : l.length ≤ 1048576 ∧ n ≤ l.length ∧ f ≤ 1048576 := hp
 cases a
 ·have e : callS lastS ⟨l, n, false, f, d⟩ = (⟨l, l.length, false, f, d⟩, 0) := rfl
  rw [e] at hK
  cbv; repeat' ((first | refine And.intro ?_ ?_ | fail) <;> cbv)
  exact hm
  have hp : StoOk ⟨l, n, false, f, d⟩ := ⟨h1, h2, h3⟩
  (refine callG_spec hw (⟨l, n, false, f, d⟩ : Sto) [0, 1, 2] hp rfl rfl (by decide) rfl rfl rfl rfl rfl ?_; try dsimp only)
  obtain ⟨n2, hn2⟩ : ∃ n2, n2 = l.length := ⟨_, rfl⟩
  rw [show lastS ⟨l, n, false, f, d⟩ = ⟨l, n2, false, f, d⟩ by rw [hn2]; rfl]
  rw [← hn2] at hK
  cbv
  exact FinK.mk ⟨_, Gh.refl _, .inl (CutK.pre _ (by rfl) (by exact Nat.le_of_ble_eq_true rfl) (by rfl) (by rfl) (Le.refl _) (LeH.refl _) hK)⟩
 ·cbv; repeat' ((first | refine .mk (fun h => ?_) fun h => ?_ | refine .k fun z hz => ?_ | refine And.intro ?_ ?_ | fail) <;> cbv)
  ·have e : callS lastS ⟨l, n, true, f, d⟩ = (⟨l, n, true, f, true⟩, 14) := by
    have h0 : f = 0 := Int.ofNat.inj h
    subst h0; rfl
   rw [e] at hK
   exact FinK.mk ⟨_, Gh.refl _, .inl (CutK.pre _ (by rfl) (by exact Nat.le_of_ble_eq_true rfl) (by rfl) (by rfl) (Le.refl _) (LeH.refl _) hK)⟩
  ·exact hm
  ·obtain ⟨m, hm2⟩ : ∃ m, f = m + 1 := ⟨f - 1, by have h0 : ¬ f = 0 := fun e => h (congrArg Int.ofNat e); omega⟩
   obtain rfl : z = nI m := by subst hm2; rw [hz]; show ((m + 1 : Nat) : Int) - 1 = (m : Int); omega
   have e : callS lastS ⟨l, n, true, f, d⟩ = (⟨l, l.length, true, m, d⟩, 0) := by subst hm2; rfl
   rw [e] at hK
   have hp2 : StoOk ⟨l, n, true, m, d⟩ := ⟨h1, h2, by show m ≤ 1048576; omega⟩
   (refine callG_spec hw (⟨l, n, true, m, d⟩ : Sto) [0, 1, 2] hp2 rfl rfl (by decide) rfl rfl rfl rfl rfl ?_; try dsimp only)
   obtain ⟨n2, hn2⟩ : ∃ n2, n2 = l.length := ⟨_, rfl⟩
   rw [show lastS ⟨l, n, true, m, d⟩ = ⟨l, n2, true, m, d⟩ by rw [hn2]; rfl]
   rw [← hn2] at hK
   cbv
   exact FinK.mk ⟨_, Gh.refl _, .inl (CutK.pre _ (by rfl) (by exact Nat.le_of_ble_eq_true rfl) (by rfl) (by rfl) (Le.refl _) (LeH.refl _) hK)⟩
end Go.Proofs.YtpcfdpengbkplaaDoor
/-
 Book: the store's writes.
-/
namespace Go.Proofs.YtpcfdpengbkplaaDoor
open Go.RowKit
set_option maxHeartbeats 8000000
set_option maxRecDepth 100000
def writeS (s : Sto) (x : ByteArray) : Sto × Int := if s.down = true then (s, 14) else if 4096 < x.size then (s, 1) else if 4096 ≤ s.writes.length then (s, 7) else callS (fun s => addS s x) s
def WriteC : Ctr := spec (fun q : Sto × ByteArray => [.ptr 0 0, .str q.2]) (fun q => StoE q.1) (fun q => StoOk q.1) (fun q => .i (writeS q.1 q.2).2) (fun q => StoE (writeS q.1 q.2).1)
theorem s_write_body (P : Program) (hw : FnOk P 58 CallW) : BodyOk P x37 WriteC := by
 intro args H K hc; obtain ⟨q, rfl, rfl, hp, hK⟩ := hc; refine ⟨Nat.le_of_ble_eq_true rfl, ?_⟩; dsimp only at hp hK ⊢
 obtain ⟨⟨l, n, a, f, d⟩, x⟩ := q
 obtain ⟨h1, h2, h3⟩ : l.length ≤ 1048576 ∧ n ≤ l.length ∧ f ≤ 1048576 := hp
 have hl := mapA_len AV.str l
 cases d
 ·cbv; repeat' ((first | refine .mk (fun h => ?_) fun h => ?_ | refine .k fun z hz => ?_ | fail) <;> cbv)
  ·have hx : 4096 < x.size := by ((try simp only [vn] at *) <;> omega)
   have e : writeS ⟨l, n, a, f, false⟩ x = (⟨l, n, a, f, false⟩, 1) := by unfold writeS; rw [if_neg Bool.false_ne_true, if_pos hx]
   rw [e] at hK
   exact FinK.mk ⟨_, Gh.refl _, .inl (CutK.pre _ (by rfl) (by exact Nat.le_of_ble_eq_true rfl) (by rfl) (by rfl) (Le.refl _) (LeH.refl _) hK)⟩
  ·have hx : ¬ 4096 < x.size := by ((try simp only [vn] at *) <;> omega)
   have hy : 4096 ≤ l.length := by ((try simp only [vn] at *) <;> omega)
   have e : writeS ⟨l, n, a, f, false⟩ x = (⟨l, n, a, f, false⟩, 7) := by unfold writeS; rw [if_neg Bool.false_ne_true, if_neg hx, if_pos hy]
   rw [e] at hK
   exact FinK.mk ⟨_, Gh.refl _, .inl (CutK.pre _ (by rfl) (by exact Nat.le_of_ble_eq_true rfl) (by rfl) (by rfl) (Le.refl _) (LeH.refl _) hK)⟩
  ·have hx : ¬ 4096 < x.size := by ((try simp only [vn] at *) <;> omega)
   have hy : ¬ 4096 ≤ l.length := by ((try simp only [vn] at *) <;> omega)
   have e : writeS ⟨l, n, a, f, false⟩ x = callS (fun s => addS s x) ⟨l, n, a, f, false⟩ := by unfold writeS; rw [if_neg Bool.false_ne_true, if_neg hx, if_neg hy]
   rw [e] at hK
   have hp : StoOk ⟨l, n, a, f, false⟩ := ⟨h1, h2, h3⟩
   (refine callG_spec hw ((⟨l, n, a, f, false⟩, x) : Sto × ByteArray) [0, 1, 2, 3] hp rfl rfl (by decide) rfl rfl rfl rfl rfl ?_; try dsimp only)
   obtain ⟨⟨⟨l2, n2, a2, f2, d2⟩, c2⟩, hc⟩ : ∃ y, y = callS (fun s => addS s x) ⟨l, n, a, f, false⟩ := ⟨_, rfl⟩
   rw [← hc] at hK ⊢
   cbv
   exact FinK.mk ⟨_, Gh.refl _, .inl (CutK.pre _ (by rfl) (by exact Nat.le_of_ble_eq_true rfl) (by rfl) (by rfl) (Le.refl _) (LeH.refl _) hK)⟩
 ·have e : writeS ⟨l, n, a, f, true⟩ x = (⟨l, n, a, f, true⟩, 14) := rfl
  rw [e] at hK
  cbv
  exact FinK.mk ⟨_, Gh.refl _, .inl (CutK.pre _ (by rfl) (by exact Nat.le_of_ble_eq_true rfl) (by rfl) (by rfl) (Le.refl _) (LeH.refl _) hK)⟩
def syncS (s : Sto) : Sto × Int := if s.down = true then (s, 14) else callS lastS s
def SyncC : Ctr := spec (fun _ : Sto => [.ptr 0 0]) StoE StoOk (fun q => .i (syncS q).2) (fun q => StoE (syncS q).1)
theorem s_sync_body (P : Program) (hw : FnOk P 58 CallY) : BodyOk P x45 SyncC := by
 intro args H K hc; obtain ⟨q, rfl, rfl, hp, hK⟩ := hc; refine ⟨Nat.le_of_ble_eq_true rfl, ?_⟩; dsimp only at hp hK ⊢
 obtain ⟨l, n, a, f, d⟩ := q
 obtain ⟨h1, h2, h3⟩ : l.length ≤ 1048576 ∧ n ≤ l.length ∧ f ≤ 1048576 := hp
 cases d
 ·cbv
  have e : syncS ⟨l, n, a, f, false⟩ = callS lastS ⟨l, n, a, f, false⟩ := rfl
  rw [e] at hK
  have hp : StoOk ⟨l, n, a, f, false⟩ := ⟨h1, h2, h3⟩
  (refine callG_spec hw (⟨l, n, a, f, false⟩ : Sto) [0, 1, 2] hp rfl rfl (by decide) rfl rfl rfl rfl rfl ?_; try dsimp only)
  obtain ⟨⟨⟨l2, n2, a2, f2, d2⟩, c2⟩, hc⟩ : ∃ y, y = callS lastS ⟨l, n, a, f, false⟩ := ⟨_, rfl⟩
  rw [← hc] at hK ⊢
  cbv
  exact FinK.mk ⟨_, Gh.refl _, .inl (CutK.pre _ (by rfl) (by exact Nat.le_of_ble_eq_true rfl) (by rfl) (by rfl) (Le.refl _) (LeH.refl _) hK)⟩
 ·have e : syncS ⟨l, n, a, f, true⟩ = (⟨l, n, a, f, true⟩, 14) := rfl
  rw [e] at hK
  cbv
  exact FinK.mk ⟨_, Gh.refl _, .inl (CutK.pre _ (by rfl) (by exact Nat.le_of_ble_eq_true rfl) (by rfl) (by rfl) (Le.refl _) (LeH.refl _) hK)⟩
def armS (s : Sto) (n : Nat) : Sto := { s with armed := true, fuse := n }
def ArmC : Ctr := spec (fun q : Sto × Nat => [.ptr 0 0, .i (nI q.2)]) (fun q => StoE q.1) (fun q => StoOk q.1 ∧ q.2 ≤ 1048576) (fun _ => .tup []) (fun q => StoE (armS q.1 q.2))
theorem s_arm_body (P : Program) : BodyOk P x19 ArmC := by
 intro args H K hc; obtain ⟨q, rfl, rfl, hp, hK⟩ := hc; refine ⟨Nat.le_of_ble_eq_true rfl, ?_⟩; dsimp only at hp hK ⊢
 obtain ⟨⟨l, n, a, f, d⟩, x⟩ := q
 have e : armS ⟨l, n, a, f, d⟩ x = ⟨l, n, true, x, d⟩ := rfl
 rw [e] at hK
 cbv; repeat' ((first | refine .y fun h => ?_ | refine .k fun z hz => ?_ | fail) <;> cbv)
 obtain rfl : z = nI x := by ((try simp only [vn] at *) <;> omega)
 exact FinK.mk ⟨_, Gh.refl _, .inl (CutK.pre _ (by rfl) (by exact Nat.le_of_ble_eq_true rfl) (by rfl) (by rfl) (Le.refl _) (LeH.refl _) hK)⟩
/-- slices.Clone of texts: a list of its own. -/
noncomputable def CloneSR : Ctr := spec (fun xs : List AV => [.sl 1 xs]) (fun _ => []) (fun xs => xs.length ≤ 1048576) (fun _ => .hd 0) fun xs => [.row 9 1 xs]
theorem cloneSR_body (P : Program) : BodyOk P x51 CloneSR := by
 intro args H K hc; obtain ⟨xs, rfl, rfl, hp, hK⟩ := hc; refine ⟨Nat.le_of_ble_eq_true rfl, ?_⟩; dsimp only at hp hK ⊢
 have hp : xs.length ≤ 1048576 := hp
 cbv; repeat' ((first | refine .zl fun zs hzs hzl => ?_ | refine .mk (fun h => ?_) ?_ | fail) <;> cbv)
 ·subst h
  exact ⟨⟨_, Gh.adopt 2 9 1 rfl, .inl (CutK.pre [.row 9 1 []] rfl (Nat.zero_le _) rfl rfl (Le.refl _) (LeH.refl _) hK)⟩⟩
 ·have hzs : zs = xs := hzs
  subst hzs
  exact ⟨⟨_, Gh.refl _, .inl (CutK.pre [.row 9 1 zs] rfl (Nat.zero_le _) rfl rfl (Le.refl _) (LeH.refl _) hK)⟩⟩
/-- Crash: the first so many writes stay. -/
def crashS (s : Sto) (k : Nat) : Sto := ⟨s.writes.take (s.lasting + min k (s.writes.length - s.lasting)), s.lasting + min k (s.writes.length - s.lasting), false, 0, false⟩
def CrashC : Ctr := spec (fun q : Sto × Nat => [.ptr 0 0, .i (nI q.2)]) (fun q => StoE q.1) (fun q => StoOk q.1 ∧ q.2 ≤ 1048576) (fun _ => .tup []) (fun q => StoE (crashS q.1 q.2))
theorem s_crash_body (P : Program) (hc : FnOk P 51 CloneSR) : BodyOkS P x33 CrashC := by
 intro args H K hc; obtain ⟨q, rfl, rfl, hp, hK⟩ := hc; refine ⟨Nat.le_of_ble_eq_true rfl, ?_⟩; dsimp only at hp hK ⊢
 obtain ⟨⟨l, n, a, f, d⟩, x⟩ := q
 obtain ⟨⟨h1, h2, h3⟩, h4⟩ : (l.length ≤ 1048576 ∧ n ≤ l.length ∧ f ≤ 1048576) ∧ x ≤ 1048576 := hp
 have hl := mapA_len AV.str l
 obtain ⟨m, hm⟩ : ∃ m, m = n + min x (l.length - n) := ⟨_, rfl⟩
 have e : crashS ⟨l, n, a, f, d⟩ x = ⟨l.take m, m, false, 0, false⟩ := by rw [hm]; rfl
 rw [e] at hK
 refine .gh (Gh.publish 1 rfl) (.of ?_)
 cbv; repeat' ((first | refine .k fun z hz => ?_ | refine .l fun ys hys hyl => ?_ | fail) <;> cbv)
 obtain rfl : z = nI m := by ((try simp only [vn] at *) <;> omega)
 obtain rfl : ys = l.take m := hys
 have hp : (mapA AV.str (l.take m)).length ≤ 1048576 := by rw [mapA_len, List.length_take]; omega
 have hlm : (l.take m).length = m := by rw [List.length_take]; omega
 obtain ⟨L, hL⟩ : ∃ L, L = l.take m := ⟨_, rfl⟩
 rw [← hL] at hK hp hlm ⊢
 (refine callG_new hc (mapA AV.str L) hp rfl rfl ?_; try dsimp only)
 have hlL := mapA_len AV.str L
 cbv; repeat' ((first | refine .k fun z hz => ?_ | fail) <;> cbv)
 obtain rfl : z = nI m := by ((try simp only [vn] at *) <;> omega)
 (refine FinK.mk ⟨_, Gh.refl _, ?_⟩; cbv; exact .inl (CutK.sel [0, 2] _ _ (by rfl) (by rfl) (by decide) (by rfl) (by exact Nat.le_of_ble_eq_true rfl) (by rfl) (by rfl) (Le.refl _) (LeH.refl _) hK))
end Go.Proofs.YtpcfdpengbkplaaDoor
/-
 Code itself on abstract values: for the few operations that have no rule of their own.
-/
namespace Go.Proofs.YtpcfdpengbkplaaDoor
open Go.RowKit
structure SemC (P : Program) (N M : Nat) (code : Code) (Q : XEx → St → Prop) (st : St) : Prop where
 out : ∀ (C : Ctx) (a : Act) (w : World) (r : Rho) (pub : Pub), C.n = N → C.m = M → HoldsW C st a w r pub → code.wp P (QX C Q) a w
section
variable {P : Program} {N M : Nat}
theorem SemC.of {code : Code} {c : XCode} {Q : XEx → St → Prop} {st : St} (hc : cCode P N code = some c) (h : SemW P N M c Q st) : SemC P N M code Q st := ⟨fun C a w r pub hN hM hh => h.out code C a w r pub hc hN hM hh⟩
theorem SemC.seq {c1 c2 : Code} {x : XCode} {Q : XEx → St → Prop} {st : St} (hc : cCode P N c1 = some x) (h : SemW P N M x (XThen (SemC P N M c2 Q) Q) st) : SemC P N M (.seq c1 c2) Q st := ⟨fun C act w r pub hN hM hh => by
 refine wp_seq (wp_mono (h.out c1 C act w r pub hc hN hM hh) fun e a' w' hq => ?_)
 cases e with
 | normal =>
  obtain ⟨st', r', pub', hk, hh⟩ := hq
  exact hk.out C a' w' r' pub' hN hM hh
 | exit id => exact hq
 | ret => exact hq
 | goto l => exact hq
 | panic ch => exact hq.elim
 | outgrown => exact hq.elim⟩
end
end Go.Proofs.YtpcfdpengbkplaaDoor
/-
 Book: digests, both ways.
-/
namespace Go.Proofs.YtpcfdpengbkplaaDoor
open Go.RowKit
set_option maxHeartbeats 8000000
set_option maxRecDepth 100000
def orI (a b : Int) : Int := IntKind.u64.wrap ((BitVec.ofInt 64 a ||| BitVec.ofInt 64 b).toNat : Nat)
def xorI (a b : Int) : Int := IntKind.u64.wrap ((BitVec.ofInt 64 a ^^^ BitVec.ofInt 64 b).toNat : Nat)
def andI (a b : Int) : Int := IntKind.u64.wrap ((BitVec.ofInt 64 a &&& BitVec.ofInt 64 b).toNat : Nat)
def rotI (x : Int) : Int := orI (IntKind.u64.wrap (x * 2 ^ 5)) (x.fdiv (2 ^ 59))
def RotC : Ctr := spec (fun x : Int => [.int .u64 x, .i 5]) (fun _ => []) (fun _ => True) (fun x => .int .u64 (rotI x)) fun _ => []
theorem rot_body (P : Program) : BodyOk P x57 RotC := by
 intro args H K hc; obtain ⟨x, rfl, rfl, hp, hK⟩ := hc; refine ⟨Nat.le_of_ble_eq_true rfl, ?_⟩; dsimp only at hp hK ⊢
 cbv; repeat' ((first | refine .k fun z hz => ?_ | fail) <;> cbv)
 rename_i y hy
 obtain rfl : y = 5 := by rw [hy]; decide
 obtain rfl : z = 5 := by rw [hz]; decide
 refine ⟨by decide, fun a ha => ?_⟩
 cbv; repeat' ((first | refine .k fun z hz => ?_ | fail) <;> cbv)
 obtain rfl : z = 59 := by rw [hz]; decide
 refine ⟨by decide, fun b hb => ?_⟩
 cbv; repeat' ((first | refine .k fun z hz => ?_ | fail) <;> cbv)
 obtain rfl : z = rotI x := by rw [hz, ha, hb]; rfl
 exact FinK.mk ⟨_, Gh.refl _, .inl (CutK.pre _ (by rfl) (by exact Nat.le_of_ble_eq_true rfl) (by rfl) (by rfl) (Le.refl _) (LeH.refl _) hK)⟩
def TurC : Ctr := spec (fun x : Int => [.int .u64 x, .int .u64 5]) (fun _ => []) (fun _ => True) (fun x => .int .u64 (rotI x)) fun _ => []
theorem tur_body (P : Program) : BodyOk P x82 TurC := by
 intro args H K hc; obtain ⟨x, rfl, rfl, hp, hK⟩ := hc; refine ⟨Nat.le_of_ble_eq_true rfl, ?_⟩; dsimp only at hp hK ⊢
 cbv
 refine ⟨by decide, fun a ha => ?_⟩
 cbv; repeat' ((first | refine .k fun z hz => ?_ | fail) <;> cbv)
 obtain rfl : z = 59 := by rw [hz]; decide
 refine ⟨by decide, fun b hb => ?_⟩
 cbv; repeat' ((first | refine .k fun z hz => ?_ | fail) <;> cbv)
 obtain rfl : z = rotI x := by rw [hz, ha, hb]; rfl
 exact FinK.mk ⟨_, Gh.refl _, .inl (CutK.pre _ (by rfl) (by exact Nat.le_of_ble_eq_true rfl) (by rfl) (by rfl) (Le.refl _) (LeH.refl _) hK)⟩
def stepI (h : Int) (c : UInt8) : Int := IntKind.u64.wrap (rotI (xorI h (c.toNat : Int)) * 13787848793156543929)
def sumI (l : List UInt8) : Int := l.foldl stepI 7809847782465536322
def endI (h : Int) : Int := xorI (IntKind.u64.wrap (xorI h (h.fdiv (2 ^ 29)) * 13787848793156543929)) ((IntKind.u64.wrap (xorI h (h.fdiv (2 ^ 29)) * 13787848793156543929)).fdiv (2 ^ 32))
theorem sumI_succ {s : ByteArray} {k : Nat} (h : k < s.size) : sumI (s.data.toList.take (k + 1)) = stepI (sumI (s.data.toList.take k)) (s.data[k]'h) := by
 unfold sumI
 rw [List.take_add_one, List.foldl_append]
 have : s.data.toList[k]? = some (s.data[k]'h) := by rw [Array.getElem?_toList]; exact Array.getElem?_eq_getElem h
 rw [this]; rfl
theorem sumI_all {s : ByteArray} {k : Nat} (h : k = s.size) : sumI (s.data.toList.take k) = sumI s.data.toList := by
 rw [List.take_of_length_le (by rw [Array.length_toList]; exact Nat.le_of_eq h.symm)]
theorem u64_in (x : Int) : 0 ≤ IntKind.u64.wrap x ∧ IntKind.u64.wrap x < 18446744073709551616 := by
 unfold IntKind.wrap; simp [IntKind.bits, IntKind.signed]; omega
/-- A digit, at a place from the left. -/
def dgI (h : Int) (j : Nat) : Nat := h.toNat / 16 ^ (15 - j) % 16
def sgI (d : Nat) : Nat := if d ≤ 9 then 48 + d else 87 + d
def dgsB (s : ByteArray) : ByteArray := ⟨((List.range 16).map fun j => UInt8.ofNat (sgI (dgI (endI (sumI s.data.toList)) j))).toArray⟩
def DigC : Ctr := spec (fun s : ByteArray => [.str s]) (fun _ => []) shortS (fun s => .str (dgsB s)) fun _ => []
theorem step_of {hv y z0 z1 z2 : Int} {c : UInt8} (hy : y = c.toNat) (h0 : z0 = IntKind.u64.wrap y) (h1 : z1 = IntKind.u64.wrap ((BitVec.ofInt 64 hv ^^^ BitVec.ofInt 64 z0).toNat : Nat)) (h2 : z2 = IntKind.u64.wrap (rotI z1 * 13787848793156543929)) : z2 = stepI hv c := by
 have e : z0 = y := by
  have hc := c.toNat_lt
  rw [h0, hy]; unfold IntKind.wrap; simp [IntKind.bits, IntKind.signed]; omega
 rw [h2, h1, e, hy]; rfl
/-- The last j digits. -/
def dgL (E : Int) (j : Nat) : List UInt8 := ((List.range 16).drop (16 - j)).map fun i => UInt8.ofNat (sgI (dgI E i))
theorem dgL_succ {E : Int} {j : Nat} (h : j < 16) : dgL E (j + 1) = UInt8.ofNat (sgI (E.toNat / 16 ^ j % 16)) :: dgL E j := by
 unfold dgL
 rw [List.drop_eq_getElem_cons (by rw [List.length_range]; omega), List.map_cons, show 16 - (j + 1) + 1 = 16 - j by omega, List.getElem_range]
 unfold dgI
 rw [show 15 - (16 - (j + 1)) = j by omega]
theorem dgL_all (s : ByteArray) : dgsB s = ⟨(dgL (endI (sumI s.data.toList)) 16).toArray⟩ := rfl
theorem dgL_len {E : Int} {j : Nat} (h : j ≤ 16) : (dgL E j).length = j := by unfold dgL; rw [List.length_map, List.length_drop, List.length_range]; omega
theorem dgu_next {E j h1 d : Nat} {o u s : ByteArray} {z8 : Int} (hj : j < 16) (hj1 : h1 = E / 16 ^ j) (hd : d = h1 % 16) (ho : o = ⟨(dgL (nI E) j).toArray⟩) (hc : z8 = nI (sgI d)) (hs : s = strOf [z8]) (hu : u = s ++ o) : u = ⟨(dgL (nI E) (j + 1)).toArray⟩ := by
 rw [dgL_succ hj, show (nI E).toNat = E from rfl, ← hj1, ← hd, hu, hs, ho, hc]
 rfl
theorem sg_big {d : Nat} {z : Int} (h : 9 < nI d) (hd : d < 16) (hz : z = IntKind.u8.wrap (87 + nI d)) : z = nI (sgI d) := by
 have h' : 9 < d := Int.ofNat_lt.1 h
 unfold sgI; rw [if_neg (by omega), hz]; unfold IntKind.wrap; simp [IntKind.bits, IntKind.signed]; omega
theorem sg_small {d : Nat} {z : Int} (h : nI d ≤ 9) (hz : z = IntKind.u8.wrap (48 + nI d)) : z = nI (sgI d) := by
 have h' : d ≤ 9 := Int.ofNat_le.1 h
 unfold sgI; rw [if_pos h', hz]; unfold IntKind.wrap; simp [IntKind.bits, IntKind.signed]; omega
theorem rdigest_body (P : Program) (hT : FnOk P 82 TurC) : BodyOk P x72 DigC := by
 intro args H K hc; obtain ⟨s, rfl, rfl, hp, hK⟩ := hc; refine ⟨Nat.le_of_ble_eq_true rfl, ?_⟩; dsimp only at hp hK ⊢
 have hp0 : s.size ≤ maxLen := hp
 unfold maxLen at hp0
 cbv
 refine xloopV [] (fun p : { p : Nat × Int // p.1 ≤ s.size ∧ p.2 = sumI (s.data.toList.take p.1) } => [(3, .int .u64 p.1.2), (4, .i (nI p.1.1))]) (fun _ => []) (fun p => lft 9223372036854775808 p.1.1) ⟨(0, 7809847782465536322), Nat.zero_le _, rfl⟩ ?_
 rintro ⟨⟨k, hv⟩, hk, hh⟩
 dsimp only at hk hh ⊢
 cbv; repeat' ((first | refine .mk (fun h => ?_) fun h => ?_ | refine .k fun z hz => ?_ | fail) <;> cbv)
 ·have hks : k < s.size := by ((try simp only [vn] at *) <;> omega)
  refine askByte_nI hks fun y hy => ?_
  cbv; repeat' ((first | refine .k fun z hz => ?_ | fail) <;> cbv)
  rename_i z0 hz0
  obtain ⟨z1, hz1⟩ : ∃ x, x = z := ⟨_, rfl⟩
  rw [← hz1] at hz ⊢
  have hx1 := hz
  obtain ⟨rz, hrz⟩ : ∃ x, x = rotI z1 := ⟨_, rfl⟩
  (refine callG_spec0 hT z1 trivial rfl rfl rfl ?_; try dsimp only)
  rw [← hrz]
  cbv; repeat' ((first | refine .k fun z hz => ?_ | fail) <;> cbv)
  rename_i z2 hz2
  obtain rfl : z = nI (k + 1) := by ((try simp only [vn] at *) <;> omega)
  subst hrz
  exact roundV ⟨(k + 1, z2), by ((try simp only [vn] at *) <;> omega), by rw [sumI_succ hks, ← hh]; exact step_of hy hz0 hx1 hz2⟩ (lft_lt (by ((try simp only [vn] at *) <;> omega)))
 ·have hke : k = s.size := by ((try simp only [vn] at *) <;> omega)
  rw [sumI_all hke] at hh
  clear hke hk
  refine ⟨by decide, fun a ha => ?_⟩
  cbv; repeat' ((first | refine .k fun z hz => ?_ | fail) <;> cbv)
  rename_i b hb
  refine ⟨by decide, fun c hc => ?_⟩
  cbv; repeat' ((first | refine .k fun z hz => ?_ | fail) <;> cbv)
  obtain rfl : z = endI (sumI s.data.toList) := by rename_i q0 hq0; rw [hz, hc, hq0, hb, ha, hh]; rfl
  obtain ⟨E, hE⟩ : ∃ E, nI E = endI (sumI s.data.toList) := ⟨(endI (sumI s.data.toList)).toNat, Int.toNat_of_nonneg (u64_in _).1⟩
  have hE64 : E < 18446744073709551616 := by have h3 : endI (sumI s.data.toList) < 18446744073709551616 := (u64_in _).2; rw [← hE] at h3; exact Int.ofNat_lt.1 h3
  rw [← hE]
  have hA := dgL_all s
  rw [← hE] at hA
  refine xloopV [] (fun p : { p : Nat × Nat × ByteArray // p.1 ≤ 16 ∧ p.2.1 = E / 16 ^ p.1 ∧ p.2.2 = ⟨(dgL (nI E) p.1).toArray⟩ } => [(6, .i (nI p.1.1)), (3, .int .u64 (nI p.1.2.1)), (5, .str p.1.2.2)]) (fun _ => []) (fun p => lft 16 p.1.1) ⟨(0, E, ⟨#[]⟩), Nat.zero_le _, by simp, rfl⟩ ?_
  rintro ⟨⟨j, h1, o⟩, hj, hj1, ho⟩
  dsimp only at hj hj1 ho ⊢
  have hos : o.size = j := by rw [ho]; show ((dgL (nI E) j).toArray).size = j; rw [List.size_toArray, dgL_len hj]
  have h164 : h1 < 18446744073709551616 := by rw [hj1]; exact Nat.lt_of_le_of_lt (Nat.div_le_self _ _) hE64
  cbv; repeat' ((first | refine .q fun z hz hz0 hz1 => ?_ | refine .mk (fun h => ?_) fun h => ?_ | refine .k fun z hz => ?_ | fail) <;> cbv)
  ·rename_i zr hzr
   obtain ⟨d, hd⟩ : ∃ d, d = h1 % 16 := ⟨_, rfl⟩
   have hd16 : d < 16 := by omega
   obtain rfl : zr = nI d := by rw [hzr, hd]; rfl
   obtain rfl : z = nI d := by rw [hz]; unfold IntKind.wrap; simp [IntKind.bits, IntKind.signed]; omega
   refine ⟨⟨by decide, ?_⟩, fun q hq => ?_⟩
   ·show IntKind.u64.wrap ((h1 / 16 : Nat) : Int) = ((h1 / 16 : Nat) : Int)
    unfold IntKind.wrap; simp [IntKind.bits, IntKind.signed]; omega
   obtain rfl : q = nI (h1 / 16) := hq
   obtain ⟨h2, hh2⟩ : ∃ h2, h2 = h1 / 16 := ⟨_, rfl⟩
   rw [← hh2]
   have hn1 : ∀ z : Int, (strOf [z]).size = 1 := fun z => rfl
   cbv; repeat' ((first | refine .mk (fun h => ?_) fun h => ?_ | refine .k fun z hz => ?_ | refine .u fun u hu hul => ?_ | refine .s fun s hs hsl => ?_ | fail) <;> cbv)
   ·obtain rfl : z = nI (j + 1) := by ((try simp only [vn] at *) <;> omega)
    exact roundV ⟨(j + 1, h2, u), by ((try simp only [vn] at *) <;> omega), by rw [hh2, hj1, Nat.div_div_eq_div_mul, Nat.pow_succ], dgu_next (by ((try simp only [vn] at *) <;> omega)) hj1 hd ho (sg_big (by assumption) hd16 (by assumption)) hs hu⟩ (lft_lt (by ((try simp only [vn] at *) <;> omega)))
   ·obtain rfl : z = nI (j + 1) := by ((try simp only [vn] at *) <;> omega)
    exact roundV ⟨(j + 1, h2, u), by ((try simp only [vn] at *) <;> omega), by rw [hh2, hj1, Nat.div_div_eq_div_mul, Nat.pow_succ], dgu_next (by ((try simp only [vn] at *) <;> omega)) hj1 hd ho (sg_small (by assumption) (by assumption)) hs hu⟩ (lft_lt (by ((try simp only [vn] at *) <;> omega)))
  ·obtain rfl : j = 16 := by ((try simp only [vn] at *) <;> omega)
   obtain rfl : o = dgsB s := ho.trans hA.symm
   exact FinK.mk ⟨_, Gh.refl _, .inl (CutK.pre _ (by rfl) (by exact Nat.le_of_ble_eq_true rfl) (by rfl) (by rfl) (Le.refl _) (LeH.refl _) hK)⟩
end Go.Proofs.YtpcfdpengbkplaaDoor
/-
 Book: the program's own digest.
-/
namespace Go.Proofs.YtpcfdpengbkplaaDoor
open Go.RowKit
set_option maxHeartbeats 8000000
set_option maxRecDepth 100000
def fstX : XCode → XCode
 | .seq a _ => a
 | c => c
def sndX : XCode → XCode
 | .seq _ b => b
 | c => c
def fstK : Code → Code
 | .seq a _ => a
 | c => c
def sndK : Code → Code
 | .seq _ b => b
 | c => c
def digX (i : Nat) : XCode := fstX (Nat.rec x36.body (fun _ c => sndX c) i)
def digK (c : Code) (i : Nat) : Code := fstK (Nat.rec c (fun _ c => sndK c) i)
/-- The end of Digest, by hand. -/
structure DigEnd (P : Program) (r : Code) : Prop where
 out : ∀ (M : Nat) (K : AV → List Ent → Prop) (T : List (Nat × AV)) (H : List Ent) (t : TypeId) (d : Nat → Nat), tget T 5 = .ptr 0 0 →
  H[0]? = some (.blk t ((List.range 16).map fun i => .int .i32 (nI (d i)))) → (∀ i, d i < 128) → (∀ u, u = (⟨((List.range 16).map fun i => UInt8.ofNat (d i)).toArray⟩ : ByteArray) → K (.str u) H) → M = 0 →
  SemC P 46 M (.seq r .ret) (FinQ M [.tmp 2] K) ⟨T, H⟩
def dgCells (d : Nat → Nat) (p : Nat) : List AV := (List.range 16).map fun i => .int .i32 (if i < p then nI (d i) else 0)
theorem lt17 {p : Nat} (h : p ≤ 16) : p = 0 ∨ p = 1 ∨ p = 2 ∨ p = 3 ∨ p = 4 ∨ p = 5 ∨ p = 6 ∨ p = 7 ∨ p = 8 ∨ p = 9 ∨ p = 10 ∨ p = 11 ∨ p = 12 ∨ p = 13 ∨ p = 14 ∨ p = 15 ∨ p = 16 := by omega
theorem lt16 {p : Nat} (h : p < 16) : p = 0 ∨ p = 1 ∨ p = 2 ∨ p = 3 ∨ p = 4 ∨ p = 5 ∨ p = 6 ∨ p = 7 ∨ p = 8 ∨ p = 9 ∨ p = 10 ∨ p = 11 ∨ p = 12 ∨ p = 13 ∨ p = 14 ∨ p = 15 := by omega
theorem ask_sign {m : Int} {d : Nat} {K : Int → Prop} (hm : m = nI d) (hd : d < 16) (k : ∀ z : Int, z = nI (sgI d) → K z) : AskByte ⟨#[48, 49, 50, 51, 52, 53, 54, 55, 56, 57, 97, 98, 99, 100, 101, 102]⟩ m K := by
 subst hm
 refine ⟨d, rfl, hd, fun c hc z hz => k z ?_⟩
 rcases lt16 hd with rfl | rfl | rfl | rfl | rfl | rfl | rfl | rfl | rfl | rfl | rfl | rfl | rfl | rfl | rfl | rfl <;> (cases hc; exact hz)
theorem and15 {E i : Nat} {z a b : Int} (hi : i < 16) (hz : z = 60 - 4 * (i : Int)) (ha : a = (nI E).fdiv (2 ^ min z.toNat 64)) (hb : b = IntKind.u64.wrap ((BitVec.ofInt 64 a &&& BitVec.ofInt 64 15).toNat : Nat)) : b = nI (dgI (nI E) i) := by
 have e1 : min z.toNat 64 = 4 * (15 - i) := by omega
 have e2 : a = ((E / 16 ^ (15 - i) : Nat) : Int) := by
  rw [ha, e1, Int.pow_mul]
  show ((E : Nat) : Int).fdiv (((2 : Int) ^ 4) ^ (15 - i)) = _
  rw [show ((2 : Int) ^ 4) ^ (15 - i) = ((16 ^ (15 - i) : Nat) : Int) by norm_cast, Int.fdiv_eq_ediv_of_nonneg _ (Int.natCast_nonneg _)]
  rfl
 rw [hb, e2]
 unfold dgI
 rw [show (nI E).toNat = E from rfl]
 generalize E / 16 ^ (15 - i) = n
 have e3 : (BitVec.ofInt 64 (n : Int) &&& BitVec.ofInt 64 15).toNat = n % 16 := by
  rw [BitVec.toNat_and, BitVec.ofInt_natCast, BitVec.toNat_ofNat, show (BitVec.ofInt 64 15).toNat = 2 ^ 4 - 1 from rfl, Nat.and_two_pow_sub_one_eq_mod]
  omega
 rw [e3]
 unfold IntKind.wrap; simp [IntKind.bits, IntKind.signed]; omega
theorem i32_small {d : Nat} {z y : Int} (hy : y = nI (sgI d)) (hd : d < 16) (hz : z = IntKind.i32.wrap y) : z = nI (sgI d) := by
 have : sgI d ≤ 102 := by unfold sgI; split <;> omega
 rw [hz, hy]; unfold IntKind.wrap; simp [IntKind.bits, IntKind.signed]; omega
theorem dig_sem (P : Program) (hT : FnOk P 57 RotC) (a0 a1 a2 a3 a4 a5 a6 r : Code) (h0 : cCode P 46 a0 = some (digX 0)) (h1 : cCode P 46 a1 = some (digX 1)) (h2 : cCode P 46 a2 = some (digX 2)) (h3 : cCode P 46 a3 = some (digX 3)) (h4 : cCode P 46 a4 = some (digX 4)) (h5 : cCode P 46 a5 = some (digX 5)) (h6 : cCode P 46 a6 = some (digX 6))
  (hr : DigEnd P r) (s : ByteArray) (hp0 : s.size ≤ maxLen) (K : AV → List Ent → Prop) (hK : ∀ H, K (.str (dgsB s)) H) :
  SemC P 46 0 (.seq a0 (.seq a1 (.seq a2 (.seq a3 (.seq a4 (.seq a5 (.seq a6 (.seq r .ret)))))))) (FinQ 0 [.tmp 2] K) ⟨numT 0 [.str s], []⟩ := by
 unfold maxLen at hp0
 refine .seq h0 (.of ?_)
 cbv
 refine .seq h1 (.of ?_)
 cbv
 refine .seq h2 (.of ?_)
 cbv; repeat' ((first | refine .k fun z hz => ?_ | fail) <;> cbv)
 refine xloopV [] (fun p : { p : Nat × Int // p.1 ≤ s.size ∧ p.2 = sumI (s.data.toList.take p.1) } => [(3, .int .u64 p.1.2), (9, .i (nI p.1.1))]) (fun _ => []) (fun p => lft 9223372036854775808 p.1.1) ⟨(0, 7809847782465536322), Nat.zero_le _, rfl⟩ ?_
 rintro ⟨⟨k, hv⟩, hk, hh⟩
 dsimp only at hk hh ⊢
 cbv; repeat' ((first | refine .mk (fun h => ?_) fun h => ?_ | fail) <;> cbv)
 ·have hks : k < s.size := by ((try simp only [vn] at *) <;> omega)
  refine askByte_nI hks fun y hy => ?_
  cbv; repeat' ((first | refine .k fun z hz => ?_ | fail) <;> cbv)
  rename_i z0 hz0
  obtain ⟨z1, hz1⟩ : ∃ x, x = z := ⟨_, rfl⟩
  rw [← hz1] at hz ⊢
  have hx1 := hz
  obtain ⟨rz, hrz⟩ : ∃ x, x = rotI z1 := ⟨_, rfl⟩
  (refine callG_spec0 hT z1 trivial rfl rfl rfl ?_; try dsimp only)
  rw [← hrz]
  cbv; repeat' ((first | refine .k fun z hz => ?_ | fail) <;> cbv)
  rename_i z2 hz2
  obtain rfl : z = nI (k + 1) := by ((try simp only [vn] at *) <;> omega)
  subst hrz
  exact roundV ⟨(k + 1, z2), by ((try simp only [vn] at *) <;> omega), by rw [sumI_succ hks, ← hh]; exact step_of hy hz0 hx1 hz2⟩ (lft_lt (by ((try simp only [vn] at *) <;> omega)))
 ·have hke : k = s.size := by ((try simp only [vn] at *) <;> omega)
  rw [sumI_all hke] at hh
  clear hke hk
  refine .seq h3 (.of ?_)
  cbv
  refine ⟨by decide, fun a ha => ?_⟩
  cbv; repeat' ((first | refine .k fun z hz => ?_ | fail) <;> cbv)
  rename_i b hb
  refine .seq h4 (.of ?_)
  cbv
  refine ⟨by decide, fun c hc => ?_⟩
  cbv; repeat' ((first | refine .k fun z hz => ?_ | fail) <;> cbv)
  obtain rfl : z = endI (sumI s.data.toList) := by rename_i q0 hq0; rw [hz, hc, hq0, hb, ha, hh]; rfl
  obtain ⟨E, hE⟩ : ∃ E, nI E = endI (sumI s.data.toList) := ⟨(endI (sumI s.data.toList)).toNat, Int.toNat_of_nonneg (u64_in _).1⟩
  have hE64 : E < 18446744073709551616 := by have h3 : endI (sumI s.data.toList) < 18446744073709551616 := (u64_in _).2; rw [← hE] at h3; exact Int.ofNat_lt.1 h3
  rw [← hE]
  obtain ⟨d, hd⟩ : ∃ d : Nat → Nat, ∀ i, d i = sgI (dgI (nI E) i) := ⟨_, fun _ => rfl⟩
  refine .seq h5 (.of ?_)
  cbv
  refine .seq h6 (.of ?_)
  cbv
  refine xloopV [] (fun p : { p : Nat // p ≤ 16 } => [(30, .i (nI p.1))]) (fun p => [.blk 94 (dgCells d p.1)]) (fun p => lft 16 p.1) ⟨0, Nat.zero_le _⟩ ?_
  rintro ⟨p, hp⟩
  dsimp only
  have dg16 : ∀ i, dgI (nI E) i < 16 := fun i => Nat.mod_lt _ (by decide)
  rcases lt17 hp with rfl | rfl | rfl | rfl | rfl | rfl | rfl | rfl | rfl | rfl | rfl | rfl | rfl | rfl | rfl | rfl | rfl
  ·cbv; repeat' ((first | refine .y fun h => ?_ | refine .k fun z hz => ?_ | fail) <;> cbv)
   rename_i y0 hy0
   refine ⟨by omega, fun a1 ha1 => ?_⟩
   have hz1 : z = 60 - 4 * ((0 : Nat) : Int) := by rw [hz, hy0]; rfl
   cbv; repeat' ((first | refine .k fun z hz => ?_ | fail) <;> cbv)
   obtain rfl := and15 (by decide) hz1 ha1 hz
   refine ask_sign rfl (dg16 0) fun y hy => ?_
   cbv; repeat' ((first | refine .n fun h => ?_ | refine .k fun z hz => ?_ | refine .o ?_ | fail) <;> cbv)
   have hq := (i32_small hy (dg16 0) ‹_ = IntKind.i32.wrap y›).trans (congrArg nI (hd 0).symm)
   subst hq
   obtain rfl : z = nI 1 := by ((try simp only [vn] at *) <;> omega)
   exact roundV ⟨1, by decide⟩ (lft_lt (by decide))
  ·cbv; repeat' ((first | refine .y fun h => ?_ | refine .k fun z hz => ?_ | fail) <;> cbv)
   rename_i y0 hy0
   refine ⟨by omega, fun a1 ha1 => ?_⟩
   have hz1 : z = 60 - 4 * ((1 : Nat) : Int) := by rw [hz, hy0]; rfl
   cbv; repeat' ((first | refine .k fun z hz => ?_ | fail) <;> cbv)
   obtain rfl := and15 (by decide) hz1 ha1 hz
   refine ask_sign rfl (dg16 1) fun y hy => ?_
   cbv; repeat' ((first | refine .n fun h => ?_ | refine .y fun h => ?_ | refine .k fun z hz => ?_ | refine .o ?_ | fail) <;> cbv)
   have hq := (i32_small hy (dg16 1) ‹_ = IntKind.i32.wrap y›).trans (congrArg nI (hd 1).symm)
   subst hq
   obtain rfl : z = nI 2 := by ((try simp only [vn] at *) <;> omega)
   exact roundV ⟨2, by decide⟩ (lft_lt (by decide))
  ·cbv; repeat' ((first | refine .y fun h => ?_ | refine .k fun z hz => ?_ | fail) <;> cbv)
   rename_i y0 hy0
   refine ⟨by omega, fun a1 ha1 => ?_⟩
   have hz1 : z = 60 - 4 * ((2 : Nat) : Int) := by rw [hz, hy0]; rfl
   cbv; repeat' ((first | refine .k fun z hz => ?_ | fail) <;> cbv)
   obtain rfl := and15 (by decide) hz1 ha1 hz
   refine ask_sign rfl (dg16 2) fun y hy => ?_
   cbv; repeat' ((first | refine .n fun h => ?_ | refine .y fun h => ?_ | refine .k fun z hz => ?_ | refine .o ?_ | fail) <;> cbv)
   have hq := (i32_small hy (dg16 2) ‹_ = IntKind.i32.wrap y›).trans (congrArg nI (hd 2).symm)
   subst hq
   obtain rfl : z = nI 3 := by ((try simp only [vn] at *) <;> omega)
   exact roundV ⟨3, by decide⟩ (lft_lt (by decide))
  ·cbv; repeat' ((first | refine .y fun h => ?_ | refine .k fun z hz => ?_ | fail) <;> cbv)
   rename_i y0 hy0
   refine ⟨by omega, fun a1 ha1 => ?_⟩
   have hz1 : z = 60 - 4 * ((3 : Nat) : Int) := by rw [hz, hy0]; rfl
   cbv; repeat' ((first | refine .k fun z hz => ?_ | fail) <;> cbv)
   obtain rfl := and15 (by decide) hz1 ha1 hz
   refine ask_sign rfl (dg16 3) fun y hy => ?_
   cbv; repeat' ((first | refine .n fun h => ?_ | refine .y fun h => ?_ | refine .k fun z hz => ?_ | refine .o ?_ | fail) <;> cbv)
   have hq := (i32_small hy (dg16 3) ‹_ = IntKind.i32.wrap y›).trans (congrArg nI (hd 3).symm)
   subst hq
   obtain rfl : z = nI 4 := by ((try simp only [vn] at *) <;> omega)
   exact roundV ⟨4, by decide⟩ (lft_lt (by decide))
  ·cbv; repeat' ((first | refine .y fun h => ?_ | refine .k fun z hz => ?_ | fail) <;> cbv)
   rename_i y0 hy0
   refine ⟨by omega, fun a1 ha1 => ?_⟩
   have hz1 : z = 60 - 4 * ((4 : Nat) : Int) := by rw [hz, hy0]; rfl
   cbv; repeat' ((first | refine .k fun z hz => ?_ | fail) <;> cbv)
   obtain rfl := and15 (by decide) hz1 ha1 hz
   refine ask_sign rfl (dg16 4) fun y hy => ?_
   cbv; repeat' ((first | refine .n fun h => ?_ | refine .y fun h => ?_ | refine .k fun z hz => ?_ | refine .o ?_ | fail) <;> cbv)
   have hq := (i32_small hy (dg16 4) ‹_ = IntKind.i32.wrap y›).trans (congrArg nI (hd 4).symm)
   subst hq
   obtain rfl : z = nI 5 := by ((try simp only [vn] at *) <;> omega)
   exact roundV ⟨5, by decide⟩ (lft_lt (by decide))
  ·cbv; repeat' ((first | refine .y fun h => ?_ | refine .k fun z hz => ?_ | fail) <;> cbv)
   rename_i y0 hy0
   refine ⟨by omega, fun a1 ha1 => ?_⟩
   have hz1 : z = 60 - 4 * ((5 : Nat) : Int) := by rw [hz, hy0]; rfl
   cbv; repeat' ((first | refine .k fun z hz => ?_ | fail) <;> cbv)
   obtain rfl := and15 (by decide) hz1 ha1 hz
   refine ask_sign rfl (dg16 5) fun y hy => ?_
   cbv; repeat' ((first | refine .n fun h => ?_ | refine .y fun h => ?_ | refine .k fun z hz => ?_ | refine .o ?_ | fail) <;> cbv)
   have hq := (i32_small hy (dg16 5) ‹_ = IntKind.i32.wrap y›).trans (congrArg nI (hd 5).symm)
   subst hq
   obtain rfl : z = nI 6 := by ((try simp only [vn] at *) <;> omega)
   exact roundV ⟨6, by decide⟩ (lft_lt (by decide))
  ·cbv; repeat' ((first | refine .y fun h => ?_ | refine .k fun z hz => ?_ | fail) <;> cbv)
   rename_i y0 hy0
   refine ⟨by omega, fun a1 ha1 => ?_⟩
   have hz1 : z = 60 - 4 * ((6 : Nat) : Int) := by rw [hz, hy0]; rfl
   cbv; repeat' ((first | refine .k fun z hz => ?_ | fail) <;> cbv)
   obtain rfl := and15 (by decide) hz1 ha1 hz
   refine ask_sign rfl (dg16 6) fun y hy => ?_
   cbv; repeat' ((first | refine .n fun h => ?_ | refine .y fun h => ?_ | refine .k fun z hz => ?_ | refine .o ?_ | fail) <;> cbv)
   have hq := (i32_small hy (dg16 6) ‹_ = IntKind.i32.wrap y›).trans (congrArg nI (hd 6).symm)
   subst hq
   obtain rfl : z = nI 7 := by ((try simp only [vn] at *) <;> omega)
   exact roundV ⟨7, by decide⟩ (lft_lt (by decide))
  ·cbv; repeat' ((first | refine .y fun h => ?_ | refine .k fun z hz => ?_ | fail) <;> cbv)
   rename_i y0 hy0
   refine ⟨by omega, fun a1 ha1 => ?_⟩
   have hz1 : z = 60 - 4 * ((7 : Nat) : Int) := by rw [hz, hy0]; rfl
   cbv; repeat' ((first | refine .k fun z hz => ?_ | fail) <;> cbv)
   obtain rfl := and15 (by decide) hz1 ha1 hz
   refine ask_sign rfl (dg16 7) fun y hy => ?_
   cbv; repeat' ((first | refine .n fun h => ?_ | refine .y fun h => ?_ | refine .k fun z hz => ?_ | refine .o ?_ | fail) <;> cbv)
   have hq := (i32_small hy (dg16 7) ‹_ = IntKind.i32.wrap y›).trans (congrArg nI (hd 7).symm)
   subst hq
   obtain rfl : z = nI 8 := by ((try simp only [vn] at *) <;> omega)
   exact roundV ⟨8, by decide⟩ (lft_lt (by decide))
  ·cbv; repeat' ((first | refine .y fun h => ?_ | refine .k fun z hz => ?_ | fail) <;> cbv)
   rename_i y0 hy0
   refine ⟨by omega, fun a1 ha1 => ?_⟩
   have hz1 : z = 60 - 4 * ((8 : Nat) : Int) := by rw [hz, hy0]; rfl
   cbv; repeat' ((first | refine .k fun z hz => ?_ | fail) <;> cbv)
   obtain rfl := and15 (by decide) hz1 ha1 hz
   refine ask_sign rfl (dg16 8) fun y hy => ?_
   cbv; repeat' ((first | refine .n fun h => ?_ | refine .y fun h => ?_ | refine .k fun z hz => ?_ | refine .o ?_ | fail) <;> cbv)
   have hq := (i32_small hy (dg16 8) ‹_ = IntKind.i32.wrap y›).trans (congrArg nI (hd 8).symm)
   subst hq
   obtain rfl : z = nI 9 := by ((try simp only [vn] at *) <;> omega)
   exact roundV ⟨9, by decide⟩ (lft_lt (by decide))
  ·cbv; repeat' ((first | refine .y fun h => ?_ | refine .k fun z hz => ?_ | fail) <;> cbv)
   rename_i y0 hy0
   refine ⟨by omega, fun a1 ha1 => ?_⟩
   have hz1 : z = 60 - 4 * ((9 : Nat) : Int) := by rw [hz, hy0]; rfl
   cbv; repeat' ((first | refine .k fun z hz => ?_ | fail) <;> cbv)
   obtain rfl := and15 (by decide) hz1 ha1 hz
   refine ask_sign rfl (dg16 9) fun y hy => ?_
   cbv; repeat' ((first | refine .n fun h => ?_ | refine .y fun h => ?_ | refine .k fun z hz => ?_ | refine .o ?_ | fail) <;> cbv)
   have hq := (i32_small hy (dg16 9) ‹_ = IntKind.i32.wrap y›).trans (congrArg nI (hd 9).symm)
   subst hq
   obtain rfl : z = nI 10 := by ((try simp only [vn] at *) <;> omega)
   exact roundV ⟨10, by decide⟩ (lft_lt (by decide))
  ·cbv; repeat' ((first | refine .y fun h => ?_ | refine .k fun z hz => ?_ | fail) <;> cbv)
   rename_i y0 hy0
   refine ⟨by omega, fun a1 ha1 => ?_⟩
   have hz1 : z = 60 - 4 * ((10 : Nat) : Int) := by rw [hz, hy0]; rfl
   cbv; repeat' ((first | refine .k fun z hz => ?_ | fail) <;> cbv)
   obtain rfl := and15 (by decide) hz1 ha1 hz
   refine ask_sign rfl (dg16 10) fun y hy => ?_
   cbv; repeat' ((first | refine .n fun h => ?_ | refine .y fun h => ?_ | refine .k fun z hz => ?_ | refine .o ?_ | fail) <;> cbv)
   have hq := (i32_small hy (dg16 10) ‹_ = IntKind.i32.wrap y›).trans (congrArg nI (hd 10).symm)
   subst hq
   obtain rfl : z = nI 11 := by ((try simp only [vn] at *) <;> omega)
   exact roundV ⟨11, by decide⟩ (lft_lt (by decide))
  ·cbv; repeat' ((first | refine .y fun h => ?_ | refine .k fun z hz => ?_ | fail) <;> cbv)
   rename_i y0 hy0
   refine ⟨by omega, fun a1 ha1 => ?_⟩
   have hz1 : z = 60 - 4 * ((11 : Nat) : Int) := by rw [hz, hy0]; rfl
   cbv; repeat' ((first | refine .k fun z hz => ?_ | fail) <;> cbv)
   obtain rfl := and15 (by decide) hz1 ha1 hz
   refine ask_sign rfl (dg16 11) fun y hy => ?_
   cbv; repeat' ((first | refine .n fun h => ?_ | refine .y fun h => ?_ | refine .k fun z hz => ?_ | refine .o ?_ | fail) <;> cbv)
   have hq := (i32_small hy (dg16 11) ‹_ = IntKind.i32.wrap y›).trans (congrArg nI (hd 11).symm)
   subst hq
   obtain rfl : z = nI 12 := by ((try simp only [vn] at *) <;> omega)
   exact roundV ⟨12, by decide⟩ (lft_lt (by decide))
  ·cbv; repeat' ((first | refine .y fun h => ?_ | refine .k fun z hz => ?_ | fail) <;> cbv)
   rename_i y0 hy0
   refine ⟨by omega, fun a1 ha1 => ?_⟩
   have hz1 : z = 60 - 4 * ((12 : Nat) : Int) := by rw [hz, hy0]; rfl
   cbv; repeat' ((first | refine .k fun z hz => ?_ | fail) <;> cbv)
   obtain rfl := and15 (by decide) hz1 ha1 hz
   refine ask_sign rfl (dg16 12) fun y hy => ?_
   cbv; repeat' ((first | refine .n fun h => ?_ | refine .y fun h => ?_ | refine .k fun z hz => ?_ | refine .o ?_ | fail) <;> cbv)
   have hq := (i32_small hy (dg16 12) ‹_ = IntKind.i32.wrap y›).trans (congrArg nI (hd 12).symm)
   subst hq
   obtain rfl : z = nI 13 := by ((try simp only [vn] at *) <;> omega)
   exact roundV ⟨13, by decide⟩ (lft_lt (by decide))
  ·cbv; repeat' ((first | refine .y fun h => ?_ | refine .k fun z hz => ?_ | fail) <;> cbv)
   rename_i y0 hy0
   refine ⟨by omega, fun a1 ha1 => ?_⟩
   have hz1 : z = 60 - 4 * ((13 : Nat) : Int) := by rw [hz, hy0]; rfl
   cbv; repeat' ((first | refine .k fun z hz => ?_ | fail) <;> cbv)
   obtain rfl := and15 (by decide) hz1 ha1 hz
   refine ask_sign rfl (dg16 13) fun y hy => ?_
   cbv; repeat' ((first | refine .n fun h => ?_ | refine .y fun h => ?_ | refine .k fun z hz => ?_ | refine .o ?_ | fail) <;> cbv)
   have hq := (i32_small hy (dg16 13) ‹_ = IntKind.i32.wrap y›).trans (congrArg nI (hd 13).symm)
   subst hq
   obtain rfl : z = nI 14 := by ((try simp only [vn] at *) <;> omega)
   exact roundV ⟨14, by decide⟩ (lft_lt (by decide))
  ·cbv; repeat' ((first | refine .y fun h => ?_ | refine .k fun z hz => ?_ | fail) <;> cbv)
   rename_i y0 hy0
   refine ⟨by omega, fun a1 ha1 => ?_⟩
   have hz1 : z = 60 - 4 * ((14 : Nat) : Int) := by rw [hz, hy0]; rfl
   cbv; repeat' ((first | refine .k fun z hz => ?_ | fail) <;> cbv)
   obtain rfl := and15 (by decide) hz1 ha1 hz
   refine ask_sign rfl (dg16 14) fun y hy => ?_
   cbv; repeat' ((first | refine .n fun h => ?_ | refine .y fun h => ?_ | refine .k fun z hz => ?_ | refine .o ?_ | fail) <;> cbv)
   have hq := (i32_small hy (dg16 14) ‹_ = IntKind.i32.wrap y›).trans (congrArg nI (hd 14).symm)
   subst hq
   obtain rfl : z = nI 15 := by ((try simp only [vn] at *) <;> omega)
   exact roundV ⟨15, by decide⟩ (lft_lt (by decide))
  ·cbv; repeat' ((first | refine .y fun h => ?_ | refine .k fun z hz => ?_ | fail) <;> cbv)
   rename_i y0 hy0
   refine ⟨by omega, fun a1 ha1 => ?_⟩
   have hz1 : z = 60 - 4 * ((15 : Nat) : Int) := by rw [hz, hy0]; rfl
   cbv; repeat' ((first | refine .k fun z hz => ?_ | fail) <;> cbv)
   obtain rfl := and15 (by decide) hz1 ha1 hz
   refine ask_sign rfl (dg16 15) fun y hy => ?_
   cbv; repeat' ((first | refine .y fun h => ?_ | refine .k fun z hz => ?_ | refine .o ?_ | fail) <;> cbv)
   have hq := (i32_small hy (dg16 15) ‹_ = IntKind.i32.wrap y›).trans (congrArg nI (hd 15).symm)
   subst hq
   obtain rfl : z = nI 16 := by ((try simp only [vn] at *) <;> omega)
   exact roundV ⟨16, by decide⟩ (lft_lt (by decide))
  ·cbv; repeat' ((first | refine .n fun h => ?_ | fail) <;> cbv)
   have d16 : ∀ i, d i < 128 := fun i => by
    have := dg16 i
    rw [hd]; unfold sgI; split <;> omega
   refine hr.out 0 K _ _ _ d rfl rfl d16 (fun u hu => ?_) rfl
   have e : u = dgsB s := by
    rw [hu, dgL_all, ← hE]
    unfold dgL
    rw [show 16 - 16 = 0 from rfl, List.drop_zero]
    congr 2
    exact List.map_congr_left fun i _ => by rw [hd]
   rw [e]; exact hK _
end Go.Proofs.YtpcfdpengbkplaaDoor
/-
 Book: the end of the program's digest, and both digests.
-/
namespace Go.Proofs.YtpcfdpengbkplaaDoor
open Go.RowKit
set_option maxHeartbeats 8000000
set_option maxRecDepth 100000
theorem wpList_val {P : Program} {ops : Array Oper} {Q : Exit → Act → World → Prop} {o : Oper} {l : List Oper} {a : Act} {w : World} {v : Value} (g : o.guard = none) (hrun : (execOp a.eval o).run P w = .ok (.value v) w) (h : wpList P ops Q l (a.put o.dst v) w) : wpList P ops Q (o :: l) a w := by
 unfold wpList
 rw [show Region.wanted o (yielded ops a.tmps) = true by simp [Region.wanted, g]]
 refine .inl ?_
 unfold Oper.wp
 rw [hrun]
 exact h
theorem runes_ascii : ∀ (l : List Nat), (∀ x ∈ l, x < 128) → ∀ s : ByteArray, (l.map fun x => nI x).foldl (fun r n => r ++ Utf8.encode n) s = s ++ ⟨(l.map UInt8.ofNat).toArray⟩
 | [], _, s => by show s = s ++ (⟨#[]⟩ : ByteArray); apply ByteArray.ext; simp
 | x :: l, h, s => by
  have hx : x < 128 := h x (by simp)
  have e : Utf8.encode (nI x) = ⟨#[UInt8.ofNat x]⟩ := by
   unfold Utf8.encode
   have hv : Utf8.valid (nI x) = true := by unfold Utf8.valid; simp; omega
   simp only [hv, if_true]
   rw [show (nI x).toNat = x from rfl, if_pos hx]
  rw [List.map_cons, List.foldl_cons, e, runes_ascii l (fun y hy => h y (by simp [hy]))]
  apply ByteArray.ext
  simp
theorem dig_end {P : Program} {id : Nat} {ops : Array Oper} {o1 o2 o3 : Oper} {ta ts tt te : TypeId} (hops : ops.toList = [o1, o2, o3]) (g1 : o1.guard = none) (g2 : o2.guard = none) (g3 : o3.guard = none) (d1 : o1.dst = some 44) (d2 : o2.dst = some 45) (d3 : o3.dst = some 2)
  (p1 : o1.op = .slice ta (.tmp 5) none none none) (p2 : o2.op = .convert ts tt (.tmp 44)) (p3 : o3.op = .assign (.tmp 45)) (u1 : P.underlying ta = some (.array (P.arrayLen ta) (P.elem ta))) (u2 : P.arrayLen ta = 16) (u3 : (P.info? (P.elem ta)).isSome = true) (hs : P.underlying ts = some (.slice te)) (he : P.underlying te = some (.int .i32)) (ht : P.underlying tt = some .string) : DigEnd P (.region id ops false) := ⟨by
 intro M K T H t d h5 hH hd hK hM
 refine ⟨fun C a w r pub hN hMM hh => ?_⟩
 have h0 := hh.slots 5
 rw [h5] at h0
 obtain ⟨b, arr, hr, hb, hc, _⟩ := hh.ent_blk hH
 generalize hva : a.tmps.getD 5 undef = va at h0
 cases h0 with
 | @ptr _ _ b' _ hr' =>
  rw [hr] at hr'
  simp only [Option.some.injEq, Value.pointer.injEq, Addr.mk.injEq, and_true] at hr'
  subst hr'
  obtain ⟨i, hi⟩ := Option.isSome_iff_exists.1 u3
  have hal : arr.size = 16 := by have := hc.len; simpa using this
  have hcell : ∀ j, j < 16 → w.cell? ((⟨b, 0, none⟩ : Addr).add j) = some (.int .i32 (((List.range 16).map fun i => nI (d i)).getD j 0)) := fun j hj => by
   rw [Addr_add_none, Nat.zero_add, hb.all, Array.getElem?_eq_getElem (by omega)]
   have := hc.at_ j (.int .i32 (nI (d j))) arr[j] (by rw [List.getElem?_map, List.getElem?_range hj]; rfl) (by rw [Array.getElem?_toList]; exact Array.getElem?_eq_getElem (by omega))
   generalize arr[j] = u at this
   cases this
   rw [List.getD_eq_getElem?_getD, List.getElem?_map, List.getElem?_range hj]
   rfl
  have hconv := run_convert_runes (P := P) w ts tt te ⟨b, 0, none⟩ 16 16 ((List.range 16).map fun i => nI (d i)) (by simp) hs he ht (fun j hj => hcell j (by simpa using hj))
  have hrun : runesBytes (((List.range 16).map fun i => nI (d i)).take 16) = ⟨((List.range 16).map fun i => UInt8.ofNat (d i)).toArray⟩ := by
   rw [List.take_of_length_le (by simp)]
   have := runes_ascii ((List.range 16).map d) (fun x hx => by obtain ⟨i, _, rfl⟩ := List.mem_map.1 hx; exact hd i) ByteArray.empty
   rw [List.map_map, List.map_map] at this
   unfold runesBytes
   refine this.trans ?_
   apply ByteArray.ext
   simp
  rw [hrun] at hconv
  refine wp_seq (wp_region_list ?_)
  rw [hops]
  refine wpList_val g1 (v := .slice (some ⟨b, 0, none⟩) 16 16) ?_ ?_
  ·have hv : a.eval (.tmp 5) = .pointer (some ⟨b, 0, none⟩) := hva
   unfold execOp
   simp [p1, hv, run_sliceAt_array_all, u1, u2, sizeOf, typeInfo, hi, slicedAt, Addr_add_none]
  refine wpList_val g2 (v := .string ⟨((List.range 16).map fun i => UInt8.ofNat (d i)).toArray⟩) ?_ ?_
  ·have hv : (a.put o1.dst (.slice (some ⟨b, 0, none⟩) 16 16)).eval (.tmp 44) = .slice (some ⟨b, 0, none⟩) 16 16 := by
    rw [d1]
    show (a.tmps.setIfInBounds 44 _).getD 44 _ = _
    have := hh.size
    simp [this, hN]
   unfold execOp
   simp [p2, hv, hconv]
  have hh1 := HoldsW.put (d := o1.dst) (x := .any) hh (fun n hn => by rw [d1] at hn; cases hn; omega) (.any (.slice (some ⟨b, 0, none⟩) 16 16))
  have hh2 := HoldsW.put (d := o2.dst) hh1 (fun n hn => by rw [d2] at hn; cases hn; omega) (.str ⟨((List.range 16).map fun i => UInt8.ofNat (d i)).toArray⟩)
  have hh3 := HoldsW.put (d := o3.dst) hh2 (fun n hn => by rw [d3] at hn; cases hn; omega) (.str ⟨((List.range 16).map fun i => UInt8.ofNat (d i)).toArray⟩)
  refine wpList_val g3 (v := .string ⟨((List.range 16).map fun i => UInt8.ofNat (d i)).toArray⟩) ?_ ?_
  ·have hv : ((a.put o1.dst (.slice (some ⟨b, 0, none⟩) 16 16)).put o2.dst (.string ⟨((List.range 16).map fun i => UInt8.ofNat (d i)).toArray⟩)).eval (.tmp 45) = .string ⟨((List.range 16).map fun i => UInt8.ofNat (d i)).toArray⟩ := by
    rw [d1, d2]
    show ((a.tmps.setIfInBounds 44 _).setIfInBounds 45 _).getD 45 _ = _
    have := hh.size
    simp [this, hN]
   unfold execOp
   rw [p3]
   dsimp only
   rw [hv]
   rfl
  unfold wpList
  refine wp_ret ⟨_, _, _, ?_, hh3⟩
  rw [d1, d2, d3]
  refine FinK.mk ⟨_, Gh.refl _, .inl ?_⟩
  exact hK _ rfl⟩
theorem fn_okCut {P : Program} {f : Nat} {fn : Func} {code : Code} {z : List XRes} (c : Ctr) (hf : P.funcs[f]? = some fn) (hb : fn.body = some code) (hz : cRes P fn.results.toList = some z) (h : ∀ args H K, c args H K → args.length ≤ fn.ntmps ∧ ∀ (C : Ctx) (a : Act) (w : World) (r : Rho) (pub : Pub), C.n = fn.ntmps → C.m = H.length → HoldsW C ⟨numT 0 args, H⟩ a w r pub → code.wp P (QX C (FinQ H.length z (CutK H K))) a w) : FnOk P f c := fun args H K hc w r pub vals hm hv =>
 Calls.mono (fn_okC (fun args H K' => ∃ K, c args H K ∧ K' = CutK H K) hf hb hz (fun args H K' ⟨K, hc, e⟩ => by subst e; exact h args H K hc) args H _ ⟨K, hc, rfl⟩ w r pub vals hm hv) fun _ _ hp => FnPost.cut hm hp
noncomputable def digCode : Code := (Tryd.f36.body).getD .skip
theorem dig_all (a0 a1 a2 a3 a4 a5 a6 r : Code) (h : Tryd.f36.body = some (.seq a0 (.seq a1 (.seq a2 (.seq a3 (.seq a4 (.seq a5 (.seq a6 (.seq r .ret)))))))))
  (hT : FnOk Tryd.prog 57 RotC) (h0 : cCode Tryd.prog 46 a0 = some (digX 0)) (h1 : cCode Tryd.prog 46 a1 = some (digX 1)) (h2 : cCode Tryd.prog 46 a2 = some (digX 2)) (h3 : cCode Tryd.prog 46 a3 = some (digX 3)) (h4 : cCode Tryd.prog 46 a4 = some (digX 4)) (h5 : cCode Tryd.prog 46 a5 = some (digX 5)) (h6 : cCode Tryd.prog 46 a6 = some (digX 6)) (hr : DigEnd Tryd.prog r) : FnOk Tryd.prog 36 DigC := by
 refine fn_okCut (fn := Tryd.f36) (z := [.tmp 2]) _ (by kernel_rfl) h (by kernel_rfl) fun args H K hc => ?_
 obtain ⟨s, rfl, rfl, hp, hK⟩ := hc
 refine ⟨Nat.le_of_ble_eq_true rfl, fun C a w r' pub hN hM hh => ?_⟩
 exact (dig_sem _ hT a0 a1 a2 a3 a4 a5 a6 r h0 h1 h2 h3 h4 h5 h6 hr s hp (CutK [] K) (fun H => .val rfl (Le.refl _) hK)).out C a w r' pub hN hM hh
def regOps : Code → Array Oper
 | .region _ ops _ => ops
 | _ => #[]
def regId : Code → Nat
 | .region id _ _ => id
 | _ => 0
def opAt (ops : Array Oper) (i : Nat) : Oper := ops.toList.getD i ⟨none, .move (.tmp 0), 0, "", #[], none⟩
theorem digEnd_of {P : Program} {r : Code} {id : Nat} {ops : Array Oper} (h : r = .region id ops false) (hd : DigEnd P (.region id ops false)) : DigEnd P r := h ▸ hd
theorem k_digest (hT : FnOk Tryd.prog 57 RotC) : FnOk Tryd.prog 36 DigC := by
 refine dig_all (digK digCode 0) (digK digCode 1) (digK digCode 2) (digK digCode 3) (digK digCode 4) (digK digCode 5) (digK digCode 6) (digK digCode 7) (by kernel_rfl) hT (by kernel_rfl) (by kernel_rfl) (by kernel_rfl) (by kernel_rfl) (by kernel_rfl) (by kernel_rfl) (by kernel_rfl) ?_
 refine digEnd_of (id := regId (digK digCode 7)) (ops := regOps (digK digCode 7)) (by kernel_rfl) ?_
 exact dig_end (o1 := opAt (regOps (digK digCode 7)) 0) (o2 := opAt (regOps (digK digCode 7)) 1) (o3 := opAt (regOps (digK digCode 7)) 2) (ta := 94) (ts := 95) (tt := 9) (te := 21) (by kernel_rfl) (by kernel_rfl) (by kernel_rfl) (by kernel_rfl) (by kernel_rfl) (by kernel_rfl) (by kernel_rfl) (by kernel_rfl) (by kernel_rfl) (by kernel_rfl) (by kernel_rfl) (by kernel_rfl) (by kernel_rfl) (by kernel_rfl) (by kernel_rfl) (by kernel_rfl)
end Go.Proofs.YtpcfdpengbkplaaDoor
/-
 Book: links, and the function that follows the writes.
-/
namespace Go.Proofs.YtpcfdpengbkplaaDoor
open Go.RowKit
set_option maxHeartbeats 8000000
set_option maxRecDepth 100000
def lnk (o t : ByteArray) : ByteArray := dgsB (o ++ ⟨#[10]⟩ ++ t)
theorem lnk_size (o t : ByteArray) : (lnk o t).size = 16 := rfl
def LnkC : Ctr := spec (fun q : ByteArray × ByteArray => [.str q.1, .str q.2]) (fun _ => []) (fun q => q.1.size ≤ 4096 ∧ q.2.size ≤ 1048576) (fun q => .str (lnk q.1 q.2)) fun _ => []
theorem lnk_body (P : Program) (hd : FnOk P 36 DigC) : BodyOk P x44 LnkC := by
 intro args H K hc; obtain ⟨q, rfl, rfl, hp, hK⟩ := hc; refine ⟨Nat.le_of_ble_eq_true rfl, ?_⟩; dsimp only at hp hK ⊢
 obtain ⟨o, t⟩ := q
 obtain ⟨h1, h2⟩ : o.size ≤ 4096 ∧ t.size ≤ 1048576 := hp
 have h10 : (ByteArray.mk (Array.mk [10])).size = 1 := rfl
 cbv; repeat' ((first | refine .u fun u hu hul => ?_ | fail) <;> cbv)
 rename_i y hy hyl
 have e : u = o ++ ⟨#[10]⟩ ++ t := by rw [hu, hy]
 have hs : shortS u := by unfold shortS; ((try unfold maxLen); (try simp only [vn] at *) <;> omega)
 rw [show lnk (o, t).1 (o, t).2 = dgsB u by rw [e]; rfl] at hK
 obtain ⟨g, hg⟩ : ∃ x, x = dgsB u := ⟨_, rfl⟩
 rw [← hg] at hK
 (refine callG_spec0 hd u hs rfl rfl rfl ?_; try dsimp only)
 rw [← hg]
 cbv
 exact FinK.mk ⟨_, Gh.refl _, .inl (CutK.pre _ (by rfl) (by exact Nat.le_of_ble_eq_true rfl) (by rfl) (by rfl) (Le.refl _) (LeH.refl _) hK)⟩
theorem rlnk_body (P : Program) (hd : FnOk P 72 DigC) : BodyOk P x49 LnkC := by
 intro args H K hc; obtain ⟨q, rfl, rfl, hp, hK⟩ := hc; refine ⟨Nat.le_of_ble_eq_true rfl, ?_⟩; dsimp only at hp hK ⊢
 obtain ⟨o, t⟩ := q
 obtain ⟨h1, h2⟩ : o.size ≤ 4096 ∧ t.size ≤ 1048576 := hp
 have h10 : (ByteArray.mk (Array.mk [10])).size = 1 := rfl
 cbv; repeat' ((first | refine .u fun u hu hul => ?_ | fail) <;> cbv)
 rename_i y hy hyl
 have e : u = o ++ ⟨#[10]⟩ ++ t := by rw [hu, hy]
 have hs : shortS u := by unfold shortS; ((try unfold maxLen); (try simp only [vn] at *) <;> omega)
 rw [show lnk (o, t).1 (o, t).2 = dgsB u by rw [e]; rfl] at hK
 obtain ⟨g, hg⟩ : ∃ x, x = dgsB u := ⟨_, rfl⟩
 rw [← hg] at hK
 (refine callG_spec0 hd u hs rfl rfl rfl ?_; try dsimp only)
 rw [← hg]
 cbv
 exact FinK.mk ⟨_, Gh.refl _, .inl (CutK.pre _ (by rfl) (by exact Nat.le_of_ble_eq_true rfl) (by rfl) (by rfl) (Le.refl _) (LeH.refl _) hK)⟩
/-- What goes along: the place, the link, the owner. -/
structure Fol where
 at_ : Nat
 link : ByteArray
 owner : ByteArray
def FolE : Fol → List Ent | ⟨n, l, o⟩ => [.blk 3 [.i (nI n)], .blk 9 [.str l], .blk 9 [.str o]]
def FollowC : Ctr := spec (fun o : ByteArray => [.str o]) (fun _ => []) (fun o => o.size ≤ 4096) (fun _ => .clo 80 [.ptr 1 0, .ptr 2 0, .ptr 0 0]) fun o => [.blk 9 [.str o], .blk 3 [.i 0], .blk 9 [.str (lnk o ⟨#[]⟩)]]
theorem follow_body (P : Program) (hl : FnOk P 44 LnkC) : BodyOk P x61 FollowC := by
 intro args H K hc; obtain ⟨o, rfl, rfl, hp, hK⟩ := hc; refine ⟨Nat.le_of_ble_eq_true rfl, ?_⟩; dsimp only at hp hK ⊢
 have h1 : o.size ≤ 4096 := hp
 have hp : o.size ≤ 4096 ∧ (⟨#[]⟩ : ByteArray).size ≤ 1048576 := ⟨h1, by decide⟩
 obtain ⟨g, hg⟩ : ∃ x, x = lnk o ⟨#[]⟩ := ⟨_, rfl⟩
 rw [← hg] at hK
 cbv
 (refine callG_spec0 hl ((o, ⟨#[]⟩) : ByteArray × ByteArray) hp rfl rfl rfl ?_; try dsimp only)
 rw [← hg]
 cbv
 exact FinK.mk ⟨_, Gh.refl _, .inl (CutK.pre _ (by rfl) (by exact Nat.le_of_ble_eq_true rfl) (by rfl) (by rfl) (Le.refl _) (LeH.refl _) hK)⟩
/-- The record that a write tells, where it is right. -/
noncomputable def nextR (f : Fol) (w : ByteArray) : Option (List Fd) := match parseS w.data.toList with
 | (f0 :: f1 :: r, _, e) => @ite _ (e = 0 ∧ f0 = ⟨⟨#[110]⟩, itoS (nI f.at_)⟩ ∧ f1 = ⟨⟨#[108, 97, 115, 116]⟩, f.link⟩) (Classical.propDecidable _) (some r) none
 | _ => none
noncomputable def nextA (f : Fol) (w : ByteArray) : AV := match nextR f w with
 | some r => .tup [.sl 2 (mapA FdA r), .str (lnk f.owner w), .bl true]
 | none => .tup [.sl 2 [], .str ⟨#[]⟩, .bl false]
noncomputable def nextF (f : Fol) (w : ByteArray) : Fol := match nextR f w with
 | some _ => ⟨f.at_ + 1, lnk f.owner w, f.owner⟩
 | none => f
noncomputable def NextC : Ctr := spec (fun q : Fol × ByteArray => [.str q.2, .ptr 0 0, .ptr 1 0, .ptr 2 0]) (fun q => FolE q.1) (fun q => q.1.at_ ≤ 1048576 ∧ q.1.owner.size ≤ 4096 ∧ q.2.size ≤ 1048576) (fun q => nextA q.1 q.2) fun q => FolE (nextF q.1 q.2)
theorem next_body (P : Program) (hP : FnOk P 34 ParseC) (hI : FnOk P 42 (ItoC itoS)) (hl : FnOk P 44 LnkC) : BodyOk P x80 NextC := by
 intro args H K hc; obtain ⟨q, rfl, rfl, hp, hK⟩ := hc; refine ⟨Nat.le_of_ble_eq_true rfl, ?_⟩; dsimp only at hp hK ⊢
 obtain ⟨⟨n, k, o⟩, w⟩ := q
 obtain ⟨h1, h2, h3⟩ : n ≤ 1048576 ∧ o.size ≤ 4096 ∧ w.size ≤ 1048576 := hp
 have hs : shortS w := by unfold shortS; ((try unfold maxLen); (try simp only [vn] at *) <;> omega)
 obtain ⟨⟨fs, a, e⟩, hR⟩ : ∃ R, R = parseS w.data.toList := ⟨_, rfl⟩
 cbv
 (refine callG_spec0 hP w hs rfl rfl rfl ?_; try dsimp only)
 rw [← hR, show ParA (fs, a, e) = .tup [.sl 2 (mapA FdA fs), .i a, .i e] from rfl]
 have hfl := mapA_len FdA fs
 have no : nextR ⟨n, k, o⟩ w = none → nextA ⟨n, k, o⟩ w = .tup [.sl 2 [], .str ⟨#[]⟩, .bl false] ∧ nextF ⟨n, k, o⟩ w = ⟨n, k, o⟩ := fun h => by unfold nextA nextF; rw [h]; exact ⟨rfl, rfl⟩
 cbv; repeat' ((first | refine .mk (fun h => ?_) fun h => ?_ | refine .k fun z hz => ?_ | fail) <;> cbv)
 ·have hn : nextR ⟨n, k, o⟩ w = none := by
   unfold nextR
   rw [← hR]
   split
   ·rename_i heq
    cases heq
    exfalso
    have : z = ((_ + 1 + 1 : Nat) : Int) := hz.trans (congrArg Int.ofNat hfl)
    omega
   ·rfl
  rw [(no hn).1, (no hn).2] at hK
  exact FinK.mk ⟨_, Gh.refl _, .inl (CutK.pre _ (by rfl) (by exact Nat.le_of_ble_eq_true rfl) (by rfl) (by rfl) (by repeat' (first | exact LeL.nil | exact LeL0.nil | exact LeH.nil | exact LeE.refl _ | exact Le.refl _ | exact Le0.one (.refl _) | exact Le0.one (.nil _) | exact Le1.refl _ | exact Le1.nil _ | refine LeH.cons ?_ ?_ | refine LeE.row ?_ | refine LeE.blk ?_ | refine LeL0.cons ?_ ?_ | refine LeL.cons ?_ ?_ | refine Le0.agg ?_ | refine Le.tup ?_ | exact Le.one (.one (.nil _)) | refine Le.one (.agg ?_))) (LeH.refl _) hK)⟩
 ·rename_i he
  have hk2 : 2 ≤ fs.length := by ((try simp only [vn] at *) <;> omega)
  obtain ⟨⟨n0, v0⟩, h0⟩ : ∃ x, fs[0]? = some x := ⟨_, List.getElem?_eq_getElem (by omega)⟩
  obtain ⟨⟨n1, v1⟩, h1'⟩ : ∃ x, fs[1]? = some x := ⟨_, List.getElem?_eq_getElem (by omega)⟩
  have hnx : nextR ⟨n, k, o⟩ w = @ite _ ((⟨n0, v0⟩ : Fd) = ⟨⟨#[110]⟩, itoS (nI n)⟩ ∧ (⟨n1, v1⟩ : Fd) = ⟨⟨#[108, 97, 115, 116]⟩, k⟩) (Classical.propDecidable _) (some (fs.drop 2)) none := by
   unfold nextR
   rw [← hR]
   rcases fs with _ | ⟨f0, _ | ⟨f1, r⟩⟩
   ·cases h0
   ·cases h1'
   ·cases h0; cases h1'
    dsimp only
    congr 1
    simp [he]
  have hp : -9223372036854775808 ≤ nI n ∧ nI n ≤ 9223372036854775807 := by constructor <;> ((try simp only [vn] at *) <;> omega)
  refine .e (i := 0) ?_
  cbv
  obtain ⟨t, ht⟩ : ∃ x, x = itoS (nI n) := ⟨_, rfl⟩
  rw [← ht] at hnx
  (refine callG_spec0 hI (nI n) hp rfl rfl rfl ?_; try dsimp only)
  rw [← ht]
  cbv; repeat' ((first | refine .e ?_ | refine .mk (fun h => ?_) fun h => ?_ | refine .k fun z hz => ?_ | fail) <;> cbv)
  ·rename_i hy0
   have hn : nextR ⟨n, k, o⟩ w = some (fs.drop 2) := by rw [hnx, hy0.1, hy0.2.1, h.1, h.2.1]; exact if_pos ⟨rfl, rfl⟩
   have ea : nextA ⟨n, k, o⟩ w = .tup [.sl 2 (mapA FdA (fs.drop 2)), .str (lnk o w), .bl true] := by unfold nextA; rw [hn]
   have ef : nextF ⟨n, k, o⟩ w = ⟨n + 1, lnk o w, o⟩ := by unfold nextF; rw [hn]
   rw [ea, ef] at hK
   obtain rfl : z = nI (n + 1) := by ((try simp only [vn] at *) <;> omega)
   have hp2 : o.size ≤ 4096 ∧ w.size ≤ 1048576 := ⟨h2, h3⟩
   obtain ⟨g, hg⟩ : ∃ x, x = lnk o w := ⟨_, rfl⟩
   rw [← hg] at hK
   (refine callG_spec0 hl ((o, w) : ByteArray × ByteArray) hp2 rfl rfl rfl ?_; try dsimp only)
   rw [← hg]
   cbv; repeat' ((first | refine .l fun ys hys hyl => ?_ | fail) <;> cbv)
   obtain rfl : ys = fs.drop 2 := by
    rw [hys]
    show ((fs.take ((fs.length : Int)).toNat).drop 2) = fs.drop 2
    rw [Int.toNat_natCast, List.take_length]
   exact FinK.mk ⟨_, Gh.refl _, .inl (CutK.pre _ (by rfl) (by exact Nat.le_of_ble_eq_true rfl) (by rfl) (by rfl) (Le.refl _) (LeH.refl _) hK)⟩
  ·have hn : nextR ⟨n, k, o⟩ w = none := by
    rw [hnx]
    rename_i h
    exact if_neg fun hh => h ⟨congrArg Fd.name hh.2, congrArg Fd.value hh.2, trivial⟩
   rw [(no hn).1, (no hn).2] at hK
   exact FinK.mk ⟨_, Gh.refl _, .inl (CutK.pre _ (by rfl) (by exact Nat.le_of_ble_eq_true rfl) (by rfl) (by rfl) (by repeat' (first | exact LeL.nil | exact LeL0.nil | exact LeH.nil | exact LeE.refl _ | exact Le.refl _ | exact Le0.one (.refl _) | exact Le0.one (.nil _) | exact Le1.refl _ | exact Le1.nil _ | refine LeH.cons ?_ ?_ | refine LeE.row ?_ | refine LeE.blk ?_ | refine LeL0.cons ?_ ?_ | refine LeL.cons ?_ ?_ | refine Le0.agg ?_ | refine Le.tup ?_ | exact Le.one (.one (.nil _)) | refine Le.one (.agg ?_))) (LeH.refl _) hK)⟩
  ·have hn : nextR ⟨n, k, o⟩ w = none := by
    rw [hnx]
    rename_i h
    exact if_neg fun hh => h ⟨congrArg Fd.name hh.1, congrArg Fd.value hh.1, trivial⟩
   rw [(no hn).1, (no hn).2] at hK
   exact FinK.mk ⟨_, Gh.refl _, .inl (CutK.pre _ (by rfl) (by exact Nat.le_of_ble_eq_true rfl) (by rfl) (by rfl) (by repeat' (first | exact LeL.nil | exact LeL0.nil | exact LeH.nil | exact LeE.refl _ | exact Le.refl _ | exact Le0.one (.refl _) | exact Le0.one (.nil _) | exact Le1.refl _ | exact Le1.nil _ | refine LeH.cons ?_ ?_ | refine LeE.row ?_ | refine LeE.blk ?_ | refine LeL0.cons ?_ ?_ | refine LeL.cons ?_ ?_ | refine Le0.agg ?_ | refine Le.tup ?_ | exact Le.one (.one (.nil _)) | refine Le.one (.agg ?_))) (LeH.refl _) hK)⟩
 ·have hne : ¬ e = 0 := h
  have hn : nextR ⟨n, k, o⟩ w = none := by
   unfold nextR
   rw [← hR]
   split
   ·rename_i heq
    cases heq
    exact if_neg fun hh => hne hh.1
   ·rfl
  rw [(no hn).1, (no hn).2] at hK
  exact FinK.mk ⟨_, Gh.refl _, .inl (CutK.pre _ (by rfl) (by exact Nat.le_of_ble_eq_true rfl) (by rfl) (by rfl) (by repeat' (first | exact LeL.nil | exact LeL0.nil | exact LeH.nil | exact LeE.refl _ | exact Le.refl _ | exact Le0.one (.refl _) | exact Le0.one (.nil _) | exact Le1.refl _ | exact Le1.nil _ | refine LeH.cons ?_ ?_ | refine LeE.row ?_ | refine LeE.blk ?_ | refine LeL0.cons ?_ ?_ | refine LeL.cons ?_ ?_ | refine Le0.agg ?_ | refine Le.tup ?_ | exact Le.one (.one (.nil _)) | refine Le.one (.agg ?_))) (LeH.refl _) hK)⟩
end Go.Proofs.YtpcfdpengbkplaaDoor
/-
 Book: names; copies of records (picked out of other texts by pick.py).
-/
namespace Go.Proofs.YtpcfdpengbkplaaDoor
open Go.RowKit
set_option maxHeartbeats 8000000
set_option maxRecDepth 100000
def ByC (g : Int → Bool) : Ctr := spec (fun z : Int => [.int .u8 z]) (fun _ => []) (fun _ => True) (fun z => .bl (g z)) fun _ => []
theorem isLetter_body (P : Program) : BodyOk P x78 (ByC letB) := by
 intro args H K hc
 obtain ⟨z, rfl, rfl, _, hK⟩ := hc
 refine ⟨Nat.le_of_ble_eq_true rfl, ?_⟩
 dsimp only at hK ⊢
 cbv; repeat' ((first | refine .mk (fun h => ?_) fun h => ?_ | fail) <;> cbv)
 all_goals exact FinK.mk ⟨_, Gh.refl _, .inl (CutK.val rfl (Le.refl _) (K_bl hK (by (unfold letB; simp; omega))))⟩
theorem isDigit_body (P : Program) : BodyOk P x79 (ByC digB) := by
 intro args H K hc
 obtain ⟨z, rfl, rfl, _, hK⟩ := hc
 refine ⟨Nat.le_of_ble_eq_true rfl, ?_⟩
 dsimp only at hK ⊢
 cbv; repeat' ((first | refine .mk (fun h => ?_) fun h => ?_ | fail) <;> cbv)
 all_goals exact FinK.mk ⟨_, Gh.refl _, .inl (CutK.val rfl (Le.refl _) (K_bl hK (by (unfold digB; simp; omega))))⟩
theorem rletter_body (P : Program) : BodyOk P x63 (ByC letB) := by
 intro args H K hc
 obtain ⟨z, rfl, rfl, _, hK⟩ := hc
 refine ⟨Nat.le_of_ble_eq_true rfl, ?_⟩
 dsimp only at hK ⊢
 cbv; repeat' ((first | refine .mk (fun h => ?_) fun h => ?_ | fail) <;> cbv)
 all_goals exact FinK.mk ⟨_, Gh.refl _, .inl (CutK.val rfl (Le.refl _) (K_bl hK (by (unfold letB; simp; omega))))⟩
theorem rdigit_body (P : Program) : BodyOk P x64 (ByC digB) := by
 intro args H K hc
 obtain ⟨z, rfl, rfl, _, hK⟩ := hc
 refine ⟨Nat.le_of_ble_eq_true rfl, ?_⟩
 dsimp only at hK ⊢
 cbv; repeat' ((first | refine .mk (fun h => ?_) fun h => ?_ | fail) <;> cbv)
 all_goals exact FinK.mk ⟨_, Gh.refl _, .inl (CutK.val rfl (Le.refl _) (K_bl hK (by (unfold digB; simp; omega))))⟩
theorem ch_or {c : UInt8} {z : Int} (hz : z = c.toNat) : chB c = (letB z || digB z || decide (z = 45)) := by subst hz; rfl
theorem nameB_short {s : ByteArray} (h : s.size < 1 ∨ 16 < s.size) : nameB s = false := by
 unfold nameB
 rcases h with h | h
 ·rw [decide_eq_false (by omega)]; rfl
 ·rw [decide_eq_false (p := s.size ≤ 16) (by omega)]; simp
theorem nameB_long {s : ByteArray} (h : firstAll s s.size) (h1 : 1 ≤ s.size) (h2 : s.size ≤ 16) : nameB s = true := by rw [nameB_all h]; simp [h1, h2]
theorem name_body (P : Program) (hl : FnOk P 78 (ByC letB)) (hd : FnOk P 79 (ByC digB)) : BodyOk P x60 (StrC (fun _ => True) nameB) := by
 intro args H K hc
 obtain ⟨s, rfl, rfl, _, hK⟩ := hc
 refine ⟨Nat.le_of_ble_eq_true rfl, ?_⟩
 dsimp only at hK ⊢
 cbv; repeat' ((first | refine .mk (fun h => ?_) fun h => ?_ | refine .k fun z hz => ?_ | fail) <;> cbv)
 ·exact FinK.mk ⟨_, Gh.refl _, .inl (CutK.val rfl (Le.refl _) (K_bl hK (by (rw [nameB_short (by ((try simp only [vn] at *) <;> omega))]))))⟩
 ·exact FinK.mk ⟨_, Gh.refl _, .inl (CutK.val rfl (Le.refl _) (K_bl hK (by (rw [nameB_short (by ((try simp only [vn] at *) <;> omega))]))))⟩
 obtain ⟨n, hn⟩ : ∃ n, n = s.size := ⟨_, rfl⟩
 refine xloopV [] (fun p : { k : Nat // k ≤ s.size ∧ firstAll s k } => [(14, .i (nI p.1))]) (fun _ => []) (fun p => lft n p.1) ⟨0, Nat.zero_le _, firstAll_zero s⟩ ?_
 rintro ⟨k, hk, hf⟩
 dsimp only
 cbv; repeat' ((first | refine .mk (fun h => ?_) fun h => ?_ | fail) <;> cbv)
 rotate_left
 ·obtain rfl : k = s.size := by ((try simp only [vn] at *) <;> omega)
  exact FinK.mk ⟨_, Gh.refl _, .inl (CutK.val rfl (Le.refl _) (K_bl hK (by (rw [nameB_long hf (by ((try simp only [vn] at *) <;> omega)) (by ((try simp only [vn] at *) <;> omega))]))))⟩
 have hks : k < s.size := by ((try simp only [vn] at *) <;> omega)
 refine askByte_nI hks fun z hz => ?_
 have hch := ch_or (c := s[k]) hz
 cbv
 (refine callG_spec0 hl z trivial rfl rfl rfl ?_; try dsimp only)
 cases h1 : letB z with
 | true =>
  cbv; repeat' ((first | refine .k fun z hz => ?_ | fail) <;> cbv)
  obtain rfl := hz
  exact roundV ⟨k + 1, hks, firstAll_succ hks hf (by rw [hch, h1]; rfl)⟩ (lft_lt (by omega))
 | false =>
  cbv
  refine askByte_nI hks fun z2 hz2 => ?_
  obtain rfl : z = z2 := hz.trans hz2.symm
  cbv
  (refine callG_spec0 hd z trivial rfl rfl rfl ?_; try dsimp only)
  cases h2 : digB z with
  | true =>
   cbv; repeat' ((first | refine .k fun z hz => ?_ | fail) <;> cbv)
   obtain rfl := hz
   exact roundV ⟨k + 1, hks, firstAll_succ hks hf (by rw [hch, h1, h2]; rfl)⟩ (lft_lt (by omega))
  | false =>
   cbv
   refine askByte_nI hks fun z2 hz2 => ?_
   obtain rfl : z = z2 := hz.trans hz2.symm
   cbv; repeat' ((first | refine .mk (fun h => ?_) fun h => ?_ | refine .k fun z hz => ?_ | fail) <;> cbv)
   ·obtain rfl := hz
    exact roundV ⟨k + 1, hks, firstAll_succ hks hf (by rw [hch, h1, h2]; simp [h])⟩ (lft_lt (by omega))
   ·exact FinK.mk ⟨_, Gh.refl _, .inl (CutK.val rfl (Le.refl _) (K_bl hK (by (rw [nameB_not hks (by rw [hch, h1, h2]; simp [h])]))))⟩
theorem rname_body (P : Program) (hl : FnOk P 63 (ByC letB)) (hd : FnOk P 64 (ByC digB)) : BodyOk P x40 (StrC (fun s => s.size ≤ maxLen) nameB) := by
 intro args H K hc; obtain ⟨s, rfl, rfl, hp, hK⟩ := hc; refine ⟨Nat.le_of_ble_eq_true rfl, ?_⟩; dsimp only at hp hK ⊢
 unfold maxLen at hp
 obtain ⟨n, hn⟩ : ∃ n, n = s.size := ⟨_, rfl⟩
 cbv
 refine xloopV [] (fun p : { k : Nat // k ≤ s.size ∧ firstAll s k } => [(3, .i (nI p.1))]) (fun _ => []) (fun p => lft n p.1) ⟨0, Nat.zero_le _, firstAll_zero s⟩ ?_
 rintro ⟨k, hk, hf⟩
 dsimp only at hk hf ⊢
 rcases Nat.lt_or_ge k s.size with hks | hks
 rotate_left
 ·obtain rfl : n = k := by omega
  rw [hn] at hf
  cbv; repeat' ((first | refine .n fun h => ?_ | refine .mk (fun h => ?_) fun h => ?_ | refine .k fun z hz => ?_ | fail) <;> cbv)
  ·exact FinK.mk ⟨_, Gh.refl _, .inl (CutK.val rfl (Le.refl _) (K_bl hK (by (rw [nameB_long hf (by ((try simp only [vn] at *) <;> omega)) (by ((try simp only [vn] at *) <;> omega))]))))⟩
  ·exact FinK.mk ⟨_, Gh.refl _, .inl (CutK.val rfl (Le.refl _) (K_bl hK (by (rw [nameB_short (by ((try simp only [vn] at *) <;> omega))]))))⟩
  ·exact FinK.mk ⟨_, Gh.refl _, .inl (CutK.val rfl (Le.refl _) (K_bl hK (by (rw [nameB_short (by ((try simp only [vn] at *) <;> omega))]))))⟩
 cbv; repeat' ((first | refine .y fun h => ?_ | refine .k fun z hz => ?_ | fail) <;> cbv)
 refine askByte_nI hks fun z hz => ?_
 have hch := ch_or (c := s[k]) hz
 cbv
 (refine callG_spec0 hl z trivial rfl rfl rfl ?_; try dsimp only)
 cases h1 : letB z with
 | true =>
  cbv; repeat' ((first | refine .k fun z hz => ?_ | fail) <;> cbv)
  obtain rfl := hz
  exact roundV ⟨k + 1, hks, firstAll_succ hks hf (by rw [hch, h1]; rfl)⟩ (lft_lt (by omega))
 | false =>
  cbv
  refine askByte_nI hks fun z2 hz2 => ?_
  obtain rfl : z = z2 := hz.trans hz2.symm
  cbv
  (refine callG_spec0 hd z trivial rfl rfl rfl ?_; try dsimp only)
  cases h2 : digB z with
  | true =>
   cbv; repeat' ((first | refine .k fun z hz => ?_ | fail) <;> cbv)
   obtain rfl := hz
   exact roundV ⟨k + 1, hks, firstAll_succ hks hf (by rw [hch, h1, h2]; rfl)⟩ (lft_lt (by omega))
  | false =>
   cbv
   refine askByte_nI hks fun z2 hz2 => ?_
   obtain rfl : z = z2 := hz.trans hz2.symm
   cbv; repeat' ((first | refine .mk (fun h => ?_) fun h => ?_ | refine .k fun z hz => ?_ | fail) <;> cbv)
   ·obtain rfl := hz
    exact roundV ⟨k + 1, hks, firstAll_succ hks hf (by rw [hch, h1, h2]; simp [h])⟩ (lft_lt (by omega))
   ·exact FinK.mk ⟨_, Gh.refl _, .inl (CutK.val rfl (Le.refl _) (K_bl hK (by (rw [nameB_not hks (by rw [hch, h1, h2]; simp [h])]))))⟩
noncomputable def CloneFC : Ctr := spec (fun l : List Fd => [.sl 2 (mapA FdA l)]) (fun _ => []) (fun l => l.length ≤ 4000) (fun l => .sl 2 (mapA FdA l)) fun _ => []
theorem cloneF_body (P : Program) : BodyOk P x43 CloneFC := by
 intro args H K hc
 obtain ⟨l, rfl, rfl, hp, hK⟩ := hc
 refine ⟨Nat.le_of_ble_eq_true rfl, ?_⟩
 dsimp only at hK hp ⊢
 have hl := mapA_len FdA l
 cbv; repeat' ((first | refine .o ?_ | refine .mk (fun h => ?_) ?_ | fail) <;> cbv)
 ·rw [h] at hK
  exact FinK.mk ⟨_, Gh.refl _, .inl (CutK.val rfl (by repeat' (first | exact LeL.nil | exact LeL0.nil | exact LeH.nil | exact LeE.refl _ | exact Le.refl _ | exact Le0.one (.refl _) | exact Le0.one (.nil _) | exact Le1.refl _ | exact Le1.nil _ | refine LeH.cons ?_ ?_ | refine LeE.row ?_ | refine LeE.blk ?_ | refine LeL0.cons ?_ ?_ | refine LeL.cons ?_ ?_ | refine Le0.agg ?_ | refine Le.tup ?_ | exact Le.one (.one (.nil _)) | refine Le.one (.agg ?_))) hK)⟩
 ·refine FinK.mk ⟨_, Gh.plain 0 rfl, ?_⟩
  cbv
  exact .inl (CutK.val rfl (Le.refl _) hK)
end Go.Proofs.YtpcfdpengbkplaaDoor
/-
 Book: how far writes are right; reading a book.
-/
namespace Go.Proofs.YtpcfdpengbkplaaDoor
open Go.RowKit
set_option maxHeartbeats 8000000
set_option maxRecDepth 100000
/-- A record. -/
structure Rc where
 l : List Fd
noncomputable def rightL : Fol → List ByteArray → List Rc × Fol × Bool
 | f, [] => ([], f, true)
 | f, w :: ws => match nextR f w with
  | none => ([], f, false)
  | some r => (⟨r⟩ :: (rightL (nextF f w) ws).1, (rightL (nextF f w) ws).2)
theorem rightL_snoc : ∀ (ws : List ByteArray) (f : Fol) (w : ByteArray), (rightL f ws).2.2 = true → rightL f (ws ++ [w]) = match nextR (rightL f ws).2.1 w with
  | none => ((rightL f ws).1, (rightL f ws).2.1, false)
  | some r => ((rightL f ws).1 ++ [⟨r⟩], nextF (rightL f ws).2.1 w, true)
 | [], f, w, _ => by
  simp only [List.nil_append, rightL]
 | x :: ws, f, w, h => by
  rw [List.cons_append]
  unfold rightL at h ⊢
  cases hx : nextR f x with
  | none => rw [hx] at h; cases h
  | some r =>
   rw [hx] at h
   dsimp only at h ⊢
   rw [rightL_snoc ws _ w h]
   cases nextR (rightL (nextF f x) ws).2.1 w <;> rfl
theorem rightL_stop : ∀ (ws vs : List ByteArray) (f : Fol), (rightL f ws).2.2 = false → rightL f (ws ++ vs) = rightL f ws
 | [], _, f, h => by cases h
 | x :: ws, vs, f, h => by
  rw [List.cons_append]
  unfold rightL at h ⊢
  cases hx : nextR f x with
  | none => rfl
  | some r =>
   rw [hx] at h
   dsimp only at h ⊢
   rw [rightL_stop ws vs _ h]
theorem nextF_owner (f : Fol) (w : ByteArray) : (nextF f w).owner = f.owner := by unfold nextF; split <;> rfl
theorem rightL_owner : ∀ (ws : List ByteArray) (f : Fol), (rightL f ws).2.1.owner = f.owner
 | [], _ => rfl
 | w :: ws, f => by
  unfold rightL
  split
  ·rfl
  ·exact (rightL_owner ws _).trans (nextF_owner f w)
theorem rightL_at : ∀ (ws : List ByteArray) (f : Fol), (rightL f ws).2.1.at_ = f.at_ + (rightL f ws).1.length ∧ (rightL f ws).1.length ≤ ws.length ∧ ((rightL f ws).2.2 = true → (rightL f ws).1.length = ws.length)
 | [], _ => ⟨rfl, Nat.le_refl _, fun _ => rfl⟩
 | w :: ws, f => by
  unfold rightL
  split
  ·exact ⟨rfl, Nat.zero_le _, fun h => by cases h⟩
  ·rename_i r hr
   obtain ⟨h1, h2, h3⟩ := rightL_at ws (nextF f w)
   have e : (nextF f w).at_ = f.at_ + 1 := by unfold nextF; rw [hr]
   refine ⟨?_, ?_, fun h => ?_⟩
   ·dsimp only; rw [h1, e, List.length_cons]; omega
   ·dsimp only; rw [List.length_cons, List.length_cons]; omega
   ·dsimp only at h ⊢; rw [List.length_cons, List.length_cons, h3 h]
noncomputable def SlA : Rc → AV | ⟨l⟩ => .sl 2 (mapA FdA l)
structure Bk where
 owner : ByteArray
 link : ByteArray
 recs : List Rc
 sto : Sto
/-- A book: the store first. -/
noncomputable def BkE : Bk → List Ent | ⟨o, k, rs, ⟨l, n, a, f, d⟩⟩ => [.blk 73 [.hd 1, .i (nI n), .bl a, .i (nI f), .bl d], .row 9 1 (mapA AV.str l), .blk 69 [.ptr 0 0, .str o, .str k, .hd 3], .row 42 1 (mapA SlA rs)]
def BkOk (b : Bk) : Prop := StoOk b.sto ∧ b.recs.length ≤ 1048576 ∧ b.owner.size ≤ 4096 ∧ b.link.size ≤ 4096 ∧ ∀ x ∈ b.recs, x.l.length ≤ 62
def BkG (r : Bk → AV) : Ctr := spec (fun _ : Bk => [.ptr 2 0]) BkE BkOk r BkE
theorem b_len_body (P : Program) : BodyOk P x20 (BkG fun b => .i (nI b.recs.length)) := by
 intro args H K hc; obtain ⟨b, rfl, rfl, hp, hK⟩ := hc; refine ⟨Nat.le_of_ble_eq_true rfl, ?_⟩; dsimp only at hp hK ⊢
 obtain ⟨o, k, rs, ⟨l, n, a, f, d⟩⟩ := b
 have hl := mapA_len SlA rs
 cbv; repeat' ((first | refine .k fun z hz => ?_ | fail) <;> cbv)
 obtain rfl : z = nI rs.length := by first | exact hz | (rw [hz, hl]; rfl)
 exact FinK.mk ⟨_, Gh.refl _, .inl (CutK.pre _ (by rfl) (by exact Nat.le_of_ble_eq_true rfl) (by rfl) (by rfl) (Le.refl _) (LeH.refl _) hK)⟩
theorem b_lasting_body (P : Program) (h : FnOk P 46 (StoG fun s => .i (nI s.lasting))) : BodyOk P x23 (BkG fun b => .i (nI b.sto.lasting)) := by
 intro args H K hc; obtain ⟨b, rfl, rfl, hp, hK⟩ := hc; refine ⟨Nat.le_of_ble_eq_true rfl, ?_⟩; dsimp only at hp hK ⊢
 obtain ⟨o, k, rs, ⟨l, n, a, f, d⟩⟩ := b
 cbv
 (refine callG_spec h (⟨l, n, a, f, d⟩ : Sto) [0, 1] hp.1 rfl rfl (by decide) rfl rfl rfl rfl rfl ?_; try dsimp only)
 cbv
 exact FinK.mk ⟨_, Gh.refl _, .inl (CutK.pre _ (by rfl) (by exact Nat.le_of_ble_eq_true rfl) (by rfl) (by rfl) (Le.refl _) (LeH.refl _) hK)⟩
def BFlushC : Ctr := spec (fun _ : Bk => [.ptr 2 0]) BkE BkOk (fun b => .i (syncS b.sto).2) fun b => BkE { b with sto := (syncS b.sto).1 }
theorem b_flush_body (P : Program) (h : FnOk P 45 SyncC) : BodyOk P x22 BFlushC := by
 intro args H K hc; obtain ⟨b, rfl, rfl, hp, hK⟩ := hc; refine ⟨Nat.le_of_ble_eq_true rfl, ?_⟩; dsimp only at hp hK ⊢
 obtain ⟨o, k, rs, ⟨l, n, a, f, d⟩⟩ := b
 cbv
 obtain ⟨⟨⟨l2, n2, a2, f2, d2⟩, c2⟩, hc⟩ : ∃ y, y = syncS ⟨l, n, a, f, d⟩ := ⟨_, rfl⟩
 rw [← hc] at hK
 (refine callG_spec h (⟨l, n, a, f, d⟩ : Sto) [0, 1] hp.1 rfl rfl (by decide) rfl rfl rfl rfl rfl ?_; try dsimp only)
 rw [← hc]
 cbv
 exact FinK.mk ⟨_, Gh.refl _, .inl (CutK.pre _ (by rfl) (by exact Nat.le_of_ble_eq_true rfl) (by rfl) (by rfl) (Le.refl _) (LeH.refl _) hK)⟩
end Go.Proofs.YtpcfdpengbkplaaDoor
/-
 Book: a store's book, read.
-/
namespace Go.Proofs.YtpcfdpengbkplaaDoor
open Go.RowKit
set_option maxHeartbeats 8000000
set_option maxRecDepth 100000
def fol0 (o : ByteArray) : Fol := ⟨0, lnk o ⟨#[]⟩, o⟩
def shortW (l : List ByteArray) : Prop := ∀ w ∈ l, w.size ≤ 4096
noncomputable def bookOf (o : ByteArray) (s : Sto) : Bk := ⟨o, (rightL (fol0 o) s.writes).2.1.link, (rightL (fol0 o) s.writes).1, s⟩
noncomputable def bookC (o : ByteArray) (s : Sto) : Int := if (rightL (fol0 o) s.writes).2.2 = true then 0 else 15
noncomputable def bookR (o : ByteArray) (s : Sto) : AV := if nameB o = false then .tup [.v (.pointer none), .i 1] else if s.down = true then .tup [.v (.pointer none), .i 14] else .tup [.ptr 2 0, .i (bookC o s)]
noncomputable def bookH (o : ByteArray) (s : Sto) : List Ent := if nameB o = false then StoE s else if s.down = true then StoE s else BkE (bookOf o s)
noncomputable def BReadC : Ctr := spec (fun q : Sto × ByteArray => [.ptr 0 0, .str q.2]) (fun q => StoE q.1) (fun q => StoOk q.1 ∧ shortW q.1.writes) (fun q => bookR q.2 q.1) fun q => bookH q.2 q.1
theorem nameB_size {o : ByteArray} (h : nameB o = true) : o.size ≤ 16 := by
 rcases Nat.lt_or_ge 16 o.size with h1 | h1
 ·rw [nameB_short (.inr h1)] at h; cases h
 ·exact h1
theorem take_succ_get {α : Type} {l : List α} {k : Nat} {x : α} (h : l[k]? = some x) : l.take (k + 1) = l.take k ++ [x] := by
 rw [List.take_add_one, h]; rfl
theorem nextR_parse {f : Fol} {w : ByteArray} {r : List Fd} (h : nextR f w = some r) : ∃ a, parseS w.data.toList = (⟨⟨#[110]⟩, itoS (nI f.at_)⟩ :: ⟨⟨#[108, 97, 115, 116]⟩, f.link⟩ :: r, a, 0) := by
 unfold nextR at h
 split at h
 ·rename_i f0 f1 r' a e heq
  split at h
  ·rename_i hc
   cases h
   exact ⟨a, by rw [heq, hc.1, hc.2.1, hc.2.2]⟩
  ·cases h
 ·cases h
theorem nextR_may {f : Fol} {w : ByteArray} {r : List Fd} (h : nextR f w = some r) : r.length ≤ 62 ∧ ∀ x ∈ r, mayF x = true := by
 obtain ⟨a, ha⟩ := nextR_parse h
 have h1 := ((parseS_iff _ _).1 ⟨a, ha⟩).1
 unfold textC at h1
 split at h1
 ·cases h1
 ·rename_i hl
  split at h1
  ·rename_i hm
   rw [List.all_eq_true] at hm
   simp only [List.length_cons] at hl
   exact ⟨by omega, fun x hx => hm x (by simp [hx])⟩
  ·cases h1
theorem bread_body (P : Program) (hm : MayCall P 80) (hN : FnOk P 60 (StrC (fun _ => True) nameB)) (hD : FnOk P 24 (StoG fun s => .bl s.down)) (hL : FnOk P 44 LnkC) (hF : FnOk P 61 FollowC)
  (hLen : FnOk P 25 (StoG fun s => .i (nI s.writes.length))) (hR : FnOk P 28 ReadC) (hX : FnOk P 80 NextC) (hC : FnOk P 43 CloneFC) : BodyOk P x38 BReadC := by
 intro args H K hc; obtain ⟨q, rfl, rfl, hp, hK⟩ := hc; refine ⟨Nat.le_of_ble_eq_true rfl, ?_⟩; dsimp only at hp hK ⊢
 obtain ⟨⟨l, n, a, f, d⟩, o⟩ := q
 obtain ⟨hp, hsw⟩ : StoOk ⟨l, n, a, f, d⟩ ∧ shortW l := hp
 obtain ⟨h1, h2, h3⟩ : l.length ≤ 1048576 ∧ n ≤ l.length ∧ f ≤ 1048576 := hp
 dsimp only at hK
 cases hnm : nameB o with
 | false =>
  have e1 : bookR o ⟨l, n, a, f, d⟩ = .tup [.v (.pointer none), .i 1] := if_pos hnm
  have e2 : bookH o ⟨l, n, a, f, d⟩ = StoE ⟨l, n, a, f, d⟩ := if_pos hnm
  rw [e1, e2] at hK
  cbv
  (refine callG_spec0 hN o trivial rfl rfl rfl ?_; try dsimp only)
  rw [hnm]
  cbv
  exact FinK.mk ⟨_, Gh.refl _, .inl (CutK.pre _ (by rfl) (by exact Nat.le_of_ble_eq_true rfl) (by rfl) (by rfl) (Le.refl _) (LeH.refl _) hK)⟩
 | true =>
  have hnf : ¬ nameB o = false := by rw [hnm]; exact Bool.noConfusion
  have ho := nameB_size hnm
  cbv
  (refine callG_spec0 hN o trivial rfl rfl rfl ?_; try dsimp only)
  rw [hnm]
  cbv
  (refine callG_spec hD (⟨l, n, a, f, d⟩ : Sto) [0, 1] ⟨h1, h2, h3⟩ rfl rfl (by decide) rfl rfl rfl rfl rfl ?_; try dsimp only)
  cases d with
  | true =>
   have e1 : bookR o ⟨l, n, a, f, true⟩ = .tup [.v (.pointer none), .i 14] := (if_neg hnf).trans (if_pos rfl)
   have e2 : bookH o ⟨l, n, a, f, true⟩ = StoE ⟨l, n, a, f, true⟩ := (if_neg hnf).trans (if_pos rfl)
   rw [e1, e2] at hK
   cbv
   exact FinK.mk ⟨_, Gh.refl _, .inl (CutK.pre _ (by rfl) (by exact Nat.le_of_ble_eq_true rfl) (by rfl) (by rfl) (Le.refl _) (LeH.refl _) hK)⟩
  | false =>
   have e1 : bookR o ⟨l, n, a, f, false⟩ = .tup [.ptr 2 0, .i (bookC o ⟨l, n, a, f, false⟩)] := (if_neg hnf).trans (if_neg Bool.false_ne_true)
   have e2 : bookH o ⟨l, n, a, f, false⟩ = BkE (bookOf o ⟨l, n, a, f, false⟩) := (if_neg hnf).trans (if_neg Bool.false_ne_true)
   rw [e1, e2] at hK
   have hlp : o.size ≤ 4096 ∧ (⟨#[]⟩ : ByteArray).size ≤ 1048576 := ⟨by omega, by decide⟩
   obtain ⟨g, hg⟩ : ∃ g, g = lnk o ⟨#[]⟩ := ⟨_, rfl⟩
   cbv
   (refine callG_spec0 hL ((o, ⟨#[]⟩) : ByteArray × ByteArray) hlp rfl rfl rfl ?_; try dsimp only)
   rw [← hg]
   cbv
   (refine callG_new hF o hlp.1 rfl rfl ?_; try dsimp only)
   rw [← hg]
   cbv
   obtain ⟨m, hml⟩ : ∃ m, m = l.length := ⟨_, rfl⟩
   (refine callG_spec hLen (⟨l, n, a, f, false⟩ : Sto) [0, 1] ⟨h1, h2, h3⟩ rfl rfl (by decide) rfl rfl rfl rfl rfl ?_; try dsimp only)
   rw [← hml]
   rw [← hml] at h1 h2
   cbv
   refine xloopG (Gh.adoptC 2 3 42 1 rfl rfl) ?_
   cbv
   have h0 : rightL (fol0 o) (l.take 0) = ([], (⟨0, g, o⟩ : Fol), true) := by rw [List.take_zero, hg]; rfl
   refine xloopV [6] (fun p : { p : Nat × ByteArray × List Rc // p.1 ≤ m ∧ rightL (fol0 o) (l.take p.1) = (p.2.2, (⟨p.1, p.2.1, o⟩ : Fol), true) } => [(33, .i (nI p.1.1))]) (fun p => [.blk 73 [.hd 1, .i (nI n), .bl a, .i (nI f), .bl false], .row 9 1 (mapA AV.str l), .blk 69 [.ptr 0 0, .str o, .str p.1.2.1, .hd 6], .blk 9 [.str o], .blk 3 [.i (nI p.1.1)], .blk 9 [.str p.1.2.1], .row 42 1 (mapA SlA p.1.2.2)]) (fun p => lft 1048577 p.1.1) ⟨(0, g, []), Nat.zero_le _, h0⟩ ?_
   rintro ⟨⟨k, y, rs⟩, hk, hr⟩
   dsimp only at hk hr ⊢
   have hrl := mapA_len SlA rs
   have hrk : rs.length = k := by
    have := (rightL_at (l.take k) (fol0 o)).2.2 (by rw [hr])
    rw [hr, List.length_take] at this
    have e : rs.length = min k l.length := this
    omega
   cbv; repeat' ((first | refine .mk (fun h => ?_) fun h => ?_ | fail) <;> cbv)
   ·have hkl : k < l.length := by ((try simp only [vn] at *) <;> omega)
    obtain ⟨w, hw⟩ : ∃ w, l[k]? = some w := ⟨_, List.getElem?_eq_getElem hkl⟩
    have hws : w.size ≤ 4096 := hsw w (List.mem_of_getElem? hw)
    have er : readR ⟨l, n, a, f, false⟩ (nI k) = .tup [.str w, .i 0] := by
     unfold readR
     rw [if_neg Bool.false_ne_true, if_neg (by show ¬ ((k : Int) < 0 ∨ (l.length : Int) ≤ (k : Int)); omega)]
     show AV.tup [.str (l.getD k _), _] = _
     rw [List.getD_eq_getElem?_getD, hw]; rfl
    have hpr : StoOk ⟨l, n, a, f, false⟩ := ⟨by show l.length ≤ 1048576; omega, by show n ≤ l.length; omega, h3⟩
    (refine callG_spec hR ((⟨l, n, a, f, false⟩, nI k) : Sto × Int) [0, 1] hpr rfl rfl (by decide) rfl rfl rfl rfl rfl ?_; try dsimp only)
    rw [er]
    cbv; repeat' ((first | refine .y fun h => ?_ | refine And.intro ?_ ?_ | fail) <;> cbv)
    ·exact hm
    have hpx : k ≤ 1048576 ∧ o.size ≤ 4096 ∧ w.size ≤ 1048576 := ⟨by omega, by omega, by omega⟩
    (refine callG_spec hX ((⟨k, y, o⟩, w) : Fol × ByteArray) [4, 5, 3] hpx rfl rfl (by decide) rfl rfl rfl rfl rfl ?_; try dsimp only)
    cases hnx : nextR ⟨k, y, o⟩ w with
    | none =>
     have ea : nextA ⟨k, y, o⟩ w = .tup [.sl 2 [], .str ⟨#[]⟩, .bl false] := by unfold nextA; rw [hnx]
     have ef : nextF ⟨k, y, o⟩ w = ⟨k, y, o⟩ := by unfold nextF; rw [hnx]
     rw [ea, ef]
     have hrr : rightL (fol0 o) l = (rs, (⟨k, y, o⟩ : Fol), false) := by
      have h1 := rightL_snoc (l.take k) (fol0 o) w (by rw [hr])
      rw [← take_succ_get hw, hr] at h1
      dsimp only at h1
      rw [hnx] at h1
      rw [← List.take_append_drop (k + 1) l, rightL_stop _ _ _ (by rw [h1]), h1]
     have e3 : bookOf o ⟨l, n, a, f, false⟩ = ⟨o, y, rs, ⟨l, n, a, f, false⟩⟩ := by unfold bookOf; rw [hrr]
     have e4 : bookC o ⟨l, n, a, f, false⟩ = 15 := by unfold bookC; rw [hrr]; exact if_neg Bool.false_ne_true
     rw [e3, e4] at hK
     cbv
     (refine FinK.mk ⟨_, Gh.refl _, ?_⟩; cbv; exact .inl (CutK.sel [0, 1, 2, 6] _ _ (by rfl) (by rfl) (by decide) (by rfl) (by exact Nat.le_of_ble_eq_true rfl) (by rfl) (by rfl) (Le.refl _) (LeH.refl _) hK))
    | some r =>
     have ea : nextA ⟨k, y, o⟩ w = .tup [.sl 2 (mapA FdA r), .str (lnk o w), .bl true] := by unfold nextA; rw [hnx]
     have ef : nextF ⟨k, y, o⟩ w = ⟨k + 1, lnk o w, o⟩ := by unfold nextF; rw [hnx]
     rw [ea, ef]
     have hrr : rightL (fol0 o) (l.take (k + 1)) = (rs ++ [⟨r⟩], (⟨k + 1, lnk o w, o⟩ : Fol), true) := by
      have h1 := rightL_snoc (l.take k) (fol0 o) w (by rw [hr])
      rw [← take_succ_get hw, hr] at h1
      dsimp only at h1
      rw [hnx] at h1
      rw [h1, ef]
     obtain ⟨q, hq⟩ : ∃ q, q = lnk o w := ⟨_, rfl⟩
     rw [← hq] at hrr ⊢
     obtain ⟨k1, hk1⟩ : ∃ k1, k1 = k + 1 := ⟨_, rfl⟩
     rw [← hk1] at hrr ⊢
     have hr4 : r.length ≤ 4000 := by have := (nextR_may hnx).1; omega
     cbv
     (refine callG_spec0 hC r hr4 rfl rfl rfl ?_; try dsimp only)
     cbv; repeat' ((first | refine .k fun z hz => ?_ | refine .zl fun zs hzs hzl => ?_ | fail) <;> cbv)
     obtain ⟨rs2, hrs2⟩ : ∃ x, x = rs ++ [(⟨r⟩ : Rc)] := ⟨_, rfl⟩
     obtain rfl : zs = mapA SlA rs2 := by rw [hrs2, mapA_app, mapA_one]; exact hzs
     obtain rfl : z = nI k1 := by subst hk1; ((try simp only [vn] at *) <;> omega)
     rw [← hrs2] at hrr
     exact roundV ⟨(k1, q, rs2), by omega, hrr⟩ (by show 1048577 - k1 < 1048577 - k; omega)
   ·obtain rfl : k = m := by ((try simp only [vn] at *) <;> omega)
    have hrr : rightL (fol0 o) l = (rs, (⟨k, y, o⟩ : Fol), true) := by rw [← hr, List.take_of_length_le (by omega)]
    have e3 : bookOf o ⟨l, n, a, f, false⟩ = ⟨o, y, rs, ⟨l, n, a, f, false⟩⟩ := by unfold bookOf; rw [hrr]
    have e4 : bookC o ⟨l, n, a, f, false⟩ = 0 := by unfold bookC; rw [hrr]; exact if_pos rfl
    rw [e3, e4] at hK
    (refine FinK.mk ⟨_, Gh.refl _, ?_⟩; cbv; exact .inl (CutK.sel [0, 1, 2, 6] _ _ (by rfl) (by rfl) (by decide) (by rfl) (by exact Nat.le_of_ble_eq_true rfl) (by rfl) (by rfl) (Le.refl _) (LeH.refl _) hK))
end Go.Proofs.YtpcfdpengbkplaaDoor
/-
 Book: Open, Check, At, All.
-/
namespace Go.Proofs.YtpcfdpengbkplaaDoor
open Go.RowKit
set_option maxHeartbeats 8000000
set_option maxRecDepth 100000
noncomputable def openR (o : ByteArray) (s : Sto) : AV := if nameB o = false then .tup [.v (.pointer none), .i 1] else if s.down = true then .tup [.v (.pointer none), .i 14] else if bookC o s = 0 then .tup [.ptr 2 0, .i 0] else .tup [.v (.pointer none), .i 15]
noncomputable def openH (o : ByteArray) (s : Sto) : List Ent := if nameB o = false then StoE s else if s.down = true then StoE s else if bookC o s = 0 then BkE (bookOf o s) else StoE s
noncomputable def BOpenC : Ctr := spec (fun q : Sto × ByteArray => [.ptr 0 0, .str q.2]) (fun q => StoE q.1) (fun q => StoOk q.1 ∧ shortW q.1.writes) (fun q => openR q.2 q.1) fun q => openH q.2 q.1
noncomputable def checkR (o : ByteArray) (s : Sto) : AV := if nameB o = false then .tup [.i 0, .i 1] else if s.down = true then .tup [.i 0, .i 14] else .tup [.i (nI (bookOf o s).recs.length), .i (bookC o s)]
noncomputable def BCheckC : Ctr := spec (fun q : Sto × ByteArray => [.ptr 0 0, .str q.2]) (fun q => StoE q.1) (fun q => StoOk q.1 ∧ shortW q.1.writes) (fun q => checkR q.2 q.1) fun q => StoE q.1
/-- The three ways of a store that is opened. -/
theorem book_ways (o : ByteArray) (s : Sto) : (nameB o = false ∧ bookR o s = .tup [.v (.pointer none), .i 1] ∧ bookH o s = StoE s) ∨ (¬ nameB o = false ∧ s.down = true ∧ bookR o s = .tup [.v (.pointer none), .i 14] ∧ bookH o s = StoE s) ∨
  (¬ nameB o = false ∧ ¬ s.down = true ∧ bookR o s = .tup [.ptr 2 0, .i (bookC o s)] ∧ bookH o s = BkE (bookOf o s)) := by
 by_cases h1 : nameB o = false
 ·exact .inl ⟨h1, if_pos h1, if_pos h1⟩
 ·by_cases h2 : s.down = true
  ·exact .inr (.inl ⟨h1, h2, (if_neg h1).trans (if_pos h2), (if_neg h1).trans (if_pos h2)⟩)
  ·exact .inr (.inr ⟨h1, h2, (if_neg h1).trans (if_neg h2), (if_neg h1).trans (if_neg h2)⟩)
theorem bookC_ways (o : ByteArray) (s : Sto) : bookC o s = 0 ∨ bookC o s = 15 := by unfold bookC; split <;> simp
theorem bopen_body (P : Program) (h : FnOk P 38 BReadC) : BodyOk P x18 BOpenC := by
 intro args H K hc; obtain ⟨q, rfl, rfl, hp, hK⟩ := hc; refine ⟨Nat.le_of_ble_eq_true rfl, ?_⟩; dsimp only at hp hK ⊢
 obtain ⟨s, o⟩ := q
 dsimp only at hK hp ⊢
 rcases book_ways o s with ⟨h1, e1, e2⟩ | ⟨h1, h2, e1, e2⟩ | ⟨h1, h2, e1, e2⟩
 ·rw [show openR o s = .tup [.v (.pointer none), .i 1] from if_pos h1, show openH o s = StoE s from if_pos h1] at hK
  obtain ⟨l, n, a, f, d⟩ := s
  cbv
  (refine callG_spec h ((⟨l, n, a, f, d⟩, o) : Sto × ByteArray) [0, 1] hp rfl rfl (by decide) rfl rfl rfl rfl rfl ?_; try dsimp only)
  rw [e1, e2]
  cbv; repeat' ((first | refine .n fun h => ?_ | fail) <;> cbv)
  exact FinK.mk ⟨_, Gh.refl _, .inl (CutK.pre _ (by rfl) (by exact Nat.le_of_ble_eq_true rfl) (by rfl) (by rfl) (Le.refl _) (LeH.refl _) hK)⟩
 ·rw [show openR o s = .tup [.v (.pointer none), .i 14] from (if_neg h1).trans (if_pos h2), show openH o s = StoE s from (if_neg h1).trans (if_pos h2)] at hK
  obtain ⟨l, n, a, f, d⟩ := s
  cbv
  (refine callG_spec h ((⟨l, n, a, f, d⟩, o) : Sto × ByteArray) [0, 1] hp rfl rfl (by decide) rfl rfl rfl rfl rfl ?_; try dsimp only)
  rw [e1, e2]
  cbv; repeat' ((first | refine .n fun h => ?_ | fail) <;> cbv)
  exact FinK.mk ⟨_, Gh.refl _, .inl (CutK.pre _ (by rfl) (by exact Nat.le_of_ble_eq_true rfl) (by rfl) (by rfl) (Le.refl _) (LeH.refl _) hK)⟩
 ·obtain ⟨⟨o', k, rs, s'⟩, hb⟩ : ∃ b, b = bookOf o s := ⟨_, rfl⟩
  have hs' : s' = s := congrArg Bk.sto hb
  rw [← hb] at e2
  rcases bookC_ways o s with h3 | h3
  ·rw [show openR o s = .tup [.ptr 2 0, .i 0] from (if_neg h1).trans ((if_neg h2).trans (if_pos h3)), show openH o s = BkE (bookOf o s) from (if_neg h1).trans ((if_neg h2).trans (if_pos h3)), ← hb] at hK
   rw [h3] at e1
   subst hs'
   obtain ⟨l, n, a, f, d⟩ := s'
   cbv
   (refine callG_spec h ((⟨l, n, a, f, d⟩, o) : Sto × ByteArray) [0, 1] hp rfl rfl (by decide) rfl rfl rfl rfl rfl ?_; try dsimp only)
   rw [e1, e2]
   cbv; repeat' ((first | refine .y fun h => ?_ | fail) <;> cbv)
   exact FinK.mk ⟨_, Gh.refl _, .inl (CutK.pre _ (by rfl) (by exact Nat.le_of_ble_eq_true rfl) (by rfl) (by rfl) (Le.refl _) (LeH.refl _) hK)⟩
  ·have h4 : ¬ bookC o s = 0 := by rw [h3]; decide
   rw [show openR o s = .tup [.v (.pointer none), .i 15] from (if_neg h1).trans ((if_neg h2).trans (if_neg h4)), show openH o s = StoE s from (if_neg h1).trans ((if_neg h2).trans (if_neg h4))] at hK
   rw [h3] at e1
   subst hs'
   obtain ⟨l, n, a, f, d⟩ := s'
   cbv
   (refine callG_spec h ((⟨l, n, a, f, d⟩, o) : Sto × ByteArray) [0, 1] hp rfl rfl (by decide) rfl rfl rfl rfl rfl ?_; try dsimp only)
   rw [e1, e2]
   cbv; repeat' ((first | refine .n fun h => ?_ | fail) <;> cbv)
   exact FinK.mk ⟨_, Gh.refl _, .inl (CutK.pre _ (by rfl) (by exact Nat.le_of_ble_eq_true rfl) (by rfl) (by rfl) (Le.refl _) (LeH.refl _) hK)⟩
theorem bcheck_body (P : Program) (h : FnOk P 38 BReadC) : BodyOk P x14 BCheckC := by
 intro args H K hc; obtain ⟨q, rfl, rfl, hp, hK⟩ := hc; refine ⟨Nat.le_of_ble_eq_true rfl, ?_⟩; dsimp only at hp hK ⊢
 obtain ⟨s, o⟩ := q
 dsimp only at hK hp ⊢
 rcases book_ways o s with ⟨h1, e1, e2⟩ | ⟨h1, h2, e1, e2⟩ | ⟨h1, h2, e1, e2⟩
 ·rw [show checkR o s = .tup [.i 0, .i 1] from if_pos h1] at hK
  obtain ⟨l, n, a, f, d⟩ := s
  cbv
  (refine callG_spec h ((⟨l, n, a, f, d⟩, o) : Sto × ByteArray) [0, 1] hp rfl rfl (by decide) rfl rfl rfl rfl rfl ?_; try dsimp only)
  rw [e1, e2]
  cbv
  exact FinK.mk ⟨_, Gh.refl _, .inl (CutK.pre _ (by rfl) (by exact Nat.le_of_ble_eq_true rfl) (by rfl) (by rfl) (Le.refl _) (LeH.refl _) hK)⟩
 ·rw [show checkR o s = .tup [.i 0, .i 14] from (if_neg h1).trans (if_pos h2)] at hK
  obtain ⟨l, n, a, f, d⟩ := s
  cbv
  (refine callG_spec h ((⟨l, n, a, f, d⟩, o) : Sto × ByteArray) [0, 1] hp rfl rfl (by decide) rfl rfl rfl rfl rfl ?_; try dsimp only)
  rw [e1, e2]
  cbv
  exact FinK.mk ⟨_, Gh.refl _, .inl (CutK.pre _ (by rfl) (by exact Nat.le_of_ble_eq_true rfl) (by rfl) (by rfl) (Le.refl _) (LeH.refl _) hK)⟩
 ·rw [show checkR o s = .tup [.i (nI (bookOf o s).recs.length), .i (bookC o s)] from (if_neg h1).trans (if_neg h2)] at hK
  obtain ⟨⟨o', k, rs, s'⟩, hb⟩ : ∃ b, b = bookOf o s := ⟨_, rfl⟩
  have hs' : s' = s := congrArg Bk.sto hb
  rw [← hb] at e2 hK
  have hrl := mapA_len SlA rs
  obtain ⟨c, hc⟩ : ∃ c, c = bookC o s := ⟨_, rfl⟩
  rw [← hc] at e1 hK
  subst hs'
  obtain ⟨l, n, a, f, d⟩ := s'
  cbv
  (refine callG_spec h ((⟨l, n, a, f, d⟩, o) : Sto × ByteArray) [0, 1] hp rfl rfl (by decide) rfl rfl rfl rfl rfl ?_; try dsimp only)
  rw [e1, e2]
  cbv; repeat' ((first | refine .k fun z hz => ?_ | fail) <;> cbv)
  obtain rfl : z = nI rs.length := by rw [hz, hrl]; rfl
  exact FinK.mk ⟨_, Gh.refl _, .inl (CutK.pre _ (by rfl) (by exact Nat.le_of_ble_eq_true rfl) (by rfl) (by rfl) (Le.refl _) (LeH.refl _) hK)⟩
noncomputable def batR (b : Bk) (i : Int) : AV := if i < 0 ∨ Int.ofNat b.recs.length ≤ i then .tup [.sl 2 [], .i 3] else .tup [SlA (b.recs.getD i.toNat ⟨[]⟩), .i 0]
noncomputable def BAtC : Ctr := spec (fun q : Bk × Int => [.ptr 2 0, .i q.2]) (fun q => BkE q.1) (fun q => BkOk q.1) (fun q => batR q.1 q.2) fun q => BkE q.1
theorem bat_body (P : Program) (hC : FnOk P 43 CloneFC) : BodyOk P x29 BAtC := by
 intro args H K hc; obtain ⟨q, rfl, rfl, hp, hK⟩ := hc; refine ⟨Nat.le_of_ble_eq_true rfl, ?_⟩; dsimp only at hp hK ⊢
 obtain ⟨⟨o, k, rs, ⟨l, n, a, f, d⟩⟩, i⟩ := q
 obtain ⟨_, _, _, _, hrs⟩ : BkOk ⟨o, k, rs, ⟨l, n, a, f, d⟩⟩ := hp
 dsimp only at hK hrs
 have hrl := mapA_len SlA rs
 have no : (i < 0 ∨ Int.ofNat rs.length ≤ i) → batR ⟨o, k, rs, ⟨l, n, a, f, d⟩⟩ i = .tup [.sl 2 [], .i 3] := fun h => if_pos h
 cbv; repeat' ((first | refine .mk (fun h => ?_) fun h => ?_ | refine .k fun z hz => ?_ | fail) <;> cbv)
 ·rw [no (.inl h)] at hK
  exact FinK.mk ⟨_, Gh.refl _, .inl (CutK.pre _ (by rfl) (by exact Nat.le_of_ble_eq_true rfl) (by rfl) (by rfl) (by repeat' (first | exact LeL.nil | exact LeL0.nil | exact LeH.nil | exact LeE.refl _ | exact Le.refl _ | exact Le0.one (.refl _) | exact Le0.one (.nil _) | exact Le1.refl _ | exact Le1.nil _ | refine LeH.cons ?_ ?_ | refine LeE.row ?_ | refine LeE.blk ?_ | refine LeL0.cons ?_ ?_ | refine LeL.cons ?_ ?_ | refine Le0.agg ?_ | refine Le.tup ?_ | exact Le.one (.one (.nil _)) | refine Le.one (.agg ?_))) (LeH.refl _) hK)⟩
 ·replace hz : z = (rs.length : Int) := by rw [hz, hrl]
  rw [no (.inr (by rw [Int.ofNat_eq_natCast]; omega))] at hK
  exact FinK.mk ⟨_, Gh.refl _, .inl (CutK.pre _ (by rfl) (by exact Nat.le_of_ble_eq_true rfl) (by rfl) (by rfl) (by repeat' (first | exact LeL.nil | exact LeL0.nil | exact LeH.nil | exact LeE.refl _ | exact Le.refl _ | exact Le0.one (.refl _) | exact Le0.one (.nil _) | exact Le1.refl _ | exact Le1.nil _ | refine LeH.cons ?_ ?_ | refine LeE.row ?_ | refine LeE.blk ?_ | refine LeL0.cons ?_ ?_ | refine LeL.cons ?_ ?_ | refine Le0.agg ?_ | refine Le.tup ?_ | exact Le.one (.one (.nil _)) | refine Le.one (.agg ?_))) (LeH.refl _) hK)⟩
 ·replace hz : z = (rs.length : Int) := by rw [hz, hrl]
  obtain ⟨j, rfl⟩ : ∃ k, i = nI k := ⟨i.toNat, by show i = Int.ofNat i.toNat; rw [Int.ofNat_eq_natCast]; omega⟩
  obtain ⟨⟨x⟩, hx⟩ : ∃ x, rs[j]? = some x := ⟨_, List.getElem?_eq_getElem (by have h2 : (j : Int) < z := h; omega)⟩
  have e : batR ⟨o, k, rs, ⟨l, n, a, f, d⟩⟩ (nI j) = .tup [.sl 2 (mapA FdA x), .i 0] := by
   unfold batR
   rw [if_neg (by have h2 : (j : Int) < z := h; show ¬ ((j : Int) < 0 ∨ (rs.length : Int) ≤ (j : Int)); omega)]
   show AV.tup [SlA (rs.getD j _), _] = _
   rw [List.getD_eq_getElem?_getD, hx]; rfl
  rw [e] at hK
  have hx4 : x.length ≤ 4000 := by have := hrs ⟨x⟩ (List.mem_of_getElem? hx); dsimp only at this; omega
  refine AskIdx.e ?_
  cbv; repeat' ((first | refine .e ?_ | fail) <;> cbv)
  (refine callG_spec0 hC x hx4 rfl rfl rfl ?_; try dsimp only)
  cbv
  exact FinK.mk ⟨_, Gh.refl _, .inl (CutK.pre _ (by rfl) (by exact Nat.le_of_ble_eq_true rfl) (by rfl) (by rfl) (Le.refl _) (LeH.refl _) hK)⟩
def nilA : AV := .v (.slice none 0 0)
noncomputable def partA (rs : List Rc) (k : Nat) : List AV := mapA SlA (rs.take k) ++ List.replicate (rs.length - k) nilA
theorem partA_len (rs : List Rc) {k : Nat} (h : k ≤ rs.length) : (partA rs k).length = rs.length := by
 unfold partA; rw [List.length_append, mapA_len, List.length_replicate, List.length_take]; omega
theorem partA_get {rs : List Rc} {k : Nat} (h : k < rs.length) : (partA rs k)[k]? = some nilA := by
 unfold partA
 rw [List.getElem?_append_right (by rw [mapA_len, List.length_take]; omega), mapA_len, List.length_take, show k - min k rs.length = 0 by omega, List.getElem?_replicate]
 exact if_pos (by omega)
theorem partA_set {rs : List Rc} {k : Nat} {x : Rc} (h : rs[k]? = some x) : (partA rs k).set k (SlA x) = partA rs (k + 1) := by
 have hk : k < rs.length := (List.getElem?_eq_some_iff.1 h).1
 unfold partA
 rw [List.set_append_right _ _ (by rw [mapA_len, List.length_take]; omega), mapA_len, List.length_take, show k - min k rs.length = 0 by omega]
 rw [show rs.length - k = (rs.length - (k + 1)) + 1 by omega, List.replicate_succ, List.set_cons_zero, take_succ_get h, mapA_app, mapA_one, List.append_assoc]
 rfl
noncomputable def BAllC : Ctr := spec (fun _ : Bk => [.ptr 2 0]) BkE BkOk (fun b => .sl 1 (mapA SlA b.recs)) BkE
theorem ball_body (P : Program) (hC : FnOk P 43 CloneFC) : BodyOk P x31 BAllC := by
 intro args H K hc; obtain ⟨q, rfl, rfl, hp, hK⟩ := hc; refine ⟨Nat.le_of_ble_eq_true rfl, ?_⟩; dsimp only at hp hK ⊢
 obtain ⟨o, k, rs, ⟨l, n, a, f, d⟩⟩ := q
 obtain ⟨_, hr0, _, _, hrs⟩ : BkOk ⟨o, k, rs, ⟨l, n, a, f, d⟩⟩ := hp
 dsimp only at hK hrs hr0
 have hrl := mapA_len SlA rs
 cbv; repeat' ((first | refine .k fun z hz => ?_ | refine .zl fun zs hzs hzl => ?_ | fail) <;> cbv)
 obtain ⟨m, hm⟩ : ∃ m, m = rs.length := ⟨_, rfl⟩
 obtain rfl : z = nI m := by rw [hz, hrl, hm]; rfl
 have h0 : zs = partA rs 0 := by rw [hzs]; unfold partA; rw [List.take_zero, Nat.sub_zero]; show _ = [] ++ _; rw [List.nil_append]; congr 1; ((try simp only [vn] at *) <;> omega)
 refine xloopV [] (fun p : { p : Nat × List AV // p.1 ≤ m ∧ p.2 = partA rs p.1 } => [(17, .i (nI p.1.1))]) (fun p => [.blk 73 [.hd 1, .i (nI n), .bl a, .i (nI f), .bl d], .row 9 1 (mapA AV.str l), .blk 69 [.ptr 0 0, .str o, .str k, .hd 3], .row 42 1 (mapA SlA rs), .row 42 1 p.1.2]) (fun p => lft 1048577 p.1.1) ⟨(0, zs), Nat.zero_le _, h0⟩ ?_
 rintro ⟨⟨j, ys⟩, hj, hy⟩
 dsimp only at hj hy ⊢
 cbv; repeat' ((first | refine .mk (fun h => ?_) fun h => ?_ | fail) <;> cbv)
 ·have hjl : j < rs.length := by ((try simp only [vn] at *) <;> omega)
  obtain ⟨⟨x⟩, hx⟩ : ∃ x, rs[j]? = some x := ⟨_, List.getElem?_eq_getElem hjl⟩
  have hx4 : x.length ≤ 4000 := by have := hrs ⟨x⟩ (List.mem_of_getElem? hx); dsimp only at this; omega
  have hyl := partA_len rs (Nat.le_of_lt hjl)
  have hyg := partA_get hjl
  have hys := partA_set hx
  rw [← hy] at hyl hyg hys
  refine AskIdx.e ?_
  cbv; repeat' ((first | refine .e ?_ | fail) <;> cbv)
  (refine callG_spec0 hC x hx4 rfl rfl rfl ?_; try dsimp only)
  cbv
  refine ⟨j, rfl, by omega, ?_⟩
  cbv
  refine ⟨j, _, rfl, hyg, ?_⟩
  cbv; repeat' ((first | refine .k fun z hz => ?_ | refine .z fun zs hzs => ?_ | fail) <;> cbv)
  obtain rfl : z = nI (j + 1) := by ((try simp only [vn] at *) <;> omega)
  exact roundV ⟨(j + 1, zs), by omega, hzs.trans hys⟩ (lft_lt (by omega))
 ·obtain rfl : j = m := by ((try simp only [vn] at *) <;> omega)
  have e : ys = mapA SlA rs := by rw [hy, hm]; unfold partA; rw [List.take_length, Nat.sub_self]; exact List.append_nil _
  rw [e]
  (refine FinK.mk ⟨_, Gh.plain 4 rfl, ?_⟩; cbv; exact .inl (CutK.pre _ (by rfl) (by exact Nat.le_of_ble_eq_true rfl) (by rfl) (by rfl) (Le.refl _) (LeH.refl _) hK))
end Go.Proofs.YtpcfdpengbkplaaDoor
/-
 Book: Add.
-/
namespace Go.Proofs.YtpcfdpengbkplaaDoor
open Go.RowKit
set_option maxHeartbeats 8000000
set_option maxRecDepth 100000
def hdF (i : Nat) : Fd := ⟨⟨#[110]⟩, itoS (nI i)⟩
def lkF (k : ByteArray) : Fd := ⟨⟨#[108, 97, 115, 116]⟩, k⟩
def addT (l : List Fd) (i : Nat) (k : ByteArray) : ByteArray × Int := if l.all mayF = true then (if 62 < l.length then (⟨#[]⟩, 7) else if 4096 < (textS (hdF i :: lkF k :: l)).length then (⟨#[]⟩, 7) else (⟨(textS (hdF i :: lkF k :: l)).toArray⟩, 0)) else (⟨#[]⟩, 1)
def addB (b : Bk) (l : List Fd) : Bk × Int × Int :=
 if (addT l b.recs.length b.link).2 = 0 then
  (if (writeS b.sto (addT l b.recs.length b.link).1).2 = 0 then (⟨b.owner, lnk b.owner (addT l b.recs.length b.link).1, b.recs ++ [⟨l⟩], (writeS b.sto (addT l b.recs.length b.link).1).1⟩, nI b.recs.length, 0)
  else (⟨b.owner, b.link, b.recs, (writeS b.sto (addT l b.recs.length b.link).1).1⟩, 0, (writeS b.sto (addT l b.recs.length b.link).1).2))
 else (b, 0, (addT l b.recs.length b.link).2)
noncomputable def BAddC : Ctr := spec (fun q : Bk × List Fd => [.ptr 2 0, .sl 2 (mapA FdA q.2)]) (fun q => BkE q.1) (fun q => BkOk q.1 ∧ q.2.length ≤ 4000 ∧ ∀ f ∈ q.2, f.name.size ≤ maxLen) (fun q => .tup [.i (addB q.1 q.2).2.1, .i (addB q.1 q.2).2.2]) fun q => BkE (addB q.1 q.2).1
theorem textC_one (f : Fd) : textC [f] = if mayF f = true then 0 else 1 := by
 unfold textC; rw [if_neg (by simp)]; simp
theorem addB_no {b : Bk} {l : List Fd} {c : Int} (h : (addT l b.recs.length b.link).2 = c) (hc : ¬ c = 0) : addB b l = (b, 0, c) := by
 unfold addB; rw [h, if_neg hc]
theorem may_hd {i : Nat} (h : i ≤ 1048576) : mayF (hdF i) = true := by
 have h1 : (itoS (nI i)).size ≤ 21 := itoS_size (by show (i : Int).natAbs < _; omega)
 unfold mayF hdF
 rw [show nameB ⟨#[110]⟩ = true from by decide, decide_eq_true (by dsimp only; omega)]; rfl
theorem may_lk {k : ByteArray} (h : k.size ≤ 4096) : mayF (lkF k) = true := by
 unfold mayF lkF
 rw [show nameB ⟨#[108, 97, 115, 116]⟩ = true from by decide, decide_eq_true h]; rfl
theorem all_not {l : List Fd} {f : Fd} (hm : f ∈ l) (h : mayF f = false) : ¬ l.all mayF = true := fun e => by
 have := List.all_eq_true.1 e f hm
 rw [h] at this; cases this
theorem badd_body (P : Program) (hT : FnOk P 41 TextC) (hI : FnOk P 42 (ItoC itoS)) (hW : FnOk P 37 WriteC) (hC : FnOk P 43 CloneFC) (hL : FnOk P 44 LnkC) : BodyOk P x21 BAddC := by
 intro args H K hc; obtain ⟨q, rfl, rfl, hp, hK⟩ := hc; refine ⟨Nat.le_of_ble_eq_true rfl, ?_⟩; dsimp only at hp hK ⊢
 obtain ⟨⟨o, k, rs, ⟨ws, n, a, fu, d⟩⟩, l⟩ := q
 obtain ⟨⟨hso, hr0, ho, hk, hrs⟩, hl4, hln⟩ : BkOk ⟨o, k, rs, ⟨ws, n, a, fu, d⟩⟩ ∧ l.length ≤ 4000 ∧ ∀ f ∈ l, f.name.size ≤ maxLen := hp
 dsimp only at hK hso hr0 ho hk hrs
 have hrl := mapA_len SlA rs
 have hll := mapA_len FdA l
 obtain ⟨m, hm⟩ : ∃ m, m = l.length := ⟨_, rfl⟩
 cbv; repeat' ((first | refine .k fun z hz => ?_ | fail) <;> cbv)
 obtain rfl : z = nI m := by rw [hz, hll, hm]; rfl
 refine xloopV [] (fun p : { k : Nat // k ≤ m ∧ (l.take k).all mayF = true } => [(17, .i (nI p.1))]) (fun _ => [.blk 73 [.hd 1, .i (nI n), .bl a, .i (nI fu), .bl d], .row 9 1 (mapA AV.str ws), .blk 69 [.ptr 0 0, .str o, .str k, .hd 3], .row 42 1 (mapA SlA rs)]) (fun p => lft 4001 p.1) ⟨0, Nat.zero_le _, rfl⟩ ?_
 rintro ⟨j, hj, hja⟩
 dsimp only
 cbv; repeat' ((first | refine .mk (fun h => ?_) fun h => ?_ | refine .k fun z hz => ?_ | fail) <;> cbv)
 ·have hjl : j < l.length := by ((try simp only [vn] at *) <;> omega)
  obtain ⟨⟨fn, fv⟩, hx⟩ : ∃ x, l[j]? = some x := ⟨_, List.getElem?_eq_getElem hjl⟩
  refine .e ?_
  cbv
  refine callG_publish 5 rfl ?_
  cbv
  have hpf : ∀ f ∈ [(⟨fn, fv⟩ : Fd)], f.name.size ≤ maxLen := fun f hf => by
   obtain rfl := List.mem_singleton.1 hf
   exact hln _ (List.mem_of_getElem? hx)
  (refine callG_spec0 hT ([⟨fn, fv⟩] : List Fd) hpf rfl rfl rfl ?_; try dsimp only)
  cases hmf : mayF ⟨fn, fv⟩ with
  | true =>
   rw [textC_one, if_pos hmf]
   obtain ⟨u, hu⟩ : ∃ u, u = textS [(⟨fn, fv⟩ : Fd)] := ⟨_, rfl⟩
   rw [← hu]
   cbv; repeat' ((first | refine .y fun h => ?_ | refine .k fun z hz => ?_ | fail) <;> cbv)
   obtain rfl : z = nI (j + 1) := by ((try simp only [vn] at *) <;> omega)
   exact roundV ⟨j + 1, by omega, by rw [take_succ_get hx, List.all_append, hja]; simp [hmf]⟩ (lft_lt (by omega))
  | false =>
   rw [textC_one, if_neg (by rw [hmf]; exact Bool.false_ne_true)]
   obtain ⟨u, hu⟩ : ∃ u, u = textS [(⟨fn, fv⟩ : Fd)] := ⟨_, rfl⟩
   rw [← hu]
   have e1 := addB_no (b := ⟨o, k, rs, ⟨ws, n, a, fu, d⟩⟩) (l := l) (c := 1) (by unfold addT; rw [if_neg (all_not (List.mem_of_getElem? hx) hmf)]) (by decide)
   rw [e1] at hK
   cbv; repeat' ((first | refine .n fun h => ?_ | fail) <;> cbv)
   exact FinK.mk ⟨_, Gh.refl _, .inl (CutK.pre _ (by rfl) (by exact Nat.le_of_ble_eq_true rfl) (by rfl) (by rfl) (Le.refl _) (LeH.refl _) hK)⟩
 ·have hall : l.all mayF = true := by rw [← hja, List.take_of_length_le (by ((try simp only [vn] at *) <;> omega))]
  have h62 : 62 < l.length := by ((try simp only [vn] at *) <;> omega)
  have e1 := addB_no (b := ⟨o, k, rs, ⟨ws, n, a, fu, d⟩⟩) (l := l) (c := 7) (by unfold addT; rw [if_pos hall, if_pos h62]) (by decide)
  rw [e1] at hK
  exact FinK.mk ⟨_, Gh.refl _, .inl (CutK.pre _ (by rfl) (by exact Nat.le_of_ble_eq_true rfl) (by rfl) (by rfl) (Le.refl _) (LeH.refl _) hK)⟩
 ·have hall : l.all mayF = true := by rw [← hja, List.take_of_length_le (by ((try simp only [vn] at *) <;> omega))]
  have h62 : ¬ 62 < l.length := by ((try simp only [vn] at *) <;> omega)
  obtain ⟨i, hi⟩ : ∃ i, i = rs.length := ⟨_, rfl⟩
  obtain rfl : z = nI i := by rw [hz, hrl, hi]; rfl
  have hpi : -9223372036854775808 ≤ nI i ∧ nI i ≤ 9223372036854775807 := by constructor <;> ((try simp only [vn] at *) <;> omega)
  obtain ⟨t, ht⟩ : ∃ t, t = itoS (nI i) := ⟨_, rfl⟩
  (refine callG_spec0 hI (nI i) hpi rfl rfl rfl ?_; try dsimp only)
  rw [← ht]
  obtain ⟨W, hW0⟩ : ∃ W, W = hdF i :: lkF k :: l := ⟨_, rfl⟩
  have hcW : textC W = 0 := by
   unfold textC
   rw [if_neg (by rw [hW0]; simp only [List.length_cons]; omega), if_pos]
   rw [hW0, List.all_cons, List.all_cons, hall, may_hd (by omega), may_lk hk]; rfl
  have hpW : ∀ f ∈ W, f.name.size ≤ maxLen := fun f hf => by
   rw [hW0] at hf
   rcases List.mem_cons.1 hf with rfl | hf
   ·show (1 : Nat) ≤ maxLen; unfold maxLen; decide
   ·rcases List.mem_cons.1 hf with rfl | hf
    ·show (4 : Nat) ≤ maxLen; unfold maxLen; decide
    ·exact hln f hf
  obtain ⟨U, hU⟩ : ∃ U : ByteArray, U = ⟨(textS W).toArray⟩ := ⟨_, rfl⟩
  have hUs : U.size = (textS W).length := by rw [hU]; simp [ByteArray.size]
  have eT : (addT l rs.length k) = if 4096 < U.size then ((⟨#[]⟩ : ByteArray), 7) else (U, 0) := by
   unfold addT
   rw [if_pos hall, if_neg h62, ← hi, ← hW0, ← hU, hUs]
  cbv; repeat' ((first | refine .zl fun zs hzs hzl => ?_ | fail) <;> cbv)
  obtain rfl : zs = mapA FdA W := by rw [hzs, hW0, ht]; rfl
  refine callG_publish 4 rfl ?_
  cbv
  (refine callG_spec0 hT W hpW rfl rfl rfl ?_; try dsimp only)
  rw [hcW, ← hU]
  cbv; repeat' ((first | refine .y fun h => ?_ | refine .mk (fun h => ?_) fun h => ?_ | refine .k fun z hz => ?_ | fail) <;> cbv)
  ·have hbig : 4096 < U.size := by ((try simp only [vn] at *) <;> omega)
   have e1 := addB_no (b := ⟨o, k, rs, ⟨ws, n, a, fu, d⟩⟩) (l := l) (c := 7) (by dsimp only; rw [eT, if_pos hbig]) (by decide)
   rw [e1] at hK
   exact FinK.mk ⟨_, Gh.refl _, .inl (CutK.pre _ (by rfl) (by exact Nat.le_of_ble_eq_true rfl) (by rfl) (by rfl) (Le.refl _) (LeH.refl _) hK)⟩
  have hsm : U.size ≤ 4096 := by ((try simp only [vn] at *) <;> omega)
  rw [if_neg (by omega)] at eT
  obtain ⟨⟨⟨ws2, n2, a2, f2, d2⟩, c⟩, hc⟩ : ∃ y, y = writeS ⟨ws, n, a, fu, d⟩ U := ⟨_, rfl⟩
  (refine callG_spec hW ((⟨ws, n, a, fu, d⟩, U) : Sto × ByteArray) [0, 1] hso rfl rfl (by decide) rfl rfl rfl rfl rfl ?_; try dsimp only)
  rw [← hc]
  cbv; repeat' ((first | refine .mk (fun h => ?_) fun h => ?_ | fail) <;> cbv)
  ·have hc0 : (writeS ⟨ws, n, a, fu, d⟩ U).2 = 0 := by rw [← hc]; exact h
   have e1 : addB ⟨o, k, rs, ⟨ws, n, a, fu, d⟩⟩ l = (⟨o, lnk o U, rs ++ [⟨l⟩], ⟨ws2, n2, a2, f2, d2⟩⟩, nI i, 0) := by
    unfold addB
    dsimp only
    rw [eT]
    dsimp only
    rw [if_pos rfl, if_pos hc0, ← hc, hi]
   rw [e1] at hK
   obtain ⟨g, hg⟩ : ∃ g, g = lnk o U := ⟨_, rfl⟩
   rw [← hg] at hK
   have hlp : o.size ≤ 4096 ∧ U.size ≤ 1048576 := ⟨ho, by omega⟩
   (refine callG_spec0 hC l hl4 rfl rfl rfl ?_; try dsimp only)
   cbv; repeat' ((first | refine .zl fun zs hzs hzl => ?_ | fail) <;> cbv)
   (refine callG_spec0 hL ((o, U) : ByteArray × ByteArray) hlp rfl rfl rfl ?_; try dsimp only)
   rw [← hg]
   obtain ⟨rs2, hrs2⟩ : ∃ x, x = rs ++ [(⟨l⟩ : Rc)] := ⟨_, rfl⟩
   rw [← hrs2] at hK
   cbv
   obtain rfl : zs = mapA SlA rs2 := by rw [hrs2, mapA_app, mapA_one]; assumption
   exact FinK.mk ⟨_, Gh.refl _, .inl (CutK.pre _ (by rfl) (by exact Nat.le_of_ble_eq_true rfl) (by rfl) (by rfl) (Le.refl _) (LeH.refl _) hK)⟩
  ·have hc0 : ¬ (writeS ⟨ws, n, a, fu, d⟩ U).2 = 0 := by rw [← hc]; exact h
   have e1 : addB ⟨o, k, rs, ⟨ws, n, a, fu, d⟩⟩ l = (⟨o, k, rs, ⟨ws2, n2, a2, f2, d2⟩⟩, 0, c) := by
    unfold addB
    dsimp only
    rw [eT]
    dsimp only
    rw [if_pos rfl, if_neg hc0, ← hc]
   rw [e1] at hK
   exact FinK.mk ⟨_, Gh.refl _, .inl (CutK.pre _ (by rfl) (by exact Nat.le_of_ble_eq_true rfl) (by rfl) (by rfl) (Le.refl _) (LeH.refl _) hK)⟩
end Go.Proofs.YtpcfdpengbkplaaDoor
/-
 Book: the reference's texts and its reading.
-/
namespace Go.Proofs.YtpcfdpengbkplaaDoor
open Go.RowKit
set_option maxHeartbeats 8000000
set_option maxRecDepth 100000
structure RtQ where
 o : ByteArray
 l : List Fd
 i : Nat
 ahead : ByteArray
noncomputable def RTextC : Ctr := spec (fun q : RtQ => [.str q.o, .sl 2 (mapA FdA q.l), .i (nI q.i), .str q.ahead]) (fun _ => []) (fun q => q.o.size ≤ 4096 ∧ q.l.length ≤ 4000 ∧ (∀ f ∈ q.l, f.name.size ≤ maxLen) ∧ q.i ≤ 1048576 ∧ q.ahead.size ≤ 1048576)
 (fun q => .tup [.str (addT q.l q.i (lnk q.o q.ahead)).1, .i (addT q.l q.i (lnk q.o q.ahead)).2]) fun _ => []
theorem whole_ok {l : List Fd} {i : Nat} {k : ByteArray} (hall : l.all mayF = true) (h62 : ¬ 62 < l.length) (hi : i ≤ 1048576) (hk : k.size ≤ 4096) (hln : ∀ f ∈ l, f.name.size ≤ maxLen) : textC (hdF i :: lkF k :: l) = 0 ∧ ∀ f ∈ hdF i :: lkF k :: l, f.name.size ≤ maxLen := by
 constructor
 ·unfold textC
  rw [if_neg (by simp only [List.length_cons]; omega), if_pos]
  rw [List.all_cons, List.all_cons, hall, may_hd hi, may_lk hk]; rfl
 ·intro f hf
  rcases List.mem_cons.1 hf with rfl | hf
  ·show (1 : Nat) ≤ maxLen; unfold maxLen; decide
  ·rcases List.mem_cons.1 hf with rfl | hf
   ·show (4 : Nat) ≤ maxLen; unfold maxLen; decide
   ·exact hln f hf
theorem rtext_body (P : Program) (hM : FnOk P 47 FldC) (hI : FnOk P 48 (ItoC itoS)) (hL : FnOk P 49 LnkC) (hT : FnOk P 50 TextC) : BodyOk P x26 RTextC := by
 intro args H K hc; obtain ⟨q, rfl, rfl, hp, hK⟩ := hc; refine ⟨Nat.le_of_ble_eq_true rfl, ?_⟩; dsimp only at hp hK ⊢
 obtain ⟨o, l, i, ah⟩ := q
 obtain ⟨ho, hl4, hln, hi, hah⟩ : o.size ≤ 4096 ∧ l.length ≤ 4000 ∧ (∀ f ∈ l, f.name.size ≤ maxLen) ∧ i ≤ 1048576 ∧ ah.size ≤ 1048576 := hp
 dsimp only at hK
 have hll := mapA_len FdA l
 obtain ⟨k, hk⟩ : ∃ k, k = lnk o ah := ⟨_, rfl⟩
 have hks : k.size ≤ 4096 := by rw [hk, lnk_size]; decide
 rw [← hk] at hK
 obtain ⟨m, hm⟩ : ∃ m, m = l.length := ⟨_, rfl⟩
 cbv
 refine xloopV [] (fun p : { k : Nat // k ≤ m ∧ (l.take k).all mayF = true } => [(10, .i (nI p.1))]) (fun _ => []) (fun p => lft 4001 p.1) ⟨0, Nat.zero_le _, rfl⟩ ?_
 rintro ⟨j, hj, hja⟩
 dsimp only
 cbv; repeat' ((first | refine .mk (fun h => ?_) fun h => ?_ | refine .k fun z hz => ?_ | fail) <;> cbv)
 ·have hjl : j < l.length := by ((try simp only [vn] at *) <;> omega)
  obtain ⟨⟨fn, fv⟩, hx⟩ : ∃ x, l[j]? = some x := ⟨_, List.getElem?_eq_getElem hjl⟩
  refine .e ?_
  cbv
  have hpf : (⟨fn, fv⟩ : Fd).name.size ≤ maxLen := hln _ (List.mem_of_getElem? hx)
  (refine callG_spec0 hM (⟨fn, fv⟩ : Fd) hpf rfl rfl rfl ?_; try dsimp only)
  cases hmf : mayF ⟨fn, fv⟩ with
  | true =>
   cbv; repeat' ((first | refine .k fun z hz => ?_ | fail) <;> cbv)
   rename_i z0 hz0
   obtain rfl : z = nI (j + 1) := by ((try simp only [vn] at *) <;> omega)
   exact roundV ⟨j + 1, by omega, by rw [take_succ_get hx, List.all_append, hja]; simp [hmf]⟩ (lft_lt (by omega))
  | false =>
   have e1 : addT l i k = (⟨#[]⟩, 1) := by unfold addT; rw [if_neg (all_not (List.mem_of_getElem? hx) hmf)]
   rw [e1] at hK
   cbv
   exact FinK.mk ⟨_, Gh.refl _, .inl (CutK.pre _ (by rfl) (by exact Nat.le_of_ble_eq_true rfl) (by rfl) (by rfl) (Le.refl _) (LeH.refl _) hK)⟩
 ·have hall : l.all mayF = true := by rw [← hja, List.take_of_length_le (by ((try simp only [vn] at *) <;> omega))]
  have h62 : 62 < l.length := by ((try simp only [vn] at *) <;> omega)
  have e1 : addT l i k = (⟨#[]⟩, 7) := by unfold addT; rw [if_pos hall, if_pos h62]
  rw [e1] at hK
  exact FinK.mk ⟨_, Gh.refl _, .inl (CutK.pre _ (by rfl) (by exact Nat.le_of_ble_eq_true rfl) (by rfl) (by rfl) (Le.refl _) (LeH.refl _) hK)⟩
 ·have hall : l.all mayF = true := by rw [← hja, List.take_of_length_le (by ((try simp only [vn] at *) <;> omega))]
  have h62 : ¬ 62 < l.length := by ((try simp only [vn] at *) <;> omega)
  have hpi : -9223372036854775808 ≤ nI i ∧ nI i ≤ 9223372036854775807 := by constructor <;> ((try simp only [vn] at *) <;> omega)
  obtain ⟨t, ht⟩ : ∃ t, t = itoS (nI i) := ⟨_, rfl⟩
  (refine callG_spec0 hI (nI i) hpi rfl rfl rfl ?_; try dsimp only)
  rw [← ht]
  cbv
  have hlp : o.size ≤ 4096 ∧ ah.size ≤ 1048576 := ⟨ho, hah⟩
  (refine callG_spec0 hL ((o, ah) : ByteArray × ByteArray) hlp rfl rfl rfl ?_; try dsimp only)
  rw [← hk]
  obtain ⟨W, hW0⟩ : ∃ W, W = hdF i :: lkF k :: l := ⟨_, rfl⟩
  obtain ⟨hcW, hpW⟩ := whole_ok hall h62 hi hks hln
  rw [← hW0] at hcW hpW
  obtain ⟨U, hU⟩ : ∃ U : ByteArray, U = ⟨(textS W).toArray⟩ := ⟨_, rfl⟩
  have hUs : U.size = (textS W).length := by rw [hU]; simp [ByteArray.size]
  have eT : addT l i k = if 4096 < U.size then ((⟨#[]⟩ : ByteArray), 7) else (U, 0) := by
   unfold addT
   rw [if_pos hall, if_neg h62, ← hW0, ← hU, hUs]
  cbv; repeat' ((first | refine .zl fun zs hzs hzl => ?_ | fail) <;> cbv)
  obtain rfl : zs = mapA FdA W := by rw [hzs, hW0, ht]; rfl
  refine callG_publish 0 rfl ?_
  cbv
  (refine callG_spec0 hT W hpW rfl rfl rfl ?_; try dsimp only)
  rw [hcW, ← hU]
  cbv; repeat' ((first | refine .mk (fun h => ?_) fun h => ?_ | refine .k fun z hz => ?_ | fail) <;> cbv)
  ·have hbig : 4096 < U.size := by ((try simp only [vn] at *) <;> omega)
   rw [eT, if_pos hbig] at hK
   exact FinK.mk ⟨_, Gh.refl _, .inl (CutK.pre _ (by rfl) (by exact Nat.le_of_ble_eq_true rfl) (by rfl) (by rfl) (Le.refl _) (LeH.refl _) hK)⟩
  ·have hsm : ¬ 4096 < U.size := by ((try simp only [vn] at *) <;> omega)
   rw [eT, if_neg hsm] at hK
   exact FinK.mk ⟨_, Gh.refl _, .inl (CutK.pre _ (by rfl) (by exact Nat.le_of_ble_eq_true rfl) (by rfl) (by rfl) (Le.refl _) (LeH.refl _) hK)⟩
end Go.Proofs.YtpcfdpengbkplaaDoor
/-
 Book: the reference's Right, Same, Name.
-/
namespace Go.Proofs.YtpcfdpengbkplaaDoor
open Go.RowKit
set_option maxHeartbeats 8000000
set_option maxRecDepth 100000
theorem textS_inj {a b : List Fd} (ha : textC a = 0) (hb : textC b = 0) (h : textS a = textS b) : a = b := by
 obtain ⟨x, hx⟩ := (parseS_iff (textS a) a).2 ⟨ha, rfl⟩
 obtain ⟨y, hy⟩ := (parseS_iff (textS a) b).2 ⟨hb, h.symm⟩
 rw [hx] at hy
 exact congrArg Prod.fst hy
theorem toArray_inj {a : List UInt8} {w : ByteArray} (h : (⟨a.toArray⟩ : ByteArray) = w) : a = w.data.toList := by subst h; rfl
/-- The reference's way to tell a right write. -/
theorem nextR_text {f : Fol} {w : ByteArray} {fs : List Fd} {a : Int} (hw : w.size ≤ 4096) (hn : f.at_ ≤ 1048576) (hk : f.link.size ≤ 4096) (h : parseS w.data.toList = (fs, a, 0)) (h2 : 2 ≤ fs.length) :
  (addT (fs.drop 2) f.at_ f.link = (w, 0) → nextR f w = some (fs.drop 2)) ∧ (¬ addT (fs.drop 2) f.at_ f.link = (w, 0) → nextR f w = none) := by
 obtain ⟨hc, ht⟩ := (parseS_iff _ _).1 ⟨a, h⟩
 rcases fs with _ | ⟨f0, _ | ⟨f1, r⟩⟩
 ·cases h2
 ·simp at h2
 have hmay : ¬ 64 < (f0 :: f1 :: r).length ∧ (f0 :: f1 :: r).all mayF = true := by
  unfold textC at hc
  split at hc
  ·cases hc
  ·rename_i h1
   split at hc
   ·rename_i h2; exact ⟨h1, h2⟩
   ·cases hc
 have hr : r.all mayF = true := by have := hmay.2; simp only [List.all_cons, Bool.and_eq_true] at this; exact this.2.2
 have h62 : ¬ 62 < r.length := by have := hmay.1; simp only [List.length_cons] at this; omega
 have hws : w.data.toList.length = w.size := by rw [Array.length_toList]; rfl
 have hcW : textC (hdF f.at_ :: lkF f.link :: r) = 0 := by
  unfold textC
  rw [if_neg (by simp only [List.length_cons]; omega), if_pos]
  rw [List.all_cons, List.all_cons, hr, may_hd hn, may_lk hk]; rfl
 unfold nextR
 rw [h]
 dsimp only [List.drop]
 have key : (f0 = hdF f.at_ ∧ f1 = lkF f.link) ↔ addT r f.at_ f.link = (w, 0) := by
  constructor
  ·rintro ⟨rfl, rfl⟩
   unfold addT
   rw [if_pos hr, if_neg h62, ht, if_neg (by rw [hws]; omega)]
  ·intro he
   unfold addT at he
   rw [if_pos hr, if_neg h62] at he
   split at he
   ·cases he
   ·have e1 := toArray_inj (congrArg Prod.fst he)
    have e2 := textS_inj hcW hc (e1.trans ht.symm)
    simp only [List.cons.injEq] at e2
    exact ⟨e2.1.symm, e2.2.1.symm⟩
 refine ⟨fun hx => ?_, fun hx => ?_⟩
 ·obtain ⟨e0, e1⟩ := key.2 hx
  exact if_pos ⟨rfl, e0, e1⟩
 ·exact if_neg fun hh => hx (key.1 ⟨hh.2.1, hh.2.2⟩)
theorem nextR_bad {f : Fol} {w : ByteArray} {fs : List Fd} {a e : Int} (h : parseS w.data.toList = (fs, a, e)) (hb : ¬ e = 0 ∨ fs.length < 2) : nextR f w = none := by
 unfold nextR
 rw [h]
 split
 ·rename_i heq
  cases heq
  refine if_neg fun hh => ?_
  rcases hb with hb | hb
  ·exact hb hh.1
  ·simp only [List.length_cons] at hb; omega
 ·rfl
noncomputable def RRightC : Ctr := spec (fun q : ByteArray × List ByteArray => [.str q.1, .sl 1 (mapA AV.str q.2)]) (fun _ => []) (fun q => q.1.size ≤ 4096 ∧ q.2.length ≤ 1048576 ∧ shortW q.2) (fun q => .tup [.i (nI (rightL (fol0 q.1) q.2).1.length), .sl 1 (mapA SlA (rightL (fol0 q.1) q.2).1)]) fun _ => []
theorem rright_body (P : Program) (hP : FnOk P 39 ParseC) (hT : FnOk P 26 RTextC) : BodyOk P x15 RRightC := by
 intro args H K hc; obtain ⟨q, rfl, rfl, hp, hK⟩ := hc; refine ⟨Nat.le_of_ble_eq_true rfl, ?_⟩; dsimp only at hp hK ⊢
 obtain ⟨o, ws⟩ := q
 obtain ⟨ho, hwl, hsw⟩ : o.size ≤ 4096 ∧ ws.length ≤ 1048576 ∧ shortW ws := hp
 dsimp only at hK
 have hl := mapA_len AV.str ws
 obtain ⟨m, hm⟩ : ∃ m, m = ws.length := ⟨_, rfl⟩
 have h0 : rightL (fol0 o) (ws.take 0) = ([], (⟨0, lnk o ⟨#[]⟩, o⟩ : Fol), true) := by rw [List.take_zero]; rfl
 cbv
 refine xloopV [0] (fun p : { p : Nat × ByteArray × List Rc // p.1 ≤ m ∧ p.2.1.size ≤ 4096 ∧ rightL (fol0 o) (ws.take p.1) = (p.2.2, (⟨p.1, lnk o p.2.1, o⟩ : Fol), true) } => [(8, .i (nI p.1.1)), (7, .str p.1.2.1), (6, .hd 0)]) (fun p => [.row 42 1 (mapA SlA p.1.2.2)]) (fun p => lft 1048577 p.1.1) ⟨(0, ⟨#[]⟩, []), Nat.zero_le _, by decide, h0⟩ ?_
 rintro ⟨⟨k, ah, rs⟩, hk, hah, hr⟩
 dsimp only at hk hah hr ⊢
 have hrk : rs.length = k := by
  have := (rightL_at (ws.take k) (fol0 o)).2.2 (by rw [hr])
  rw [hr, List.length_take] at this
  have e : rs.length = min k ws.length := this
  omega
 have hrl := mapA_len SlA rs
 have hks := lnk_size o ah
 cbv; repeat' ((first | refine .mk (fun h => ?_) fun h => ?_ | refine .k fun z hz => ?_ | fail) <;> cbv)
 ·have hkl : k < ws.length := by ((try simp only [vn] at *) <;> omega)
  obtain ⟨w, hw⟩ : ∃ w, ws[k]? = some w := ⟨_, List.getElem?_eq_getElem hkl⟩
  have hws : w.size ≤ 4096 := hsw w (List.mem_of_getElem? hw)
  have stop : nextR ⟨k, lnk o ah, o⟩ w = none → K (.tup [.i (nI k), .sl 1 (mapA SlA rs)]) [] := fun hnx => by
   have h1 := rightL_snoc (ws.take k) (fol0 o) w (by rw [hr])
   rw [← take_succ_get hw, hr] at h1
   dsimp only at h1
   rw [hnx] at h1
   have hrr : rightL (fol0 o) ws = (rs, (⟨k, lnk o ah, o⟩ : Fol), false) := by
    rw [← List.take_append_drop (k + 1) ws, rightL_stop _ _ _ (by rw [h1]), h1]
   rw [hrr, hrk] at hK
   exact hK
  have hps : shortS w := by unfold shortS; ((try unfold maxLen); (try simp only [vn] at *) <;> omega)
  obtain ⟨⟨fs, a, e⟩, hR⟩ : ∃ R, R = parseS w.data.toList := ⟨_, rfl⟩
  refine .e ?_
  cbv
  (refine callG_spec0 hP w hps rfl rfl rfl ?_; try dsimp only)
  rw [← hR, show ParA (fs, a, e) = .tup [.sl 2 (mapA FdA fs), .i a, .i e] from rfl]
  have hfl := mapA_len FdA fs
  cbv; repeat' ((first | refine .mk (fun h => ?_) fun h => ?_ | refine .k fun z hz => ?_ | refine .l fun ys hys hyl => ?_ | fail) <;> cbv)
  ·have hn := nextR_bad (f := ⟨k, lnk o ah, o⟩) hR.symm (.inr (by ((try simp only [vn] at *) <;> omega)))
   (refine FinK.mk ⟨_, Gh.plain 0 rfl, ?_⟩; cbv; exact .inl (CutK.pre _ (by rfl) (by exact Nat.le_of_ble_eq_true rfl) (by rfl) (by rfl) (Le.refl _) (LeH.refl _) (stop hn)))
  ·have he : e = 0 := by assumption
   subst he
   have hk2 : 2 ≤ fs.length := by ((try simp only [vn] at *) <;> omega)
   obtain rfl : ys = fs.drop 2 := by
    rw [hys]
    show ((fs.take ((fs.length : Int)).toNat).drop 2) = fs.drop 2
    rw [Int.toNat_natCast, List.take_length]
   have hmay : ∀ f ∈ fs.drop 2, f.name.size ≤ maxLen := fun f hf => by
    have h1 := ((parseS_iff _ _).1 ⟨a, hR.symm⟩).1
    unfold textC at h1
    split at h1
    ·cases h1
    ·split at h1
     ·rename_i hm2
      have h3 := List.all_eq_true.1 hm2 f (List.mem_of_mem_drop hf)
      unfold mayF at h3
      simp only [Bool.and_eq_true] at h3
      have := nameB_size h3.1
      unfold maxLen; omega
     ·cases h1
   have hfl4 : fs.length ≤ 64 := by
    have h1 := ((parseS_iff _ _).1 ⟨a, hR.symm⟩).1
    unfold textC at h1
    split at h1
    ·cases h1
    ·omega
   obtain ⟨hy1, hy2⟩ := nextR_text (f := ⟨k, lnk o ah, o⟩) hws (by show k ≤ 1048576; omega) (by show (lnk o ah).size ≤ 4096; omega) hR.symm hk2
   have hpt : o.size ≤ 4096 ∧ (fs.drop 2).length ≤ 4000 ∧ (∀ f ∈ fs.drop 2, f.name.size ≤ maxLen) ∧ k ≤ 1048576 ∧ ah.size ≤ 1048576 := ⟨ho, by rw [List.length_drop]; omega, hmay, by omega, by omega⟩
   obtain ⟨r, hrd⟩ : ∃ r, r = fs.drop 2 := ⟨_, rfl⟩
   rw [← hrd] at hpt hy1 hy2 hys hyl ⊢
   obtain ⟨⟨t, c⟩, htc⟩ : ∃ x, x = addT r k (lnk o ah) := ⟨_, rfl⟩
   (refine callG_spec0 hT (⟨o, r, k, ah⟩ : RtQ) hpt rfl rfl rfl ?_; try dsimp only)
   rw [← htc]
   dsimp only at hy1 hy2
   rw [← htc] at hy1 hy2
   cbv; repeat' ((first | refine .e ?_ | refine .mk (fun h => ?_) fun h => ?_ | refine .k fun z hz => ?_ | refine .l fun ys hys hyl => ?_ | refine .zl fun zs hzs hzl => ?_ | fail) <;> cbv)
   ·have hc0 : c = 0 := by assumption
    have hn := hy1 (by rw [hc0, h])
    obtain rfl : ys = r := by
     rw [hys, hrd]
     show ((fs.take ((fs.length : Int)).toNat).drop 2) = fs.drop 2
     rw [Int.toNat_natCast, List.take_length]
    have ef : nextF ⟨k, lnk o ah, o⟩ w = ⟨k + 1, lnk o w, o⟩ := by unfold nextF; rw [hn]
    obtain ⟨rs2, hrs2⟩ : ∃ x, x = rs ++ [(⟨ys⟩ : Rc)] := ⟨_, rfl⟩
    have hrr : rightL (fol0 o) (ws.take (k + 1)) = (rs2, (⟨k + 1, lnk o t, o⟩ : Fol), true) := by
     have h1 := rightL_snoc (ws.take k) (fol0 o) w (by rw [hr])
     rw [← take_succ_get hw, hr] at h1
     dsimp only at h1
     rw [hn] at h1
     rw [h1, ef, hrs2, h]
    obtain rfl : zs = mapA SlA rs2 := by rw [hrs2, mapA_app, mapA_one]; exact hzs
    obtain rfl : z = nI (k + 1) := by ((try simp only [vn] at *) <;> omega)
    exact roundV ⟨(k + 1, t, rs2), by omega, by rw [h]; exact hws, hrr⟩ (by show 1048577 - (k + 1) < 1048577 - k; omega)
   ·have hn := hy2 (fun e => h (congrArg Prod.fst e))
    (refine FinK.mk ⟨_, Gh.plain 0 rfl, ?_⟩; cbv; exact .inl (CutK.pre _ (by rfl) (by exact Nat.le_of_ble_eq_true rfl) (by rfl) (by rfl) (Le.refl _) (LeH.refl _) (stop hn)))
   ·have hn := hy2 (fun e => h (congrArg Prod.snd e))
    (refine FinK.mk ⟨_, Gh.plain 0 rfl, ?_⟩; cbv; exact .inl (CutK.pre _ (by rfl) (by exact Nat.le_of_ble_eq_true rfl) (by rfl) (by rfl) (Le.refl _) (LeH.refl _) (stop hn)))
  ·have hn := nextR_bad (f := ⟨k, lnk o ah, o⟩) hR.symm (.inl (by assumption))
   (refine FinK.mk ⟨_, Gh.plain 0 rfl, ?_⟩; cbv; exact .inl (CutK.pre _ (by rfl) (by exact Nat.le_of_ble_eq_true rfl) (by rfl) (by rfl) (Le.refl _) (LeH.refl _) (stop hn)))
 ·obtain rfl : k = m := by ((try simp only [vn] at *) <;> omega)
  have hrr : rightL (fol0 o) ws = (rs, (⟨k, lnk o ah, o⟩ : Fol), true) := by rw [← hr, List.take_of_length_le (by omega)]
  rw [hrr, hrk] at hK
  obtain rfl : z = nI k := by ((try simp only [vn] at *) <;> omega)
  (refine FinK.mk ⟨_, Gh.plain 0 rfl, ?_⟩; cbv; exact .inl (CutK.pre _ (by rfl) (by exact Nat.le_of_ble_eq_true rfl) (by rfl) (by rfl) (Le.refl _) (LeH.refl _) hK))
noncomputable def SameRC : Ctr := spec (fun q : List Rc × List Rc => [.sl 1 (mapA SlA q.1), .sl 1 (mapA SlA q.2)]) (fun _ => []) (fun q => q.1.length ≤ 1048576 ∧ q.2.length ≤ 1048576 ∧ (∀ x ∈ q.1, x.l.length ≤ 1048576) ∧ ∀ x ∈ q.2, x.l.length ≤ 1048576) (fun q => .bl (eqB q.1 q.2)) fun _ => []
theorem sameR_body (P : Program) (hF : FnOk P 27 (EqLC 2 FdA)) : BodyOk P x30 SameRC := by
 intro args H K hc; obtain ⟨q, rfl, rfl, hp, hK⟩ := hc; refine ⟨Nat.le_of_ble_eq_true rfl, ?_⟩; dsimp only at hp hK ⊢
 obtain ⟨l, m⟩ := q
 obtain ⟨hp1, hp2, hp3, hp4⟩ : l.length ≤ 1048576 ∧ m.length ≤ 1048576 ∧ (∀ x ∈ l, x.l.length ≤ 1048576) ∧ ∀ x ∈ m, x.l.length ≤ 1048576 := hp
 have no : ¬ l = m → K (.bl false) [] := fun h => K_bl hK (eqB_false h).symm
 have yes : l = m → K (.bl true) [] := fun h => K_bl hK (eqB_true h).symm
 clear hK
 have h1 := mapA_len SlA l
 have h2 := mapA_len SlA m
 cbv; repeat' ((first | refine .mk (fun h => ?_) fun h => ?_ | refine .k fun z hz => ?_ | fail) <;> cbv)
 rotate_left
 ·exact FinK.mk ⟨_, Gh.refl _, .inl (CutK.val rfl (Le.refl _) (no (by rintro rfl; exact h ((by assumption : _ = _).trans (by symm; assumption)))))⟩
 have hlm : l.length = m.length := by ((try simp only [vn] at *) <;> omega)
 refine xloopV [] (fun p : { k : Nat // k ≤ l.length ∧ EqTo l m k } => [(5, .i (nI p.1))]) (fun _ => []) (fun p => lft 9223372036854775808 p.1) ⟨0, Nat.zero_le _, .zero l m⟩ ?_
 rintro ⟨k, hk, hf⟩
 dsimp only
 cbv; repeat' ((first | refine .mk (fun h => ?_) fun h => ?_ | refine .k fun z hz => ?_ | fail) <;> cbv)
 ·have hkl : k < l.length := by ((try simp only [vn] at *) <;> omega)
  obtain ⟨⟨x⟩, hx⟩ : ∃ x, l[k]? = some x := ⟨_, List.getElem?_eq_getElem hkl⟩
  obtain ⟨⟨y⟩, hy⟩ : ∃ x, m[k]? = some x := ⟨_, List.getElem?_eq_getElem (by omega)⟩
  have hpe : x.length ≤ 9223372036854775807 ∧ y.length ≤ 9223372036854775807 := ⟨by have := hp3 ⟨x⟩ (List.mem_of_getElem? hx); dsimp only at this; omega, by have := hp4 ⟨y⟩ (List.mem_of_getElem? hy); dsimp only at this; omega⟩
  refine .e ?_
  cbv; repeat' ((first | refine .e ?_ | fail) <;> cbv)
  (refine callG_spec0 hF ((x, y) : List Fd × List Fd) hpe rfl rfl rfl ?_; try dsimp only)
  by_cases hxy : x = y
  ·rw [eqB_true hxy]
   subst hxy
   cbv; repeat' ((first | refine .k fun z hz => ?_ | fail) <;> cbv)
   obtain rfl : z = nI (k + 1) := by ((try simp only [vn] at *) <;> omega)
   exact roundV ⟨k + 1, by ((try simp only [vn] at *) <;> omega), hf.succ hx hy⟩ (lft_lt (by ((try simp only [vn] at *) <;> omega)))
  ·rw [eqB_false hxy]
   cbv
   exact FinK.mk ⟨_, Gh.refl _, .inl (CutK.val rfl (Le.refl _) (no (ne_at hx hy (fun e => hxy (congrArg Rc.l e)))))⟩
 ·obtain rfl : k = l.length := by ((try simp only [vn] at *) <;> omega)
  exact FinK.mk ⟨_, Gh.refl _, .inl (CutK.val rfl (Le.refl _) (yes (hf.all hlm)))⟩
theorem name8_body (P : Program) (h : FnOk P 40 (StrC (fun s => s.size ≤ maxLen) nameB)) : BodyOk P x16 (StrC (fun s => s.size ≤ maxLen) nameB) := by
 intro args H K hc; obtain ⟨s, rfl, rfl, hp, hK⟩ := hc; refine ⟨Nat.le_of_ble_eq_true rfl, ?_⟩; dsimp only at hp hK ⊢
 obtain ⟨b, hb⟩ : ∃ b, b = nameB s := ⟨_, rfl⟩
 rw [← hb] at hK
 cbv
 (refine callG_spec0 h s hp rfl rfl rfl ?_; try dsimp only)
 rw [← hb]
 cbv
 exact FinK.mk ⟨_, Gh.refl _, .inl (CutK.pre _ (by rfl) (by exact Nat.le_of_ble_eq_true rfl) (by rfl) (by rfl) (Le.refl _) (LeH.refl _) hK)⟩
end Go.Proofs.YtpcfdpengbkplaaDoor
/-
 Book: what the laws share: few, short, written, texts.
-/
namespace Go.Proofs.YtpcfdpengbkplaaDoor
open Go.RowKit
set_option maxHeartbeats 8000000
set_option maxRecDepth 100000
def BigR (L : List Rc) : Prop := L.length ≤ 9223372036854775807 ∧ ∀ x ∈ L, x.l.length ≤ 9223372036854775807
def fewP (L : List Rc) : Prop := (∀ x ∈ L, x.l.length ≤ 70) ∧ L.length ≤ 20
noncomputable def propB (p : Prop) : Bool := @decide p (Classical.propDecidable _)
theorem propB_true {p : Prop} (h : p) : propB p = true := by unfold propB; exact @decide_eq_true _ (Classical.propDecidable _) h
theorem propB_false {p : Prop} (h : ¬ p) : propB p = false := by unfold propB; exact @decide_eq_false _ (Classical.propDecidable _) h
noncomputable def FewC : Ctr := spec (fun L : List Rc => [.sl 1 (mapA SlA L)]) (fun _ => []) BigR (fun L => .bl (propB (fewP L))) fun _ => []
theorem few_body (P : Program) : BodyOk P x11 FewC := by
 intro args H K hc; obtain ⟨L, rfl, rfl, hp, hK⟩ := hc; refine ⟨Nat.le_of_ble_eq_true rfl, ?_⟩; dsimp only at hp hK ⊢
 obtain ⟨hp1, hp2⟩ := hp
 have no : ¬ fewP L → K (.bl false) [] := fun h => K_bl hK (propB_false h).symm
 have yes : fewP L → K (.bl true) [] := fun h => K_bl hK (propB_true h).symm
 clear hK
 have h1 := mapA_len SlA L
 cbv
 refine xloopV [] (fun p : { k : Nat // k ≤ L.length ∧ ∀ i (x : Rc), i < k → L[i]? = some x → x.l.length ≤ 70 } => [(3, .i (nI p.1))]) (fun _ => []) (fun p => lft 9223372036854775808 p.1) ⟨0, Nat.zero_le _, fun i x h => absurd h (Nat.not_lt_zero i)⟩ ?_
 rintro ⟨k, hk, hf⟩
 dsimp only
 cbv; repeat' ((first | refine .mk (fun h => ?_) fun h => ?_ | refine .k fun z hz => ?_ | fail) <;> cbv)
 ·have hkl : k < L.length := by ((try simp only [vn] at *) <;> omega)
  obtain ⟨⟨x⟩, hx⟩ : ∃ x, L[k]? = some x := ⟨_, List.getElem?_eq_getElem hkl⟩
  have hxl : x.length ≤ 9223372036854775807 := hp2 ⟨x⟩ (List.mem_of_getElem? hx)
  have hxa := mapA_len FdA x
  refine .e ?_
  cbv; repeat' ((first | refine .mk (fun h => ?_) fun h => ?_ | refine .k fun z hz => ?_ | fail) <;> cbv)
  ·exact FinK.mk ⟨_, Gh.refl _, .inl (CutK.val rfl (Le.refl _) (no (fun h => by have := h.1 ⟨x⟩ (List.mem_of_getElem? hx); dsimp only at this; ((try simp only [vn] at *) <;> omega))))⟩
  ·have hx70 : x.length ≤ 70 := by ((try simp only [vn] at *) <;> omega)
   obtain rfl : z = nI (k + 1) := by ((try simp only [vn] at *) <;> omega)
   exact roundV ⟨k + 1, by ((try simp only [vn] at *) <;> omega), fun i y hi hy => by
       rcases Nat.lt_or_ge i k with h2 | h2
       ·exact hf i y h2 hy
       ·obtain rfl : i = k := by omega
        rw [hx] at hy; cases hy; exact hx70⟩ (lft_lt (by ((try simp only [vn] at *) <;> omega)))
 ·have hall : ∀ x ∈ L, x.l.length ≤ 70 := fun x hx => by
   obtain ⟨i, hi⟩ := List.getElem?_of_mem hx
   exact hf i x (by have := (List.getElem?_eq_some_iff.1 hi).1; ((try simp only [vn] at *) <;> omega)) hi
  have h20 : L.length ≤ 20 := by ((try simp only [vn] at *) <;> omega)
  exact FinK.mk ⟨_, Gh.refl _, .inl (CutK.val rfl (Le.refl _) (yes ⟨hall, h20⟩))⟩
 ·have h20 : ¬ L.length ≤ 20 := by ((try simp only [vn] at *) <;> omega)
  exact FinK.mk ⟨_, Gh.refl _, .inl (CutK.val rfl (Le.refl _) (no (fun h => h20 h.2)))⟩
def shortP (L : List ByteArray) : Prop := (∀ x ∈ L, x.size ≤ 5000) ∧ L.length ≤ 20
noncomputable def ShortC : Ctr := spec (fun L : List ByteArray => [.sl 1 (mapA AV.str L)]) (fun _ => []) (fun L => L.length ≤ 9223372036854775807) (fun L => .bl (propB (shortP L))) fun _ => []
theorem short_body (P : Program) : BodyOk P x32 ShortC := by
 intro args H K hc; obtain ⟨L, rfl, rfl, hp, hK⟩ := hc; refine ⟨Nat.le_of_ble_eq_true rfl, ?_⟩; dsimp only at hp hK ⊢
 have no : ¬ shortP L → K (.bl false) [] := fun h => K_bl hK (propB_false h).symm
 have yes : shortP L → K (.bl true) [] := fun h => K_bl hK (propB_true h).symm
 clear hK
 have h1 := mapA_len AV.str L
 cbv
 refine xloopV [] (fun p : { k : Nat // k ≤ L.length ∧ ∀ i (x : ByteArray), i < k → L[i]? = some x → x.size ≤ 5000 } => [(3, .i (nI p.1))]) (fun _ => []) (fun p => lft 9223372036854775808 p.1) ⟨0, Nat.zero_le _, fun i x h => absurd h (Nat.not_lt_zero i)⟩ ?_
 rintro ⟨k, hk, hf⟩
 dsimp only
 cbv; repeat' ((first | refine .mk (fun h => ?_) fun h => ?_ | refine .k fun z hz => ?_ | fail) <;> cbv)
 ·have hkl : k < L.length := by ((try simp only [vn] at *) <;> omega)
  obtain ⟨x, hx⟩ : ∃ x, L[k]? = some x := ⟨_, List.getElem?_eq_getElem hkl⟩
  refine .e ?_
  cbv; repeat' ((first | refine .mk (fun h => ?_) fun h => ?_ | refine .k fun z hz => ?_ | fail) <;> cbv)
  ·exact FinK.mk ⟨_, Gh.refl _, .inl (CutK.val rfl (Le.refl _) (no (fun h => by have := h.1 x (List.mem_of_getElem? hx); ((try simp only [vn] at *) <;> omega))))⟩
  ·have hx70 : x.size ≤ 5000 := by ((try simp only [vn] at *) <;> omega)
   obtain rfl : z = nI (k + 1) := by ((try simp only [vn] at *) <;> omega)
   exact roundV ⟨k + 1, by ((try simp only [vn] at *) <;> omega), fun i y hi hy => by
       rcases Nat.lt_or_ge i k with h2 | h2
       ·exact hf i y h2 hy
       ·obtain rfl : i = k := by omega
        rw [hx] at hy; cases hy; exact hx70⟩ (lft_lt (by ((try simp only [vn] at *) <;> omega)))
 ·have hall : ∀ x ∈ L, x.size ≤ 5000 := fun x hx => by
   obtain ⟨i, hi⟩ := List.getElem?_of_mem hx
   exact hf i x (by have := (List.getElem?_eq_some_iff.1 hi).1; ((try simp only [vn] at *) <;> omega)) hi
  have h20 : L.length ≤ 20 := by ((try simp only [vn] at *) <;> omega)
  exact FinK.mk ⟨_, Gh.refl _, .inl (CutK.val rfl (Le.refl _) (yes ⟨hall, h20⟩))⟩
 ·have h20 : ¬ L.length ≤ 20 := by ((try simp only [vn] at *) <;> omega)
  exact FinK.mk ⟨_, Gh.refl _, .inl (CutK.val rfl (Le.refl _) (no (fun h => h20 h.2)))⟩
/-- A store that has these writes, where it takes them. -/
noncomputable def writtenR (L : List ByteArray) : AV := @ite _ (shortW L) (Classical.propDecidable _) (.ptr 0 0) (.v (.pointer none))
noncomputable def writtenH (L : List ByteArray) : List Ent := @ite _ (shortW L) (Classical.propDecidable _) (StoE ⟨L, 0, false, 0, false⟩) []
noncomputable def WrittenC : Ctr := spec (fun L : List ByteArray => [.sl 1 (mapA AV.str L)]) (fun _ => []) (fun L => L.length ≤ 100) writtenR writtenH
theorem written_body (P : Program) (hN : FnOk P 17 NewC) (hW : FnOk P 37 WriteC) : BodyOk P x13 WrittenC := by
 intro args H K hc; obtain ⟨L, rfl, rfl, hp, hK⟩ := hc; refine ⟨Nat.le_of_ble_eq_true rfl, ?_⟩; dsimp only at hp hK ⊢
 have hp : L.length ≤ 100 := hp
 have no : ¬ shortW L → K (.v (.pointer none)) [] := fun h => by
  unfold writtenR writtenH at hK
  rw [if_neg h, if_neg h] at hK; exact hK
 have yes : shortW L → K (.ptr 0 0) (StoE ⟨L, 0, false, 0, false⟩) := fun h => by
  unfold writtenR writtenH at hK
  rw [if_pos h, if_pos h] at hK; exact hK
 clear hK
 have h1 := mapA_len AV.str L
 obtain ⟨m, hm⟩ : ∃ m, m = L.length := ⟨_, rfl⟩
 cbv
 (refine callG_new hN () trivial rfl rfl ?_; try dsimp only)
 cbv
 refine xloopV [] (fun p : { p : Nat × List ByteArray // p.1 ≤ m ∧ p.2 = L.take p.1 ∧ shortW p.2 } => [(4, .i (nI p.1.1))]) (fun p => [.blk 73 [.hd 1, .i (nI 0), .bl false, .i (nI 0), .bl false], .row 9 1 (mapA AV.str p.1.2)]) (fun p => lft 101 p.1.1) ⟨(0, []), Nat.zero_le _, rfl, fun w hw => by cases hw⟩ ?_
 rintro ⟨⟨k, l⟩, hk, hl, hs⟩
 dsimp only at hk hl hs ⊢
 have hll : l.length = k := by rw [hl, List.length_take]; omega
 cbv; repeat' ((first | refine .mk (fun h => ?_) fun h => ?_ | refine .k fun z hz => ?_ | fail) <;> cbv)
 ·have hkl : k < L.length := by ((try simp only [vn] at *) <;> omega)
  obtain ⟨x, hx⟩ : ∃ x, L[k]? = some x := ⟨_, List.getElem?_eq_getElem hkl⟩
  refine .e ?_
  cbv
  have hpo : StoOk ⟨l, 0, false, 0, false⟩ := ⟨by show l.length ≤ 1048576; omega, Nat.zero_le _, Nat.zero_le _⟩
  by_cases hxs : 4096 < x.size
  ·have e : writeS ⟨l, 0, false, 0, false⟩ x = (⟨l, 0, false, 0, false⟩, 1) := by unfold writeS; rw [if_neg Bool.false_ne_true, if_pos hxs]
   (refine callG_spec hW ((⟨l, 0, false, 0, false⟩, x) : Sto × ByteArray) [0, 1] hpo rfl rfl (by decide) rfl rfl rfl rfl rfl ?_; try dsimp only)
   rw [e]
   cbv; repeat' ((first | refine .n fun h => ?_ | fail) <;> cbv)
   exact FinK.mk ⟨_, Gh.refl _, .inl (CutK.val rfl (Le.refl _) (no (fun h => by have := h x (List.mem_of_getElem? hx); omega)))⟩
  ·obtain ⟨l2, hl2⟩ : ∃ y, y = l ++ [x] := ⟨_, rfl⟩
   have e : writeS ⟨l, 0, false, 0, false⟩ x = (⟨l2, 0, false, 0, false⟩, 0) := by unfold writeS; rw [if_neg Bool.false_ne_true, if_neg hxs, if_neg (by show ¬ 4096 ≤ l.length; omega), hl2]; rfl
   (refine callG_spec hW ((⟨l, 0, false, 0, false⟩, x) : Sto × ByteArray) [0, 1] hpo rfl rfl (by decide) rfl rfl rfl rfl rfl ?_; try dsimp only)
   rw [e]
   cbv; repeat' ((first | refine .y fun h => ?_ | refine .k fun z hz => ?_ | fail) <;> cbv)
   obtain rfl : z = nI (k + 1) := by ((try simp only [vn] at *) <;> omega)
   exact roundV ⟨(k + 1, l2), by omega, by rw [hl2, hl, take_succ_get hx], fun w hw => by
       rw [hl2] at hw
       rcases List.mem_append.1 hw with h2 | h2
       ·exact hs w h2
       ·obtain rfl := List.mem_singleton.1 h2
        omega⟩ (lft_lt (by omega))
 ·have e : l = L := by rw [hl, List.take_of_length_le (by ((try simp only [vn] at *) <;> omega))]
  rw [e] at hs
  rw [e]
  (refine FinK.mk ⟨_, Gh.refl _, ?_⟩; cbv; exact .inl (CutK.sel [0, 1] _ _ (by rfl) (by rfl) (by decide) (by rfl) (by exact Nat.le_of_ble_eq_true rfl) (by rfl) (by rfl) (Le.refl _) (LeH.refl _) (yes hs)))
end Go.Proofs.YtpcfdpengbkplaaDoor
/-
 Book: the texts of records; what they are, in plain Lean.
-/
namespace Go.Proofs.YtpcfdpengbkplaaDoor
open Go.RowKit
set_option maxHeartbeats 8000000
set_option maxRecDepth 100000
def txS (o : ByteArray) (q : List ByteArray × ByteArray) (x : Rc) : List ByteArray × ByteArray := if (addT x.l q.1.length (lnk o q.2)).2 = 0 then (q.1 ++ [(addT x.l q.1.length (lnk o q.2)).1], (addT x.l q.1.length (lnk o q.2)).1) else q
def textsF (o : ByteArray) (L : List Rc) : List ByteArray × ByteArray := L.foldl (txS o) ([], ⟨#[]⟩)
theorem textsF_succ {o : ByteArray} {L : List Rc} {k : Nat} {x : Rc} (h : L[k]? = some x) : textsF o (L.take (k + 1)) = txS o (textsF o (L.take k)) x := by
 unfold textsF; rw [take_succ_get h, List.foldl_append]; rfl
theorem addT_size {l : List Fd} {i : Nat} {k : ByteArray} : (addT l i k).1.size ≤ 4096 := by
 unfold addT
 split
 ·split
  ·exact Nat.zero_le _
  ·split
   ·exact Nat.zero_le _
   ·rename_i h; dsimp only; simp only [ByteArray.size, List.size_toArray]; omega
 ·exact Nat.zero_le _
def NamesR (L : List Rc) : Prop := ∀ x ∈ L, ∀ f ∈ x.l, f.name.size ≤ maxLen
noncomputable def TextsC : Ctr := spec (fun q : ByteArray × List Rc => [.str q.1, .sl 1 (mapA SlA q.2)]) (fun _ => []) (fun q => q.1.size ≤ 4096 ∧ fewP q.2 ∧ NamesR q.2) (fun q => .sl 1 (mapA AV.str (textsF q.1 q.2).1)) fun _ => []
theorem texts_body (P : Program) (hT : FnOk P 26 RTextC) : BodyOk P x12 TextsC := by
 intro args H K hc; obtain ⟨q, rfl, rfl, hp, hK⟩ := hc; refine ⟨Nat.le_of_ble_eq_true rfl, ?_⟩; dsimp only at hp hK ⊢
 obtain ⟨o, L⟩ := q
 obtain ⟨ho, ⟨hp1, hp2⟩, hp3⟩ : o.size ≤ 4096 ∧ fewP L ∧ NamesR L := hp
 dsimp only at hK
 have h1 := mapA_len SlA L
 obtain ⟨m, hm⟩ : ∃ m, m = L.length := ⟨_, rfl⟩
 cbv
 refine xloopV [0] (fun p : { p : Nat × List ByteArray × ByteArray // p.1 ≤ m ∧ p.2 = textsF o (L.take p.1) ∧ p.2.1.length ≤ p.1 ∧ p.2.2.size ≤ 4096 } => [(7, .i (nI p.1.1)), (6, .str p.1.2.2), (5, .hd 0)]) (fun p => [.row 9 1 (mapA AV.str p.1.2.1)]) (fun p => lft 21 p.1.1) ⟨(0, [], ⟨#[]⟩), Nat.zero_le _, rfl, Nat.zero_le _, Nat.zero_le _⟩ ?_
 rintro ⟨⟨k, out, ah⟩, hk, hl, hol, hah⟩
 dsimp only at hk hl hol hah ⊢
 have h2 := mapA_len AV.str out
 cbv; repeat' ((first | refine .mk (fun h => ?_) fun h => ?_ | refine .k fun z hz => ?_ | fail) <;> cbv)
 ·have hkl : k < L.length := by ((try simp only [vn] at *) <;> omega)
  obtain ⟨⟨x⟩, hx⟩ : ∃ x, L[k]? = some x := ⟨_, List.getElem?_eq_getElem hkl⟩
  refine .e ?_
  cbv; repeat' ((first | refine .k fun z hz => ?_ | fail) <;> cbv)
  obtain ⟨n, hn⟩ : ∃ n, n = out.length := ⟨_, rfl⟩
  obtain rfl : z = nI n := by rw [hz, h2, hn]; rfl
  obtain ⟨⟨t, c⟩, htc⟩ : ∃ y, y = addT x n (lnk o ah) := ⟨_, rfl⟩
  have hts : t.size ≤ 4096 := by have := addT_size (l := x) (i := n) (k := lnk o ah); rw [← htc] at this; exact this
  have hpt : o.size ≤ 4096 ∧ x.length ≤ 4000 ∧ (∀ f ∈ x, f.name.size ≤ maxLen) ∧ n ≤ 1048576 ∧ ah.size ≤ 1048576 := ⟨ho, by have := hp1 ⟨x⟩ (List.mem_of_getElem? hx); dsimp only at this; omega, hp3 ⟨x⟩ (List.mem_of_getElem? hx), by omega, by omega⟩
  have hst := textsF_succ (o := o) hx
  rw [← hl] at hst
  unfold txS at hst
  dsimp only at hst
  rw [← hn, ← htc] at hst
  dsimp only at hst
  (refine callG_spec0 hT (⟨o, x, n, ah⟩ : RtQ) hpt rfl rfl rfl ?_; try dsimp only)
  rw [← htc]
  cbv; repeat' ((first | refine .mk (fun h => ?_) fun h => ?_ | refine .k fun z hz => ?_ | refine .zl fun zs hzs hzl => ?_ | fail) <;> cbv)
  ·obtain ⟨o2, ho2⟩ : ∃ y, y = out ++ [t] := ⟨_, rfl⟩
   obtain rfl : zs = mapA AV.str o2 := by rw [ho2, mapA_app, mapA_one]; assumption
   obtain rfl : z = nI (k + 1) := by ((try simp only [vn] at *) <;> omega)
   rw [if_pos (by assumption), ← ho2] at hst
   have e : o2.length ≤ k + 1 := by rw [ho2, List.length_append, List.length_singleton]; omega
   exact roundV ⟨(k + 1, o2, t), by omega, hst.symm, e, hts⟩ (lft_lt (by omega))
  ·obtain rfl : z = nI (k + 1) := by ((try simp only [vn] at *) <;> omega)
   rw [if_neg (by assumption)] at hst
   exact roundV ⟨(k + 1, out, ah), by omega, hst.symm, Nat.le_succ_of_le hol, hah⟩ (lft_lt (by omega))
 ·have e : textsF o L = (out, ah) := by rw [hl, List.take_of_length_le (by ((try simp only [vn] at *) <;> omega))]
  rw [e] at hK
  (refine FinK.mk ⟨_, Gh.plain 0 rfl, ?_⟩; cbv; exact .inl (CutK.pre _ (by rfl) (by exact Nat.le_of_ble_eq_true rfl) (by rfl) (by rfl) (Le.refl _) (LeH.refl _) hK))
end Go.Proofs.YtpcfdpengbkplaaDoor
/-
 Book: plain laws: chains that are right, and what Add and a crash do to them.
-/
namespace Go.Proofs.YtpcfdpengbkplaaDoor
open Go.RowKit
set_option maxHeartbeats 8000000
set_option maxRecDepth 100000
/-- What is added is read. -/
theorem addT_ok {l : List Fd} {i : Nat} {k t : ByteArray} (h : addT l i k = (t, 0)) : l.all mayF = true ∧ ¬ 62 < l.length ∧ t.size ≤ 4096 ∧ t = ⟨(textS (hdF i :: lkF k :: l)).toArray⟩ := by
 have hs := addT_size (l := l) (i := i) (k := k)
 rw [h] at hs
 unfold addT at h
 split at h
 ·rename_i h1
  split at h
  ·cases h
  ·rename_i h2
   split at h
   ·cases h
   ·exact ⟨h1, h2, hs, (congrArg Prod.fst h).symm⟩
 ·cases h
theorem addT_snd {l : List Fd} {i : Nat} {k : ByteArray} : (addT l i k).2 = 0 ∨ (addT l i k).2 = 1 ∨ (addT l i k).2 = 7 := by
 unfold addT; split <;> (try split) <;> (try split) <;> simp
theorem addT_parse {l : List Fd} {i : Nat} {k t : ByteArray} (hi : i ≤ 1048576) (hk : k.size ≤ 4096) (h : addT l i k = (t, 0)) : ∃ a, parseS t.data.toList = (hdF i :: lkF k :: l, a, 0) := by
 obtain ⟨h1, h2, _, h4⟩ := addT_ok h
 refine (parseS_iff _ _).2 ⟨?_, by rw [h4]⟩
 unfold textC
 rw [if_neg (by simp only [List.length_cons]; omega), if_pos]
 rw [List.all_cons, List.all_cons, h1, may_hd hi, may_lk hk]; rfl
theorem nextR_add {l : List Fd} {i : Nat} {k o t : ByteArray} (hi : i ≤ 1048576) (hk : k.size ≤ 4096) (h : addT l i k = (t, 0)) : nextR ⟨i, k, o⟩ t = some l := by
 obtain ⟨a, ha⟩ := addT_parse hi hk h
 unfold nextR
 rw [ha]
 exact if_pos ⟨rfl, rfl, rfl⟩
/-- A book whose store's writes are its records'. -/
structure Bok (b : Bk) : Prop where
 right : rightL (fol0 b.owner) b.sto.writes = (b.recs, (⟨b.sto.writes.length, b.link, b.owner⟩ : Fol), true)
 short : shortW b.sto.writes
 link : b.link.size ≤ 4096
 owner : b.owner.size ≤ 4096
theorem Bok.len {b : Bk} (h : Bok b) : b.recs.length = b.sto.writes.length := by
 have := (rightL_at b.sto.writes (fol0 b.owner)).2.2 (by rw [h.right])
 rw [h.right] at this; exact this
theorem rightL_link : ∀ (ws : List ByteArray) (f : Fol), f.link.size ≤ 4096 → (rightL f ws).2.1.link.size ≤ 4096
 | [], _, h => h
 | w :: ws, f, h => by
  unfold rightL
  split
  ·exact h
  ·rename_i r hr
   refine rightL_link ws _ ?_
   unfold nextF; rw [hr]; exact (lnk_size _ _).symm ▸ (by decide)
theorem rightL_may : ∀ (ws : List ByteArray) (f : Fol), ∀ x ∈ (rightL f ws).1, x.l.length ≤ 62
 | [], _, x, h => by cases h
 | w :: ws, f, x, h => by
  unfold rightL at h
  split at h
  ·cases h
  ·rename_i r hr
   rcases List.mem_cons.1 h with rfl | h
   ·exact (nextR_may hr).1
   ·exact rightL_may ws _ x h
theorem bok_of {o : ByteArray} {s : Sto} (hs : shortW s.writes) (ho : o.size ≤ 4096) (h : (rightL (fol0 o) s.writes).2.2 = true) : Bok (bookOf o s) := by
 obtain ⟨h1, _, h3⟩ := rightL_at s.writes (fol0 o)
 have h4 := rightL_owner s.writes (fol0 o)
 have h5 := rightL_link s.writes (fol0 o) (by show (lnk o _).size ≤ 4096; rw [lnk_size]; decide)
 refine ⟨?_, hs, h5, ho⟩
 show rightL (fol0 o) s.writes = ((rightL (fol0 o) s.writes).1, (⟨s.writes.length, (rightL (fol0 o) s.writes).2.1.link, o⟩ : Fol), true)
 have h6 := h3 h
 generalize rightL (fol0 o) s.writes = R at *
 obtain ⟨rs, ⟨n, k, o'⟩, t⟩ := R
 dsimp only at *
 have : n = s.writes.length := by rw [h1, h6]; exact Nat.zero_add _
 rw [this, h]
 obtain rfl : o' = o := h4
 rfl
theorem Bok.bkOk {b : Bk} (h : Bok b) (hs : StoOk b.sto) : BkOk b := by
 refine ⟨hs, by rw [h.len]; exact hs.1, h.owner, h.link, fun x hx => ?_⟩
 have := rightL_may b.sto.writes (fol0 b.owner) x
 rw [h.right] at this
 exact this hx
/-- What Add does. -/
theorem add_yes {b : Bk} {l : List Fd} {t : ByteArray} {s' : Sto} (hb : Bok b) (hl : b.sto.writes.length ≤ 1048575) (ht : addT l b.recs.length b.link = (t, 0)) (hw : writeS b.sto t = (s', 0)) (he : s'.writes = b.sto.writes ++ [t]) :
  addB b l = (⟨b.owner, lnk b.owner t, b.recs ++ [⟨l⟩], s'⟩, nI b.recs.length, 0) ∧ Bok ⟨b.owner, lnk b.owner t, b.recs ++ [⟨l⟩], s'⟩ := by
 have hn := nextR_add (o := b.owner) (by rw [hb.len]; omega) hb.link ht
 constructor
 ·unfold addB; rw [ht]; dsimp only; rw [hw]; rfl
 ·refine ⟨?_, ?_, by dsimp only; rw [lnk_size]; decide, hb.owner⟩
  ·dsimp only
   rw [he, rightL_snoc _ _ _ (by rw [hb.right]), hb.right]
   dsimp only
   rw [← hb.len, hn]
   dsimp only
   rw [show nextF ⟨b.recs.length, b.link, b.owner⟩ t = ⟨b.recs.length + 1, lnk b.owner t, b.owner⟩ by unfold nextF; rw [hn], List.length_append, List.length_singleton, hb.len]
  ·intro w hw2
   dsimp only at hw2
   rw [he] at hw2
   rcases List.mem_append.1 hw2 with h2 | h2
   ·exact hb.short w h2
   ·obtain rfl := List.mem_singleton.1 h2
    exact (addT_ok ht).2.2.1
theorem write_ways (s : Sto) (t : ByteArray) : (∃ s', writeS s t = (s', 0) ∧ s'.writes = s.writes ++ [t] ∧ s'.lasting = s.lasting ∧ s'.down = s.down ∧ s.down = false ∧ s'.fuse ≤ s.fuse ∧ (s.armed = false → s'.armed = false)) ∨ ∃ s' c, writeS s t = (s', c) ∧ c ≠ 0 ∧ s'.writes = s.writes ∧ s'.lasting = s.lasting ∧ s'.fuse = s.fuse ∧ s'.armed = s.armed ∧ (s'.down = true ↔ c = 14) ∧ (s.down = true → c = 14) ∧ (s.armed = false → s.down = false → t.size ≤ 4096 → 4096 ≤ s.writes.length) ∧ (t.size ≤ 4096 → s.writes.length < 4096 → c = 14) := by
 obtain ⟨l, n, a, f, d⟩ := s
 unfold writeS
 cases d with
 | true => exact .inr ⟨_, _, rfl, by decide, rfl, rfl, rfl, rfl, by simp, by simp, by simp, by simp⟩
 | false =>
  rw [if_neg Bool.false_ne_true]
  by_cases h1 : 4096 < t.size
  ·rw [if_pos h1]; exact .inr ⟨_, _, rfl, by decide, rfl, rfl, rfl, rfl, by simp, by simp, (fun _ _ h => by omega), fun h => by omega⟩
  ·rw [if_neg h1]
   by_cases h2 : 4096 ≤ l.length
   ·rw [if_pos h2]; exact .inr ⟨_, _, rfl, by decide, rfl, rfl, rfl, rfl, by simp, by simp, (fun _ _ _ => h2), fun _ h => by dsimp only at h; omega⟩
   ·rw [if_neg h2]
    unfold callS
    cases a with
    | false => exact .inl ⟨_, rfl, rfl, rfl, rfl, rfl, Nat.le_refl _, fun _ => rfl⟩
    | true =>
     rw [if_pos rfl]
     by_cases h3 : f = 0
     ·rw [if_pos h3]; exact .inr ⟨_, _, rfl, by decide, rfl, rfl, rfl, rfl, by simp, by simp, by simp, by simp⟩
     ·rw [if_neg h3]; exact .inl ⟨_, rfl, rfl, rfl, rfl, rfl, Nat.sub_le _ _, fun h => by cases h⟩
end Go.Proofs.YtpcfdpengbkplaaDoor
/-
 Book: the document's example.
-/
namespace Go.Proofs.YtpcfdpengbkplaaDoor
open Go.RowKit
set_option maxHeartbeats 8000000
set_option maxRecDepth 100000
theorem lineLS_len (f : Fd) : (lineL f).length ≤ f.name.size + 2 * f.value.size + 2 := by
 have h := esc_len f.value.data.toList
 have h1 : f.name.data.toList.length = f.name.size := by rw [Array.length_toList]; rfl
 have h2 : f.value.data.toList.length = f.value.size := by rw [Array.length_toList]; rfl
 unfold lineL
 simp only [List.length_append, List.length_cons, List.length_nil]
 omega
theorem addT_small {f : Fd} {i : Nat} {k : ByteArray} (hm : mayF f = true) (hn : f.name.size ≤ 16) (hv : f.value.size ≤ 100) (hk : k.size ≤ 16) (hi : i ≤ 1048576) : ∃ t, addT [f] i k = (t, 0) ∧ t.data.toList = lineL (hdF i) ++ (lineL (lkF k) ++ lineL f) := by
 have hall : [f].all mayF = true := by rw [List.all_cons, hm]; rfl
 have hc : textC (hdF i :: lkF k :: [f]) = 0 := by
  unfold textC
  rw [if_neg (by simp), if_pos]
  rw [List.all_cons, List.all_cons, hall, may_hd hi, may_lk (by omega)]; rfl
 have ht : textS (hdF i :: lkF k :: [f]) = lineL (hdF i) ++ (lineL (lkF k) ++ lineL f) := by
  unfold textS; rw [if_pos hc]; unfold textL; simp
 have h1 : (hdF i).value.size ≤ 21 := itoS_size (by show (i : Int).natAbs < _; omega)
 have e1 := lineLS_len (hdF i)
 have e2 := lineLS_len (lkF k)
 have e3 := lineLS_len f
 have n1 : (hdF i).name.size = 1 := rfl
 have n2 : (lkF k).name.size = 4 := rfl
 have n3 : (lkF k).value.size = k.size := rfl
 refine ⟨⟨(textS (hdF i :: lkF k :: [f])).toArray⟩, ?_, ?_⟩
 ·unfold addT
  rw [if_pos hall, if_neg (by simp), if_neg]
  rw [ht]
  simp only [List.length_append]
  omega
 ·rw [ht]
theorem line0 : lineL (hdF 0) = [110, 61, 48, 10] := by
 have e : itoS (nI 0) = ⟨#[48]⟩ := by rw [itoS_small (n := nI 0) (z1 := 48) (z := 48) (by decide) (by decide) rfl rfl]; rfl
 unfold lineL hdF
 rw [e]; rfl
theorem first4 {t : ByteArray} {r : List UInt8} (h : t.data.toList = [110, 61, 48, 10] ++ r) : 4 ≤ t.size ∧ t.extract 0 4 = ⟨#[110, 61, 48, 10]⟩ := by
 obtain ⟨⟨l⟩⟩ := t
 dsimp only at h
 subst h
 refine ⟨?_, ?_⟩
 ·simp only [ByteArray.size, List.size_toArray, List.length_append, List.length_cons, List.length_nil]; omega
 ·apply ByteArray.ext
  simp
theorem sto0_ok : StoOk ⟨[], 0, false, 0, false⟩ := ⟨Nat.zero_le _, Nat.zero_le _, Nat.zero_le _⟩
/-- An empty store opens. -/
theorem open_empty {o : ByteArray} (h : nameB o = true) : openR o ⟨[], 0, false, 0, false⟩ = .tup [.ptr 2 0, .i 0] ∧ openH o ⟨[], 0, false, 0, false⟩ = BkE ⟨o, lnk o ⟨#[]⟩, [], ⟨[], 0, false, 0, false⟩⟩ ∧ Bok ⟨o, lnk o ⟨#[]⟩, [], ⟨[], 0, false, 0, false⟩⟩ := by
 have h1 : ¬ nameB o = false := by rw [h]; exact Bool.noConfusion
 have h2 : bookC o ⟨[], 0, false, 0, false⟩ = 0 := by unfold bookC; exact if_pos rfl
 refine ⟨?_, ?_, ?_⟩
 ·unfold openR; rw [if_neg h1, if_neg Bool.false_ne_true, if_pos h2]
 ·unfold openH; rw [if_neg h1, if_neg Bool.false_ne_true, if_pos h2]; rfl
 ·exact bok_of (s := ⟨[], 0, false, 0, false⟩) (fun w hw => by cases hw) (by have := nameB_size h; omega) rfl
def AwakeC : Ctr := spec (fun _ : Unit => []) (fun _ => []) (fun _ => True) (fun _ => .bl true) fun _ => []
theorem awake_body (P : Program) (hN : FnOk P 17 NewC) (hO : FnOk P 18 BOpenC) (hA : FnOk P 21 BAddC) (hR : FnOk P 28 ReadC) (hLen : FnOk P 25 (StoG fun s => .i (nI s.writes.length)))
  (hC : FnOk P 33 CrashC) (hBL : FnOk P 20 (BkG fun b => .i (nI b.recs.length))) : BodyOk P x10 AwakeC := by
 intro args H K hc; obtain ⟨u, rfl, rfl, hp, hK⟩ := hc; refine ⟨Nat.le_of_ble_eq_true rfl, ?_⟩; dsimp only at hp hK ⊢
 clear u hp
 have ha : nameB ⟨#[97]⟩ = true := by decide
 obtain ⟨o1, o2, o3⟩ := open_empty ha
 have hsh : StoOk ⟨[], 0, false, 0, false⟩ ∧ shortW ([] : List ByteArray) := ⟨sto0_ok, fun w hw => by cases hw⟩
 obtain ⟨g, hg⟩ : ∃ g, g = lnk ⟨#[97]⟩ ⟨#[]⟩ := ⟨_, rfl⟩
 have hg16 : g.size ≤ 16 := by rw [hg, lnk_size]; decide
 rw [← hg] at o2 o3
 have m1 : mayF ⟨⟨#[120]⟩, ⟨#[49]⟩⟩ = true := by decide
 have m2 : mayF ⟨⟨#[121]⟩, ⟨#[50]⟩⟩ = true := by decide
 obtain ⟨t1, h1, h1t⟩ := addT_small (i := 0) m1 (by decide) (by decide) hg16 (by decide)
 obtain ⟨w1, hw1⟩ : ∃ w, w = [t1] := ⟨_, rfl⟩
 have t1s := (addT_ok h1).2.2.1
 obtain ⟨y1, y2⟩ := add_yes (b := ⟨⟨#[97]⟩, g, [], ⟨[], 0, false, 0, false⟩⟩) (s' := ⟨w1, 0, false, 0, false⟩) o3 (Nat.zero_le _) h1 (by unfold writeS; rw [if_neg Bool.false_ne_true, if_neg (by omega), hw1]; rfl) hw1
 obtain ⟨g1, hg1⟩ : ∃ g1, g1 = lnk ⟨#[97]⟩ t1 := ⟨_, rfl⟩
 have hg16' : g1.size ≤ 16 := by rw [hg1, lnk_size]; decide
 dsimp only at y1 y2
 obtain ⟨r1, hr1⟩ : ∃ r, r = [] ++ [(⟨[⟨⟨#[120]⟩, ⟨#[49]⟩⟩]⟩ : Rc)] := ⟨_, rfl⟩
 rw [← hg1, ← hr1] at y1 y2
 have r1l : r1.length = 1 := by rw [hr1]; rfl
 obtain ⟨t2, h2, h2t⟩ := addT_small (i := 1) m2 (by decide) (by decide) hg16' (by decide)
 obtain ⟨w2, hw2⟩ : ∃ w, w = w1 ++ [t2] := ⟨_, rfl⟩
 have t2s := (addT_ok h2).2.2.1
 have w1l : w1.length = 1 := by rw [hw1]; rfl
 have w2l : w2.length = 2 := by rw [hw2, hw1]; rfl
 rw [← r1l] at h2
 obtain ⟨y3, y4⟩ := add_yes (s' := ⟨w2, 0, false, 0, false⟩) y2 (by dsimp only; omega) h2 (by unfold writeS; rw [if_neg Bool.false_ne_true, if_neg (by omega), if_neg (by dsimp only; omega), hw2]; rfl) hw2
 obtain ⟨g2, hg2⟩ : ∃ g2, g2 = lnk ⟨#[97]⟩ t2 := ⟨_, rfl⟩
 dsimp only at y3 y4
 obtain ⟨r2, hr2⟩ : ∃ r, r = r1 ++ [(⟨[⟨⟨#[121]⟩, ⟨#[50]⟩⟩]⟩ : Rc)] := ⟨_, rfl⟩
 rw [← hg2, ← hr2, r1l] at y3
 rw [line0] at h1t
 obtain ⟨f1, f2⟩ := first4 h1t
 have k1 := o3.bkOk sto0_ok
 have k2 := y2.bkOk (show StoOk ⟨w1, 0, false, 0, false⟩ from ⟨by show w1.length ≤ 1048576; omega, Nat.zero_le _, Nat.zero_le _⟩)
 have n1 : ∀ f ∈ [(⟨⟨#[120]⟩, ⟨#[49]⟩⟩ : Fd)], f.name.size ≤ maxLen := fun f hf => by obtain rfl := List.mem_singleton.1 hf; show (1 : Nat) ≤ maxLen; unfold maxLen; decide
 have n2 : ∀ f ∈ [(⟨⟨#[121]⟩, ⟨#[50]⟩⟩ : Fd)], f.name.size ≤ maxLen := fun f hf => by obtain rfl := List.mem_singleton.1 hf; show (1 : Nat) ≤ maxLen; unfold maxLen; decide
 have er : readR ⟨w2, 0, false, 0, false⟩ 0 = .tup [.str t1, .i 0] := by
  unfold readR
  rw [if_neg Bool.false_ne_true, if_neg (by show ¬ ((0 : Int) < 0 ∨ (w2.length : Int) ≤ 0); omega)]
  show AV.tup [.str (w2.getD 0 _), _] = _
  rw [hw2, hw1]; rfl
 have ks : StoOk ⟨w2, 0, false, 0, false⟩ := ⟨by show w2.length ≤ 1048576; omega, Nat.zero_le _, Nat.zero_le _⟩
 have ec : crashS ⟨w2, 0, false, 0, false⟩ 0 = ⟨[], 0, false, 0, false⟩ := by unfold crashS; dsimp only; rw [Nat.zero_min]; rfl
 cbv
 (refine callG_new hN () trivial rfl rfl ?_; try dsimp only)
 cbv
 (refine callG_spec hO ((⟨[], 0, false, 0, false⟩, ⟨#[97]⟩) : Sto × ByteArray) [0, 1] hsh rfl rfl (by decide) rfl rfl rfl rfl rfl ?_; try dsimp only)
 rw [o1, o2]
 cbv; repeat' ((first | refine .y fun h => ?_ | fail) <;> cbv)
 refine callG_publish 4 rfl ?_
 cbv
 (refine callG_spec hA ((⟨⟨#[97]⟩, g, [], ⟨[], 0, false, 0, false⟩⟩, [⟨⟨#[120]⟩, ⟨#[49]⟩⟩]) : Bk × List Fd) [0, 1, 2, 3] ⟨k1, Nat.le_of_ble_eq_true rfl, n1⟩ rfl rfl (by decide) rfl rfl rfl rfl rfl ?_; try dsimp only)
 rw [y1]
 cbv
 refine callG_publish 5 rfl ?_
 cbv
 (refine callG_spec hA ((⟨⟨#[97]⟩, g1, r1, ⟨w1, 0, false, 0, false⟩⟩, [⟨⟨#[121]⟩, ⟨#[50]⟩⟩]) : Bk × List Fd) [0, 1, 2, 3] ⟨k2, Nat.le_of_ble_eq_true rfl, n2⟩ rfl rfl (by decide) rfl rfl rfl rfl rfl ?_; try dsimp only)
 rw [y3]
 cbv
 (refine callG_spec hR ((⟨w2, 0, false, 0, false⟩, 0) : Sto × Int) [0, 1] ks rfl rfl (by decide) rfl rfl rfl rfl rfl ?_; try dsimp only)
 rw [er]
 cbv; repeat' ((first | refine .n fun h => ?_ | refine .y fun h => ?_ | refine .mk (fun h => ?_) fun h => ?_ | refine .k fun z hz => ?_ | refine .u fun u hu hul => ?_ | fail) <;> cbv)
 ·(refine callG_spec hLen (⟨w2, 0, false, 0, false⟩ : Sto) [0, 1] ks rfl rfl (by decide) rfl rfl rfl rfl rfl ?_; try dsimp only)
  rw [w2l]
  cbv; repeat' ((first | refine .y fun h => ?_ | fail) <;> cbv)
  (refine callG_spec hC ((⟨w2, 0, false, 0, false⟩, 0) : Sto × Nat) [0, 1] ⟨ks, Nat.zero_le _⟩ rfl rfl (by decide) rfl rfl rfl rfl rfl ?_; try dsimp only)
  rw [ec]
  cbv
  (refine callG_spec hO ((⟨[], 0, false, 0, false⟩, ⟨#[97]⟩) : Sto × ByteArray) [0, 1] hsh rfl rfl (by decide) rfl rfl rfl rfl rfl ?_; try dsimp only)
  rw [o1, o2]
  cbv; repeat' ((first | refine .y fun h => ?_ | fail) <;> cbv)
  (refine callG_spec hBL (⟨⟨#[97]⟩, g, [], ⟨[], 0, false, 0, false⟩⟩ : Bk) [0, 1, 6, 7] k1 rfl rfl (by decide) rfl rfl rfl rfl rfl ?_; try dsimp only)
  cbv; repeat' ((first | refine .y fun h => ?_ | fail) <;> cbv)
  exact FinK.mk ⟨_, Gh.refl _, .inl (CutK.pre _ (by rfl) (by exact Nat.le_of_ble_eq_true rfl) (by rfl) (by rfl) (Le.refl _) (LeH.refl _) hK)⟩
 ·exfalso
  exact h (by rw [hu]; exact f2)
end Go.Proofs.YtpcfdpengbkplaaDoor
