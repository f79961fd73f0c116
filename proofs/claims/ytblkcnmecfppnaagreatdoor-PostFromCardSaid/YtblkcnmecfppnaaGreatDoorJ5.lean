/-
  Texts of this proof, joined: PS, PT, PU, PV, PW, PX, PY, Search, ParseM, QE, QF, QG, QH, QI, QJ, QK, QL, QM, NumLib, Number, QN, QO, QP, QQ.
-/
import Derived.Test.YtblkcnmecfppnaaGreatDoorJ4
import Derived.Shelf.Strings.Search2
import Derived.Shelf.Small.Strs
import Derived.Test.YtblkcnmecfppnaaGreatDoorChecked
import Derived.Shelf.Strconv.ErrVarParseInt
import Derived.Shelf.Strconv.Itoa4
import Derived.Lib.AtoiErrMem
set_option linter.unusedVariables false
set_option linter.unusedSimpArgs false
/-
 money.Text; the reference's.
-/
namespace Go.Proofs.YtblkcnmecfppnaaGreatDoor
open Go.RowKit
set_option maxHeartbeats 4000000
set_option maxRecDepth 100000
/-- How many digits a currency has behind the point. -/
def digN (c : ByteArray) : Nat := if c = ⟨#[74, 80, 89]⟩ then 0 else if c = ⟨#[75, 82, 87]⟩ then 0 else if c = ⟨#[66, 72, 68]⟩ then 3 else if c = ⟨#[75, 87, 68]⟩ then 3 else if c = ⟨#[84, 78, 68]⟩ then 3 else 2
def DigC : Ctr := spec (fun c : ByteArray => [.str c]) (fun _ => []) (fun _ => True) (fun c => .i (Int.ofNat (digN c))) fun _ => []
theorem digits_body (P : Program) : BodyOk P x68 DigC := by
 intro args H K hc
 obtain ⟨s, rfl, rfl, hs, hK⟩ := hc
 refine ⟨Nat.le_of_ble_eq_true rfl, ?_⟩
 dsimp only at hK ⊢
 unfold digN at hK
 cbv; repeat' ((first | refine .mk (fun h => ?_) fun h => ?_ | fail) <;> cbv)
 all_goals exact FinK.mk ⟨_, Gh.refl _, .inl (CutK.val rfl (Le.refl _) (K_of hK (by simp only [*, if_true, if_false]; try rfl)))⟩
theorem rdigits_body (P : Program) : BodyOk P x77 DigC := by
 intro args H K hc
 obtain ⟨s, rfl, rfl, hs, hK⟩ := hc
 refine ⟨Nat.le_of_ble_eq_true rfl, ?_⟩
 dsimp only at hK ⊢
 unfold digN at hK
 cbv; repeat' ((first | refine .mk (fun h => ?_) fun h => ?_ | fail) <;> cbv)
 all_goals exact FinK.mk ⟨_, Gh.refl _, .inl (CutK.val rfl (Le.refl _) (K_of hK (by simp only [*, if_true, if_false]; try rfl)))⟩
def SizeC : Ctr := spec (fun n : Int => [.i n]) (fun _ => []) (fun n => -1099511627776 ≤ n ∧ n ≤ 1099511627776) (fun n => .int .u64 (Int.ofNat n.natAbs)) fun _ => []
theorem size_body (P : Program) : BodyOk P x70 SizeC := by
 intro args H K hc
 obtain ⟨n, rfl, rfl, hp, hK⟩ := hc
 refine ⟨Nat.le_of_ble_eq_true rfl, ?_⟩
 dsimp only at hK hp ⊢
 cbv; repeat' ((first | refine .mk (fun h => ?_) fun h => ?_ | refine .k fun z hz => ?_ | fail) <;> cbv)
 all_goals exact FinK.mk ⟨_, Gh.refl _, .inl (CutK.val rfl (Le.refl _) (K_of hK (congrArg (AV.int .u64) (by rw [hz, IntKind.wrap_u64]; simp only [vn] at *; omega))))⟩
theorem moneyB_rng {c : ByteArray} {a : Int} (h : true = moneyB c a) : -1099511627776 ≤ a ∧ a ≤ 1099511627776 := by
 unfold moneyB at h
 simp only [Bool.and_eq_true, decide_eq_true_eq, Eq.comm (a := true)] at h
 omega
theorem digN_in (c : ByteArray) : digN c = 0 ∨ digN c = 2 ∨ digN c = 3 := by
 unfold digN
 repeat' split
 all_goals simp
/-- The text of money. -/
def monS (c : ByteArray) (a : Int) : ByteArray := if moneyB c a then ((c ++ ⟨#[32]⟩) ++ (if a < 0 then ⟨#[45]⟩ else ⟨#[]⟩)) ++ ⟨(fracL (digN c) a.natAbs).toArray⟩ else ⟨#[]⟩
theorem pad_lt {d u : Nat} (h : (wholeL u 1).length ≤ d) : rep0 (d + 1 - (wholeL u 1).length) ++ ⟨(wholeL u 1).toArray⟩ = ⟨(wholeL u (d + 1)).toArray⟩ := by
 rw [whole_pad (d + 1) u (by omega)]
 apply ByteArray.ext
 simp [rep0]
theorem pad_ge {d u : Nat} (h : d < (wholeL u 1).length) : wholeL u (d + 1) = wholeL u 1 := by
 rw [whole_pad (d + 1) u (by omega), show d + 1 - (wholeL u 1).length = 0 by omega]; rfl
theorem cut_eq {d u : Nat} (h : d = 2 ∨ d = 3) {s a b : ByteArray} (hs : s = ⟨(wholeL u (d + 1)).toArray⟩) (ha : a = s.extract 0 (s.size - d)) (hb : b = s.extract (s.size - d) s.size) : (a ++ ⟨#[46]⟩) ++ b = ⟨(fracL d u).toArray⟩ := by
 rw [frac_cut d u h, ha, hb, hs]
 have hl : (⟨(wholeL u (d + 1)).toArray⟩ : ByteArray).size = (wholeL u (d + 1)).length := by simp [ByteArray.size]
 rw [hl]
 apply ByteArray.ext
 apply Array.toList_inj.1
 simp [ByteArray.data_extract, List.take_of_length_le]
theorem cut_of {d u : Nat} {s a p b x : ByteArray} {z1 z3 : Int} (hx : x = p ++ b) (hp : p = a ++ ⟨⟨[46]⟩⟩) (ha : a = s.extract ((none : Option Int).getD 0).toNat ((some z1).getD ↑s.size).toNat) (hb : b = s.extract ((some z3).getD 0).toNat ((none : Option Int).getD ↑s.size).toNat)
  (h : d = 2 ∨ d = 3) (hs : s = ⟨(wholeL u (d + 1)).toArray⟩) (h1 : z1 = s.size - Int.ofNat d) (h3 : z3 = s.size - Int.ofNat d) : x = ⟨(fracL d u).toArray⟩ := by
 have e1 : z1.toNat = s.size - d := by rw [h1]; simp only [Int.ofNat_eq_natCast]; omega
 have e3 : z3.toNat = s.size - d := by rw [h3]; simp only [Int.ofNat_eq_natCast]; omega
 rw [hx, hp]
 exact cut_eq h hs (by rw [ha]; simp only [Option.getD_none, Option.getD_some, e1]; rfl) (by rw [hb]; simp only [Option.getD_none, Option.getD_some, e3]; rfl)
theorem montext_body (P : Program) (hM : FnOk P 58 MoneyC) (hD : FnOk P 68 DigC) (hS : FnOk P 70 SizeC) (hF : FnOk P 69 FmtC) (hR : FnOk P 71 RepC) : BodyOk P x30 (MonC monS) := by
 intro args H K hc
 obtain ⟨⟨c, a⟩, rfl, rfl, _, hK⟩ := hc
 refine ⟨Nat.le_of_ble_eq_true rfl, ?_⟩
 dsimp only at hK ⊢
 unfold monS at hK
 obtain ⟨b, hb⟩ : ∃ b, b = moneyB c a := ⟨_, rfl⟩
 rw [← hb] at hK
 have hd := digN_in c
 obtain ⟨d, hdd⟩ : ∃ d, d = digN c := ⟨_, rfl⟩
 rw [← hdd] at hd hK
 obtain ⟨q, hq⟩ : ∃ q, q = a.natAbs := ⟨_, rfl⟩
 rw [← hq] at hK
 obtain ⟨w, hw⟩ : ∃ w : ByteArray, w = ⟨(wholeL q 1).toArray⟩ := ⟨_, rfl⟩
 have hws : w.size = (wholeL q 1).length := by rw [hw]; simp [ByteArray.size]
 cbv
 refine callG_spec0 hM (c, a) trivial rfl rfl rfl ?_
 try dsimp only
 rw [← hb]
 cases b
 ·cbv
  exact FinK.mk ⟨_, Gh.refl _, .inl (CutK.val rfl (Le.refl _) hK)⟩
 have hr := moneyB_rng hb
 have hc3 : c.size = 3 := by
  unfold moneyB curB at hb
  simp only [Bool.and_eq_true, decide_eq_true_eq, Eq.comm (a := true)] at hb
  exact hb.1.1.1
 have hw1 : 1 ≤ w.size := by rw [hws]; exact dec_len_pos q
 have hw2 : w.size ≤ 13 := by rw [hws, ← dec_whole]; exact dec_len 13 q (by omega) (by omega)
 clear hb
 have finN : a < 0 → ∀ {v u2 u1 x : ByteArray}, v = u2 ++ x → u2 = u1 ++ ⟨⟨[45]⟩⟩ → u1 = c ++ ⟨⟨[32]⟩⟩ → x = ⟨(fracL d q).toArray⟩ → K (.str v) [] := fun h v u2 u1 x e1 e2 e3 e4 => by
  rw [e1, e2, e3, e4]
  simp only [if_true, if_pos h] at hK
  exact hK
 have finP : 0 ≤ a → ∀ {v u2 u1 x : ByteArray}, v = u2 ++ x → u2 = u1 ++ ⟨⟨[]⟩⟩ → u1 = c ++ ⟨⟨[32]⟩⟩ → x = ⟨(fracL d q).toArray⟩ → K (.str v) [] := fun h v u2 u1 x e1 e2 e3 e4 => by
  rw [e1, e2, e3, e4]
  simp only [if_true, if_neg (show ¬ a < 0 by omega)] at hK
  exact hK
 clear hK
 have z0 : (ByteArray.mk (Array.mk [])).size = 0 := rfl
 have z32 : (ByteArray.mk (Array.mk [32])).size = 1 := rfl
 have z45 : (ByteArray.mk (Array.mk [45])).size = 1 := rfl
 have z46 : (ByteArray.mk (Array.mk [46])).size = 1 := rfl
 cbv; repeat' ((first | refine .mk (fun h => ?_) fun h => ?_ | fail) <;> cbv)
 all_goals
  refine callG_spec0 hD c trivial rfl rfl rfl ?_
  rw [← hdd]
  cbv
  refine callG_spec0 hS a hr rfl rfl rfl ?_
  rw [← hq]
  cbv
  refine callG_spec0 hF q (by omega) rfl rfl rfl ?_
  rw [← hw]
  cbv; repeat' ((first | refine .mk (fun h => ?_) fun h => ?_ | refine .k fun z hz => ?_ | refine .u fun u hu hul => ?_ | fail) <;> cbv)
  ·obtain ⟨k, rfl, hk⟩ : ∃ k : Nat, z = Int.ofNat k ∧ (k = 1 ∨ two4 k) ∧ k = d + 1 - w.size := ⟨d + 1 - w.size, by simp only [vn] at *; omega, by unfold two4; simp only [vn] at *; omega, rfl⟩
   refine callG_spec0 hR k hk.1 rfl rfl rfl ?_
   have hks : (rep0 k).size = k := by simp [rep0, ByteArray.size]
   obtain ⟨t, ht⟩ : ∃ t, t = rep0 k := ⟨_, rfl⟩
   rw [← ht] at hks ⊢
   have hk4 : k ≤ 4 := by unfold two4 at hk; omega
   cbv; repeat' ((first | refine .y fun h => ?_ | refine .k fun z hz => ?_ | refine .u fun u hu hul => ?_ | fail) <;> cbv)
   have hpad : t ++ w = ⟨(wholeL q (d + 1)).toArray⟩ := by
    rw [ht, hk.2, hws, hw]
    exact pad_lt (by simp only [vn] at *; omega)
   all_goals first | refine FinK.mk ⟨_, Gh.refl _, .inl (CutK.val rfl (Le.refl _) (finN (by assumption) (by assumption) (by assumption) (by assumption) ?_))⟩ | refine FinK.mk ⟨_, Gh.refl _, .inl (CutK.val rfl (Le.refl _) (finP (by assumption) (by assumption) (by assumption) (by assumption) ?_))⟩
   all_goals exact cut_of (by assumption) (by assumption) (by assumption) (by assumption) (by simp only [vn] at *; omega) (Eq.trans (by assumption) hpad) (by ((try simp only [vn] at *) <;> omega)) (by ((try simp only [vn] at *) <;> omega))
  all_goals first | refine FinK.mk ⟨_, Gh.refl _, .inl (CutK.val rfl (Le.refl _) (finN (by assumption) (by assumption) (by assumption) (by assumption) ?_))⟩ | refine FinK.mk ⟨_, Gh.refl _, .inl (CutK.val rfl (Le.refl _) (finP (by assumption) (by assumption) (by assumption) (by assumption) ?_))⟩
  ·exact cut_of (by assumption) (by assumption) (by assumption) (by assumption) (by simp only [vn] at *; omega) (by rw [hw]; exact (congrArg (fun l : List UInt8 => ByteArray.mk l.toArray) (pad_ge (by simp only [vn] at *; omega))).symm) (by ((try simp only [vn] at *) <;> omega)) (by ((try simp only [vn] at *) <;> omega))
  ·have hd0 : d = 0 := by simp only [vn] at *; omega
   rw [hw, hd0]
   rfl
end Go.Proofs.YtblkcnmecfppnaaGreatDoor
/-
 The reference's text of money.
-/
namespace Go.Proofs.YtblkcnmecfppnaaGreatDoor
open Go.RowKit
set_option maxHeartbeats 4000000
set_option maxRecDepth 100000
def wB (u k : Nat) : ByteArray := ⟨(wholeL u k).toArray⟩
theorem wB_nil : wB 0 0 = ⟨#[]⟩ := by unfold wB; rw [whole_nil]
theorem wB_step {v k : Nat} (h : ¬ (v = 0 ∧ k = 0)) {z2 z1 z : Int} (hz : z2 = (Int.ofNat v).tmod 10) (h1 : z1 = 48 + z2) (h2 : z = IntKind.u8.wrap z1) : wB v k = wB (v / 10) (k - 1) ++ strOf [z] := by
 have e : strOf [z] = ⟨#[UInt8.ofNat (48 + v % 10)]⟩ := by
  have hz3 : z = ((48 + v % 10 : Nat) : Int) := by
   rw [h2, h1, hz, IntKind.wrap_u8]
   have : (Int.ofNat v).tmod 10 = ((v % 10 : Nat) : Int) := rfl
   rw [this]; omega
  rw [hz3]; rfl
 rw [e]
 unfold wB
 rw [whole_step h]
 apply ByteArray.ext
 simp
def WholeC : Ctr := spec (fun q : Nat × Nat => [.i (Int.ofNat q.1), .i (Int.ofNat q.2)]) (fun _ => []) (fun q => q.1 ≤ 1099511627776 ∧ q.2 ≤ 3) (fun q => .str (wB q.1 q.2)) fun _ => []
structure WhI (u least v : Nat) (s : ByteArray) : Prop where
 val : v = u / 10 ^ s.size
 len : s.size ≤ 13
 eq : wB u least = wB v (least - s.size) ++ s
theorem WhI.step {u least v : Nat} {s t x : ByteArray} (h : WhI u least v s) (hu : u ≤ 1099511627776) (hl : least ≤ 3) {z2 z1 z : Int} (hz : z2 = (Int.ofNat v).tmod 10) (h1 : z1 = 48 + z2) (h2 : z = IntKind.u8.wrap z1) (hc : 0 < v ∨ s.size < least) (ht : t = strOf [z]) (hx : x = t ++ s) : WhI u least (v / 10) x := by
 have hts : t.size = 1 := by rw [ht]; rfl
 have hxs : x.size = s.size + 1 := by rw [hx, ByteArray.size_append, hts]; omega
 refine ⟨?_, ?_, ?_⟩
 ·rw [hxs, Nat.pow_succ, ← Nat.div_div_eq_div_mul, ← h.val]
 ·rw [hxs]
  rcases hc with hc | hc
  ·rcases Nat.lt_or_ge s.size 13 with h4 | h4
   ·omega
   ·exfalso
    have h5 : s.size = 13 := by have := h.len; omega
    have := h.val
    rw [h5] at this
    omega
  ·omega
 ·rw [hxs, h.eq, wB_step (by omega) hz h1 h2, hx, ht, Nat.sub_sub, ByteArray.append_assoc]
theorem rwhole_body (P : Program) : BodyOk P x78 WholeC := by
 intro args H K hc
 obtain ⟨⟨u, least⟩, rfl, rfl, hp, hK⟩ := hc
 refine ⟨Nat.le_of_ble_eq_true rfl, ?_⟩
 dsimp only at hK hp ⊢
 cbv
 refine xloopV [] (fun p : { p : Nat × ByteArray × Nat // WhI u least p.1 p.2.1 ∧ p.2.2 = p.2.1.size } => [(0, .i (nI p.1.1)), (5, .str p.1.2.1)]) (fun _ => []) (fun p => lft 20 p.1.2.2) ⟨(u, ⟨⟨[]⟩⟩, 0), ⟨by simp [ByteArray.size], by simp [ByteArray.size], by simp [ByteArray.size]; apply ByteArray.ext; simp⟩, rfl⟩ ?_
 rintro ⟨⟨v, s, n⟩, hI, hn⟩
 dsimp only at hI hn ⊢
 have hsl := hI.len
 have hv : v ≤ 1099511627776 := by rw [hI.val]; exact Nat.le_trans (Nat.div_le_self _ _) hp.1
 have h1 : ∀ z : Int, (strOf [z]).size = 1 := fun z => rfl
 cbv; repeat' ((first | refine .q fun z hz hz0 hz1 => ?_ | refine .mk (fun h => ?_) fun h => ?_ | refine .k fun z hz => ?_ | refine .u fun u hu hul => ?_ | refine .s fun s hs hsl => ?_ | fail) <;> cbv)
 ·obtain rfl : z = nI (v / 10) := hz
  exact roundV ⟨(v / 10, u, n + 1), hI.step hp.1 hp.2 (by assumption) (by assumption) (by assumption) (.inl (by ((try simp only [vn] at *) <;> omega))) (by assumption) (by assumption), by simp only [List.length_cons, List.length_nil] at *; omega⟩ (lft_lt (by ((try simp only [vn] at *) <;> omega)))
 ·obtain rfl : z = nI (v / 10) := hz
  exact roundV ⟨(v / 10, u, n + 1), hI.step hp.1 hp.2 (by assumption) (by assumption) (by assumption) (.inr (by ((try simp only [vn] at *) <;> omega))) (by assumption) (by assumption), by simp only [List.length_cons, List.length_nil] at *; omega⟩ (lft_lt (by ((try simp only [vn] at *) <;> omega)))
 ·have hv0 : v = 0 := by ((try simp only [vn] at *) <;> omega)
  have hl0 : least - s.size = 0 := by ((try simp only [vn] at *) <;> omega)
  have he := hI.eq
  rw [hv0, hl0, wB_nil] at he
  exact FinK.mk ⟨_, Gh.refl _, .inl (CutK.val rfl (Le.refl _) (K_of hK (by rw [he]; congr 1)))⟩
theorem rmontext_body (P : Program) (hM : FnOk P 37 MoneyC) (hD : FnOk P 77 DigC) (hW : FnOk P 78 WholeC) : BodyOk P x41 (MonC monS) := by
 intro args H K hc
 obtain ⟨⟨c, a⟩, rfl, rfl, _, hK⟩ := hc
 refine ⟨Nat.le_of_ble_eq_true rfl, ?_⟩
 dsimp only at hK ⊢
 unfold monS at hK
 obtain ⟨b, hb⟩ : ∃ b, b = moneyB c a := ⟨_, rfl⟩
 rw [← hb] at hK
 have hd := digN_in c
 obtain ⟨d, hdd⟩ : ∃ d, d = digN c := ⟨_, rfl⟩
 rw [← hdd] at hd hK
 obtain ⟨q, hq⟩ : ∃ q, q = a.natAbs := ⟨_, rfl⟩
 rw [← hq] at hK
 cbv
 refine callG_spec0 hM (c, a) trivial rfl rfl rfl ?_
 try dsimp only
 rw [← hb]
 cases b
 ·cbv
  exact FinK.mk ⟨_, Gh.refl _, .inl (CutK.val rfl (Le.refl _) hK)⟩
 have hr := moneyB_rng hb
 have hc3 : c.size = 3 := by
  unfold moneyB curB at hb
  simp only [Bool.and_eq_true, decide_eq_true_eq, Eq.comm (a := true)] at hb
  exact hb.1.1.1
 clear hb
 have z0 : (ByteArray.mk (Array.mk [])).size = 0 := rfl
 have z32 : (ByteArray.mk (Array.mk [32])).size = 1 := rfl
 have z45 : (ByteArray.mk (Array.mk [45])).size = 1 := rfl
 have z46 : (ByteArray.mk (Array.mk [46])).size = 1 := rfl
 cbv; repeat' ((first | refine .mk (fun h => ?_) fun h => ?_ | refine .k fun z hz => ?_ | refine .u fun u hu hul => ?_ | fail) <;> cbv)
 all_goals
  refine callG_spec0 hD c trivial rfl rfl rfl ?_
  rw [← hdd]
  cbv
 ·have hK' : K (.str (u ++ ⟨(fracL d q).toArray⟩)) [] := by
   simp only [if_true, if_pos h] at hK
   rename_i v _ _
   exact K_of hK (by rw [hu]; congr 3)
  clear hK
  obtain rfl : z = nI q := by ((try simp only [vn] at *) <;> omega)
  refine xloopV [] (fun p : { p : Nat × Nat // p.1 ≤ d ∧ p.2 = 10 ^ p.1 } => [(7, .i (nI p.1.1)), (6, .i (nI p.1.2))]) (fun _ => [.blk 27 [.str c, .i a]]) (fun p => lft d p.1.1) ⟨(0, 1), Nat.zero_le _, rfl⟩ ?_
  rintro ⟨⟨i, un⟩, hi, hun⟩
  dsimp only at hi hun ⊢
  have hunb : 1 ≤ un ∧ un ≤ 1000 := by
   have h3 : i = 0 ∨ i = 1 ∨ i = 2 ∨ i = 3 := by omega
   rcases h3 with rfl | rfl | rfl | rfl <;> (rw [hun]; decide)
  cbv; repeat' ((first | refine .q fun z hz hz0 hz1 => ?_ | refine .mk (fun h => ?_) fun h => ?_ | refine .k fun z hz => ?_ | fail) <;> cbv)
  ·rename_i y hy
   obtain rfl : y = nI (un * 10) := by ((try simp only [vn] at *) <;> omega)
   obtain rfl : z = nI (i + 1) := by ((try simp only [vn] at *) <;> omega)
   exact roundV ⟨(i + 1, un * 10), by ((try simp only [vn] at *) <;> omega), by rw [hun, Nat.pow_succ]⟩ (lft_lt (by ((try simp only [vn] at *) <;> omega)))
  have hid : i = d := by ((try simp only [vn] at *) <;> omega)
  subst hid
  have hqq : q ≤ 1099511627776 := by ((try simp only [vn] at *) <;> omega)
  obtain ⟨v, hv⟩ : ∃ v, v = q / un := ⟨_, rfl⟩
  obtain rfl : z = nI v := by rw [hv]; exact hz
  have hvv : v ≤ 1099511627776 := by rw [hv]; exact Nat.le_trans (Nat.div_le_self _ _) hqq
  refine callG_spec0 hW (v, 1) ⟨hvv, Nat.le_of_ble_eq_true rfl⟩ rfl rfl rfl ?_
  have hs1 : (wB v 1).size ≤ 13 := by
   show (wholeL v 1).toArray.size ≤ 13
   rw [List.size_toArray, ← dec_whole]
   exact dec_len 13 _ (by omega) (Nat.lt_of_le_of_lt hvv (by decide))
  obtain ⟨w1, hw1⟩ : ∃ w, w = wB v 1 := ⟨_, rfl⟩
  rw [← hw1] at hs1 ⊢
  cbv; repeat' ((first | refine .q fun z hz hz0 hz1 => ?_ | refine .mk (fun h => ?_) fun h => ?_ | refine .u fun u hu hul => ?_ | fail) <;> cbv)
  ·obtain ⟨v2, hv2⟩ : ∃ v, v = q % un := ⟨_, rfl⟩
   obtain rfl : z = nI v2 := by rw [hv2]; exact hz
   have hi3 : i = 2 ∨ i = 3 := by simp only [vn] at *; omega
   have hv3 : v2 ≤ 1099511627776 := by rw [hv2]; exact Nat.le_trans (Nat.mod_le _ _) hqq
   refine callG_spec0 hW (v2, i) ⟨hv3, by show i ≤ 3; omega⟩ rfl rfl rfl ?_
   have hs2 : (wB v2 i).size ≤ 3 := by
    show (wholeL v2 i).toArray.size ≤ 3
    rw [List.size_toArray, whole_len i v2 (by rw [hv2, ← hun]; exact Nat.mod_lt _ (by omega))]
    omega
   obtain ⟨w2, hw2⟩ : ∃ w, w = wB v2 i := ⟨_, rfl⟩
   rw [← hw2] at hs2 ⊢
   cbv; repeat' ((first | refine .u fun u hu hul => ?_ | fail) <;> cbv)
   have hfr : (⟨(fracL i q).toArray⟩ : ByteArray) = w1 ++ (⟨⟨[46]⟩⟩ ++ w2) := by
    rw [hw1, hw2, hv, hv2, hun]
    unfold fracL wB
    rw [if_neg (by omega)]
    apply ByteArray.ext
    simp
   rw [hfr] at hK'
   exact FinK.mk ⟨_, Gh.refl _, .inl (CutK.val rfl (Le.refl _) (K_of hK' (by subst_vars; simp only [ByteArray.append_assoc]; rfl)))⟩
  ·have hi0 : i = 0 := by simp only [vn] at *; omega
   have hfr : (⟨(fracL i q).toArray⟩ : ByteArray) = w1 := by
    rw [hw1, hv, hun, hi0]
    unfold fracL wB
    rw [if_pos rfl, Nat.pow_zero, Nat.div_one]
   rw [hfr] at hK'
   exact FinK.mk ⟨_, Gh.refl _, .inl (CutK.val rfl (Le.refl _) (K_of hK' (by rw [hu]; rfl)))⟩
 ·have hK' : K (.str (u ++ ⟨(fracL d q).toArray⟩)) [] := by
   simp only [if_true, if_neg (show ¬ a < 0 by omega)] at hK
   exact K_of hK (by rw [hu]; congr 2; apply ByteArray.ext; simp)
  clear hK
  obtain rfl : a = nI q := by ((try simp only [vn] at *) <;> omega)
  refine xloopV [] (fun p : { p : Nat × Nat // p.1 ≤ d ∧ p.2 = 10 ^ p.1 } => [(7, .i (nI p.1.1)), (6, .i (nI p.1.2))]) (fun _ => [.blk 27 [.str c, .i (nI q)]]) (fun p => lft d p.1.1) ⟨(0, 1), Nat.zero_le _, rfl⟩ ?_
  rintro ⟨⟨i, un⟩, hi, hun⟩
  dsimp only at hi hun ⊢
  have hunb : 1 ≤ un ∧ un ≤ 1000 := by
   have h3 : i = 0 ∨ i = 1 ∨ i = 2 ∨ i = 3 := by omega
   rcases h3 with rfl | rfl | rfl | rfl <;> (rw [hun]; decide)
  cbv; repeat' ((first | refine .q fun z hz hz0 hz1 => ?_ | refine .mk (fun h => ?_) fun h => ?_ | refine .k fun z hz => ?_ | fail) <;> cbv)
  ·rename_i y hy
   obtain rfl : y = nI (un * 10) := by ((try simp only [vn] at *) <;> omega)
   obtain rfl : z = nI (i + 1) := by ((try simp only [vn] at *) <;> omega)
   exact roundV ⟨(i + 1, un * 10), by ((try simp only [vn] at *) <;> omega), by rw [hun, Nat.pow_succ]⟩ (lft_lt (by ((try simp only [vn] at *) <;> omega)))
  have hid : i = d := by ((try simp only [vn] at *) <;> omega)
  subst hid
  have hqq : q ≤ 1099511627776 := by ((try simp only [vn] at *) <;> omega)
  obtain ⟨v, hv⟩ : ∃ v, v = q / un := ⟨_, rfl⟩
  obtain rfl : z = nI v := by rw [hv]; exact hz
  have hvv : v ≤ 1099511627776 := by rw [hv]; exact Nat.le_trans (Nat.div_le_self _ _) hqq
  refine callG_spec0 hW (v, 1) ⟨hvv, Nat.le_of_ble_eq_true rfl⟩ rfl rfl rfl ?_
  have hs1 : (wB v 1).size ≤ 13 := by
   show (wholeL v 1).toArray.size ≤ 13
   rw [List.size_toArray, ← dec_whole]
   exact dec_len 13 _ (by omega) (Nat.lt_of_le_of_lt hvv (by decide))
  obtain ⟨w1, hw1⟩ : ∃ w, w = wB v 1 := ⟨_, rfl⟩
  rw [← hw1] at hs1 ⊢
  cbv; repeat' ((first | refine .q fun z hz hz0 hz1 => ?_ | refine .mk (fun h => ?_) fun h => ?_ | refine .u fun u hu hul => ?_ | fail) <;> cbv)
  ·obtain ⟨v2, hv2⟩ : ∃ v, v = q % un := ⟨_, rfl⟩
   obtain rfl : z = nI v2 := by rw [hv2]; exact hz
   have hi3 : i = 2 ∨ i = 3 := by simp only [vn] at *; omega
   have hv3 : v2 ≤ 1099511627776 := by rw [hv2]; exact Nat.le_trans (Nat.mod_le _ _) hqq
   refine callG_spec0 hW (v2, i) ⟨hv3, by show i ≤ 3; omega⟩ rfl rfl rfl ?_
   have hs2 : (wB v2 i).size ≤ 3 := by
    show (wholeL v2 i).toArray.size ≤ 3
    rw [List.size_toArray, whole_len i v2 (by rw [hv2, ← hun]; exact Nat.mod_lt _ (by omega))]
    omega
   obtain ⟨w2, hw2⟩ : ∃ w, w = wB v2 i := ⟨_, rfl⟩
   rw [← hw2] at hs2 ⊢
   cbv; repeat' ((first | refine .u fun u hu hul => ?_ | fail) <;> cbv)
   have hfr : (⟨(fracL i q).toArray⟩ : ByteArray) = w1 ++ (⟨⟨[46]⟩⟩ ++ w2) := by
    rw [hw1, hw2, hv, hv2, hun]
    unfold fracL wB
    rw [if_neg (by omega)]
    apply ByteArray.ext
    simp
   rw [hfr] at hK'
   exact FinK.mk ⟨_, Gh.refl _, .inl (CutK.val rfl (Le.refl _) (K_of hK' (by subst_vars; simp only [ByteArray.append_assoc]; rfl)))⟩
  ·have hi0 : i = 0 := by simp only [vn] at *; omega
   have hfr : (⟨(fracL i q).toArray⟩ : ByteArray) = w1 := by
    rw [hw1, hv, hun, hi0]
    unfold fracL wB
    rw [if_pos rfl, Nat.pow_zero, Nat.div_one]
   rw [hfr] at hK'
   exact FinK.mk ⟨_, Gh.refl _, .inl (CutK.val rfl (Le.refl _) (K_of hK' (by rw [hu]; rfl)))⟩
end Go.Proofs.YtblkcnmecfppnaaGreatDoor
/-
 The reference's papers; its digits; a law's 'short'.
-/
namespace Go.Proofs.YtblkcnmecfppnaaGreatDoor
open Go.RowKit
set_option maxHeartbeats 4000000
set_option maxRecDepth 100000
def FldC : Ctr := spec (fun f : Fd => [.agg [.str f.name, .str f.value]]) (fun _ => []) (fun f => f.name.size ≤ maxLen) (fun f => .bl (mayF f)) fun _ => []
theorem rfmay_body (P : Program) (hn : FnOk P 33 (StrC shortS nameB)) : BodyOk P x40 FldC := by
 intro args H K hc
 obtain ⟨⟨n, v⟩, rfl, rfl, hp, hK⟩ := hc
 refine ⟨Nat.le_of_ble_eq_true rfl, ?_⟩
 unfold mayF at hK
 dsimp only at hp hK ⊢
 obtain ⟨b, hb⟩ : ∃ b, b = nameB n := ⟨_, rfl⟩
 rw [← hb] at hK
 cbv
 refine callG_spec0 hn n hp rfl rfl rfl ?_
 rw [← hb]
 cases b
 ·cbv
  exact FinK.mk ⟨_, Gh.refl _, .inl (CutK.val rfl (Le.refl _) (K_bl hK (by rfl)))⟩
 ·cbv; repeat' ((first | refine .mk (fun h => ?_) fun h => ?_ | refine .k fun z hz => ?_ | fail) <;> cbv)
  all_goals exact FinK.mk ⟨_, Gh.refl _, .inl (CutK.val rfl (Le.refl _) (K_bl hK (by (simp; ((try simp only [vn] at *) <;> omega)))))⟩
def paperB (d : Dc) : Bool := d.fields.all mayF && !decide (kindS d.kind = ⟨#[]⟩) && decide (d.number.size ≤ 4096) && decide (d.issuer.size ≤ 4096) && decide (d.fields.length ≤ 61)
theorem isDocB_eq (d : Dc) : isDocB d = (paperB d && decide ((textS (recP d)).length ≤ 4096)) := by
 by_cases hr : docR d = true
 ·have hc : docC d = textC (recP d) := by unfold docC; rw [if_pos hr]
  have hs : docS d = textS (recP d) := by unfold docS; rw [if_pos hr]
  unfold isDocB
  rw [hc, hs]
  congr 1
  unfold docR at hr
  simp only [Bool.and_eq_true, decide_eq_true_eq] at hr
  have hk : decide (kindS d.kind = ⟨#[]⟩) = false := by
   have h6 : d.kind = 0 ∨ d.kind = 1 ∨ d.kind = 2 ∨ d.kind = 3 ∨ d.kind = 4 ∨ d.kind = 5 := by omega
   rcases h6 with h | h | h | h | h | h <;> rw [h] <;> decide
  have hk2 : (kindS d.kind).size ≤ 4096 := by
   have h6 : d.kind = 0 ∨ d.kind = 1 ∨ d.kind = 2 ∨ d.kind = 3 ∨ d.kind = 4 ∨ d.kind = 5 := by omega
   rcases h6 with h | h | h | h | h | h <;> rw [h] <;> decide
  unfold paperB textC
  rw [hk, decide_eq_true hr.2, if_neg (by unfold recP; simp only [List.length_cons]; omega)]
  have e : (recP d).all mayF = (decide (d.number.size ≤ 4096) && (decide (d.issuer.size ≤ 4096) && d.fields.all mayF)) := by
   unfold recP
   simp only [List.all_cons]
   have a1 : mayF ⟨⟨#[112, 97, 112, 101, 114]⟩, kindS d.kind⟩ = true := by
    unfold mayF
    rw [decide_eq_true hk2]
    rfl
   have a2 : ∀ v : ByteArray, mayF ⟨⟨#[110, 117, 109, 98, 101, 114]⟩, v⟩ = decide (v.size ≤ 4096) := fun v => by
    unfold mayF
    rw [show nameB ⟨#[110, 117, 109, 98, 101, 114]⟩ = true from by decide, Bool.true_and]
   have a3 : ∀ v : ByteArray, mayF ⟨⟨#[105, 115, 115, 117, 101, 114]⟩, v⟩ = decide (v.size ≤ 4096) := fun v => by
    unfold mayF
    rw [show nameB ⟨#[105, 115, 115, 117, 101, 114]⟩ = true from by decide, Bool.true_and]
   rw [a1, a2, a3, Bool.true_and]
  rw [e]
  cases d.fields.all mayF <;> cases decide (d.number.size ≤ 4096) <;> cases decide (d.issuer.size ≤ 4096) <;> rfl
 ·have hc : docC d = 1 := by unfold docC; rw [if_neg hr]
  have h1 : isDocB d = false := by unfold isDocB; rw [hc]; rfl
  have h2 : paperB d = false := by
   unfold docR at hr
   simp only [Bool.and_eq_true, decide_eq_true_eq] at hr
   unfold paperB
   by_cases hl : d.fields.length ≤ 61
   ·have hk : kindS d.kind = ⟨#[]⟩ := by
     rcases kind_ways d.kind with ⟨_, e⟩ | ⟨_, e⟩ | h
     ·exact e
     ·exact e
     ·omega
    rw [hk]
    simp
   ·rw [decide_eq_false hl, Bool.and_false]
  rw [h1, h2, Bool.false_and]
theorem paper_body (P : Program) (hm : FnOk P 40 FldC) (hkk : FnOk P 66 KindSC) : BodyOk P x38 (DocP paperB) := by
 intro args H K hc
 obtain ⟨⟨kind, number, issuer, fields⟩, rfl, rfl, hp, hK⟩ := hc
 refine ⟨Nat.le_of_ble_eq_true rfl, ?_⟩
 unfold paperB at hK
 dsimp only at hK hp ⊢
 have hl := mapA_len FdA fields
 have hlm : fields.length ≤ 9223372036854775807 := hp.len
 have bad : ∀ i (h : i < fields.length), mayF fields[i] = false → K (.bl false) [] := fun i h e => by
  have : fields.all mayF = false := by
   rw [List.all_eq_false]
   exact ⟨_, List.getElem_mem h, by rw [e]; decide⟩
  rw [this] at hK
  exact hK
 have good : (∀ i (h : i < fields.length), mayF fields[i] = true) → K (.bl (!decide (kindS kind = ⟨#[]⟩) && decide (number.size ≤ 4096) && decide (issuer.size ≤ 4096) && decide (fields.length ≤ 61))) [] := fun h => by
  have : fields.all mayF = true := by
   rw [List.all_eq_true]
   intro x hx
   obtain ⟨i, hi, rfl⟩ := List.getElem_of_mem hx
   exact h i hi
  rw [this, Bool.true_and] at hK
  exact hK
 clear hK
 obtain ⟨s, hs⟩ : ∃ s, s = kindS kind := ⟨_, rfl⟩
 rw [← hs] at good
 obtain ⟨n, hn⟩ : ∃ n, n = fields.length := ⟨_, rfl⟩
 cbv
 refine xloopV [] (fun p : { k : Nat // k ≤ fields.length ∧ ∀ i (h : i < fields.length), i < k → mayF fields[i] = true } => [(3, .i (nI p.1))]) (fun _ => [.blk 60 [.i kind, .str number, .str issuer, .sl 2 (mapA FdA fields)]]) (fun p => lft n p.1) ⟨0, Nat.zero_le _, fun _ _ h => absurd h (by omega)⟩ ?_
 rintro ⟨k, hk, hf⟩
 dsimp only
 cbv; repeat' ((first | refine .mk (fun h => ?_) fun h => ?_ | refine .k fun z hz => ?_ | fail) <;> cbv)
 ·have hkl : k < fields.length := by ((try simp only [vn] at *) <;> omega)
  refine askEl_int (by ((try simp only [vn] at *) <;> omega)) (by ((try simp only [vn] at *) <;> omega)) fun i x hi hx => ?_
  obtain rfl : k = i := by ((try simp only [vn] at *) <;> omega)
  have hxe : x = fields[k] := by rw [List.getElem?_eq_getElem hkl] at hx; exact (Option.some.inj hx).symm
  have hxn : x.name.size ≤ maxLen := hp.each x (List.mem_of_getElem? hx)
  obtain ⟨b, hb⟩ : ∃ b, b = mayF x := ⟨_, rfl⟩
  have bad' : b = false → K (.bl false) [] := fun h => bad k hkl (by rw [← hxe, ← hb, h])
  have nxt : b = true → ∀ i (h : i < fields.length), i < k + 1 → mayF fields[i] = true := fun hbt i hi hik => by
   by_cases e : i = k
   ·subst e; rw [← hxe, ← hb, hbt]
   ·exact hf i hi (by omega)
  clear hx hxe
  obtain ⟨nm, vl⟩ := x
  cbv
  refine callG_spec0 hm ⟨nm, vl⟩ hxn rfl rfl rfl ?_
  rw [← hb]
  cases b
  ·cbv
   exact FinK.mk ⟨_, Gh.refl _, .inl (CutK.val rfl (Le.refl _) (bad' rfl))⟩
  ·cbv; repeat' ((first | refine .k fun z hz => ?_ | fail) <;> cbv)
   obtain rfl : z = nI (k + 1) := by ((try simp only [vn] at *) <;> omega)
   exact roundV ⟨k + 1, hkl, nxt rfl⟩ (lft_lt (by ((try simp only [vn] at *) <;> omega)))
 have hK1 := good fun i hi => hf i hi (by ((try simp only [vn] at *) <;> omega))
 have yes : ¬ s = ⟨⟨[]⟩⟩ → number.size ≤ 4096 → issuer.size ≤ 4096 → fields.length ≤ 61 → K (.bl true) [] := fun h1 h2 h3 h4 => K_bl hK1 (by rw [decide_eq_false h1, decide_eq_true h2, decide_eq_true h3, decide_eq_true h4]; rfl)
 have no : (s = ⟨⟨[]⟩⟩ ∨ (4096 < number.size ∨ 4096 < issuer.size ∨ 61 < fields.length)) → K (.bl false) [] := fun h => K_bl hK1 (by
  rcases h with h | h | h | h
  ·rw [decide_eq_true h]; rfl
  ·rw [decide_eq_false (show ¬ number.size ≤ 4096 by omega), Bool.and_false]; rfl
  ·rw [decide_eq_false (show ¬ issuer.size ≤ 4096 by omega), Bool.and_false]; rfl
  ·rw [decide_eq_false (show ¬ fields.length ≤ 61 by omega), Bool.and_false])
 clear good bad hK1
 refine callG_spec0 hkk kind trivial rfl rfl rfl ?_
 rw [← hs]
 cbv; repeat' ((first | refine .mk (fun h => ?_) fun h => ?_ | refine .k fun z hz => ?_ | fail) <;> cbv)
 all_goals first | exact FinK.mk ⟨_, Gh.refl _, .inl (CutK.val rfl (Le.refl _) (yes (by assumption) (by ((try simp only [vn] at *) <;> omega)) (by ((try simp only [vn] at *) <;> omega)) (by ((try simp only [vn] at *) <;> omega))))⟩ | exact FinK.mk ⟨_, Gh.refl _, .inl (CutK.val rfl (Le.refl _) (no (.inl (by assumption))))⟩ | exact FinK.mk ⟨_, Gh.refl _, .inl (CutK.val rfl (Le.refl _) (no (.inr (by ((try simp only [vn] at *) <;> omega)))))⟩
/-- A contract whose answer is no, or yes where something is so. -/
def boolC {ι : Type} (a : ι → List AV) (p q : ι → Prop) : Ctr := fun args H K => ∃ i, args = a i ∧ H = [] ∧ p i ∧ (q i → K (.bl true) []) ∧ K (.bl false) []
theorem callG_boolC {P : Program} {f : Nat} {ι : Type} {a : ι → List AV} {p q : ι → Prop} (hf : FnOk P f (boolC a p q)) (i : ι) {keep : List Nat} {st : St} {K : AV → St → Prop} (hp : p i) (hb : AV.bndL 0 (a i) = true) (hk : (keep.all fun k => Nat.blt k st.H.length) = true) (hT : q i → K (.bl true) st) (hF : K (.bl false) st) : CallG P keep f (a i) st K :=
 callG_pure hf (fun _ _ _ _ hk ⟨i, h1, h2, h3, h4, h5⟩ => ⟨i, h1, h2, h3, fun h => hk _ _ (h4 h), hk _ _ h5⟩) hb (fun k hkk => by have := List.all_eq_true.1 hk k hkk; simpa [Nat.blt_eq] using this) ⟨i, rfl, rfl, hp, fun h => ⟨rfl, rfl, hT h⟩, rfl, rfl, hF⟩
noncomputable def ShortC : Ctr := boolC (fun l : Lt => [LtA l]) SmallL (fun l => l.docs.length ≤ 12 ∧ l.boxes.length ≤ 60)
theorem short_body (P : Program) : BodyOk P x12 ShortC := by
 intro args H K hc
 obtain ⟨⟨frm, to, number, kind, ack, deal, text, party, index, day, cur, amt, docs, boxes⟩, rfl, rfl, hp, hT, hF⟩ := hc
 refine ⟨Nat.le_of_ble_eq_true rfl, ?_⟩
 dsimp only at hT hF hp ⊢
 have hl1 := mapA_len DcA docs
 have hl2 := mapA_len AV.str boxes
 obtain ⟨nd, hnd⟩ : ∃ n, n = docs.length := ⟨_, rfl⟩
 have hd9 : docs.length ≤ 9223372036854775807 := hp.docs.len
 have hb9 : boxes.length ≤ 9223372036854775807 := hp.boxes.len
 cbv; repeat' ((first | (first | refine .k fun z hz => ?_ | fail) | refine AddK.w fun z hz => ?_) <;> cbv)
 refine xloopV [] (fun p : { p : Nat × Int // p.1 ≤ docs.length } => [(3, .i p.1.2), (32, .i (nI p.1.1))]) (fun _ => [.blk 31 [.str frm, .str to, .i number, .i kind, .i ack, .str deal, .str text, .str party, .i index, .i day, .str cur, .i amt, .sl 4 (mapA DcA docs), .sl 1 (mapA .str boxes)]]) (fun p => lft nd p.1.1) ⟨(0, _), Nat.zero_le _⟩ ?_
 rintro ⟨⟨k, n⟩, hk⟩
 dsimp only at hk ⊢
 cbv; repeat' ((first | (first | refine .mk (fun h => ?_) fun h => ?_ | refine .k fun z hz => ?_ | fail) | refine AddK.w fun z hz => ?_) <;> cbv)
 ·have hkl : k < docs.length := by ((try simp only [vn] at *) <;> omega)
  refine askEl_int (by ((try simp only [vn] at *) <;> omega)) (by ((try simp only [vn] at *) <;> omega)) fun i x hi hx => ?_
  obtain rfl : k = i := by ((try simp only [vn] at *) <;> omega)
  have hxn : NamesS x.fields := hp.docs.each x (List.mem_of_getElem? hx)
  clear hx
  obtain ⟨k1, n1, is1, fs1⟩ := x
  dsimp only at hxn
  have hl3 := mapA_len FdA fs1
  have hf9 : fs1.length ≤ 9223372036854775807 := hxn.len
  obtain ⟨nf, hnf⟩ : ∃ n, n = fs1.length := ⟨_, rfl⟩
  cbv; repeat' ((first | (first | refine .k fun z hz => ?_ | fail) | refine AddK.w fun z hz => ?_) <;> cbv)
  refine xloopV [] (fun p : { p : Nat × Int // p.1 ≤ fs1.length } => [(3, .i p.1.2), (48, .i (nI p.1.1))]) (fun _ => [.blk 31 [.str frm, .str to, .i number, .i kind, .i ack, .str deal, .str text, .str party, .i index, .i day, .str cur, .i amt, .sl 4 (mapA DcA docs), .sl 1 (mapA .str boxes)], .blk 60 [.i k1, .str n1, .str is1, .sl 2 (mapA FdA fs1)]]) (fun p => lft nf p.1.1) ⟨(0, _), Nat.zero_le _⟩ ?_
  rintro ⟨⟨j, m⟩, hj⟩
  dsimp only at hj ⊢
  cbv; repeat' ((first | (first | refine .mk (fun h => ?_) fun h => ?_ | refine .k fun z hz => ?_ | fail) | refine AddK.w fun z hz => ?_) <;> cbv)
  ·have hjl : j < fs1.length := by ((try simp only [vn] at *) <;> omega)
   refine askEl_int (by ((try simp only [vn] at *) <;> omega)) (by ((try simp only [vn] at *) <;> omega)) fun i x hi hx => ?_
   obtain rfl : j = i := by ((try simp only [vn] at *) <;> omega)
   clear hx
   obtain ⟨fn, fv⟩ := x
   cbv; repeat' ((first | (first | refine .k fun z hz => ?_ | fail) | refine AddK.w fun z hz => ?_) <;> cbv)
   obtain rfl : z = nI (j + 1) := by ((try simp only [vn] at *) <;> omega)
   exact roundV ⟨(j + 1, _), hjl⟩ (lft_lt (by ((try simp only [vn] at *) <;> omega)))
  all_goals first
   | exact FinK.mk ⟨_, Gh.refl _, .inl (CutK.val rfl (Le.refl _) hF)⟩
   | (obtain rfl : z = nI (k + 1) := by ((try simp only [vn] at *) <;> omega)
      exact roundV ⟨(k + 1, _), hkl⟩ (lft_lt (by ((try simp only [vn] at *) <;> omega))))
   | fail
 obtain ⟨nb, hnb⟩ : ∃ n, n = boxes.length := ⟨_, rfl⟩
 refine xloopV [] (fun p : { p : Nat × Int // p.1 ≤ boxes.length } => [(3, .i p.1.2), (74, .i (nI p.1.1))]) (fun _ => [.blk 31 [.str frm, .str to, .i number, .i kind, .i ack, .str deal, .str text, .str party, .i index, .i day, .str cur, .i amt, .sl 4 (mapA DcA docs), .sl 1 (mapA .str boxes)]]) (fun p => lft nb p.1.1) ⟨(0, _), Nat.zero_le _⟩ ?_
 rintro ⟨⟨j, m⟩, hj⟩
 dsimp only at hj ⊢
 cbv; repeat' ((first | (first | refine .mk (fun h => ?_) fun h => ?_ | refine .k fun z hz => ?_ | fail) | refine AddK.w fun z hz => ?_) <;> cbv)
 ·refine askEl_int (by ((try simp only [vn] at *) <;> omega)) (by ((try simp only [vn] at *) <;> omega)) fun i x hi hx => ?_
  obtain rfl : j = i := by ((try simp only [vn] at *) <;> omega)
  have hjl : j < boxes.length := (List.getElem?_eq_some_iff.1 hx).1
  clear hx
  cbv; repeat' ((first | (first | refine .k fun z hz => ?_ | fail) | refine AddK.w fun z hz => ?_) <;> cbv)
  obtain rfl : z = nI (j + 1) := by ((try simp only [vn] at *) <;> omega)
  exact roundV ⟨(j + 1, _), hjl⟩ (lft_lt (by ((try simp only [vn] at *) <;> omega)))
 all_goals first | exact FinK.mk ⟨_, Gh.refl _, .inl (CutK.val rfl (Le.refl _) hF)⟩ | exact FinK.mk ⟨_, Gh.refl _, .inl (CutK.val rfl (Le.refl _) (hT ⟨by ((try simp only [vn] at *) <;> omega), by ((try simp only [vn] at *) <;> omega)⟩))⟩ | fail
end Go.Proofs.YtblkcnmecfppnaaGreatDoor
/-
 The reference's digits of a number; a field of a number.
-/
namespace Go.Proofs.YtblkcnmecfppnaaGreatDoor
open Go.RowKit
set_option maxHeartbeats 4000000
set_option maxRecDepth 100000
def DigK (k : Nat) : Ctr := spec (fun n : Int => [.i n]) (fun _ => []) (fun n => n.natAbs = k ∧ -9223372036854775808 ≤ n ∧ n ≤ 9223372036854775807) (fun n => .str (itoS n)) fun _ => []
theorem strOf_one {z : Int} {d : Nat} (hd : d < 10) (h : z = IntKind.u8.wrap (48 + (d : Int))) : strOf [z] = ⟨#[UInt8.ofNat (48 + d)]⟩ := by
 have e : z = ((48 + d : Nat) : Int) := by rw [h, IntKind.wrap_u8]; omega
 rw [e]; rfl
theorem itoS_small {n : Int} (h0 : 0 ≤ n) (h1 : n < 10) {z1 z : Int} (e1 : z1 = 48 + n) (e2 : z = IntKind.u8.wrap z1) : itoS n = strOf [z] := by
 obtain ⟨m, rfl⟩ : ∃ m : Nat, n = m := ⟨n.toNat, by omega⟩
 rw [strOf_one (d := m) (by omega) (by rw [e2, e1])]
 unfold itoS
 rw [Lib.itoa_nonneg, dec_lt m (by omega)]
theorem itoS_big {n : Int} (h0 : 10 ≤ n) {q r z1 z : Int} (eq : q = n.tdiv 10) (er : r = n.tmod 10) (e1 : z1 = 48 + r) (e2 : z = IntKind.u8.wrap z1) : itoS n = itoS q ++ strOf [z] := by
 obtain ⟨m, rfl⟩ : ∃ m : Nat, n = m := ⟨n.toNat, by omega⟩
 have er' : r = ((m % 10 : Nat) : Int) := er
 have eq' : q = ((m / 10 : Nat) : Int) := eq
 rw [strOf_one (d := m % 10) (by omega) (by rw [e2, e1, er']), eq']
 unfold itoS
 rw [Lib.itoa_nonneg, Lib.itoa_nonneg, dec_ge m (by omega)]
 apply ByteArray.ext
 simp
theorem itoS_nsmall {n : Int} (h0 : n < 0) (h1 : -10 < n) {z1 z : Int} (e1 : z1 = 48 - n) (e2 : z = IntKind.u8.wrap z1) : itoS n = ⟨⟨[45]⟩⟩ ++ strOf [z] := by
 obtain ⟨m, rfl⟩ : ∃ m : Nat, n = -(m : Int) := ⟨n.natAbs, by omega⟩
 rw [strOf_one (d := m) (by omega) (by rw [e2, e1]; congr 1; omega)]
 unfold itoS
 rw [Lib.itoa_neg m (by omega), dec_lt m (by omega)]
 apply ByteArray.ext
 simp
theorem itoS_nbig {n : Int} (h0 : n ≤ -10) {q r z1 z : Int} (eq : q = n.tdiv 10) (er : r = n.tmod 10) (e1 : z1 = 48 - r) (e2 : z = IntKind.u8.wrap z1) : itoS n = itoS q ++ strOf [z] := by
 obtain ⟨m, rfl⟩ : ∃ m : Nat, n = -(m : Int) := ⟨n.natAbs, by omega⟩
 have er' : r = -((m % 10 : Nat) : Int) := by rw [er, Int.neg_tmod]; rfl
 have eq' : q = -((m / 10 : Nat) : Int) := by rw [eq, Int.neg_tdiv]; rfl
 rw [strOf_one (d := m % 10) (by omega) (by rw [e2, e1, er']; congr 1; omega), eq']
 unfold itoS
 rw [Lib.itoa_neg m (by omega), Lib.itoa_neg (m / 10) (by omega), dec_ge m (by omega)]
 apply ByteArray.ext
 simp
theorem tdiv10 (n : Int) : (n.tdiv 10).natAbs = n.natAbs / 10 := by
 rw [Int.natAbs_tdiv]; rfl
theorem itoS_size {q : Int} (h : q.natAbs < 100000000000000000000) : (itoS q).size ≤ 21 := by
 have hd := dec_len 20 q.natAbs (by omega) h
 have : (itoS q).size = (Lib.itoa q).length := by simp [itoS, ByteArray.size]
 rw [this]
 unfold Lib.itoa
 split
 ·simp only [List.length_cons]; omega
 ·rw [show q.toNat = q.natAbs by omega]; omega
theorem rdig_step (P : Program) (k : Nat) (ih : ∀ m, m < k → FnOk P 79 (DigK m)) : BodyOk P x79 (DigK k) := by
 intro args H K hc
 obtain ⟨n, rfl, rfl, hp, hK⟩ := hc
 refine ⟨Nat.le_of_ble_eq_true rfl, ?_⟩
 dsimp only at hK hp ⊢
 have hq := tdiv10 n
 have h1 : ∀ z : Int, (strOf [z]).size = 1 := fun z => rfl
 have z45 : (ByteArray.mk (Array.mk [45])).size = 1 := rfl
 have qk : ∀ {K : Int → Prop}, (∀ q, q = n.tdiv 10 → q.natAbs = n.natAbs / 10 → K q) → QuoK .i64 n 10 K := fun h => ⟨⟨by decide, IntWalk.i64_in _ (by omega)⟩, fun z hz => h z hz (by rw [hz]; exact hq)⟩
 have rk : ∀ {K : Int → Prop}, (∀ r, r = n.tmod 10 → r.natAbs < 10 → K r) → RemK n 10 K := fun h => ⟨by decide, fun z hz => h z hz (by rw [hz, Int.natAbs_tmod]; exact Nat.mod_lt _ (by decide))⟩
 have small : ∀ q : Int, q.natAbs = n.natAbs / 10 → -9223372036854775808 ≤ q ∧ q ≤ 9223372036854775807 ∧ (itoS q).size ≤ 21 := fun q h => ⟨by omega, by omega, itoS_size (by omega)⟩
 cbv; repeat' ((first | refine .q fun z hz hz0 hz1 => ?_ | refine .mk (fun h => ?_) fun h => ?_ | refine .k fun z hz => ?_ | refine .u fun u hu hul => ?_ | refine .s fun s hs hsl => ?_ | refine And.intro ?_ ?_ | fail) <;> cbv)
 ·exact FinK.mk ⟨_, Gh.refl _, .inl (CutK.val rfl (Le.refl _) (K_s hK (by rw [itoS_nsmall (by assumption) (by assumption) (by assumption) (by assumption)]; subst_vars; rfl)))⟩
 ·refine qk fun q hq1 hq2 => ?_
  cbv
  refine rk fun r hr1 hr2 => ?_
  obtain ⟨sm1, sm2, sm3⟩ := small q hq2
  cbv; repeat' ((first | refine .k fun z hz => ?_ | refine .s fun s hs hsl => ?_ | refine And.intro ?_ ?_ | fail) <;> cbv)
  ·refine callG_spec0 (ih q.natAbs (by omega)) q ⟨rfl, sm1, sm2⟩ rfl rfl rfl ?_
   obtain ⟨w, hw⟩ : ∃ w, w = itoS q := ⟨_, rfl⟩
   rw [← hw] at sm3 ⊢
   cbv; repeat' ((first | refine .u fun u hu hul => ?_ | refine .s fun s hs hsl => ?_ | fail) <;> cbv)
   exact FinK.mk ⟨_, Gh.refl _, .inl (CutK.val rfl (Le.refl _) (K_s hK (by rw [itoS_nbig (by assumption) hq1 hr1 (by assumption) (by assumption), ← hw]; subst_vars; rfl)))⟩
  ·refine callG_spec0 (ih q.natAbs (by omega)) q ⟨rfl, sm1, sm2⟩ rfl rfl rfl ?_
   obtain ⟨w, hw⟩ : ∃ w, w = itoS q := ⟨_, rfl⟩
   rw [← hw] at sm3 ⊢
   cbv; repeat' ((first | refine .u fun u hu hul => ?_ | fail) <;> cbv)
   exact FinK.mk ⟨_, Gh.refl _, .inl (CutK.val rfl (Le.refl _) (K_s hK (by rw [itoS_nbig (by assumption) hq1 hr1 (by assumption) (by assumption), ← hw]; subst_vars; rfl)))⟩
 ·exact FinK.mk ⟨_, Gh.refl _, .inl (CutK.val rfl (Le.refl _) (K_s hK (by rw [itoS_small (by assumption) (by assumption) (by assumption) (by assumption)]; subst_vars; rfl)))⟩
 all_goals
  rename_i q hq1 _ _ r hr1 _ _
  obtain ⟨sm1, sm2, sm3⟩ := small q (by rw [hq1]; exact hq)
  have hq2 : q.natAbs = n.natAbs / 10 := by rw [hq1]; exact hq
  refine callG_spec0 (ih q.natAbs (by omega)) q ⟨rfl, sm1, sm2⟩ rfl rfl rfl ?_
  obtain ⟨w, hw⟩ : ∃ w, w = itoS q := ⟨_, rfl⟩
  rw [← hw] at sm3 ⊢
  cbv; repeat' ((first | refine .u fun u hu hul => ?_ | refine .s fun s hs hsl => ?_ | fail) <;> cbv)
  exact FinK.mk ⟨_, Gh.refl _, .inl (CutK.val rfl (Le.refl _) (K_s hK (by rw [itoS_big (by assumption) hq1 hr1 (by assumption) (by assumption), ← hw]; subst_vars; rfl)))⟩
theorem k_rdig {P : Program} (h : cFn P 79 = some x79) : FnOk P 79 (ItoC itoS) := by
 have key : ∀ k, FnOk P 79 (DigK k) := fun k => by
  induction k using Nat.strongRecOn with
  | _ k ih => exact body_ok h (rdig_step P k ih)
 intro args H K ⟨n, h1, h2, h3, h4⟩
 exact key n.natAbs args H K ⟨n, h1, h2, ⟨rfl, h3⟩, h4⟩
def NumFC : Ctr := spec (fun q : ByteArray × Int => [.str q.1, .i q.2]) (fun _ => []) (fun q => -9223372036854775808 ≤ q.2 ∧ q.2 ≤ 9223372036854775807) (fun q => .agg [.str q.1, .str (itoS q.2)]) fun _ => []
theorem number_body (P : Program) (hD : FnOk P 79 (ItoC itoS)) : BodyOk P x42 NumFC := by
 intro args H K hc
 obtain ⟨⟨nm, n⟩, rfl, rfl, hp, hK⟩ := hc
 refine ⟨Nat.le_of_ble_eq_true rfl, ?_⟩
 dsimp only at hK hp ⊢
 obtain ⟨w, hw⟩ : ∃ w, w = itoS n := ⟨_, rfl⟩
 rw [← hw] at hK
 cbv
 refine callG_spec0 hD n hp rfl rfl rfl ?_
 rw [← hw]
 cbv
 refine FinK.mk ⟨_, Gh.refl _, ?_⟩
 cbv
 exact .inl (CutK.val rfl (Le.refl _) hK)
end Go.Proofs.YtblkcnmecfppnaaGreatDoor
/-
 The reference's May of letters: the same as the program's.
-/
namespace Go.Proofs.YtblkcnmecfppnaaGreatDoor
open Go.RowKit
set_option maxHeartbeats 8000000
set_option maxRecDepth 100000
theorem kindN_dec (k : Int) : fromB k 0 28 = !decide (kindN k = ⟨#[]⟩) := by
 by_cases h : 0 ≤ k ∧ k ≤ 28
 ·have e : fromB k 0 28 = true := by unfold fromB; rw [decide_eq_true h.1, decide_eq_true h.2]; rfl
  have key : ∀ j : Nat, j < 29 → decide (kindN (Int.ofNat j) = ⟨#[]⟩) = false := by decide +kernel
  obtain ⟨j, rfl⟩ : ∃ j : Nat, k = Int.ofNat j := ⟨k.toNat, by simp only [Int.ofNat_eq_natCast]; omega⟩
  rw [e, key j (by have := h.2; simp only [Int.ofNat_eq_natCast] at this; omega)]; rfl
 ·rw [kindN_out (by omega)]
  unfold fromB
  rcases (show k < 0 ∨ 28 < k by omega) with h1 | h1
  ·rw [decide_eq_false (by omega : ¬ (0 : Int) ≤ k)]; rfl
  ·rw [decide_eq_false (by omega : ¬ k ≤ (28 : Int)), Bool.and_false]; rfl
theorem any_of {α : Type} {p : α → Bool} {l : List α} {k : Nat} {x : α} (hx : l[k]? = some x) (h : p x = true) : l.any p = true := List.any_eq_true.2 ⟨x, List.mem_of_getElem? hx, h⟩
theorem none_of {α : Type} {p : α → Bool} {l : List α} (h : NoneTo p l l.length) : l.any p = false := by
 rw [← idxP_any, idxP_none h]; rfl
theorem rmay_body (P : Program) (hN : FnOk P 33 (StrC shortS nameB)) (hB : FnOk P 34 FromD) (hNN : FnOk P 35 (StrC shortS noneB)) (hO : FnOk P 36 NoneC)
  (hM : FnOk P 37 MoneyC) (hPa : FnOk P 38 (DocP paperB)) (hT : FnOk P 15 TextC) (hR : FnOk P 39 RecC) : BodyOk P x14 (LtP mayB) := by
 intro args H K hc
 obtain ⟨l, rfl, rfl, hp, hK⟩ := hc
 refine ⟨Nat.le_of_ble_eq_true rfl, ?_⟩
 obtain ⟨h1, h2, h3, h4, h5, h6, h7⟩ := hp
 unfold mayB at hK
 unfold bareB zeroS at hK
 dsimp only at hK
 rw [← kindN_dec] at hK
 obtain ⟨frm, to, number, kind, ack, deal, text, party, index, day, cur, amt, docs, boxes⟩ := l
 dsimp only at hK h1 h2 h3 h4 h5 h6 h7 ⊢
 have hl1 := mapA_len DcA docs
 have hl2 := mapA_len AV.str boxes
 obtain ⟨b1, e_b1⟩ : ∃ b, b = (nameB frm) := ⟨_, rfl⟩
 obtain ⟨b2, e_b2⟩ : ∃ b, b = (nameB to) := ⟨_, rfl⟩
 obtain ⟨b3, e_b3⟩ : ∃ b, b = (decide (frm = to)) := ⟨_, rfl⟩
 obtain ⟨b4, e_b4⟩ : ∃ b, b = (fromB kind 0 28) := ⟨_, rfl⟩
 obtain ⟨b5, e_b5⟩ : ∃ b, b = (fromB number 0 1048576) := ⟨_, rfl⟩
 obtain ⟨b6, e_b6⟩ : ∃ b, b = (fromB ack 0 1048576) := ⟨_, rfl⟩
 obtain ⟨b7, e_b7⟩ : ∃ b, b = (noneB deal) := ⟨_, rfl⟩
 obtain ⟨b8, e_b8⟩ : ∃ b, b = (noneB party) := ⟨_, rfl⟩
 obtain ⟨b9, e_b9⟩ : ∃ b, b = (decide (text.size ≤ 4096)) := ⟨_, rfl⟩
 obtain ⟨c1, e_c1⟩ : ∃ b, b = (fromB index (-1) 2) := ⟨_, rfl⟩
 obtain ⟨c2, e_c2⟩ : ∃ b, b = (fromB day 0 1048576) := ⟨_, rfl⟩
 obtain ⟨c6, e_c6⟩ : ∃ b, b = (decide (cur = ⟨#[]⟩ ∧ amt = 0)) := ⟨_, rfl⟩
 obtain ⟨c3, e_c3⟩ : ∃ b, b = (moneyB cur amt) := ⟨_, rfl⟩
 obtain ⟨c7, e_c7⟩ : ∃ b, b = (decide (docs.length ≤ 8)) := ⟨_, rfl⟩
 obtain ⟨c8, e_c8⟩ : ∃ b, b = (decide (boxes.length ≤ 32)) := ⟨_, rfl⟩
 obtain ⟨c4, e_c4⟩ : ∃ b, b = (docs.any fun d => !isDocB d) := ⟨_, rfl⟩
 obtain ⟨c5, e_c5⟩ : ∃ b, b = (boxes.any fun s => !nameB s) := ⟨_, rfl⟩
 rw [← e_b1, ← e_b2, ← e_b3, ← e_b4, ← e_b5, ← e_b6, ← e_b7, ← e_b8, ← e_b9, ← e_c1, ← e_c2, ← e_c6, ← e_c3, ← e_c7, ← e_c8, ← e_c4, ← e_c5] at hK
 cbv
 refine callG_spec0 hN frm h3 rfl rfl rfl ?_
 try dsimp only
 rw [show (nameB frm) = b1 from e_b1.symm]
 cases b1
 ·cbv
  exact FinK.mk ⟨_, Gh.refl _, .inl (CutK.val rfl (Le.refl _) (K_bl hK (by simp only [Bool.false_and, Bool.and_false, Bool.not_true, Bool.not_false, Bool.true_and, Bool.false_or])))⟩
 cbv
 refine callG_spec0 hN to h4 rfl rfl rfl ?_
 try dsimp only
 rw [show (nameB to) = b2 from e_b2.symm]
 cases b2
 ·cbv
  exact FinK.mk ⟨_, Gh.refl _, .inl (CutK.val rfl (Le.refl _) (K_bl hK (by simp only [Bool.false_and, Bool.and_false, Bool.not_true, Bool.not_false, Bool.true_and, Bool.false_or])))⟩
 cbv; repeat' ((first | refine .mk (fun h => ?_) fun h => ?_ | fail) <;> cbv)
 ·obtain rfl : b3 = true := e_b3.trans (decide_eq_true h)
  exact FinK.mk ⟨_, Gh.refl _, .inl (CutK.val rfl (Le.refl _) (K_bl hK (by simp only [Bool.false_and, Bool.and_false, Bool.not_true, Bool.not_false, Bool.true_and, Bool.false_or])))⟩
 obtain rfl : b3 = false := e_b3.trans (decide_eq_false h)
 refine callG_spec0 hB (kind, 0, 28) trivial rfl rfl rfl ?_
 try dsimp only
 rw [show (fromB kind 0 28) = b4 from e_b4.symm]
 cases b4
 ·cbv
  exact FinK.mk ⟨_, Gh.refl _, .inl (CutK.val rfl (Le.refl _) (K_bl hK (by simp only [Bool.false_and, Bool.and_false, Bool.not_true, Bool.not_false, Bool.true_and, Bool.false_or])))⟩
 cbv
 refine callG_spec0 hB (number, 0, 1048576) trivial rfl rfl rfl ?_
 try dsimp only
 rw [show (fromB number 0 1048576) = b5 from e_b5.symm]
 cases b5
 ·cbv
  exact FinK.mk ⟨_, Gh.refl _, .inl (CutK.val rfl (Le.refl _) (K_bl hK (by simp only [Bool.false_and, Bool.and_false, Bool.not_true, Bool.not_false, Bool.true_and, Bool.false_or])))⟩
 cbv
 refine callG_spec0 hB (ack, 0, 1048576) trivial rfl rfl rfl ?_
 try dsimp only
 rw [show (fromB ack 0 1048576) = b6 from e_b6.symm]
 cases b6
 ·cbv
  exact FinK.mk ⟨_, Gh.refl _, .inl (CutK.val rfl (Le.refl _) (K_bl hK (by simp only [Bool.false_and, Bool.and_false, Bool.not_true, Bool.not_false, Bool.true_and, Bool.false_or])))⟩
 cbv
 refine callG_spec0 hNN deal h5 rfl rfl rfl ?_
 try dsimp only
 rw [show (noneB deal) = b7 from e_b7.symm]
 cases b7
 ·cbv
  exact FinK.mk ⟨_, Gh.refl _, .inl (CutK.val rfl (Le.refl _) (K_bl hK (by simp only [Bool.false_and, Bool.and_false, Bool.not_true, Bool.not_false, Bool.true_and, Bool.false_or])))⟩
 cbv
 refine callG_spec0 hNN party h7 rfl rfl rfl ?_
 try dsimp only
 rw [show (noneB party) = b8 from e_b8.symm]
 cases b8
 ·cbv
  exact FinK.mk ⟨_, Gh.refl _, .inl (CutK.val rfl (Le.refl _) (K_bl hK (by simp only [Bool.false_and, Bool.and_false, Bool.not_true, Bool.not_false, Bool.true_and, Bool.false_or])))⟩
 cbv; repeat' ((first | refine .mk (fun h => ?_) fun h => ?_ | refine .k fun z hz => ?_ | fail) <;> cbv)
 ·obtain rfl : b9 = false := e_b9.trans (decide_eq_false (by ((try simp only [vn] at *) <;> omega)))
  exact FinK.mk ⟨_, Gh.refl _, .inl (CutK.val rfl (Le.refl _) (K_bl hK (by simp only [Bool.false_and, Bool.and_false, Bool.not_true, Bool.not_false, Bool.true_and, Bool.false_or])))⟩
 obtain rfl : b9 = true := e_b9.trans (decide_eq_true (by ((try simp only [vn] at *) <;> omega)))
 refine callG_spec0 hB (index, -1, 2) trivial rfl rfl rfl ?_
 try dsimp only
 rw [show (fromB index (-1) 2) = c1 from e_c1.symm]
 cases c1
 ·cbv
  exact FinK.mk ⟨_, Gh.refl _, .inl (CutK.val rfl (Le.refl _) (K_bl hK (by simp only [Bool.false_and, Bool.and_false, Bool.not_true, Bool.not_false, Bool.true_and, Bool.false_or])))⟩
 cbv
 refine callG_spec0 hB (day, 0, 1048576) trivial rfl rfl rfl ?_
 try dsimp only
 rw [show (fromB day 0 1048576) = c2 from e_c2.symm]
 cases c2
 ·cbv
  exact FinK.mk ⟨_, Gh.refl _, .inl (CutK.val rfl (Le.refl _) (K_bl hK (by simp only [Bool.false_and, Bool.and_false, Bool.not_true, Bool.not_false, Bool.true_and, Bool.false_or])))⟩
 cbv
 refine callG_spec0 hO (cur, amt) trivial rfl rfl rfl ?_
 try dsimp only
 rw [show (decide (cur = ⟨#[]⟩ ∧ amt = 0)) = c6 from e_c6.symm]
 cases c6
 ·cbv
  refine callG_spec0 hM (cur, amt) trivial rfl rfl rfl ?_
  try dsimp only
  rw [show (moneyB cur amt) = c3 from e_c3.symm]
  cases c3
  ·cbv
   exact FinK.mk ⟨_, Gh.refl _, .inl (CutK.val rfl (Le.refl _) (K_bl hK (by simp only [Bool.false_and, Bool.and_false, Bool.not_true, Bool.not_false, Bool.true_and, Bool.false_or])))⟩
  cbv; repeat' ((first | refine .mk (fun h => ?_) fun h => ?_ | refine .k fun z hz => ?_ | fail) <;> cbv)
  ·obtain rfl : c7 = false := e_c7.trans (decide_eq_false (by ((try simp only [vn] at *) <;> omega)))
   exact FinK.mk ⟨_, Gh.refl _, .inl (CutK.val rfl (Le.refl _) (K_bl hK (by simp only [Bool.false_and, Bool.and_false, Bool.not_true, Bool.not_false, Bool.true_and, Bool.false_or])))⟩
  ·obtain rfl : c8 = false := e_c8.trans (decide_eq_false (by ((try simp only [vn] at *) <;> omega)))
   exact FinK.mk ⟨_, Gh.refl _, .inl (CutK.val rfl (Le.refl _) (K_bl hK (by simp only [Bool.false_and, Bool.and_false, Bool.not_true, Bool.not_false, Bool.true_and, Bool.false_or])))⟩
  obtain rfl : c7 = true := e_c7.trans (decide_eq_true (by ((try simp only [vn] at *) <;> omega)))
  obtain rfl : c8 = true := e_c8.trans (decide_eq_true (by ((try simp only [vn] at *) <;> omega)))
  have hd8 : docs.length ≤ 8 := by ((try simp only [vn] at *) <;> omega)
  have hb8 : boxes.length ≤ 32 := by ((try simp only [vn] at *) <;> omega)
  simp only [Bool.true_and, Bool.not_false, Bool.true_or, Bool.false_or] at hK
  have no4 : c4 = true → K (.bl false) [] := fun h => K_bl hK (by rw [h]; simp only [Bool.not_true, Bool.false_and])
  have no5 : c5 = true → K (.bl false) [] := fun h => K_bl hK (by rw [h]; simp only [Bool.not_true, Bool.false_and, Bool.and_false])
  refine xloopV [] (fun p : { k : Nat // k ≤ docs.length ∧ NoneTo (fun d => !isDocB d) docs k } => [(3, .i (nI p.1))]) (fun _ => [.blk 31 [.str frm, .str to, .i number, .i kind, .i ack, .str deal, .str text, .str party, .i index, .i day, .str cur, .i amt, .sl 4 (mapA DcA docs), .sl 1 (mapA .str boxes)]]) (fun p => lft 9 p.1) ⟨0, Nat.zero_le _, .zero⟩ ?_
  rintro ⟨k, hk, hf⟩
  dsimp only
  cbv; repeat' ((first | refine .mk (fun h => ?_) fun h => ?_ | refine .k fun z hz => ?_ | fail) <;> cbv)
  ·refine askEl_int (by ((try simp only [vn] at *) <;> omega)) (by ((try simp only [vn] at *) <;> omega)) fun i x hi hx => ?_
   obtain rfl : k = i := by ((try simp only [vn] at *) <;> omega)
   have hkl : k < docs.length := (List.getElem?_eq_some_iff.1 hx).1
   have hxn : NamesS x.fields := h1.each x (List.mem_of_getElem? hx)
   have ie := isDocB_eq x
   obtain ⟨pb, hpb⟩ : ∃ b, b = paperB x := ⟨_, rfl⟩
   rw [← hpb] at ie
   have bad : isDocB x = false → K (.bl false) [] := fun h => no4 (e_c4.trans (any_of hx (by rw [h]; rfl)))
   have nxt : isDocB x = true → NoneTo (fun d => !isDocB d) docs (k + 1) := fun h => hf.succ hx (by rw [h]; rfl)
   have hfew : pb = true → x.fields.length ≤ 4000 := fun h => by rw [h] at hpb; unfold paperB at hpb; simp only [Bool.and_eq_true, decide_eq_true_eq, Eq.comm (a := true)] at hpb; omega
   have hrn := recP_names hxn
   obtain ⟨fs, hfs⟩ : ∃ fs, fs = recP x := ⟨_, rfl⟩
   rw [← hfs] at ie hrn
   obtain ⟨t, ht⟩ : ∃ t, t = textS fs := ⟨_, rfl⟩
   obtain ⟨tc, htc⟩ : ∃ t, t = textC fs := ⟨_, rfl⟩
   rw [← ht] at ie
   have hts : (ByteArray.mk (Array.mk t)).size = t.length := by simp [ByteArray.size]
   obtain ⟨k1, n1, is1, fs1⟩ := x
   cbv
   refine callG_spec0 hPa ⟨k1, n1, is1, fs1⟩ hxn rfl rfl rfl ?_
   rw [← hpb]
   cases pb
   ·cbv
    exact FinK.mk ⟨_, Gh.refl _, .inl (CutK.val rfl (Le.refl _) (bad (by rw [ie]; rfl)))⟩
   ·cbv; repeat' ((first | refine .e ?_ | fail) <;> cbv)
    refine callG_spec0 hR ⟨k1, n1, is1, fs1⟩ (by exact hfew rfl) (by rfl) (by rfl) (by rfl) ?_
    rw [← hfs]
    cbv
    refine callG_spec0 hT fs hrn rfl rfl rfl ?_
    try dsimp only
    rw [← ht, ← htc]
    cbv; repeat' ((first | refine .mk (fun h => ?_) fun h => ?_ | refine .k fun z hz => ?_ | fail) <;> cbv)
    ·exact FinK.mk ⟨_, Gh.refl _, .inl (CutK.val rfl (Le.refl _) (bad (by rw [ie, decide_eq_false (by ((try simp only [vn] at *) <;> omega))]; rfl)))⟩
    ·obtain rfl : z = nI (k + 1) := by ((try simp only [vn] at *) <;> omega)
     exact roundV ⟨k + 1, hkl, nxt (by rw [ie, decide_eq_true (by ((try simp only [vn] at *) <;> omega))]; rfl)⟩ (lft_lt (by ((try simp only [vn] at *) <;> omega)))
  have hc4 : c4 = false := e_c4.trans (none_of (by obtain rfl : k = docs.length := (by ((try simp only [vn] at *) <;> omega)); exact hf))
  clear hf hk
  refine xloopV [] (fun p : { k : Nat // k ≤ boxes.length ∧ NoneTo (fun s => !nameB s) boxes k } => [(6, .i (nI p.1))]) (fun _ => [.blk 31 [.str frm, .str to, .i number, .i kind, .i ack, .str deal, .str text, .str party, .i index, .i day, .str cur, .i amt, .sl 4 (mapA DcA docs), .sl 1 (mapA .str boxes)]]) (fun p => lft 33 p.1) ⟨0, Nat.zero_le _, .zero⟩ ?_
  rintro ⟨k, hk, hf⟩
  dsimp only
  cbv; repeat' ((first | refine .mk (fun h => ?_) fun h => ?_ | refine .k fun z hz => ?_ | fail) <;> cbv)
  ·refine askEl_int (by ((try simp only [vn] at *) <;> omega)) (by ((try simp only [vn] at *) <;> omega)) fun i x hi hx => ?_
   obtain rfl : k = i := by ((try simp only [vn] at *) <;> omega)
   have hkl : k < boxes.length := (List.getElem?_eq_some_iff.1 hx).1
   have hxn : shortS x := h2.each x (List.mem_of_getElem? hx)
   obtain ⟨b, hb⟩ : ∃ b, b = nameB x := ⟨_, rfl⟩
   have bad : b = false → K (.bl false) [] := fun h => no5 (e_c5.trans (any_of hx (by rw [← hb, h]; rfl)))
   have nxt : b = true → NoneTo (fun s => !nameB s) boxes (k + 1) := fun h => hf.succ hx (by rw [← hb, h]; rfl)
   clear hx
   cbv
   refine callG_spec0 hN x hxn rfl rfl rfl ?_
   rw [← hb]
   cases b
   ·cbv
    exact FinK.mk ⟨_, Gh.refl _, .inl (CutK.val rfl (Le.refl _) (bad rfl))⟩
   ·cbv; repeat' ((first | refine .k fun z hz => ?_ | fail) <;> cbv)
    obtain rfl : z = nI (k + 1) := by ((try simp only [vn] at *) <;> omega)
    exact roundV ⟨k + 1, hkl, nxt rfl⟩ (lft_lt (by ((try simp only [vn] at *) <;> omega)))
  all_goals have hc5 : c5 = false := e_c5.trans (none_of (by obtain rfl : k = boxes.length := (by ((try simp only [vn] at *) <;> omega)); exact hf))
  all_goals (rw [hc4, hc5] at hK; simp only [Bool.not_false, Bool.true_and] at hK)
  all_goals try (have hcz : (decide (cur = ⟨#[]⟩) && decide (amt = 0)) = false := (by rw [e_c6, Bool.decide_and]))
  all_goals try rw [hcz] at hK
  all_goals clear no4 no5 hcz
  all_goals try (refine callG_spec0 hO (cur, amt) trivial rfl rfl rfl ?_; try dsimp only; rw [show (decide (cur = ⟨#[]⟩ ∧ amt = 0)) = false from e_c6.symm]; cbv)
  all_goals clear e_b1 e_b2 e_b3 e_b4 e_b5 e_b6 e_b7 e_b8 e_b9 e_c1 e_c2 e_c3 e_c4 e_c5 e_c6 e_c7 e_c8 hf h1 h2 h3 h4 h5 h6 h7
  all_goals exact FinK.mk ⟨_, Gh.refl _, .inl (CutK.val rfl (Le.refl _) (K_bl hK (by
   first
   | (simp_all; done)
   | (have d0 : docs.length = 0 := by ((try simp only [vn] at *) <;> omega)
      have b0 : boxes.length = 0 := by ((try simp only [vn] at *) <;> omega)
      rw [decide_eq_true d0, decide_eq_true b0, decide_eq_true (show number = 0 from by assumption), decide_eq_true (show deal = ⟨#[]⟩ from by assumption), decide_eq_true (show text = ⟨#[]⟩ from by assumption), decide_eq_true (show party = ⟨#[]⟩ from by assumption), decide_eq_true (show index = 0 from by assumption), decide_eq_true (show day = 0 from by assumption)]; simp; done)
   | (have d0 : decide (docs.length = 0) = false ∨ decide (boxes.length = 0) = false := by (rcases Nat.eq_zero_or_pos docs.length with e | e; exact .inr (decide_eq_false (by ((try simp only [vn] at *) <;> omega))); exact .inl (decide_eq_false (by ((try simp only [vn] at *) <;> omega))))
      rcases d0 with e | e <;> (rw [e]; simp only [Bool.false_and, Bool.and_false, Bool.or_false]; rw [decide_eq_true (show kind = 28 from by assumption)]; rfl)))))⟩
 ·cbv; repeat' ((first | refine .mk (fun h => ?_) fun h => ?_ | refine .k fun z hz => ?_ | fail) <;> cbv)
  ·obtain rfl : c7 = false := e_c7.trans (decide_eq_false (by ((try simp only [vn] at *) <;> omega)))
   exact FinK.mk ⟨_, Gh.refl _, .inl (CutK.val rfl (Le.refl _) (K_bl hK (by simp only [Bool.false_and, Bool.and_false, Bool.not_true, Bool.not_false, Bool.true_and, Bool.false_or])))⟩
  ·obtain rfl : c8 = false := e_c8.trans (decide_eq_false (by ((try simp only [vn] at *) <;> omega)))
   exact FinK.mk ⟨_, Gh.refl _, .inl (CutK.val rfl (Le.refl _) (K_bl hK (by simp only [Bool.false_and, Bool.and_false, Bool.not_true, Bool.not_false, Bool.true_and, Bool.false_or])))⟩
  obtain rfl : c7 = true := e_c7.trans (decide_eq_true (by ((try simp only [vn] at *) <;> omega)))
  obtain rfl : c8 = true := e_c8.trans (decide_eq_true (by ((try simp only [vn] at *) <;> omega)))
  have hd8 : docs.length ≤ 8 := by ((try simp only [vn] at *) <;> omega)
  have hb8 : boxes.length ≤ 32 := by ((try simp only [vn] at *) <;> omega)
  simp only [Bool.true_and, Bool.not_false, Bool.true_or, Bool.false_or] at hK
  have no4 : c4 = true → K (.bl false) [] := fun h => K_bl hK (by rw [h]; simp only [Bool.not_true, Bool.false_and])
  have no5 : c5 = true → K (.bl false) [] := fun h => K_bl hK (by rw [h]; simp only [Bool.not_true, Bool.false_and, Bool.and_false])
  refine xloopV [] (fun p : { k : Nat // k ≤ docs.length ∧ NoneTo (fun d => !isDocB d) docs k } => [(3, .i (nI p.1))]) (fun _ => [.blk 31 [.str frm, .str to, .i number, .i kind, .i ack, .str deal, .str text, .str party, .i index, .i day, .str cur, .i amt, .sl 4 (mapA DcA docs), .sl 1 (mapA .str boxes)]]) (fun p => lft 9 p.1) ⟨0, Nat.zero_le _, .zero⟩ ?_
  rintro ⟨k, hk, hf⟩
  dsimp only
  cbv; repeat' ((first | refine .mk (fun h => ?_) fun h => ?_ | refine .k fun z hz => ?_ | fail) <;> cbv)
  ·refine askEl_int (by ((try simp only [vn] at *) <;> omega)) (by ((try simp only [vn] at *) <;> omega)) fun i x hi hx => ?_
   obtain rfl : k = i := by ((try simp only [vn] at *) <;> omega)
   have hkl : k < docs.length := (List.getElem?_eq_some_iff.1 hx).1
   have hxn : NamesS x.fields := h1.each x (List.mem_of_getElem? hx)
   have ie := isDocB_eq x
   obtain ⟨pb, hpb⟩ : ∃ b, b = paperB x := ⟨_, rfl⟩
   rw [← hpb] at ie
   have bad : isDocB x = false → K (.bl false) [] := fun h => no4 (e_c4.trans (any_of hx (by rw [h]; rfl)))
   have nxt : isDocB x = true → NoneTo (fun d => !isDocB d) docs (k + 1) := fun h => hf.succ hx (by rw [h]; rfl)
   have hfew : pb = true → x.fields.length ≤ 4000 := fun h => by rw [h] at hpb; unfold paperB at hpb; simp only [Bool.and_eq_true, decide_eq_true_eq, Eq.comm (a := true)] at hpb; omega
   have hrn := recP_names hxn
   obtain ⟨fs, hfs⟩ : ∃ fs, fs = recP x := ⟨_, rfl⟩
   rw [← hfs] at ie hrn
   obtain ⟨t, ht⟩ : ∃ t, t = textS fs := ⟨_, rfl⟩
   obtain ⟨tc, htc⟩ : ∃ t, t = textC fs := ⟨_, rfl⟩
   rw [← ht] at ie
   have hts : (ByteArray.mk (Array.mk t)).size = t.length := by simp [ByteArray.size]
   obtain ⟨k1, n1, is1, fs1⟩ := x
   cbv
   refine callG_spec0 hPa ⟨k1, n1, is1, fs1⟩ hxn rfl rfl rfl ?_
   rw [← hpb]
   cases pb
   ·cbv
    exact FinK.mk ⟨_, Gh.refl _, .inl (CutK.val rfl (Le.refl _) (bad (by rw [ie]; rfl)))⟩
   ·cbv; repeat' ((first | refine .e ?_ | fail) <;> cbv)
    refine callG_spec0 hR ⟨k1, n1, is1, fs1⟩ (by exact hfew rfl) (by rfl) (by rfl) (by rfl) ?_
    rw [← hfs]
    cbv
    refine callG_spec0 hT fs hrn rfl rfl rfl ?_
    try dsimp only
    rw [← ht, ← htc]
    cbv; repeat' ((first | refine .mk (fun h => ?_) fun h => ?_ | refine .k fun z hz => ?_ | fail) <;> cbv)
    ·exact FinK.mk ⟨_, Gh.refl _, .inl (CutK.val rfl (Le.refl _) (bad (by rw [ie, decide_eq_false (by ((try simp only [vn] at *) <;> omega))]; rfl)))⟩
    ·obtain rfl : z = nI (k + 1) := by ((try simp only [vn] at *) <;> omega)
     exact roundV ⟨k + 1, hkl, nxt (by rw [ie, decide_eq_true (by ((try simp only [vn] at *) <;> omega))]; rfl)⟩ (lft_lt (by ((try simp only [vn] at *) <;> omega)))
  have hc4 : c4 = false := e_c4.trans (none_of (by obtain rfl : k = docs.length := (by ((try simp only [vn] at *) <;> omega)); exact hf))
  clear hf hk
  refine xloopV [] (fun p : { k : Nat // k ≤ boxes.length ∧ NoneTo (fun s => !nameB s) boxes k } => [(6, .i (nI p.1))]) (fun _ => [.blk 31 [.str frm, .str to, .i number, .i kind, .i ack, .str deal, .str text, .str party, .i index, .i day, .str cur, .i amt, .sl 4 (mapA DcA docs), .sl 1 (mapA .str boxes)]]) (fun p => lft 33 p.1) ⟨0, Nat.zero_le _, .zero⟩ ?_
  rintro ⟨k, hk, hf⟩
  dsimp only
  cbv; repeat' ((first | refine .mk (fun h => ?_) fun h => ?_ | refine .k fun z hz => ?_ | fail) <;> cbv)
  ·refine askEl_int (by ((try simp only [vn] at *) <;> omega)) (by ((try simp only [vn] at *) <;> omega)) fun i x hi hx => ?_
   obtain rfl : k = i := by ((try simp only [vn] at *) <;> omega)
   have hkl : k < boxes.length := (List.getElem?_eq_some_iff.1 hx).1
   have hxn : shortS x := h2.each x (List.mem_of_getElem? hx)
   obtain ⟨b, hb⟩ : ∃ b, b = nameB x := ⟨_, rfl⟩
   have bad : b = false → K (.bl false) [] := fun h => no5 (e_c5.trans (any_of hx (by rw [← hb, h]; rfl)))
   have nxt : b = true → NoneTo (fun s => !nameB s) boxes (k + 1) := fun h => hf.succ hx (by rw [← hb, h]; rfl)
   clear hx
   cbv
   refine callG_spec0 hN x hxn rfl rfl rfl ?_
   rw [← hb]
   cases b
   ·cbv
    exact FinK.mk ⟨_, Gh.refl _, .inl (CutK.val rfl (Le.refl _) (bad rfl))⟩
   ·cbv; repeat' ((first | refine .k fun z hz => ?_ | fail) <;> cbv)
    obtain rfl : z = nI (k + 1) := by ((try simp only [vn] at *) <;> omega)
    exact roundV ⟨k + 1, hkl, nxt rfl⟩ (lft_lt (by ((try simp only [vn] at *) <;> omega)))
  all_goals have hc5 : c5 = false := e_c5.trans (none_of (by obtain rfl : k = boxes.length := (by ((try simp only [vn] at *) <;> omega)); exact hf))
  all_goals (rw [hc4, hc5] at hK; simp only [Bool.not_false, Bool.true_and] at hK)
  all_goals try (have hcz : (decide (cur = ⟨#[]⟩) && decide (amt = 0)) = true := (by rw [e_c6, Bool.decide_and]))
  all_goals try rw [hcz] at hK
  all_goals clear no4 no5 hcz
  all_goals try (refine callG_spec0 hO (cur, amt) trivial rfl rfl rfl ?_; try dsimp only; rw [show (decide (cur = ⟨#[]⟩ ∧ amt = 0)) = true from e_c6.symm]; cbv; repeat' ((first | refine .mk (fun h => ?_) fun h => ?_ | refine .k fun z hz => ?_ | fail) <;> cbv))
  all_goals clear e_b1 e_b2 e_b3 e_b4 e_b5 e_b6 e_b7 e_b8 e_b9 e_c1 e_c2 e_c3 e_c4 e_c5 e_c6 e_c7 e_c8 hf h1 h2 h3 h4 h5 h6 h7
  all_goals exact FinK.mk ⟨_, Gh.refl _, .inl (CutK.val rfl (Le.refl _) (K_bl hK (by
   first
   | (simp_all; done)
   | (have d0 : docs.length = 0 := by ((try simp only [vn] at *) <;> omega)
      have b0 : boxes.length = 0 := by ((try simp only [vn] at *) <;> omega)
      rw [decide_eq_true d0, decide_eq_true b0, decide_eq_true (show number = 0 from by assumption), decide_eq_true (show deal = ⟨#[]⟩ from by assumption), decide_eq_true (show text = ⟨#[]⟩ from by assumption), decide_eq_true (show party = ⟨#[]⟩ from by assumption), decide_eq_true (show index = 0 from by assumption), decide_eq_true (show day = 0 from by assumption)]; simp; done)
   | (have d0 : decide (docs.length = 0) = false ∨ decide (boxes.length = 0) = false := by (rcases Nat.eq_zero_or_pos docs.length with e | e; exact .inr (decide_eq_false (by ((try simp only [vn] at *) <;> omega))); exact .inl (decide_eq_false (by ((try simp only [vn] at *) <;> omega))))
      rcases d0 with e | e <;> (rw [e]; simp only [Bool.false_and, Bool.and_false, Bool.or_false]; rw [decide_eq_true (show kind = 28 from by assumption)]; rfl)))))⟩
end Go.Proofs.YtblkcnmecfppnaaGreatDoor
/-
 The reference's record of a letter: the same as the program's.
-/
namespace Go.Proofs.YtblkcnmecfppnaaGreatDoor
open Go.RowKit
set_option maxHeartbeats 8000000
set_option maxRecDepth 100000
theorem monS_none {c : ByteArray} {a : Int} (h : c = ⟨#[]⟩ ∧ a = 0) : monS c a = ⟨#[]⟩ := by
 unfold monS
 rw [show moneyB c a = false from by rw [h.1, h.2]; rfl]; rfl
theorem mayB_kind {l : Lt} (h : mayB l = true) : 0 ≤ l.kind ∧ l.kind ≤ 28 := by
 simp only [mayB, Bool.and_eq_true] at h
 have hk : (!decide (kindN l.kind = ⟨#[]⟩)) = true := h.1.1.1.1.1.1.1.1.1.1.1.1.1.2
 rw [← kindN_dec] at hk
 unfold fromB at hk
 simp only [Bool.and_eq_true, decide_eq_true_eq] at hk
 exact hk
theorem mayB_docs {l : Lt} (h : mayB l = true) : ∀ d ∈ l.docs, isDocB d = true := by
 simp only [mayB, Bool.and_eq_true] at h
 have hk : (!(l.docs.any fun d => !isDocB d)) = true := h.1.1.2
 intro d hd
 cases hb : isDocB d with
 | true => rfl
 | false =>
  have : (l.docs.any fun d => !isDocB d) = true := List.any_eq_true.2 ⟨d, hd, by rw [hb]; rfl⟩
  rw [this] at hk
  cases hk
theorem isDocB_rec {d : Dc} (h : isDocB d = true) : docS d = textS (recP d) ∧ d.fields.length ≤ 4000 := by
 unfold isDocB at h
 simp only [Bool.and_eq_true, decide_eq_true_eq] at h
 by_cases hr : docR d = true
 ·refine ⟨by unfold docS; rw [if_pos hr], ?_⟩
  unfold docR at hr
  simp only [Bool.and_eq_true, decide_eq_true_eq] at hr
  omega
 ·have : docC d = 1 := by unfold docC; rw [if_neg hr]
  rw [this] at h
  exact absurd h.1 (by decide)
theorem names_get {j : Nat} {x : ByteArray} (h : names29[j]? = some x) : x = kindN (Int.ofNat j) := by
 have hj : j < 29 := (List.getElem?_eq_some_iff.1 h).1
 unfold names29 at h
 rw [List.getElem?_map, List.getElem?_range hj] at h
 exact (Option.some.inj h).symm
theorem names_len : names29.length = 29 := rfl
theorem rfields_body (P : Program) (hm : FnOk P 14 (LtP mayB)) (hO : FnOk P 36 NoneC) (hM : FnOk P 41 (MonC monS)) (hI : FnOk P 42 NumFC) (hNs : FnOk P 25 NamesC) (hR : FnOk P 39 RecC) (hT : FnOk P 15 TextC) : BodyOk P x16 (FieldsC (fieldsL itoS monS)) := by
 intro args H K hc
 obtain ⟨l, rfl, rfl, hp, hK⟩ := hc
 refine ⟨Nat.le_of_ble_eq_true rfl, ?_⟩
 dsimp only at hK ⊢
 obtain ⟨b, hb⟩ : ∃ b, b = mayB l := ⟨_, rfl⟩
 obtain ⟨frm, to, number, kind, ack, deal, text, party, index, day, cur, amt, docs, boxes⟩ := l
 cbv
 refine callG_spec0 hm ⟨frm, to, number, kind, ack, deal, text, party, index, day, cur, amt, docs, boxes⟩ hp rfl rfl rfl ?_
 rw [← hb]
 obtain ⟨i1, hi1⟩ : ∃ s, s = itoS number := ⟨_, rfl⟩
 obtain ⟨i2, hi2⟩ : ∃ s, s = itoS ack := ⟨_, rfl⟩
 obtain ⟨i3, hi3⟩ : ∃ s, s = itoS index := ⟨_, rfl⟩
 obtain ⟨i4, hi4⟩ : ∃ s, s = itoS day := ⟨_, rfl⟩
 obtain ⟨kn, hkn⟩ : ∃ s, s = kindN kind := ⟨_, rfl⟩
 obtain ⟨mo, hmo⟩ : ∃ s, s = monS cur amt := ⟨_, rfl⟩
 cases b
 ·have hK0 : K (.sl 2 (mapA FdA [])) [] := by unfold fieldsL at hK; rw [← hb] at hK; exact hK
  cbv
  exact FinK.mk ⟨_, Gh.refl _, .inl (CutK.val rfl (by repeat' (first | exact LeL.nil | exact LeL0.nil | exact LeH.nil | exact LeE.refl _ | exact Le.refl _ | exact Le0.one (.refl _) | exact Le0.one (.nil _) | exact Le1.refl _ | exact Le1.nil _ | refine LeH.cons ?_ ?_ | refine LeE.row ?_ | refine LeE.blk ?_ | refine LeL0.cons ?_ ?_ | refine LeL.cons ?_ ?_ | refine Le0.agg ?_ | refine Le.tup ?_ | exact Le.one (.one (.nil _)) | refine Le.one (.agg ?_))) hK0)⟩
 ·obtain ⟨f1, f2, f3, f4, f5, f6⟩ := mayB_facts hb.symm
  dsimp only at f1 f2 f3 f4 f5 f6
  have hk28 := mayB_kind hb.symm
  dsimp only at hk28
  obtain ⟨c6, e_c6⟩ : ∃ b, b = decide (cur = ⟨#[]⟩ ∧ amt = 0) := ⟨_, rfl⟩
  cbv
  refine callG_spec0 hO (cur, amt) trivial rfl rfl rfl ?_
  try dsimp only
  rw [← e_c6]
  cases c6
  case' false =>
   cbv
   refine callG_spec0 hM (cur, amt) trivial rfl rfl rfl ?_
   try dsimp only
   rw [← hmo]
  case' true =>
   have hmz : mo = ⟨#[]⟩ := by rw [hmo]; exact monS_none (of_decide_eq_true e_c6.symm)
   subst hmz
   let mo : ByteArray := ⟨#[]⟩
  all_goals
   cbv
   refine callG_spec0 hI (_, number) (by constructor <;> (try dsimp only) <;> omega) rfl rfl rfl ?_
   try dsimp only
   rw [← hi1]
   cbv
   refine callG_spec0 hNs () trivial rfl rfl rfl ?_
   obtain ⟨ns, hns⟩ : ∃ ns, ns = names29 := ⟨_, rfl⟩
   have hnl := mapA_len AV.str ns
   have hnl2 : ns.length = 29 := by rw [hns]; exact names_len
   rw [← hns]
   cbv
   refine askEl_int hk28.1 (by rw [hnl2]; omega) fun i x hi hx => ?_
   have hxk : x = kn := by
    rw [hkn, show kind = Int.ofNat i from hi]
    exact names_get (by rw [← hns]; exact hx)
   clear hx hns hnl hnl2
   subst hxk
   cbv
   refine callG_spec0 hI (_, ack) (by constructor <;> (try dsimp only) <;> omega) rfl rfl rfl ?_
   try dsimp only
   rw [← hi2]
   cbv
   refine callG_spec0 hI (_, index) (by constructor <;> (try dsimp only) <;> omega) rfl rfl rfl ?_
   try dsimp only
   rw [← hi3]
   cbv
   refine callG_spec0 hI (_, day) (by constructor <;> (try dsimp only) <;> omega) rfl rfl rfl ?_
   try dsimp only
   rw [← hi4]
   cbv
   have hl1 := mapA_len DcA docs
   have hK1 : K (.sl 2 (mapA FdA (recB frm to i1 x i2 deal text party i3 i4 mo ++ docs.map docF ++ boxes.map boxF))) [] := by
    unfold fieldsL at hK
    rw [← hb] at hK
    dsimp only at hK
    rw [← hi1, ← hi2, ← hi3, ← hi4, ← hkn, ← hmo] at hK
    exact hK
   have hdoc := mayB_docs hb.symm
   dsimp only at hdoc
   clear hK
   obtain ⟨B, hB⟩ : ∃ B, B = recB frm to i1 x i2 deal text party i3 i4 mo := ⟨_, rfl⟩
   refine xloopV [1] (fun q : { q : Nat × List Fd // q.1 ≤ docs.length ∧ q.2 = B ++ (docs.take q.1).map docF } => [(5, .i (nI q.1.1)), (4, .hd 1)]) (fun q => [.blk 31 [.str frm, .str to, .i number, .i kind, .i ack, .str deal, .str text, .str party, .i index, .i day, .str cur, .i amt, .sl 4 (mapA DcA docs), .sl 1 (mapA .str boxes)], .row 24 2 (mapA FdA q.1.2)]) (fun q => lft 9 q.1.1) ⟨(0, recB frm to i1 x i2 deal text party i3 i4 mo), Nat.zero_le _, by rw [hB]; simp⟩ ?_
   rintro ⟨⟨k, L⟩, hk, hL⟩
   dsimp only at hk hL ⊢
   cbv; repeat' ((first | refine .mk (fun h => ?_) fun h => ?_ | refine .k fun z hz => ?_ | fail) <;> cbv)
   ·refine askEl_int (by ((try simp only [vn] at *) <;> omega)) (by ((try simp only [vn] at *) <;> omega)) fun i y hi hx => ?_
    obtain rfl : k = i := by ((try simp only [vn] at *) <;> omega)
    have hkl : k < docs.length := (List.getElem?_eq_some_iff.1 hx).1
    have hnx : B ++ (docs.take (k + 1)).map docF = L ++ [docF y] := by rw [hL, List.take_add_one, hx]; simp
    obtain ⟨hys, hfew⟩ := isDocB_rec (hdoc y (List.mem_of_getElem? hx))
    have hrn := recP_names (hp.docs.each y (List.mem_of_getElem? hx))
    obtain ⟨fs, hfs⟩ : ∃ fs, fs = recP y := ⟨_, rfl⟩
    obtain ⟨t, ht⟩ : ∃ t, t = textS fs := ⟨_, rfl⟩
    obtain ⟨c, hcc⟩ : ∃ c, c = textC fs := ⟨_, rfl⟩
    have hfx : docF y = ⟨⟨#[100, 111, 99]⟩, ⟨t.toArray⟩⟩ := by rw [ht, hfs, ← hys]; rfl
    rw [hfx] at hnx
    rw [← hfs] at hrn
    clear hx hfx hys
    obtain ⟨k1, n1, is1, fs1⟩ := y
    have hLl : L.length ≤ 30 := by rw [hL, hB]; simp [recB]; omega
    have hLl2 := mapA_len FdA L
    cbv
    refine callG_spec0 hR ⟨k1, n1, is1, fs1⟩ hfew (by rfl) (by rfl) (by rfl) ?_
    rw [← hfs]
    cbv
    refine callG_spec0 hT fs hrn rfl rfl rfl ?_
    try dsimp only
    rw [← ht, ← hcc]
    cbv; repeat' ((first | refine .k fun z hz => ?_ | refine .zl fun zs hzs hzl => ?_ | fail) <;> cbv)
    obtain rfl : zs = mapA FdA (L ++ [(⟨⟨#[100, 111, 99]⟩, ⟨t.toArray⟩⟩ : Fd)]) := by (rw [mapA_app, mapA_one]; first | exact hzs | (subst_vars; rfl))
    obtain rfl : z = nI (k + 1) := by ((try simp only [vn] at *) <;> omega)
    exact roundV ⟨(k + 1, L ++ [⟨⟨#[100, 111, 99]⟩, ⟨t.toArray⟩⟩]), hkl, hnx.symm⟩ (lft_lt (by ((try simp only [vn] at *) <;> omega)))
   have hke : k = docs.length := by ((try simp only [vn] at *) <;> omega)
   have hL2 : L = B ++ docs.map docF := by rw [hL, hke, List.take_length]
   have hLl : L.length ≤ 30 := by rw [hL2, hB]; simp [recB]; omega
   clear hL hke hk hdoc
   have hl2 := mapA_len AV.str boxes
   refine xloopV [1] (fun q : { q : Nat × List Fd // q.1 ≤ boxes.length ∧ q.2 = L ++ (boxes.take q.1).map boxF } => [(8, .i (nI q.1.1)), (4, .hd 1)]) (fun q => [.blk 31 [.str frm, .str to, .i number, .i kind, .i ack, .str deal, .str text, .str party, .i index, .i day, .str cur, .i amt, .sl 4 (mapA DcA docs), .sl 1 (mapA .str boxes)], .row 24 2 (mapA FdA q.1.2)]) (fun q => lft 33 q.1.1) ⟨(0, L), Nat.zero_le _, by simp⟩ ?_
   rintro ⟨⟨k, M⟩, hk, hM⟩
   dsimp only at hk hM ⊢
   cbv; repeat' ((first | refine .mk (fun h => ?_) fun h => ?_ | refine .k fun z hz => ?_ | fail) <;> cbv)
   ·refine askEl_int (by ((try simp only [vn] at *) <;> omega)) (by ((try simp only [vn] at *) <;> omega)) fun i y hi hx => ?_
    obtain rfl : k = i := by ((try simp only [vn] at *) <;> omega)
    have hkl : k < boxes.length := (List.getElem?_eq_some_iff.1 hx).1
    have hnx : L ++ (boxes.take (k + 1)).map boxF = M ++ [⟨⟨#[98, 111, 120]⟩, y⟩] := by rw [hM, List.take_add_one, hx]; simp [boxF]
    clear hx
    have hMl : M.length ≤ 70 := by rw [hM]; simp; omega
    have hMl2 := mapA_len FdA M
    cbv; repeat' ((first | refine .k fun z hz => ?_ | refine .zl fun zs hzs hzl => ?_ | fail) <;> cbv)
    obtain rfl : zs = mapA FdA (M ++ [(⟨⟨#[98, 111, 120]⟩, y⟩ : Fd)]) := by (rw [mapA_app, mapA_one]; first | exact hzs | (subst_vars; rfl))
    obtain rfl : z = nI (k + 1) := by ((try simp only [vn] at *) <;> omega)
    exact roundV ⟨(k + 1, M ++ [⟨⟨#[98, 111, 120]⟩, y⟩]), hkl, hnx.symm⟩ (lft_lt (by ((try simp only [vn] at *) <;> omega)))
   have hke : k = boxes.length := by ((try simp only [vn] at *) <;> omega)
   have hM2 : M = recB frm to i1 x i2 deal text party i3 i4 mo ++ docs.map docF ++ boxes.map boxF := by rw [hM, hke, List.take_length, hL2, hB]
   rw [← hM2] at hK1
   refine FinK.mk ⟨_, Gh.plain 1 rfl, ?_⟩
   cbv
   exact .inl (CutK.val rfl (Le.refl _) hK1)
end Go.Proofs.YtblkcnmecfppnaaGreatDoor
/-
 The chapter's examples; the law Mays.
-/
namespace Go.Proofs.YtblkcnmecfppnaaGreatDoor
open Go.RowKit
set_option maxHeartbeats 8000000
set_option maxRecDepth 100000
def l0 : Lt := ⟨⟨#[97]⟩, ⟨#[98]⟩, 0, 28, 3, ⟨#[]⟩, ⟨#[]⟩, ⟨#[]⟩, 0, 0, ⟨#[]⟩, 0, [], []⟩
theorem ito3 : itoS 3 = ⟨#[51]⟩ := by
 unfold itoS
 rw [show (3 : Int) = ((3 : Nat) : Int) from rfl, Lib.itoa_nonneg, dec_lt 3 (by omega)]; rfl
theorem ito0 : itoS 0 = ⟨#[48]⟩ := by
 unfold itoS
 rw [show (0 : Int) = ((0 : Nat) : Int) from rfl, Lib.itoa_nonneg, dec_lt 0 (by omega)]; rfl
theorem mayl0 : mayB l0 = true := by decide +kernel
theorem fields0 : fieldsL itoS monS l0 = recB ⟨#[97]⟩ ⟨#[98]⟩ ⟨#[48]⟩ (kindN 28) ⟨#[51]⟩ ⟨#[]⟩ ⟨#[]⟩ ⟨#[]⟩ ⟨#[48]⟩ ⟨#[48]⟩ ⟨#[]⟩ := by
 unfold fieldsL
 rw [mayl0]
 have e : monS l0.cur l0.amt = ⟨#[]⟩ := by
  unfold monS
  rw [show moneyB l0.cur l0.amt = false from by decide +kernel]; rfl
 rw [e]
 show recB _ _ (itoS 0) _ (itoS 3) _ _ _ (itoS 0) (itoS 0) _ ++ [] ++ [] = _
 rw [ito0, ito3]
 rfl
theorem textC0 : textC (fieldsL itoS monS l0) = 0 := by rw [fields0]; decide +kernel
theorem textS0 : ∃ r, (⟨(textS (fieldsL itoS monS l0)).toArray⟩ : ByteArray) = ⟨([102, 114, 111, 109, 61, 97, 10, 116, 111, 61, 98, 10] ++ r).toArray⟩ ∧ 1 ≤ r.length ∧ r.length ≤ 1000 := by
 rw [fields0]
 refine ⟨(textS (recB ⟨#[97]⟩ ⟨#[98]⟩ ⟨#[48]⟩ (kindN 28) ⟨#[51]⟩ ⟨#[]⟩ ⟨#[]⟩ ⟨#[]⟩ ⟨#[48]⟩ ⟨#[48]⟩ ⟨#[]⟩)).drop 12, ?_, by decide +kernel, by decide +kernel⟩
 have e : (textS (recB ⟨#[97]⟩ ⟨#[98]⟩ ⟨#[48]⟩ (kindN 28) ⟨#[51]⟩ ⟨#[]⟩ ⟨#[]⟩ ⟨#[]⟩ ⟨#[48]⟩ ⟨#[48]⟩ ⟨#[]⟩)).take 12 = [102, 114, 111, 109, 61, 97, 10, 116, 111, 61, 98, 10] := by decide +kernel
 rw [← e, List.take_append_drop]
theorem s0 (s : ByteArray) (h : s.size ≤ 1) : shortS s := by unfold shortS maxLen; omega
theorem kind_ack : kindA ⟨#[97, 99, 107]⟩ = .tup [.i 28, .bl true] := by
 unfold kindA
 rw [show kindOf ⟨#[97, 99, 107]⟩ = some 28 from by decide +kernel]; rfl
theorem name_order : kindN 0 = ⟨#[111, 114, 100, 101, 114]⟩ := by decide +kernel
def AwC : Ctr := spec (fun _ : Unit => []) (fun _ => []) (fun _ => True) (fun _ => .bl true) fun _ => []
theorem awake_body (P : Program) (hT : FnOk P 13 (TextLC (fieldsL itoS monS))) (hK0 : FnOk P 19 KindC) (hN : FnOk P 20 NameC) : BodyOk P x6 AwC := by
 intro args H K hc
 obtain ⟨_, rfl, rfl, _, hK⟩ := hc
 refine ⟨Nat.le_of_ble_eq_true rfl, ?_⟩
 dsimp only at hK ⊢
 obtain ⟨r, hr, hr1, hr2⟩ := textS0
 obtain ⟨t, ht⟩ : ∃ t : ByteArray, t = ⟨(textS (fieldsL itoS monS l0)).toArray⟩ := ⟨_, rfl⟩
 rw [← ht] at hr
 have hts : t.size = 12 + r.length := by rw [hr]; simp [ByteArray.size]; omega
 have htx : t.extract 0 12 = ⟨⟨[102, 114, 111, 109, 61, 97, 10, 116, 111, 61, 98, 10]⟩⟩ := by
  rw [hr]
  apply ByteArray.ext
  apply Array.toList_inj.1
  simp [ByteArray.data_extract]
 cbv
 refine callG_le [.agg [.str ⟨#[97]⟩, .str ⟨#[98]⟩, .i 0, .i 28, .i 3, .str ⟨#[]⟩, .str ⟨#[]⟩, .str ⟨#[]⟩, .i 0, .i 0, .str ⟨#[]⟩, .i 0, .sl 4 [], .sl 1 []]] (by repeat' (first | exact LeL.nil | exact LeL0.nil | exact LeH.nil | exact LeE.refl _ | exact Le.refl _ | exact Le0.one (.refl _) | exact Le0.one (.nil _) | exact Le1.refl _ | exact Le1.nil _ | refine LeH.cons ?_ ?_ | refine LeE.row ?_ | refine LeE.blk ?_ | refine LeL0.cons ?_ ?_ | refine LeL.cons ?_ ?_ | refine Le0.agg ?_ | refine Le.tup ?_ | exact Le.one (.one (.nil _)) | refine Le.one (.agg ?_))) ?_
 refine callG_spec0 hT l0 ⟨⟨by decide, fun d h => by cases h⟩, ⟨by decide, fun d h => by cases h⟩, s0 _ (by decide), s0 _ (by decide), s0 _ (by decide), s0 _ (by decide), s0 _ (by decide)⟩ rfl rfl rfl ?_
 rw [mayl0, textC0]
 simp only [if_true]
 rw [← ht]
 cbv
 refine callG_spec0 hK0 ⟨#[97, 99, 107]⟩ trivial rfl (by rw [kind_ack]; rfl) rfl ?_
 rw [kind_ack]
 cbv; repeat' ((first | refine .y fun h => ?_ | refine .mk (fun h => ?_) fun h => ?_ | refine .k fun z hz => ?_ | refine .u fun u hu hul => ?_ | fail) <;> cbv)
 ·refine callG_spec0 hN 0 trivial rfl rfl rfl ?_
  rw [name_order]
  cbv; repeat' ((first | refine .y fun h => ?_ | refine .mk (fun h => ?_) fun h => ?_ | fail) <;> cbv)
  all_goals first | exact FinK.mk ⟨_, Gh.refl _, .inl (CutK.val rfl (Le.refl _) hK)⟩ | exact absurd rfl (by assumption)
 ·exact absurd (hu.trans htx) h
 all_goals trace_state
end Go.Proofs.YtblkcnmecfppnaaGreatDoor
/-
  strings.IndexByte, strings.Cut at one byte: the library contracts at this program.
-/
namespace Go.Proofs.YtblkcnmecfppnaaGreatDoor
open Go.Shelf Go.RowKit Go.Lib

def lays137_ren : Go.Shelf.Ren := ⟨fun | 137 => 80 | 217 => 95 | 266 => 108 | n => n, fun | 9 => 9 | 5 => 5 | 3 => 3 | n => n, fun | n => n⟩
theorem lays137 : Go.Proofs.Lays.n137 Tryz.prog lays137_ren := {
  mixed := by kernel_rfl
  f137 := Tryz.func80.trans (congrArg some (by kernel_rfl))
  f217 := Tryz.func95.trans (congrArg some (by kernel_rfl))
  f266 := Tryz.func108.trans (congrArg some (by kernel_rfl))
  t3 := Tryz.underlying3
  a3 := Tryz.isAgg3
  z3 := Tryz.sizeOf3
  v3 := Tryz.zeroValue3
  t5 := Tryz.underlying5
  a5 := Tryz.isAgg5
  z5 := Tryz.sizeOf5
  v5 := Tryz.zeroValue5
  t9 := Tryz.underlying9
  a9 := Tryz.isAgg9
  z9 := Tryz.sizeOf9
  v9 := Tryz.zeroValue9 }
def lays219_ren : Go.Shelf.Ren := ⟨fun | 219 => 109 | 217 => 95 | 225 => 121 | 224 => 122 | 267 => 123 | 266 => 108 | 314 => 130 | n => n, fun | 9 => 9 | 3 => 3 | 4 => 4 | 5 => 5 | 46 => 120 | 146 => 134 | 51 => 133 | n => n, fun | 1 => 3 | n => n⟩
theorem lays219 : Go.Proofs.Lays.n219 Tryz.prog lays219_ren := {
  mixed := by kernel_rfl
  f217 := Tryz.func95.trans (congrArg some (by kernel_rfl))
  f219 := Tryz.func109.trans (congrArg some (by kernel_rfl))
  f224 := Tryz.func122.trans (congrArg some (by kernel_rfl))
  f225 := Tryz.func121.trans (congrArg some (by kernel_rfl))
  f266 := Tryz.func108.trans (congrArg some (by kernel_rfl))
  f267 := Tryz.func123.trans (congrArg some (by kernel_rfl))
  f314 := Tryz.func130.trans (congrArg some (by kernel_rfl))
  t3 := Tryz.underlying3
  a3 := Tryz.isAgg3
  z3 := Tryz.sizeOf3
  v3 := Tryz.zeroValue3
  t4 := Tryz.underlying4
  a4 := Tryz.isAgg4
  z4 := Tryz.sizeOf4
  v4 := Tryz.zeroValue4
  t5 := Tryz.underlying5
  a5 := Tryz.isAgg5
  z5 := Tryz.sizeOf5
  v5 := Tryz.zeroValue5
  t9 := Tryz.underlying9
  a9 := Tryz.isAgg9
  z9 := Tryz.sizeOf9
  v9 := Tryz.zeroValue9
  t46 := Tryz.underlying120
  a46 := Tryz.isAgg120
  z46 := Tryz.sizeOf120
  v46 := Tryz.zeroValue120
  t51 := Tryz.underlying133
  a51 := Tryz.isAgg133
  z51 := Tryz.sizeOf133
  v51 := Tryz.zeroValue133
  t146 := Tryz.underlying134
  a146 := Tryz.isAgg134
  z146 := Tryz.sizeOf134
  v146 := Tryz.zeroValue134
  g1 := by kernel_rfl }

theorem indexByte_any (s : ByteArray) (c : UInt8) (x : Int) (hx : x = c.toNat) (w : World) :
    Calls Tryz.prog 80 #[.string s, .int .u8 x] w fun e w1 => e = .returned (.int .i64 (Lib.indexByte s.data.toList c)) ∧ w = w1 :=
  (Any.strings_IndexByte lays137 s x w).mono fun e w1 ⟨h1, h2⟩ => ⟨by
    have e1 : x.toNat.toUInt8 = c := by subst hx; simp
    rw [e1] at h1
    exact h1, h2.symm⟩
theorem index_one (s : ByteArray) (c : UInt8) (w : World) :
    Calls Tryz.prog 109 #[.string s, .string ⟨#[c]⟩] w fun e w1 => e = .returned (.int .i64 (Lib.indexByte s.data.toList c)) ∧ w = w1 :=
  (Any.stringslite_Index_one lays219 s c w).mono fun e w1 ⟨h1, h2⟩ => ⟨h1, h2.symm⟩
end Go.Proofs.YtblkcnmecfppnaaGreatDoor
/-
  Reading a record's text, in plain words: what is read, or the line at which it goes wrong and why; it is the inverse of writing.
-/
namespace Go.Proofs.YtblkcnmecfppnaaGreatDoor
def cutL (c : UInt8) : List UInt8 → Option (List UInt8 × List UInt8)
  | [] => none
  | x :: r => if x = c then some ([], r) else match cutL c r with
    | some (a, b) => some (x :: a, b)
    | none => none
theorem cutL_some {c : UInt8} : ∀ {l a b : List UInt8}, cutL c l = some (a, b) → l = a ++ c :: b ∧ ∀ x ∈ a, x ≠ c
  | [], _, _, h => by cases h
  | x :: r, a, b, h => by
    unfold cutL at h
    split at h
    · rename_i e; cases h; exact ⟨by rw [e]; rfl, fun y hy => (by cases hy)⟩
    · rename_i e
      cases hc : cutL c r with
      | none => rw [hc] at h; cases h
      | some p =>
        obtain ⟨a1, b1⟩ := p
        rw [hc] at h
        cases h
        obtain ⟨h1, h2⟩ := cutL_some hc
        refine ⟨by rw [h1]; rfl, fun y hy => ?_⟩
        rcases List.mem_cons.1 hy with rfl | hy
        · exact e
        · exact h2 y hy
theorem cutL_none {c : UInt8} : ∀ {l : List UInt8}, cutL c l = none → ∀ x ∈ l, x ≠ c
  | [], _, x, hx => by cases hx
  | y :: r, h, x, hx => by
    unfold cutL at h
    split at h
    · cases h
    · rename_i e
      cases hc : cutL c r with
      | some p => rw [hc] at h; cases h
      | none =>
        rcases List.mem_cons.1 hx with rfl | hx
        · exact e
        · exact cutL_none hc x hx
theorem cutL_at {c : UInt8} {b : List UInt8} : ∀ {a : List UInt8}, (∀ x ∈ a, x ≠ c) → cutL c (a ++ c :: b) = some (a, b)
  | [], _ => by unfold cutL; simp
  | x :: a, h => by
    have e : ¬ x = c := h x (List.mem_cons_self ..)
    show cutL c (x :: (a ++ c :: b)) = _
    unfold cutL
    rw [if_neg e, cutL_at fun y hy => h y (List.mem_cons_of_mem _ hy)]
theorem cutL_index {c : UInt8} : ∀ l : List UInt8, Lib.indexByte l c = match cutL c l with
    | some (a, _) => (a.length : Int)
    | none => -1 := fun l => by
  cases h : cutL c l with
  | none =>
    have h2 := cutL_none h
    dsimp only
    clear h
    induction l with
    | nil => rfl
    | cons x r ih =>
      have e := ih fun y hy => h2 y (List.mem_cons_of_mem _ hy)
      have hx : ¬ x = c := h2 x (List.mem_cons_self ..)
      unfold Lib.indexByte
      rw [e]
      simp [hx]
  | some p =>
    obtain ⟨a, b⟩ := p
    obtain ⟨h1, h2⟩ := cutL_some h
    rw [h1]
    exact index_here a b c h2
/-- A value as it was written, read back. -/
def unE : List UInt8 → Option (List UInt8)
  | [] => some []
  | [c] => if c = 92 then none else some [c]
  | c :: d :: r => if c = 92 then (if d = 92 then (unE r).map (92 :: ·) else if d = 110 then (unE r).map (10 :: ·) else none) else (unE (d :: r)).map (c :: ·)
theorem unE_esc1 (c : UInt8) (r : List UInt8) : unE (esc1 c ++ r) = (unE r).map (c :: ·) := by
  unfold esc1
  by_cases h : c = 92
  · subst h
    simp only [if_true, List.cons_append, List.nil_append]
    rw [unE]
    simp
  · rw [if_neg h]
    by_cases h2 : c = 10
    · subst h2
      simp only [if_true, List.cons_append, List.nil_append]
      rw [unE]
      simp
    · rw [if_neg h2]
      cases r with
      | nil => simp [unE, h]
      | cons d r => simp only [List.cons_append, List.nil_append]; rw [unE, if_neg h]
theorem unE_esc : ∀ v : List UInt8, unE (esc v) = some v
  | [] => rfl
  | c :: v => by
    show unE (esc1 c ++ esc v) = _
    rw [unE_esc1, unE_esc v]; rfl
theorem esc_unE : ∀ (t v : List UInt8), (∀ x ∈ t, x ≠ 10) → unE t = some v → esc v = t
  | [], v, _, h => by cases h; rfl
  | [c], v, hn, h => by
    rw [unE] at h
    split at h
    · cases h
    · rename_i hc
      cases h
      have : ¬ c = 10 := hn c (List.mem_cons_self ..)
      simp [esc, esc1, hc, this]
  | c :: d :: r, v, hn, h => by
    rw [unE] at h
    have hr : ∀ x ∈ r, x ≠ 10 := fun x hx => hn x (List.mem_cons_of_mem _ (List.mem_cons_of_mem _ hx))
    have hdr : ∀ x ∈ d :: r, x ≠ 10 := fun x hx => hn x (List.mem_cons_of_mem _ hx)
    split at h
    · rename_i hc
      subst hc
      split at h
      · rename_i hd
        subst hd
        obtain ⟨u, hu, rfl⟩ := Option.map_eq_some_iff.1 h
        have := esc_unE r u hr hu
        show esc1 92 ++ esc u = _
        rw [this]; rfl
      · split at h
        · rename_i _ hd
          subst hd
          obtain ⟨u, hu, rfl⟩ := Option.map_eq_some_iff.1 h
          have := esc_unE r u hr hu
          show esc1 10 ++ esc u = _
          rw [this]; rfl
        · cases h
    · rename_i hc
      obtain ⟨u, hu, rfl⟩ := Option.map_eq_some_iff.1 h
      have := esc_unE (d :: r) u hdr hu
      have hc10 : ¬ c = 10 := hn c (List.mem_cons_self ..)
      show esc1 c ++ esc u = _
      rw [this]
      unfold esc1
      rw [if_neg hc, if_neg hc10]; rfl
def valP (n v : List UInt8) : Option Fd := match unE v with
  | some u => if u.length ≤ 4096 then some ⟨⟨n.toArray⟩, ⟨u.toArray⟩⟩ else none
  | none => none
/-- A line that is a field. -/
def lineP (t : List UInt8) : Option Fd := match cutL 61 t with
  | some (n, v) => if nameB ⟨n.toArray⟩ then valP n v else none
  | none => none
theorem lineP_some {t : List UInt8} {f : Fd} (hn : ∀ x ∈ t, x ≠ 10) (h : lineP t = some f) : mayF f = true ∧ lineL f = t ++ [10] := by
  unfold lineP at h
  cases hc : cutL 61 t with
  | none => rw [hc] at h; cases h
  | some p =>
    obtain ⟨n, v⟩ := p
    rw [hc] at h
    dsimp only at h
    split at h
    · rename_i hb
      unfold valP at h
      cases hu : unE v with
      | none => rw [hu] at h; cases h
      | some u =>
        rw [hu] at h
        dsimp only at h
        split at h
        · rename_i hl
          cases h
          obtain ⟨h1, _⟩ := cutL_some hc
          have hv : ∀ x ∈ v, x ≠ 10 := fun x hx => hn x (by rw [h1]; exact List.mem_append_right _ (List.mem_cons_of_mem _ hx))
          have he := esc_unE v u hv hu
          have hsz : (⟨u.toArray⟩ : ByteArray).size = u.length := by simp [ByteArray.size]
          refine ⟨by unfold mayF; rw [hb, decide_eq_true (by dsimp only; rw [hsz]; exact hl)]; rfl, ?_⟩
          unfold lineL
          dsimp only
          rw [he, h1]
          simp
        · cases h
    · cases h
theorem lineP_line {f : Fd} (h : mayF f = true) : lineP (f.name.data.toList ++ 61 :: esc f.value.data.toList) = some f := by
  unfold mayF at h
  simp only [Bool.and_eq_true, decide_eq_true_eq] at h
  unfold lineP
  rw [cutL_at (name_no f.name h.1 61 (by decide))]
  dsimp only
  have e : (⟨f.name.data.toList.toArray⟩ : ByteArray) = f.name := rfl
  rw [e, if_pos h.1]
  unfold valP
  rw [unE_esc]
  dsimp only
  have hl : f.value.data.toList.length ≤ 4096 := by rw [Array.length_toList]; exact h.2
  rw [if_pos hl]
/-- What is read: the fields; or the line, and why not. -/
def parseG : Nat → List UInt8 → List Fd → List UInt8 → List Fd × Int × Int
  | n, cur, acc, [] => if cur = [] then (acc, 0, 0) else if 64 < n then ([], n, 7) else ([], n, 2)
  | n, cur, acc, c :: r => if c = 10 then (if 64 < n then ([], n, 7) else match lineP cur with
      | none => ([], n, 2)
      | some f => parseG (n + 1) [] (acc ++ [f]) r)
    else parseG n (cur ++ [c]) acc r
def parseS (s : List UInt8) : List Fd × Int × Int := parseG 1 [] [] s
theorem parseG_cut (n : Nat) (acc : List Fd) (r : List UInt8) : ∀ (t cur : List UInt8), (∀ x ∈ t, x ≠ 10) → parseG n cur acc (t ++ 10 :: r) = if 64 < n then ([], (n : Int), 7) else match lineP (cur ++ t) with
      | none => ([], n, 2)
      | some f => parseG (n + 1) [] (acc ++ [f]) r
  | [], cur, _ => by
    show parseG n cur acc (10 :: r) = _
    rw [parseG, if_pos rfl, List.append_nil]
  | c :: t, cur, h => by
    show parseG n cur acc (c :: (t ++ 10 :: r)) = _
    rw [parseG, if_neg (h c (List.mem_cons_self ..)), parseG_cut n acc r t (cur ++ [c]) fun x hx => h x (List.mem_cons_of_mem _ hx)]
    simp
theorem parseG_end (n : Nat) (acc : List Fd) : ∀ (t cur : List UInt8), (∀ x ∈ t, x ≠ 10) → parseG n cur acc t = if cur ++ t = [] then (acc, 0, 0) else if 64 < n then ([], (n : Int), 7) else ([], n, 2)
  | [], cur, _ => by rw [parseG, List.append_nil]
  | c :: t, cur, h => by
    rw [parseG, if_neg (h c (List.mem_cons_self ..)), parseG_end n acc t (cur ++ [c]) fun x hx => h x (List.mem_cons_of_mem _ hx)]
    simp
theorem parseG_textL : ∀ (gs : List Fd) (n : Nat) (acc : List Fd) (r : List UInt8), (∀ f ∈ gs, mayF f = true) → n + gs.length ≤ 65 → parseG n [] acc (textL gs ++ r) = parseG (n + gs.length) [] (acc ++ gs) r
  | [], n, acc, r, _, _ => by simp [textL]
  | g :: gs, n, acc, r, hm, hl => by
    have hg := hm g (List.mem_cons_self ..)
    have e : textL (g :: gs) ++ r = (g.name.data.toList ++ 61 :: esc g.value.data.toList) ++ 10 :: (textL gs ++ r) := by
      show lineL g ++ textL gs ++ r = _
      unfold lineL
      simp
    have hb : nameB g.name = true := by unfold mayF at hg; simp only [Bool.and_eq_true] at hg; exact hg.1
    have hno : ∀ x ∈ g.name.data.toList ++ 61 :: esc g.value.data.toList, x ≠ 10 := fun x hx => by
      rcases List.mem_append.1 hx with h | h
      · exact name_no g.name hb 10 (by decide) x h
      · rcases List.mem_cons.1 h with rfl | h
        · decide
        · exact esc_no10 _ x h
    rw [e, parseG_cut n acc _ _ [] hno, if_neg (by simp only [List.length_cons] at hl; omega), List.nil_append, lineP_line hg]
    dsimp only
    rw [parseG_textL gs (n + 1) (acc ++ [g]) r (fun f hf => hm f (List.mem_cons_of_mem _ hf)) (by simp only [List.length_cons] at hl; omega)]
    have e2 : n + (gs.length + 1) = n + 1 + gs.length := by omega
    simp only [List.length_cons, List.append_assoc, List.singleton_append]
    rw [e2]
theorem parseG_ok : ∀ (r : List UInt8) (n : Nat) (cur : List UInt8) (acc fs : List Fd) (a : Int), (∀ x ∈ cur, x ≠ 10) → n ≤ 65 → parseG n cur acc r = (fs, a, 0) → ∃ gs, fs = acc ++ gs ∧ (∀ f ∈ gs, mayF f = true) ∧ textL gs = cur ++ r ∧ n + gs.length ≤ 65 ∧ a = 0
  | [], n, cur, acc, fs, a, hc, hn, h => by
    rw [parseG] at h
    split at h
    · rename_i e
      cases h
      exact ⟨[], by simp, fun f hf => (by cases hf), by rw [e]; rfl, by simpa using hn, rfl⟩
    · split at h
      · injection h with _ h; injection h with _ h; cases h
      · injection h with _ h; injection h with _ h; cases h
  | c :: r, n, cur, acc, fs, a, hc, hn, h => by
    rw [parseG] at h
    split at h
    · rename_i e
      subst e
      split at h
      · injection h with _ h; injection h with _ h; cases h
      · rename_i hn64
        cases hl : lineP cur with
        | none => rw [hl] at h; injection h with _ h; injection h with _ h; cases h
        | some f =>
          rw [hl] at h
          dsimp only at h
          obtain ⟨gs, rfl, hm, ht, hg, ha⟩ := parseG_ok r (n + 1) [] (acc ++ [f]) fs a (fun x hx => (by cases hx)) (by omega) h
          obtain ⟨hf, hfl⟩ := lineP_some hc hl
          refine ⟨f :: gs, by simp, fun g hg => ?_, ?_, by simp only [List.length_cons]; omega, ha⟩
          · rcases List.mem_cons.1 hg with rfl | hg
            · exact hf
            · exact hm g hg
          · show lineL f ++ textL gs = _
            rw [hfl, ht]; simp
    · rename_i e
      obtain ⟨gs, h1, h2, h3, h4⟩ := parseG_ok r n (cur ++ [c]) acc fs a (fun x hx => by
        rcases List.mem_append.1 hx with hx | hx
        · exact hc x hx
        · obtain rfl := List.mem_singleton.1 hx; exact e) hn h
      exact ⟨gs, h1, h2, by rw [h3]; simp, h4⟩
theorem parseG_full {n : Nat} (hn : 64 < n) (acc : List Fd) : ∀ (r cur : List UInt8), cur ++ r ≠ [] → parseG n cur acc r = ([], (n : Int), 7)
  | [], cur, h => by
    rw [List.append_nil] at h
    rw [parseG, if_neg h, if_pos hn]
  | c :: r, cur, h => by
    rw [parseG]
    split
    · rfl
    · exact parseG_full hn acc r (cur ++ [c]) (by simp)
/-- Read without an error is just what is written so. -/
theorem parseS_iff (s : List UInt8) (fs : List Fd) : (∃ a, parseS s = (fs, a, 0)) ↔ textC fs = 0 ∧ textS fs = s := by
  have key : textC fs = 0 ↔ fs.length ≤ 64 ∧ ∀ f ∈ fs, mayF f = true := by
    unfold textC
    split
    · exact ⟨fun h => (by cases h), fun h => (by omega)⟩
    · split
      · rename_i h1 h2
        exact ⟨fun _ => ⟨by omega, fun f hf => List.all_eq_true.1 h2 f hf⟩, fun _ => rfl⟩
      · rename_i h1 h2
        exact ⟨fun h => (by cases h), fun h => absurd (List.all_eq_true.2 fun f hf => h.2 f hf) h2⟩
  constructor
  · rintro ⟨a, h⟩
    obtain ⟨gs, h1, hm, ht, hg, _⟩ := parseG_ok s 1 [] [] fs a (fun x hx => (by cases hx)) (by omega) h
    rw [List.nil_append] at h1 ht
    subst h1
    have h0 := key.2 ⟨by omega, hm⟩
    exact ⟨h0, by unfold textS; rw [if_pos h0]; exact ht⟩
  · rintro ⟨h0, ht⟩
    unfold textS at ht
    rw [if_pos h0] at ht
    obtain ⟨hl, hm⟩ := key.1 h0
    refine ⟨0, ?_⟩
    unfold parseS
    have := parseG_textL fs 1 [] [] hm (by omega)
    rw [List.append_nil, ht] at this
    rw [this, parseG]
    simp
theorem parseS_line {s : List UInt8} {fs : List Fd} {a : Int} (h : parseS s = (fs, a, 0)) : a = 0 := (parseG_ok s 1 [] [] fs a (fun x hx => (by cases hx)) (by omega) h).choose_spec.2.2.2.2
theorem parseG_err : ∀ (r : List UInt8) (n : Nat) (cur : List UInt8) (acc fs : List Fd) (a e : Int), parseG n cur acc r = (fs, a, e) → e ≠ 0 → fs = [] ∧ (e = 7 ∨ e = 2) ∧ n ≤ a ∧ a ≤ n + r.length
  | [], n, cur, acc, fs, a, e, h, he => by
    rw [parseG] at h
    split at h
    · cases h; exact absurd rfl he
    · split at h <;> (cases h; simp)
  | c :: r, n, cur, acc, fs, a, e, h, he => by
    rw [parseG] at h
    simp only [List.length_cons]
    split at h
    · split at h
      · cases h; exact ⟨rfl, .inl rfl, by omega, by omega⟩
      · cases hl : lineP cur with
        | none => rw [hl] at h; cases h; exact ⟨rfl, .inr rfl, by omega, by omega⟩
        | some f =>
          rw [hl] at h
          obtain ⟨h1, h2, h3, h4⟩ := parseG_err r (n + 1) [] (acc ++ [f]) fs a e h he
          exact ⟨h1, h2, by omega, by omega⟩
    · obtain ⟨h1, h2, h3, h4⟩ := parseG_err r n (cur ++ [c]) acc fs a e h he
      exact ⟨h1, h2, h3, by omega⟩
end Go.Proofs.YtblkcnmecfppnaaGreatDoor
/-
 Searching and cutting texts; a field's name.
-/
namespace Go.Proofs.YtblkcnmecfppnaaGreatDoor
open Go.RowKit
set_option maxHeartbeats 2000000
set_option maxRecDepth 100000
/-- The place of a byte in a text. -/
def IdxC (c : UInt8) (z : Int) : Ctr := spec (fun s : ByteArray => [.str s, .int .u8 z]) (fun _ => []) (fun _ => True) (fun s => .i (Lib.indexByte s.data.toList c)) fun _ => []
theorem k_idx10 : FnOk Tryz.prog 80 (IdxC 10 10) := fn_pure fun s _ pub w vals hv => by
 obtain ⟨us, h1, hv⟩ := VRels.str_inv hv |>.imp fun _ h => h
 obtain ⟨us2, h2, hv⟩ := VRels.int_inv hv |>.imp fun _ h => h
 have h3 := hv.nil_inv
 have e : vals = #[.string s, .int .u8 10] := Array.toList_inj.1 (by rw [h1, h2, h3])
 rw [e]
 exact (indexByte_any s 10 10 (by decide) w).mono fun e w' ⟨he, hw⟩ => ⟨hw.symm, _, he, .int ..⟩
def Idx1C (c : UInt8) : Ctr := spec (fun s : ByteArray => [.str s, .str ⟨#[c]⟩]) (fun _ => []) (fun _ => True) (fun s => .i (Lib.indexByte s.data.toList c)) fun _ => []
theorem k_idx61 : FnOk Tryz.prog 109 (Idx1C 61) := fn_pure fun s _ pub w vals hv => by
 obtain ⟨us, h1, hv⟩ := VRels.str_inv hv |>.imp fun _ h => h
 obtain ⟨us2, h2, hv⟩ := VRels.str_inv hv |>.imp fun _ h => h
 have h3 := hv.nil_inv
 have e : vals = #[.string s, .string ⟨#[61]⟩] := Array.toList_inj.1 (by rw [h1, h2, h3])
 rw [e]
 exact (index_one s 61 w).mono fun e w' ⟨he, hw⟩ => ⟨hw.symm, _, he, .int ..⟩
/-- A text cut at the first of a byte. -/
def CutA (c : UInt8) (s : ByteArray) : AV := match cutL c s.data.toList with
 | some (a, b) => .tup [.str ⟨a.toArray⟩, .str ⟨b.toArray⟩, .bl true]
 | none => .tup [.str s, .str ⟨#[]⟩, .bl false]
def CutC (c : UInt8) : Ctr := spec (fun s : ByteArray => [.str s, .str ⟨#[c]⟩]) (fun _ => []) (fun s => s.size ≤ maxLen) (CutA c) fun _ => []
theorem bytes_sub {s : ByteArray} {a b : List UInt8} {c : UInt8} (h : s.data.toList = a ++ c :: b) : s.size = a.length + b.length + 1 ∧ s.extract 0 a.length = ⟨a.toArray⟩ ∧ s.extract (a.length + 1) s.size = ⟨b.toArray⟩ := by
 have hs : s = ⟨(a ++ c :: b).toArray⟩ := ByteArray.ext (Array.toList_inj.1 h)
 have hz : s.size = a.length + b.length + 1 := by rw [hs]; simp [ByteArray.size]; omega
 refine ⟨hz, ?_, ?_⟩
 ·apply ByteArray.ext
  apply Array.toList_inj.1
  rw [ByteArray.data_extract, hs]
  simp
 ·apply ByteArray.ext
  apply Array.toList_inj.1
  rw [ByteArray.data_extract, hz, hs]
  have e : (a ++ c :: b).drop (a.length + 1) = b := by
   rw [show a.length + 1 = (a ++ [c]).length by simp, show a ++ c :: b = (a ++ [c]) ++ b by simp, List.drop_left]
  simp only [List.extract_toArray, List.extract_eq_take_drop]
  rw [e, List.take_of_length_le (by omega)]
theorem cut_body (P : Program) (h : FnOk P 109 (Idx1C 61)) : BodyOk P x96 (CutC 61) := by
 intro args H K hc
 obtain ⟨s, rfl, rfl, hp, hK⟩ := hc
 refine ⟨Nat.le_of_ble_eq_true rfl, ?_⟩
 dsimp only at hK ⊢
 unfold CutA at hK
 have hx := cutL_index (c := 61) s.data.toList
 cbv
 refine callG_spec0 h s trivial rfl rfl rfl ?_
 try dsimp only
 cases hcut : cutL 61 s.data.toList with
 | none =>
  rw [hcut] at hx hK
  dsimp only at hx hK
  rw [hx]
  cbv; repeat' ((first | refine .n fun h => ?_ | fail) <;> cbv)
  exact FinK.mk ⟨_, Gh.refl _, .inl (CutK.val rfl (Le.refl _) hK)⟩
 | some p =>
  obtain ⟨a, b⟩ := p
  rw [hcut] at hx hK
  dsimp only at hx hK
  obtain ⟨h1, h2, h3⟩ := bytes_sub (cutL_some hcut).1
  rw [hx]
  obtain ⟨n, hn⟩ : ∃ n, n = a.length := ⟨_, rfl⟩
  rw [← hn] at h1 h2 h3 ⊢
  have hp' : s.size ≤ maxLen := hp
  unfold maxLen at hp'
  cbv; repeat' ((first | refine .y fun h => ?_ | refine .k fun z hz => ?_ | refine .u fun u hu hul => ?_ | fail) <;> cbv)
  obtain rfl : z = 1 := by rw [hz]; rfl
  cbv; repeat' ((first | refine .k fun z hz => ?_ | refine .u fun u hu hul => ?_ | fail) <;> cbv)
  obtain rfl : z = nI (n + 1) := by ((try simp only [vn] at *) <;> omega)
  obtain rfl : u = ⟨b.toArray⟩ := hu.trans h3
  rename_i hu1 hul1 hz1
  obtain rfl := hu1.trans h2
  exact FinK.mk ⟨_, Gh.refl _, .inl (CutK.val rfl (Le.refl _) hK)⟩
theorem cutS_body (P : Program) (h : FnOk P 96 (CutC 61)) : BodyOk P x81 (CutC 61) := by
 intro args H K hc
 obtain ⟨s, rfl, rfl, hp, hK⟩ := hc
 refine ⟨Nat.le_of_ble_eq_true rfl, ?_⟩
 dsimp only at hK ⊢
 cbv
 cases hcut : cutL 61 s.data.toList with
 | none =>
  have e : CutA 61 s = .tup [.str s, .str ⟨#[]⟩, .bl false] := by unfold CutA; rw [hcut]
  refine callG_spec0 h s hp rfl (by rw [e]; rfl) rfl ?_
  rw [e] at hK ⊢
  cbv
  exact FinK.mk ⟨_, Gh.refl _, .inl (CutK.val rfl (Le.refl _) hK)⟩
 | some p =>
  obtain ⟨a, b⟩ := p
  have e : CutA 61 s = .tup [.str ⟨a.toArray⟩, .str ⟨b.toArray⟩, .bl true] := by unfold CutA; rw [hcut]
  refine callG_spec0 h s hp rfl (by rw [e]; rfl) rfl ?_
  rw [e] at hK ⊢
  cbv
  exact FinK.mk ⟨_, Gh.refl _, .inl (CutK.val rfl (Le.refl _) hK)⟩
theorem k_fisName : FnOk Tryz.prog 82 (StrC shortS nameB) := fn_strB fun s w hs => isName_any s w hs
end Go.Proofs.YtblkcnmecfppnaaGreatDoor
/-
 Reading a record's text: the program's Parse.
-/
namespace Go.Proofs.YtblkcnmecfppnaaGreatDoor
open Go.RowKit
set_option maxHeartbeats 8000000
set_option maxRecDepth 100000
def byA (b : UInt8) : AV := .int .u8 (b.toNat : Int)
theorem bytesA_by : ∀ l : List UInt8, bytesA (mapA byA l) = some (l.map fun b => (b.toNat : Int))
 | [] => rfl
 | b :: l => by
  show (bytesA (mapA byA l)).map ((b.toNat : Int) :: ·) = _
  rw [bytesA_by l]; rfl
theorem strOf_by (l : List UInt8) : strOf (l.map fun b => (b.toNat : Int)) = ⟨l.toArray⟩ := by
 unfold strOf
 congr 2
 rw [List.map_map]
 conv => rhs; rw [← List.map_id l]
 exact List.map_congr_left fun b _ => by simp
theorem drop_at (s : ByteArray) {k : Nat} {c : UInt8} (h : s.data[k]? = some c) : s.data.toList.drop k = c :: s.data.toList.drop (k + 1) := by
 have hk : k < s.data.toList.length := by
  have := (Array.getElem?_eq_some_iff.1 h).1
  simpa using this
 rw [List.drop_eq_getElem_cons hk]
 congr 1
 have := (Array.getElem?_eq_some_iff.1 h).2
 simpa using this
theorem drop_end (s : ByteArray) {k : Nat} (h : s.size ≤ k) : s.data.toList.drop k = [] := List.drop_eq_nil_of_le (by rw [Array.length_toList]; exact h)
theorem unE_plain {c : UInt8} (r : List UInt8) (h : ¬ c = 92) : unE (c :: r) = (unE r).map (c :: ·) := by
 cases r with
 | nil =>
  have e : unE [c] = if c = 92 then none else some [c] := by rw [unE]
  rw [e, if_neg h]; rfl
 | cons d r => rw [unE, if_neg h]
theorem unE_bs (r : List UInt8) : unE (92 :: 92 :: r) = (unE r).map (92 :: ·) := by rw [unE]; simp
theorem unE_nl (r : List UInt8) : unE (92 :: 110 :: r) = (unE r).map (10 :: ·) := by rw [unE]; simp
theorem unE_bad {d : UInt8} (r : List UInt8) (h1 : ¬ d = 92) (h2 : ¬ d = 110) : unE (92 :: d :: r) = none := by rw [unE]; simp [h1, h2]
theorem unE_one : unE [92] = none := by rw [unE]; simp
theorem u8_eq {c d : UInt8} {x : Int} (hx : x = c.toNat) (h : x = (d.toNat : Int)) : c = d := UInt8.toNat_inj.1 (by omega)
/-- How far a value is read: what stands already, what still comes. -/
def UnTo (t : List UInt8) (k : Nat) (B : List UInt8) : Prop := unE t = (unE (t.drop k)).map (B ++ ·)
theorem UnTo.zero (t : List UInt8) : UnTo t 0 [] := by unfold UnTo; simp
theorem UnTo.step {t : List UInt8} {k m : Nat} {B : List UInt8} {c : UInt8} (h : UnTo t k B) (e : unE (t.drop k) = (unE (t.drop m)).map (c :: ·)) : UnTo t m (B ++ [c]) := by
 unfold UnTo at *
 rw [h, e, Option.map_map]
 congr 1
 funext x
 simp
theorem UnTo.bad {t : List UInt8} {k : Nat} {B : List UInt8} (h : UnTo t k B) (e : unE (t.drop k) = none) (n : List UInt8) : valP n t = none := by
 unfold UnTo at h
 rw [e] at h
 unfold valP
 rw [h]; rfl
theorem UnTo.long {t : List UInt8} {k m : Nat} {B : List UInt8} {c : UInt8} (h : UnTo t k B) (e : unE (t.drop k) = (unE (t.drop m)).map (c :: ·)) (hl : 4096 ≤ B.length) (n : List UInt8) : valP n t = none := by
 have h2 := h.step e
 unfold UnTo at h2
 unfold valP
 rw [h2]
 cases unE (t.drop m) with
 | none => rfl
 | some u =>
  simp only [Option.map_some]
  rw [if_neg]
  simp only [List.length_append, List.length_cons, List.length_nil]
  omega
theorem UnTo.done {t : List UInt8} {k : Nat} {B : List UInt8} (h : UnTo t k B) (e : t.drop k = []) (hl : B.length ≤ 4096) (n : List UInt8) : valP n t = some ⟨⟨n.toArray⟩, ⟨B.toArray⟩⟩ := by
 unfold UnTo at h
 rw [e] at h
 unfold valP
 rw [h]
 show (if (B ++ []).length ≤ 4096 then some (⟨⟨n.toArray⟩, ⟨(B ++ []).toArray⟩⟩ : Fd) else none) = _
 rw [List.append_nil, if_pos hl]
noncomputable def ParA (r : List Fd × Int × Int) : AV := .tup [.sl 2 (mapA FdA r.1), .i r.2.1, .i r.2.2]
noncomputable def ParseC : Ctr := spec (fun s : ByteArray => [.str s]) (fun _ => []) shortS (fun s => ParA (parseS s.data.toList)) fun _ => []
theorem parse_body (P : Program) (hI : FnOk P 80 (IdxC 10 10)) (hC : FnOk P 81 (CutC 61)) (hN : FnOk P 82 (StrC shortS nameB)) : BodyOk P x43 ParseC := by
 intro args H K hc
 obtain ⟨s0, rfl, rfl, hp, hK⟩ := hc
 refine ⟨Nat.le_of_ble_eq_true rfl, ?_⟩
 dsimp only at hK ⊢
 obtain ⟨R, hR⟩ : ∃ R, R = parseS s0.data.toList := ⟨_, rfl⟩
 rw [← hR] at hK
 have hp0 : s0.size ≤ maxLen := hp
 unfold parseS at hR
 cbv
 refine xscope (ι := Empty) 0 (fun e => nomatch e) (fun e => nomatch e) rfl ?_ (fun e => nomatch e)
 cbv
 refine xloopG (Gh.adopt 5 24 2 rfl) ?_
 cbv
 refine xloopV [0] (fun q : { q : (ByteArray × Nat) × Nat × List Fd // R = parseG (q.2.1 + 1) [] q.2.2 q.1.1.data.toList ∧ q.1.1.size ≤ maxLen ∧ q.2.1 ≤ 64 ∧ q.2.2.length = q.2.1 ∧ q.1.1.size = q.1.2 } => [(0, .str q.1.1.1), (6, .i (nI q.1.2.1)), (7, .i 0), (5, .hd 0)]) (fun q => [.row 24 2 (mapA FdA q.1.2.2)]) (fun q => lft q.1.1.2 0) ⟨((s0, s0.size), 0, []), hR, hp0, Nat.zero_le _, rfl, rfl⟩ ?_
 rintro ⟨⟨⟨s, sl⟩, n, L⟩, hq, hs, hn, hL, hsl⟩
 dsimp only at hq hs hn hL hsl ⊢
 have hL2 := mapA_len FdA L
 cbv; repeat' ((first | refine .n fun h => ?_ | refine .y fun h => ?_ | refine .mk (fun h => ?_) fun h => ?_ | refine .k fun z hz => ?_ | fail) <;> cbv)
 ·obtain rfl : z = nI (n + 1) := by ((try simp only [vn] at *) <;> omega)
  have hne : s.data.toList ≠ [] := fun e => by
   have : s.size = 0 := by rw [show s.size = s.data.toList.length from by rw [Array.length_toList]; rfl, e]; rfl
   ((try simp only [vn] at *) <;> omega)
  obtain rfl := hq.trans (parseG_full (by ((try simp only [vn] at *) <;> omega)) L s.data.toList [] hne)
  exact FinK.mk ⟨_, Gh.refl _, .inl (CutK.pre _ (by rfl) (by exact Nat.le_of_ble_eq_true rfl) (by rfl) (by rfl) (by repeat' (first | exact LeL.nil | exact LeL0.nil | exact LeH.nil | exact LeE.refl _ | exact Le.refl _ | exact Le0.one (.refl _) | exact Le0.one (.nil _) | exact Le1.refl _ | exact Le1.nil _ | refine LeH.cons ?_ ?_ | refine LeE.row ?_ | refine LeE.blk ?_ | refine LeL0.cons ?_ ?_ | refine LeL.cons ?_ ?_ | refine Le0.agg ?_ | refine Le.tup ?_ | exact Le.one (.one (.nil _)) | refine Le.one (.agg ?_))) (LeH.refl _) hK)⟩
 ·obtain rfl : z = nI (n + 1) := by ((try simp only [vn] at *) <;> omega)
  have hne : s.data.toList ≠ [] := fun e => by
   have : s.size = 0 := by rw [show s.size = s.data.toList.length from by rw [Array.length_toList]; rfl, e]; rfl
   ((try simp only [vn] at *) <;> omega)
  have hx := cutL_index (c := 10) s.data.toList
  refine callG_spec0 hI s trivial rfl rfl rfl ?_
  try dsimp only
  cases hcut : cutL 10 s.data.toList with
  | none =>
   rw [hcut] at hx
   dsimp only at hx
   rw [hx]
   obtain rfl := hq.trans ((parseG_end (n + 1) L s.data.toList [] (cutL_none hcut)).trans ((if_neg hne).trans (if_neg (by ((try simp only [vn] at *) <;> omega)))))
   cbv; repeat' ((first | refine .n fun h => ?_ | refine .y fun h => ?_ | fail) <;> cbv)
   exact FinK.mk ⟨_, Gh.refl _, .inl (CutK.pre _ (by rfl) (by exact Nat.le_of_ble_eq_true rfl) (by rfl) (by rfl) (by repeat' (first | exact LeL.nil | exact LeL0.nil | exact LeH.nil | exact LeE.refl _ | exact Le.refl _ | exact Le0.one (.refl _) | exact Le0.one (.nil _) | exact Le1.refl _ | exact Le1.nil _ | refine LeH.cons ?_ ?_ | refine LeE.row ?_ | refine LeE.blk ?_ | refine LeL0.cons ?_ ?_ | refine LeL.cons ?_ ?_ | refine Le0.agg ?_ | refine Le.tup ?_ | exact Le.one (.one (.nil _)) | refine Le.one (.agg ?_))) (LeH.refl _) hK)⟩
  | some p =>
   obtain ⟨a, b⟩ := p
   rw [hcut] at hx
   dsimp only at hx
   rw [hx]
   obtain ⟨h1, h2, h3⟩ := bytes_sub (cutL_some hcut).1
   have hq2 := hq.trans (((congrArg (parseG (n + 1) [] L) (cutL_some hcut).1).trans (parseG_cut (n + 1) L b a [] (cutL_some hcut).2)).trans (if_neg (by ((try simp only [vn] at *) <;> omega))))
   rw [List.nil_append] at hq2
   clear hq hx
   obtain ⟨m, hm⟩ : ∃ n, n = a.length := ⟨_, rfl⟩
   rw [← hm] at h1 h2 h3 ⊢
   unfold maxLen at hs
   cbv; repeat' ((first | refine .n fun h => ?_ | refine .u fun u hu hul => ?_ | fail) <;> cbv)
   obtain rfl := hu.trans h2
   have ha1 : (⟨a.toArray⟩ : ByteArray).size = a.length := by simp [ByteArray.size]
   have hal : (⟨a.toArray⟩ : ByteArray).size ≤ maxLen := by unfold maxLen; omega
   clear hu hul h2
   cases hc2 : cutL 61 a with
   | none =>
    have e : CutA 61 ⟨a.toArray⟩ = .tup [.str ⟨a.toArray⟩, .str ⟨#[]⟩, .bl false] := by unfold CutA; rw [show (⟨a.toArray⟩ : ByteArray).data.toList = a from rfl, hc2]
    have hl : lineP a = none := by unfold lineP; rw [hc2]
    rw [hl] at hq2
    subst hq2
    refine callG_spec0 hC ⟨a.toArray⟩ hal rfl (by rw [e]; rfl) rfl ?_
    rw [e]
    cbv; repeat' ((first | refine .n fun h => ?_ | refine .k fun z hz => ?_ | refine .u fun u hu hul => ?_ | fail) <;> cbv)
    exact FinK.mk ⟨_, Gh.refl _, .inl (CutK.pre _ (by rfl) (by exact Nat.le_of_ble_eq_true rfl) (by rfl) (by rfl) (by repeat' (first | exact LeL.nil | exact LeL0.nil | exact LeH.nil | exact LeE.refl _ | exact Le.refl _ | exact Le0.one (.refl _) | exact Le0.one (.nil _) | exact Le1.refl _ | exact Le1.nil _ | refine LeH.cons ?_ ?_ | refine LeE.row ?_ | refine LeE.blk ?_ | refine LeL0.cons ?_ ?_ | refine LeL.cons ?_ ?_ | refine Le0.agg ?_ | refine Le.tup ?_ | exact Le.one (.one (.nil _)) | refine Le.one (.agg ?_))) (LeH.refl _) hK)⟩
   | some p =>
    obtain ⟨nm, v⟩ := p
    have e : CutA 61 ⟨a.toArray⟩ = .tup [.str ⟨nm.toArray⟩, .str ⟨v.toArray⟩, .bl true] := by unfold CutA; rw [show (⟨a.toArray⟩ : ByteArray).data.toList = a from rfl, hc2]
    have hv1 : (⟨v.toArray⟩ : ByteArray).size = v.length := by simp [ByteArray.size]
    have hn1 : (⟨nm.toArray⟩ : ByteArray).size = nm.length := by simp [ByteArray.size]
    have hlen : a.length = nm.length + v.length + 1 := by rw [(cutL_some hc2).1]; simp; omega
    refine callG_spec0 hC ⟨a.toArray⟩ hal rfl (by rw [e]; rfl) rfl ?_
    rw [e]
    clear e
    obtain ⟨V, hV⟩ : ∃ V : ByteArray, V = ⟨v.toArray⟩ := ⟨_, rfl⟩
    obtain ⟨N, hN1⟩ : ∃ V : ByteArray, V = ⟨nm.toArray⟩ := ⟨_, rfl⟩
    rw [← hV] at hv1 ⊢
    rw [← hN1] at hn1 ⊢
    cbv; repeat' ((first | refine .k fun z hz => ?_ | refine .u fun u hu hul => ?_ | fail) <;> cbv)
    obtain rfl : z = nI (m + 1) := by ((try simp only [vn] at *) <;> omega)
    obtain rfl := hu.trans h3
    have hb1 : (⟨b.toArray⟩ : ByteArray).size = b.length := by simp [ByteArray.size]
    clear hu hul h3
    obtain ⟨S2, hS2⟩ : ∃ V : ByteArray, V = ⟨b.toArray⟩ := ⟨_, rfl⟩
    rw [← hS2] at hb1 ⊢
    refine callG_spec0 hN N (by unfold shortS maxLen; omega) rfl rfl rfl ?_
    try dsimp only
    cases hnb : nameB N with
    | false =>
     have hl : lineP a = none := by unfold lineP; rw [hc2]; dsimp only; rw [← hN1, hnb]; rfl
     rw [hl] at hq2
     subst hq2
     cbv; repeat' ((first | refine .n fun h => ?_ | fail) <;> cbv)
     exact FinK.mk ⟨_, Gh.refl _, .inl (CutK.pre _ (by rfl) (by exact Nat.le_of_ble_eq_true rfl) (by rfl) (by rfl) (by repeat' (first | exact LeL.nil | exact LeL0.nil | exact LeH.nil | exact LeE.refl _ | exact Le.refl _ | exact Le0.one (.refl _) | exact Le0.one (.nil _) | exact Le1.refl _ | exact Le1.nil _ | refine LeH.cons ?_ ?_ | refine LeE.row ?_ | refine LeE.blk ?_ | refine LeL0.cons ?_ ?_ | refine LeL.cons ?_ ?_ | refine Le0.agg ?_ | refine Le.tup ?_ | exact Le.one (.one (.nil _)) | refine Le.one (.agg ?_))) (LeH.refl _) hK)⟩
    | true =>
     have hl : lineP a = valP nm v := by unfold lineP; rw [hc2]; dsimp only; rw [← hN1, if_pos hnb]
     rw [hl] at hq2
     cbv
     refine xloopG (Gh.adopt 12 5 1 rfl) ?_
     cbv
     obtain ⟨vl, hvl⟩ : ∃ n, n = V.size := ⟨_, rfl⟩
     refine xloopV [1] (fun q : { q : Nat × List UInt8 // UnTo v q.1 q.2 ∧ q.2.length ≤ 4096 ∧ q.1 ≤ vl } => [(13, .i (nI q.1.1)), (12, .hd 1), (7, .i 0)]) (fun q => [.row 24 2 (mapA FdA L), .row 5 1 (mapA byA q.1.2)]) (fun q => lft vl q.1.1) ⟨(0, []), UnTo.zero v, Nat.zero_le _, Nat.zero_le _⟩ ?_
     rintro ⟨⟨k, B⟩, hu, hB, hk⟩
     dsimp only at hu hB hk ⊢
     have hB2 := mapA_len byA B
     cbv; repeat' ((first | refine .mk (fun h => ?_) fun h => ?_ | refine .k fun z hz => ?_ | fail) <;> cbv)
     ·have hkl : k < V.size := by ((try simp only [vn] at *) <;> omega)
      refine ⟨k, rfl, hkl, fun c hc x hx => ?_⟩
      have hd : v.drop k = c :: v.drop (k + 1) := by have := drop_at V hc; rw [hV] at this; exact this
      cbv; repeat' ((first | refine .n fun h => ?_ | refine .mk (fun h => ?_) fun h => ?_ | refine .k fun z hz => ?_ | refine .zl fun zs hzs hzl => ?_ | fail) <;> cbv)
      ·obtain rfl : c = 92 := u8_eq hx (by assumption)
       rename_i zi hzi
       obtain rfl : zi = nI (k + 1) := by ((try simp only [vn] at *) <;> omega)
       refine ⟨k + 1, rfl, by ((try simp only [vn] at *) <;> omega), fun d hd2 y hy => ?_⟩
       have hdd : v.drop (k + 1) = d :: v.drop (k + 2) := by have := drop_at V hd2; rw [hV] at this; exact this
       rw [hdd] at hd
       have hk2 : k + 2 ≤ vl := by ((try simp only [vn] at *) <;> omega)
       cbv; repeat' ((first | refine .n fun h => ?_ | refine .y fun h => ?_ | refine .mk (fun h => ?_) fun h => ?_ | refine .k fun z hz => ?_ | refine .zl fun zs hzs hzl => ?_ | fail) <;> cbv)
       ·obtain rfl : d = 92 := u8_eq hy (by assumption)
        have hst : unE (v.drop k) = (unE (v.drop (k + 2))).map (92 :: ·) := by rw [hd, unE_bs]
        rw [hu.long hst (by ((try simp only [vn] at *) <;> omega)) nm] at hq2
        subst hq2
        exact FinK.mk ⟨_, Gh.refl _, .inl (CutK.pre _ (by rfl) (by exact Nat.le_of_ble_eq_true rfl) (by rfl) (by rfl) (by repeat' (first | exact LeL.nil | exact LeL0.nil | exact LeH.nil | exact LeE.refl _ | exact Le.refl _ | exact Le0.one (.refl _) | exact Le0.one (.nil _) | exact Le1.refl _ | exact Le1.nil _ | refine LeH.cons ?_ ?_ | refine LeE.row ?_ | refine LeE.blk ?_ | refine LeL0.cons ?_ ?_ | refine LeL.cons ?_ ?_ | refine Le0.agg ?_ | refine Le.tup ?_ | exact Le.one (.one (.nil _)) | refine Le.one (.agg ?_))) (LeH.refl _) hK)⟩
       ·obtain rfl : d = 92 := u8_eq hy (by assumption)
        have hst : unE (v.drop k) = (unE (v.drop (k + 2))).map (92 :: ·) := by rw [hd, unE_bs]
        obtain rfl : z = nI (k + 2) := by ((try simp only [vn] at *) <;> omega)
        obtain rfl : zs = mapA byA (B ++ [92]) := by rw [mapA_app, mapA_one, hzs, hx]; rfl
        exact roundV ⟨(k + 2, B ++ [92]), hu.step hst, by simp only [List.length_append, List.length_cons, List.length_nil]; ((try simp only [vn] at *) <;> omega), hk2⟩ (by show vl - (k + 2) < vl - k; omega)
       ·refine ⟨k + 1, rfl, by ((try simp only [vn] at *) <;> omega), fun d' hd' y2 hy2 => ?_⟩
        obtain rfl : d = d' := Option.some.inj (hd2.symm.trans hd')
        cbv; repeat' ((first | refine .n fun h => ?_ | refine .mk (fun h => ?_) fun h => ?_ | refine .k fun z hz => ?_ | refine .zl fun zs hzs hzl => ?_ | fail) <;> cbv)
        ·obtain rfl : d = 110 := u8_eq hy2 (by assumption)
         have hst : unE (v.drop k) = (unE (v.drop (k + 2))).map (10 :: ·) := by rw [hd, unE_nl]
         rw [hu.long hst (by ((try simp only [vn] at *) <;> omega)) nm] at hq2
         subst hq2
         exact FinK.mk ⟨_, Gh.refl _, .inl (CutK.pre _ (by rfl) (by exact Nat.le_of_ble_eq_true rfl) (by rfl) (by rfl) (by repeat' (first | exact LeL.nil | exact LeL0.nil | exact LeH.nil | exact LeE.refl _ | exact Le.refl _ | exact Le0.one (.refl _) | exact Le0.one (.nil _) | exact Le1.refl _ | exact Le1.nil _ | refine LeH.cons ?_ ?_ | refine LeE.row ?_ | refine LeE.blk ?_ | refine LeL0.cons ?_ ?_ | refine LeL.cons ?_ ?_ | refine Le0.agg ?_ | refine Le.tup ?_ | exact Le.one (.one (.nil _)) | refine Le.one (.agg ?_))) (LeH.refl _) hK)⟩
        ·obtain rfl : d = 110 := u8_eq hy2 (by assumption)
         have hst : unE (v.drop k) = (unE (v.drop (k + 2))).map (10 :: ·) := by rw [hd, unE_nl]
         obtain rfl : z = nI (k + 2) := by ((try simp only [vn] at *) <;> omega)
         obtain rfl : zs = mapA byA (B ++ [10]) := by rw [mapA_app, mapA_one, hzs]; rfl
         exact roundV ⟨(k + 2, B ++ [10]), hu.step hst, by simp only [List.length_append, List.length_cons, List.length_nil]; ((try simp only [vn] at *) <;> omega), hk2⟩ (by show vl - (k + 2) < vl - k; omega)
        ·have hst : unE (v.drop k) = none := by rw [hd, unE_bad _ (fun e => absurd (show y = 92 by rw [hy, e]; rfl) (by assumption)) (fun e => absurd (show y2 = 110 by rw [hy2, e]; rfl) (by assumption))]
         rw [hu.bad hst nm] at hq2
         subst hq2
         exact FinK.mk ⟨_, Gh.refl _, .inl (CutK.pre _ (by rfl) (by exact Nat.le_of_ble_eq_true rfl) (by rfl) (by rfl) (by repeat' (first | exact LeL.nil | exact LeL0.nil | exact LeH.nil | exact LeE.refl _ | exact Le.refl _ | exact Le0.one (.refl _) | exact Le0.one (.nil _) | exact Le1.refl _ | exact Le1.nil _ | refine LeH.cons ?_ ?_ | refine LeE.row ?_ | refine LeE.blk ?_ | refine LeL0.cons ?_ ?_ | refine LeL.cons ?_ ?_ | refine Le0.agg ?_ | refine Le.tup ?_ | exact Le.one (.one (.nil _)) | refine Le.one (.agg ?_))) (LeH.refl _) hK)⟩
      ·obtain rfl : c = 92 := u8_eq hx (by assumption)
       have hst : unE (v.drop k) = none := by rw [hd, show v.drop (k + 1) = [] from by have := drop_end V (k := k + 1) (by ((try simp only [vn] at *) <;> omega)); rw [hV] at this; exact this, unE_one]
       rw [hu.bad hst nm] at hq2
       subst hq2
       exact FinK.mk ⟨_, Gh.refl _, .inl (CutK.pre _ (by rfl) (by exact Nat.le_of_ble_eq_true rfl) (by rfl) (by rfl) (by repeat' (first | exact LeL.nil | exact LeL0.nil | exact LeH.nil | exact LeE.refl _ | exact Le.refl _ | exact Le0.one (.refl _) | exact Le0.one (.nil _) | exact Le1.refl _ | exact Le1.nil _ | refine LeH.cons ?_ ?_ | refine LeE.row ?_ | refine LeE.blk ?_ | refine LeL0.cons ?_ ?_ | refine LeL.cons ?_ ?_ | refine Le0.agg ?_ | refine Le.tup ?_ | exact Le.one (.one (.nil _)) | refine Le.one (.agg ?_))) (LeH.refl _) hK)⟩
      ·have hst := unE_plain (v.drop (k + 1)) (c := c) fun e => absurd (show x = 92 by rw [hx, e]; rfl) (by assumption)
       rw [← hd] at hst
       rw [hu.long hst (by ((try simp only [vn] at *) <;> omega)) nm] at hq2
       subst hq2
       exact FinK.mk ⟨_, Gh.refl _, .inl (CutK.pre _ (by rfl) (by exact Nat.le_of_ble_eq_true rfl) (by rfl) (by rfl) (by repeat' (first | exact LeL.nil | exact LeL0.nil | exact LeH.nil | exact LeE.refl _ | exact Le.refl _ | exact Le0.one (.refl _) | exact Le0.one (.nil _) | exact Le1.refl _ | exact Le1.nil _ | refine LeH.cons ?_ ?_ | refine LeE.row ?_ | refine LeE.blk ?_ | refine LeL0.cons ?_ ?_ | refine LeL.cons ?_ ?_ | refine Le0.agg ?_ | refine Le.tup ?_ | exact Le.one (.one (.nil _)) | refine Le.one (.agg ?_))) (LeH.refl _) hK)⟩
      ·have hst := unE_plain (v.drop (k + 1)) (c := c) fun e => absurd (show x = 92 by rw [hx, e]; rfl) (by assumption)
       rw [← hd] at hst
       obtain rfl : z = nI (k + 1) := by ((try simp only [vn] at *) <;> omega)
       obtain rfl : zs = mapA byA (B ++ [c]) := by rw [mapA_app, mapA_one, hzs, hx]; rfl
       exact roundV ⟨(k + 1, B ++ [c]), hu.step hst, by simp only [List.length_append, List.length_cons, List.length_nil]; ((try simp only [vn] at *) <;> omega), (by ((try simp only [vn] at *) <;> omega))⟩ (lft_lt (by ((try simp only [vn] at *) <;> omega)))
     ·have hst := hu.done (by have := drop_end V (k := k) (by ((try simp only [vn] at *) <;> omega)); rw [hV] at this; exact this) hB nm
      rw [hst] at hq2
      dsimp only at hq2
      refine BytK.of _ (bytesA_by B) fun s1 hs1 hsl => ?_
      rw [strOf_by] at hs1
      rw [← hN1, ← hs1] at hq2
      clear hsl hu
      cbv; repeat' ((first | refine .zl fun zs hzs hzl => ?_ | fail) <;> cbv)
      obtain rfl : zs = mapA FdA (L ++ [⟨N, s1⟩]) := by rw [mapA_app, mapA_one, hzs]; rfl
      exact roundV ⟨((S2, S2.size), n + 1, L ++ [⟨N, s1⟩]), by rw [hS2]; exact hq2, by unfold maxLen; ((try simp only [vn] at *) <;> omega), by ((try simp only [vn] at *) <;> omega), by simp only [List.length_append, List.length_cons, List.length_nil]; omega, rfl⟩ (num_lt (by ((try simp only [vn] at *) <;> omega)))
 ·have he : s.data.toList = [] := by
   have : s.data.toList.length = 0 := by rw [Array.length_toList]; show s.size = 0; ((try simp only [vn] at *) <;> omega)
   exact List.eq_nil_of_length_eq_zero this
  rw [he, parseG, if_pos rfl] at hq
  subst hq
  refine FinK.mk ⟨_, Gh.plain 0 rfl, ?_⟩
  cbv
  exact .inl (CutK.pre _ (by rfl) (by exact Nat.le_of_ble_eq_true rfl) (by rfl) (by rfl) (Le.refl _) (LeH.refl _) hK)
end Go.Proofs.YtblkcnmecfppnaaGreatDoor
/-
 Reading a record's text: the reference's line and Parse.
-/
namespace Go.Proofs.YtblkcnmecfppnaaGreatDoor
open Go.RowKit
set_option maxHeartbeats 8000000
set_option maxRecDepth 100000
/-- What the reference tells of a line. -/
def lineR (t : List UInt8) : Fd × Bool := match cutL 61 t with
 | some (n, v) => if nameB ⟨n.toArray⟩ then match unE v with
   | some u => (⟨⟨n.toArray⟩, ⟨u.toArray⟩⟩, decide (u.length ≤ 4096))
   | none => (⟨⟨#[]⟩, ⟨#[]⟩⟩, false)
  else (⟨⟨#[]⟩, ⟨#[]⟩⟩, false)
 | none => (⟨⟨#[]⟩, ⟨#[]⟩⟩, false)
theorem lineR_p (t : List UInt8) : lineP t = if (lineR t).2 = true then some (lineR t).1 else none := by
 unfold lineP lineR
 cases cutL 61 t with
 | none => rfl
 | some p =>
  obtain ⟨n, v⟩ := p
  dsimp only
  by_cases hb : nameB ⟨n.toArray⟩ = true
  ·simp only [hb, if_true]
   unfold valP
   cases unE v with
   | none => rfl
   | some u =>
    dsimp only
    by_cases h : u.length ≤ 4096 <;> simp [h]
  ·simp only [hb]; rfl
theorem UnTo.nil {t : List UInt8} {k : Nat} {B : List UInt8} (h : UnTo t k B) (e : unE (t.drop k) = none) : unE t = none := by
 unfold UnTo at h
 rw [h, e]; rfl
theorem UnTo.all {t : List UInt8} {k : Nat} {B : List UInt8} (h : UnTo t k B) (e : t.drop k = []) : unE t = some B := by
 unfold UnTo at h
 rw [h, e]
 show some (B ++ []) = _
 rw [List.append_nil]
def LinC : Ctr := spec (fun s : ByteArray => [.str s]) (fun _ => []) shortS (fun s => .tup [.agg [.str (lineR s.data.toList).1.name, .str (lineR s.data.toList).1.value], .bl (lineR s.data.toList).2]) fun _ => []
def NoIn (c : UInt8) (s : ByteArray) (k : Nat) : Prop := ∀ x ∈ s.data.toList.take k, x ≠ c
theorem NoIn.zero (c : UInt8) (s : ByteArray) : NoIn c s 0 := fun x hx => by simp at hx
theorem NoIn.succ {c d : UInt8} {s : ByteArray} {k : Nat} (h : NoIn c s k) (hd : s.data[k]? = some d) (hne : ¬ d = c) : NoIn c s (k + 1) := fun x hx => by
 rw [List.take_add_one] at hx
 rcases List.mem_append.1 hx with hx | hx
 ·exact h x hx
 ·have e : s.data.toList[k]? = some d := by simpa using hd
  rw [e] at hx
  obtain rfl : x = d := by simpa using hx
  exact hne
theorem NoIn.none {c : UInt8} {s : ByteArray} (h : NoIn c s s.size) : cutL c s.data.toList = .none := by
 cases hc : cutL c s.data.toList with
 | none => rfl
 | some p =>
  obtain ⟨a, b⟩ := p
  have e := (cutL_some hc).1
  refine absurd rfl (h c ?_)
  rw [show s.size = s.data.toList.length from by rw [Array.length_toList]; rfl, List.take_length, e]
  simp
theorem NoIn.some {c : UInt8} {s : ByteArray} {k : Nat} (h : NoIn c s k) (hd : s.data[k]? = some c) : cutL c s.data.toList = .some (s.data.toList.take k, s.data.toList.drop (k + 1)) := by
 have e : s.data.toList = s.data.toList.take k ++ c :: s.data.toList.drop (k + 1) := by rw [← drop_at s hd, List.take_append_drop]
 conv => lhs; rw [e]
 exact cutL_at h
theorem ext_one {s u : ByteArray} {k : Nat} {c : UInt8} (hc : s.data[k]? = some c) (hu : u = s.extract k (k + 1)) : u = ⟨#[c]⟩ := by
 rw [hu]
 apply ByteArray.ext
 apply Array.toList_inj.1
 have hk : k < s.data.toList.length := by
  have := (Array.getElem?_eq_some_iff.1 hc).1
  simpa using this
 rw [ByteArray.data_extract, Array.toList_extract, List.extract_eq_take_drop, drop_at s hc]
 simp
theorem app_byte {W u x : ByteArray} {B : List UInt8} {c : UInt8} (hW : W = ⟨B.toArray⟩) (hu : u = ⟨#[c]⟩) (hx : x = W ++ u) : x = ⟨(B ++ [c]).toArray⟩ := by
 rw [hx, hW, hu]
 apply ByteArray.ext
 simp
theorem line_body (P : Program) (hN : FnOk P 33 (StrC shortS nameB)) : BodyOk P x44 LinC := by
 intro args H K hc
 obtain ⟨s, rfl, rfl, hp, hK⟩ := hc
 refine ⟨Nat.le_of_ble_eq_true rfl, ?_⟩
 dsimp only at hK ⊢
 have hs : s.size ≤ maxLen := hp
 unfold maxLen at hs
 obtain ⟨R, hR⟩ : ∃ R, R = lineR s.data.toList := ⟨_, rfl⟩
 rw [← hR] at hK
 obtain ⟨sl, hsl⟩ : ∃ n, n = s.size := ⟨_, rfl⟩
 unfold lineR at hR
 cbv
 refine xloopV [] (fun q : { k : Nat // k ≤ sl ∧ NoIn 61 s k } => [(4, .i (nI q.1))]) (fun _ => [.blk 24 [.str ⟨#[]⟩, .str ⟨#[]⟩]]) (fun q => lft sl q.1) ⟨0, Nat.zero_le _, .zero 61 s⟩ ?_
 rintro ⟨m, hm, hno⟩
 dsimp only
 cbv; repeat' ((first | refine .y fun h => ?_ | refine .mk (fun h => ?_) fun h => ?_ | refine .k fun z hz => ?_ | fail) <;> cbv)
 ·refine ⟨m, rfl, by ((try simp only [vn] at *) <;> omega), fun c hc x hx => ?_⟩
  cbv; repeat' ((first | refine .n fun h => ?_ | refine .mk (fun h => ?_) fun h => ?_ | refine .k fun z hz => ?_ | refine .u fun u hu hul => ?_ | fail) <;> cbv)
  ·obtain rfl : c = 61 := u8_eq hx (by assumption)
   have hcut := NoIn.some hno hc
   rw [hcut] at hR
   obtain ⟨a, ha⟩ : ∃ a, a = s.data.toList.take m := ⟨_, rfl⟩
   obtain ⟨v, hv⟩ : ∃ a, a = s.data.toList.drop (m + 1) := ⟨_, rfl⟩
   rw [← ha, ← hv] at hcut hR
   have ham : a.length = m := by
    have := (bytes_sub (cutL_some hcut).1).1
    rw [ha, List.length_take, Array.length_toList]
    show min m s.size = m
    omega
   obtain ⟨h1, h2, _⟩ := bytes_sub (cutL_some hcut).1
   rw [ham] at h2 h1
   obtain rfl := hu.trans h2
   have h2k := h2
   clear hu hul
   have han : (⟨a.toArray⟩ : ByteArray).size = a.length := by simp [ByteArray.size]
   dsimp only at hR
   obtain ⟨N, hN1⟩ : ∃ V : ByteArray, V = ⟨a.toArray⟩ := ⟨_, rfl⟩
   rw [← hN1] at hR han h2k ⊢
   refine callG_spec0 hN N (by unfold shortS maxLen; omega) rfl rfl rfl ?_
   try dsimp only
   cases hnb : nameB N with
   | false =>
    rw [hnb] at hR
    subst hR
    cbv
    (refine FinK.mk ⟨_, Gh.refl _, ?_⟩; cbv; exact .inl (CutK.pre [] (by rfl) (by exact Nat.le_of_ble_eq_true rfl) (by rfl) (by rfl) (by repeat' (first | exact LeL.nil | exact LeL0.nil | exact LeH.nil | exact LeE.refl _ | exact Le.refl _ | exact Le0.one (.refl _) | exact Le0.one (.nil _) | exact Le1.refl _ | exact Le1.nil _ | refine LeH.cons ?_ ?_ | refine LeE.row ?_ | refine LeE.blk ?_ | refine LeL0.cons ?_ ?_ | refine LeL.cons ?_ ?_ | refine Le0.agg ?_ | refine Le.tup ?_ | exact Le.one (.one (.nil _)) | refine Le.one (.agg ?_))) (LeH.refl _) hK))
   | true =>
    rw [hnb, if_pos rfl] at hR
    have hvl : v.length + m + 1 = sl := by omega
    cbv; repeat' ((first | refine .k fun z hz => ?_ | refine .u fun u hu hul => ?_ | fail) <;> cbv)
    have hat : ∀ k c, s.data[m + 1 + k]? = some c → v.drop k = c :: v.drop (k + 1) := fun k c h => by
     have := drop_at s h
     rw [hv, List.drop_drop, List.drop_drop]
     rw [show m + 1 + (k + 1) = m + 1 + k + 1 by omega]
     exact this
    obtain rfl := hu.trans h2k
    obtain rfl : z = nI (m + 1) := by ((try simp only [vn] at *) <;> omega)
    clear hu hul hz
    obtain ⟨vl, hvv⟩ : ∃ n, n = v.length := ⟨_, rfl⟩
    rw [← hvv] at hvl
    refine xloopV [] (fun q : { q : Nat × Nat × ByteArray // UnTo v q.1 q.2.2.data.toList ∧ q.1 ≤ vl ∧ q.2.2.size ≤ q.1 ∧ q.2.1 = m + 1 + q.1 } => [(6, .i (nI q.1.2.1))]) (fun q => [.blk 24 [.str ⟨#[]⟩, .str ⟨#[]⟩], .blk 24 [.str u, .str q.1.2.2]]) (fun q => lft vl q.1.1) ⟨(0, m + 1, ⟨#[]⟩), UnTo.zero v, Nat.zero_le _, Nat.le_refl _, rfl⟩ ?_
    rintro ⟨⟨k, i, W⟩, hU, hk, hW, hi⟩
    dsimp only at hU hk hW hi ⊢
    cbv; repeat' ((first | refine .mk (fun h => ?_) fun h => ?_ | refine .k fun z hz => ?_ | fail) <;> cbv)
    ·refine ⟨i, rfl, by ((try simp only [vn] at *) <;> omega), fun c hc x hx => ?_⟩
     have hd := hat k c (by rw [← hi]; exact hc)
     cbv; repeat' ((first | refine .mk (fun h => ?_) fun h => ?_ | refine .k fun z hz => ?_ | refine .u fun u hu hul => ?_ | fail) <;> cbv)
     ·obtain rfl : c = 92 := u8_eq hx (by assumption)
      have hst : unE (v.drop k) = none := by rw [hd, show v.drop (k + 1) = [] from List.drop_eq_nil_of_le (by ((try simp only [vn] at *) <;> omega)), unE_one]
      rw [hU.nil hst] at hR
      subst hR
      (refine FinK.mk ⟨_, Gh.refl _, ?_⟩; cbv; exact .inl (CutK.pre [] (by rfl) (by exact Nat.le_of_ble_eq_true rfl) (by rfl) (by rfl) (by repeat' (first | exact LeL.nil | exact LeL0.nil | exact LeH.nil | exact LeE.refl _ | exact Le.refl _ | exact Le0.one (.refl _) | exact Le0.one (.nil _) | exact Le1.refl _ | exact Le1.nil _ | refine LeH.cons ?_ ?_ | refine LeE.row ?_ | refine LeE.blk ?_ | refine LeL0.cons ?_ ?_ | refine LeL.cons ?_ ?_ | refine Le0.agg ?_ | refine Le.tup ?_ | exact Le.one (.one (.nil _)) | refine Le.one (.agg ?_))) (LeH.refl _) hK))
     ·obtain rfl : c = 92 := u8_eq hx (by assumption)
      rename_i zi hzi
      obtain rfl : zi = nI (i + 1) := by ((try simp only [vn] at *) <;> omega)
      refine ⟨i + 1, rfl, by ((try simp only [vn] at *) <;> omega), fun d hd2 y hy => ?_⟩
      have hdd := hat (k + 1) d (by rw [show m + 1 + (k + 1) = i + 1 by omega]; exact hd2)
      rw [hdd] at hd
      have hk2 : k + 2 ≤ vl := by ((try simp only [vn] at *) <;> omega)
      cbv; repeat' ((first | refine .mk (fun h => ?_) fun h => ?_ | fail) <;> cbv)
      ·refine ⟨i + 1, rfl, by ((try simp only [vn] at *) <;> omega), fun d' hd' y2 hy2 => ?_⟩
       obtain rfl : d = d' := Option.some.inj (hd2.symm.trans hd')
       cbv; repeat' ((first | refine .n fun h => ?_ | fail) <;> cbv)
       refine CatK.u (fun w hw hwl => ?_) (by unfold maxLen; show W.size + 1 ≤ _; omega)
       cbv; repeat' ((first | refine .k fun z hz => ?_ | fail) <;> cbv)
       obtain rfl : d = 92 := u8_eq hy (by assumption)
       have hst : unE (v.drop k) = (unE (v.drop (k + 2))).map (92 :: ·) := by rw [hd, unE_bs]
       obtain rfl : z = nI (i + 2) := by ((try simp only [vn] at *) <;> omega)
       obtain rfl := app_byte (W := W) (B := W.data.toList) (c := 92) rfl rfl hw
       exact roundV ⟨(k + 2, i + 2, ⟨(W.data.toList ++ [92]).toArray⟩), hU.step hst, hk2, by have h1 : (⟨(W.data.toList ++ [92]).toArray⟩ : ByteArray).size = W.size + 1 := hwl; dsimp only; omega, by dsimp only; omega⟩ (by show vl - (k + 2) < vl - k; omega)
      ·refine ⟨i + 1, rfl, by ((try simp only [vn] at *) <;> omega), fun d' hd' y2 hy2 => ?_⟩
       obtain rfl : d = d' := Option.some.inj (hd2.symm.trans hd')
       cbv; repeat' ((first | refine .mk (fun h => ?_) fun h => ?_ | fail) <;> cbv)
       ·refine ⟨i + 1, rfl, by ((try simp only [vn] at *) <;> omega), fun d'' hd'' y3 hy3 => ?_⟩
        obtain rfl : d = d'' := Option.some.inj (hd2.symm.trans hd'')
        cbv; repeat' ((first | refine .y fun h => ?_ | fail) <;> cbv)
        refine CatK.u (fun w hw hwl => ?_) (by unfold maxLen; show W.size + 1 ≤ _; omega)
        cbv; repeat' ((first | refine .k fun z hz => ?_ | fail) <;> cbv)
        obtain rfl : d = 110 := u8_eq hy2 (by assumption)
        have hst : unE (v.drop k) = (unE (v.drop (k + 2))).map (10 :: ·) := by rw [hd, unE_nl]
        obtain rfl : z = nI (i + 2) := by ((try simp only [vn] at *) <;> omega)
        obtain rfl := app_byte (W := W) (B := W.data.toList) (c := 10) rfl rfl hw
        exact roundV ⟨(k + 2, i + 2, ⟨(W.data.toList ++ [10]).toArray⟩), hU.step hst, hk2, by have h1 : (⟨(W.data.toList ++ [10]).toArray⟩ : ByteArray).size = W.size + 1 := hwl; dsimp only; omega, by dsimp only; omega⟩ (by show vl - (k + 2) < vl - k; omega)
       ·have hst : unE (v.drop k) = none := by rw [hd, unE_bad _ (fun e => absurd (show y = 92 by rw [hy, e]; rfl) (by assumption)) (fun e => absurd (show y2 = 110 by rw [hy2, e]; rfl) (by assumption))]
        rw [hU.nil hst] at hR
        subst hR
        (refine FinK.mk ⟨_, Gh.refl _, ?_⟩; cbv; exact .inl (CutK.pre [] (by rfl) (by exact Nat.le_of_ble_eq_true rfl) (by rfl) (by rfl) (by repeat' (first | exact LeL.nil | exact LeL0.nil | exact LeH.nil | exact LeE.refl _ | exact Le.refl _ | exact Le0.one (.refl _) | exact Le0.one (.nil _) | exact Le1.refl _ | exact Le1.nil _ | refine LeH.cons ?_ ?_ | refine LeE.row ?_ | refine LeE.blk ?_ | refine LeL0.cons ?_ ?_ | refine LeL.cons ?_ ?_ | refine Le0.agg ?_ | refine Le.tup ?_ | exact Le.one (.one (.nil _)) | refine Le.one (.agg ?_))) (LeH.refl _) hK))
     ·have hst := unE_plain (v.drop (k + 1)) (c := c) fun e => absurd (show x = 92 by rw [hx, e]; rfl) (by assumption)
      rw [← hd] at hst
      rename_i zi hzi w0 hw0 hwl0
      obtain rfl : zi = nI (i + 1) := by ((try simp only [vn] at *) <;> omega)
      obtain rfl := ext_one hc hw0
      obtain rfl := app_byte (W := W) (B := W.data.toList) (c := c) rfl rfl hu
      obtain rfl : z = nI (i + 1) := by ((try simp only [vn] at *) <;> omega)
      exact roundV ⟨(k + 1, i + 1, ⟨(W.data.toList ++ [c]).toArray⟩), hU.step hst, by ((try simp only [vn] at *) <;> omega), by have h1 : (⟨(W.data.toList ++ [c]).toArray⟩ : ByteArray).size = W.size + 1 := hul; dsimp only; omega, by dsimp only; omega⟩ (by show vl - (k + 1) < vl - k; ((try simp only [vn] at *) <;> omega))
    ·have hst := hU.all (List.drop_eq_nil_of_le (by ((try simp only [vn] at *) <;> omega)))
     rw [hst] at hR
     dsimp only at hR
     rw [show W.data.toList.length = W.size from by rw [Array.length_toList]; rfl, decide_eq_true (by ((try simp only [vn] at *) <;> omega))] at hR
     subst hR
     (refine FinK.mk ⟨_, Gh.refl _, ?_⟩; cbv; exact .inl (CutK.pre [] (by rfl) (by exact Nat.le_of_ble_eq_true rfl) (by rfl) (by rfl) (by repeat' (first | exact LeL.nil | exact LeL0.nil | exact LeH.nil | exact LeE.refl _ | exact Le.refl _ | exact Le0.one (.refl _) | exact Le0.one (.nil _) | exact Le1.refl _ | exact Le1.nil _ | refine LeH.cons ?_ ?_ | refine LeE.row ?_ | refine LeE.blk ?_ | refine LeL0.cons ?_ ?_ | refine LeL.cons ?_ ?_ | refine Le0.agg ?_ | refine Le.tup ?_ | exact Le.one (.one (.nil _)) | refine Le.one (.agg ?_))) (LeH.refl _) hK))
    ·have hst := hU.all (List.drop_eq_nil_of_le (by ((try simp only [vn] at *) <;> omega)))
     rw [hst] at hR
     dsimp only at hR
     rw [show W.data.toList.length = W.size from by rw [Array.length_toList]; rfl, decide_eq_false (by ((try simp only [vn] at *) <;> omega))] at hR
     subst hR
     (refine FinK.mk ⟨_, Gh.refl _, ?_⟩; cbv; exact .inl (CutK.pre [] (by rfl) (by exact Nat.le_of_ble_eq_true rfl) (by rfl) (by rfl) (by repeat' (first | exact LeL.nil | exact LeL0.nil | exact LeH.nil | exact LeE.refl _ | exact Le.refl _ | exact Le0.one (.refl _) | exact Le0.one (.nil _) | exact Le1.refl _ | exact Le1.nil _ | refine LeH.cons ?_ ?_ | refine LeE.row ?_ | refine LeE.blk ?_ | refine LeL0.cons ?_ ?_ | refine LeL.cons ?_ ?_ | refine Le0.agg ?_ | refine Le.tup ?_ | exact Le.one (.one (.nil _)) | refine Le.one (.agg ?_))) (LeH.refl _) hK))
  ·obtain rfl : z = nI (m + 1) := by ((try simp only [vn] at *) <;> omega)
   exact roundV ⟨m + 1, by ((try simp only [vn] at *) <;> omega), hno.succ hc fun e => absurd (show x = 61 by rw [hx, e]; rfl) (by assumption)⟩ (lft_lt (by ((try simp only [vn] at *) <;> omega)))
 ·have hR2 := hR
  rw [NoIn.none (show NoIn 61 s s.size from by rw [← hsl]; obtain rfl : m = sl := (by ((try simp only [vn] at *) <;> omega)); exact hno)] at hR2
  subst hR2
  (refine FinK.mk ⟨_, Gh.refl _, ?_⟩; cbv; exact .inl (CutK.pre [] (by rfl) (by exact Nat.le_of_ble_eq_true rfl) (by rfl) (by rfl) (by repeat' (first | exact LeL.nil | exact LeL0.nil | exact LeH.nil | exact LeE.refl _ | exact Le.refl _ | exact Le0.one (.refl _) | exact Le0.one (.nil _) | exact Le1.refl _ | exact Le1.nil _ | refine LeH.cons ?_ ?_ | refine LeE.row ?_ | refine LeE.blk ?_ | refine LeL0.cons ?_ ?_ | refine LeL.cons ?_ ?_ | refine Le0.agg ?_ | refine Le.tup ?_ | exact Le.one (.one (.nil _)) | refine Le.one (.agg ?_))) (LeH.refl _) hK))
end Go.Proofs.YtblkcnmecfppnaaGreatDoor
/-
 Reading a record's text: the reference's Parse.
-/
namespace Go.Proofs.YtblkcnmecfppnaaGreatDoor
open Go.RowKit
set_option maxHeartbeats 8000000
set_option maxRecDepth 100000
def curL (s : ByteArray) (a i : Nat) : List UInt8 := (s.data.toList.take i).drop a
theorem curL_self (s : ByteArray) (i : Nat) : curL s i i = [] := by
 unfold curL
 apply List.drop_eq_nil_of_le
 rw [List.length_take]
 omega
theorem curL_succ {s : ByteArray} {a i : Nat} {c : UInt8} (h : s.data[i]? = some c) (ha : a ≤ i) : curL s a (i + 1) = curL s a i ++ [c] := by
 unfold curL
 have e : s.data.toList[i]? = some c := by simpa using h
 have hi : i < s.data.toList.length := (List.getElem?_eq_some_iff.1 e).1
 rw [List.take_add_one, e, List.drop_append_of_le_length (by rw [List.length_take]; omega)]
 rfl
theorem curL_ext {s u : ByteArray} {a i : Nat} (hu : u = s.extract a i) : u.data.toList = curL s a i := by
 rw [hu]
 unfold curL
 rw [ByteArray.data_extract, Array.toList_extract, List.extract_eq_take_drop]
 rw [List.drop_take]
theorem curL_ne {s : ByteArray} {a i : Nat} (ha : a < i) (hi : i ≤ s.size) : curL s a i ≠ [] := fun e => by
 have := congrArg List.length e
 unfold curL at this
 have hl : s.data.toList.length = s.size := by rw [Array.length_toList]; rfl
 rw [List.length_drop, List.length_take, hl] at this
 simp only [List.length_nil] at this
 omega
theorem rparse_body (P : Program) (hL : FnOk P 44 LinC) : BodyOk P x18 ParseC := by
 intro args H K hc
 obtain ⟨s, rfl, rfl, hp, hK⟩ := hc
 refine ⟨Nat.le_of_ble_eq_true rfl, ?_⟩
 dsimp only at hK ⊢
 have hs : s.size ≤ maxLen := hp
 unfold maxLen at hs
 obtain ⟨R, hR⟩ : ∃ R, R = parseS s.data.toList := ⟨_, rfl⟩
 rw [← hR] at hK
 obtain ⟨sl, hsl⟩ : ∃ n, n = s.size := ⟨_, rfl⟩
 unfold parseS at hR
 cbv
 refine xloopV [0] (fun q : { q : Nat × Nat × Nat × List Fd // R = parseG q.2.2.1 (curL s q.2.1 q.1) q.2.2.2 (s.data.toList.drop q.1) ∧ q.1 ≤ sl ∧ q.2.1 ≤ q.1 ∧ q.2.2.1 ≤ 65 ∧ q.2.2.2.length ≤ q.2.2.1 } => [(6, .i (nI q.1.2.2.1)), (7, .i (nI q.1.2.1)), (8, .i (nI q.1.1)), (5, .hd 0)]) (fun q => [.row 24 2 (mapA FdA q.1.2.2.2)]) (fun q => lft sl q.1.1) ⟨(0, 0, 1, []), by rw [hR]; rfl, Nat.zero_le _, Nat.le_refl _, by decide, by decide⟩ ?_
 rintro ⟨⟨i, a, n, L⟩, hq, hi, ha, hn, hl⟩
 dsimp only at hq hi ha hn hl ⊢
 have hL2 := mapA_len FdA L
 cbv; repeat' ((first | refine .mk (fun h => ?_) fun h => ?_ | refine .k fun z hz => ?_ | fail) <;> cbv)
 ·refine ⟨i, rfl, by ((try simp only [vn] at *) <;> omega), fun c hc x hx => ?_⟩
  rw [drop_at s hc] at hq
  cbv; repeat' ((first | refine .mk (fun h => ?_) fun h => ?_ | refine .k fun z hz => ?_ | refine .u fun u hu hul => ?_ | fail) <;> cbv)
  ·obtain rfl : c = 10 := u8_eq hx (by assumption)
   rw [parseG, if_pos rfl, if_pos (by ((try simp only [vn] at *) <;> omega))] at hq
   subst hq
   exact FinK.mk ⟨_, Gh.refl _, .inl (CutK.pre _ (by rfl) (by exact Nat.le_of_ble_eq_true rfl) (by rfl) (by rfl) (by repeat' (first | exact LeL.nil | exact LeL0.nil | exact LeH.nil | exact LeE.refl _ | exact Le.refl _ | exact Le0.one (.refl _) | exact Le0.one (.nil _) | exact Le1.refl _ | exact Le1.nil _ | refine LeH.cons ?_ ?_ | refine LeE.row ?_ | refine LeE.blk ?_ | refine LeL0.cons ?_ ?_ | refine LeL.cons ?_ ?_ | refine Le0.agg ?_ | refine Le.tup ?_ | exact Le.one (.one (.nil _)) | refine Le.one (.agg ?_))) (LeH.refl _) hK)⟩
  ·obtain rfl : c = 10 := u8_eq hx (by assumption)
   have hn64 : ¬ 64 < n := by ((try simp only [vn] at *) <;> omega)
   rw [parseG, if_pos rfl, if_neg hn64, ← curL_ext (a := a) (i := i) hu, lineR_p] at hq
   have hus : u.size ≤ 9223372036854775807 := by ((try simp only [vn] at *) <;> omega)
   clear hu hul
   refine callG_spec0 hL u hus rfl rfl rfl ?_
   try dsimp only
   obtain ⟨Z, hZ⟩ : ∃ z, z = lineR u.data.toList := ⟨_, rfl⟩
   rw [← hZ] at hq ⊢
   obtain ⟨⟨nm, v⟩, ok⟩ := Z
   cases ok with
   | false =>
    rw [if_neg (fun e => by cases e)] at hq
    dsimp only at hq
    subst hq
    cbv
    exact FinK.mk ⟨_, Gh.refl _, .inl (CutK.pre _ (by rfl) (by exact Nat.le_of_ble_eq_true rfl) (by rfl) (by rfl) (by repeat' (first | exact LeL.nil | exact LeL0.nil | exact LeH.nil | exact LeE.refl _ | exact Le.refl _ | exact Le0.one (.refl _) | exact Le0.one (.nil _) | exact Le1.refl _ | exact Le1.nil _ | refine LeH.cons ?_ ?_ | refine LeE.row ?_ | refine LeE.blk ?_ | refine LeL0.cons ?_ ?_ | refine LeL.cons ?_ ?_ | refine Le0.agg ?_ | refine Le.tup ?_ | exact Le.one (.one (.nil _)) | refine Le.one (.agg ?_))) (LeH.refl _) hK)⟩
   | true =>
    rw [if_pos rfl] at hq
    dsimp only at hq
    cbv; repeat' ((first | refine .k fun z hz => ?_ | refine .zl fun zs hzs hzl => ?_ | fail) <;> cbv)
    rename_i zn hzn zi hzi
    obtain rfl : zn = nI (n + 1) := by ((try simp only [vn] at *) <;> omega)
    obtain rfl : zi = nI (i + 1) := by ((try simp only [vn] at *) <;> omega)
    obtain rfl : z = nI (i + 1) := by ((try simp only [vn] at *) <;> omega)
    obtain rfl : zs = mapA FdA (L ++ [⟨nm, v⟩]) := by rw [mapA_app, mapA_one, hzs]; rfl
    exact roundV ⟨(i + 1, i + 1, n + 1, L ++ [⟨nm, v⟩]), by dsimp only; rw [curL_self]; exact hq, by ((try simp only [vn] at *) <;> omega), Nat.le_refl _, by ((try simp only [vn] at *) <;> omega), by simp only [List.length_append, List.length_cons, List.length_nil]; omega⟩ (lft_lt (by ((try simp only [vn] at *) <;> omega)))
  ·obtain rfl : z = nI (i + 1) := by ((try simp only [vn] at *) <;> omega)
   rw [parseG, if_neg fun e => absurd (show x = 10 by rw [hx, e]; rfl) (by assumption), ← curL_succ hc ha] at hq
   exact roundV ⟨(i + 1, a, n, L), hq, by ((try simp only [vn] at *) <;> omega), by dsimp only; omega, hn, hl⟩ (lft_lt (by ((try simp only [vn] at *) <;> omega)))
 all_goals rw [drop_end s (k := i) (by ((try simp only [vn] at *) <;> omega)), parseG] at hq
 ·rw [if_neg (curL_ne (by ((try simp only [vn] at *) <;> omega)) (by omega)), if_pos (by ((try simp only [vn] at *) <;> omega))] at hq
  subst hq
  exact FinK.mk ⟨_, Gh.refl _, .inl (CutK.pre _ (by rfl) (by exact Nat.le_of_ble_eq_true rfl) (by rfl) (by rfl) (by repeat' (first | exact LeL.nil | exact LeL0.nil | exact LeH.nil | exact LeE.refl _ | exact Le.refl _ | exact Le0.one (.refl _) | exact Le0.one (.nil _) | exact Le1.refl _ | exact Le1.nil _ | refine LeH.cons ?_ ?_ | refine LeE.row ?_ | refine LeE.blk ?_ | refine LeL0.cons ?_ ?_ | refine LeL.cons ?_ ?_ | refine Le0.agg ?_ | refine Le.tup ?_ | exact Le.one (.one (.nil _)) | refine Le.one (.agg ?_))) (LeH.refl _) hK)⟩
 ·rw [if_neg (curL_ne (by ((try simp only [vn] at *) <;> omega)) (by omega)), if_neg (by ((try simp only [vn] at *) <;> omega))] at hq
  subst hq
  exact FinK.mk ⟨_, Gh.refl _, .inl (CutK.pre _ (by rfl) (by exact Nat.le_of_ble_eq_true rfl) (by rfl) (by rfl) (by repeat' (first | exact LeL.nil | exact LeL0.nil | exact LeH.nil | exact LeE.refl _ | exact Le.refl _ | exact Le0.one (.refl _) | exact Le0.one (.nil _) | exact Le1.refl _ | exact Le1.nil _ | refine LeH.cons ?_ ?_ | refine LeE.row ?_ | refine LeE.blk ?_ | refine LeL0.cons ?_ ?_ | refine LeL.cons ?_ ?_ | refine Le0.agg ?_ | refine Le.tup ?_ | exact Le.one (.one (.nil _)) | refine Le.one (.agg ?_))) (LeH.refl _) hK)⟩
 ·have hai : a = i := by ((try simp only [vn] at *) <;> omega)
  subst hai
  rw [if_pos (curL_self s a)] at hq
  subst hq
  refine FinK.mk ⟨_, Gh.plain 0 rfl, ?_⟩
  cbv
  exact .inl (CutK.pre _ (by rfl) (by exact Nat.le_of_ble_eq_true rfl) (by rfl) (by rfl) (Le.refl _) (LeH.refl _) hK)
end Go.Proofs.YtblkcnmecfppnaaGreatDoor
/-
 Reading papers: kinds' numbers, copies of fields, the program's Read.
-/
namespace Go.Proofs.YtblkcnmecfppnaaGreatDoor
open Go.RowKit
set_option maxHeartbeats 8000000
set_option maxRecDepth 100000
def kindJ : Nat → ByteArray → Option Nat
 | 0, _ => none
 | n + 1, s => match kindJ n s with
  | some k => some k
  | none => if kindS (Int.ofNat n) = s then some n else none
theorem kindJ_up {s : ByteArray} {k : Nat} : ∀ {m n : Nat}, m ≤ n → kindJ m s = some k → kindJ n s = some k
 | m, 0, h, e => by
  obtain rfl : m = 0 := by omega
  exact e
 | m, n + 1, h, e => by
  by_cases hm : m = n + 1
  ·subst hm; exact e
  ·unfold kindJ; rw [kindJ_up (by omega : m ≤ n) e]
theorem kindJ_lt {s : ByteArray} {k : Nat} : ∀ {n : Nat}, kindJ n s = some k → k < n ∧ kindS (Int.ofNat k) = s
 | 0, h => by cases h
 | n + 1, h => by
  unfold kindJ at h
  cases hk : kindJ n s with
  | some j =>
   rw [hk] at h
   cases h
   have := kindJ_lt hk
   exact ⟨by omega, this.2⟩
  | none =>
   rw [hk] at h
   dsimp only at h
   split at h
   ·rename_i e; cases h; exact ⟨by omega, e⟩
   ·cases h
theorem kindS_inj : ∀ i j : Fin 6, kindS (Int.ofNat i.1) = kindS (Int.ofNat j.1) → i = j := by decide +kernel
/-- The number of a paper's kind; -1: none. -/
def kindD (s : ByteArray) : Int := match kindJ 6 s with
 | some k => Int.ofNat k
 | none => -1
theorem kindD_of {k : Nat} (h : k < 6) : kindD (kindS (Int.ofNat k)) = Int.ofNat k := by
 have key : ∀ i : Fin 6, kindD (kindS (Int.ofNat i.1)) = Int.ofNat i.1 := by decide +kernel
 exact key ⟨k, h⟩
theorem kindD_some {s : ByteArray} (h : 0 ≤ kindD s) : kindD s < 6 ∧ kindS (kindD s) = s := by
 unfold kindD at h ⊢
 cases hk : kindJ 6 s with
 | none => rw [hk] at h; cases h
 | some k =>
  obtain ⟨h1, h2⟩ := kindJ_lt hk
  exact ⟨by simp only [Int.ofNat_eq_natCast]; omega, h2⟩
def KindDC : Ctr := spec (fun s : ByteArray => [.str s]) (fun _ => []) (fun _ => True) (fun s => .i (kindD s)) fun _ => []
theorem fkind_body (P : Program) : BodyOk P x53 KindDC := by
 intro args H K hc
 obtain ⟨s, rfl, rfl, _, hK⟩ := hc
 refine ⟨Nat.le_of_ble_eq_true rfl, ?_⟩
 dsimp only at hK ⊢
 cbv
 refine xloopV [] (fun p : { k : Nat // k ≤ 6 ∧ kindJ k s = none } => [(4, .i (nI p.1))]) (fun _ => []) (fun p => lft 6 p.1) ⟨0, Nat.zero_le _, rfl⟩ ?_
 rintro ⟨k, hk, hf⟩
 dsimp only
 have ret : ∀ c : Nat, k = c → k < 6 → kindS (Int.ofNat c) = s → K (.i (Int.ofNat k)) [] := fun c hc hlt he => by
  subst hc
  have e : kindD s = Int.ofNat k := by
   unfold kindD
   rw [kindJ_up (m := k + 1) hlt (by unfold kindJ; rw [hf]; dsimp only; rw [if_pos he])]
  exact e ▸ hK
 have non : ¬ k < 6 → K (.i (-1)) [] := fun hn => by
  obtain rfl : k = 6 := by omega
  have e : kindD s = -1 := by unfold kindD; rw [hf]
  exact e ▸ hK
 have nxt : ∀ c : Nat, k = c → k < 6 → ¬ kindS (Int.ofNat c) = s → k + 1 ≤ 6 ∧ kindJ (k + 1) s = none := fun c hc hlt he => by
  subst hc
  exact ⟨hlt, by unfold kindJ; rw [hf]; dsimp only; rw [if_neg he]⟩
 cbv; repeat' ((first | refine .mk (fun h => ?_) fun h => ?_ | refine .k fun z hz => ?_ | refine .o ?_ | fail) <;> cbv)
 all_goals first
  | exact FinK.mk ⟨_, Gh.refl _, .inl (CutK.val rfl (Le.refl _) (non (by simp only [Int.ofNat_eq_natCast] at *; omega)))⟩
  | (rename_i hkc; exact FinK.mk ⟨_, Gh.refl _, .inl (CutK.val rfl (Le.refl _) (ret _ (Int.ofNat.inj hkc) (by simp only [Int.ofNat_eq_natCast] at *; omega) h))⟩)
  | exact FinK.mk ⟨_, Gh.refl _, .inl (CutK.val rfl (Le.refl _) (ret 0 (by simp only [Int.ofNat_eq_natCast] at *; omega) (by simp only [Int.ofNat_eq_natCast] at *; omega) h))⟩
  | (rename_i hkc; obtain rfl := hz; exact roundV ⟨k + 1, nxt _ (Int.ofNat.inj hkc) (by simp only [Int.ofNat_eq_natCast] at *; omega) h⟩ (lft_lt (by simp only [Int.ofNat_eq_natCast] at *; omega)))
  | (obtain rfl := hz; exact roundV ⟨k + 1, nxt 0 (by simp only [Int.ofNat_eq_natCast] at *; omega) (by simp only [Int.ofNat_eq_natCast] at *; omega) h⟩ (lft_lt (by simp only [Int.ofNat_eq_natCast] at *; omega)))
  | fail
noncomputable def CloneFC : Ctr := spec (fun l : List Fd => [.sl 2 (mapA FdA l)]) (fun _ => []) (fun l => l.length ≤ 4000) (fun l => .sl 2 (mapA FdA l)) fun _ => []
theorem cloneF_body (P : Program) : BodyOk P x54 CloneFC := by
 intro args H K hc
 obtain ⟨l, rfl, rfl, hp, hK⟩ := hc
 refine ⟨Nat.le_of_ble_eq_true rfl, ?_⟩
 dsimp only at hK hp ⊢
 have hl := mapA_len FdA l
 cbv; repeat' ((first | refine .o ?_ | refine .mk (fun h => ?_) ?_ | fail) <;> cbv)
 ·rw [h] at hK
  exact FinK.mk ⟨_, Gh.refl _, .inl (CutK.val rfl (by repeat' (first | exact LeL.nil | exact LeL0.nil | exact LeH.nil | exact LeE.refl _ | exact Le.refl _ | exact Le0.one (.refl _) | exact Le0.one (.nil _) | exact Le1.refl _ | exact Le1.nil _ | refine LeH.cons ?_ ?_ | refine LeE.row ?_ | refine LeE.blk ?_ | refine LeL0.cons ?_ ?_ | refine LeL.cons ?_ ?_ | refine Le0.agg ?_ | refine Le.tup ?_ | exact Le.one (.one (.nil _)) | refine Le.one (.agg ?_))) hK)⟩
 ·refine FinK.mk ⟨_, Gh.plain 0 rfl, ?_⟩
  cbv
  exact .inl (CutK.val rfl (Le.refl _) hK)
def Pap : ByteArray := ⟨#[112, 97, 112, 101, 114]⟩
def Num : ByteArray := ⟨#[110, 117, 109, 98, 101, 114]⟩
def Iss : ByteArray := ⟨#[105, 115, 115, 117, 101, 114]⟩
def dc0 : Dc := ⟨0, ⟨#[]⟩, ⟨#[]⟩, []⟩
/-- The paper of a record; or the line that is wrong. -/
def readD (l : List Fd) : Dc × Int × Int := match l[0]? with
 | none => (dc0, 1, 2)
 | some a => if a.name = Pap ∧ 0 ≤ kindD a.value then match l[1]? with
   | none => (dc0, 2, 2)
   | some b => if b.name = Num then match l[2]? with
     | none => (dc0, 3, 2)
     | some c => if c.name = Iss then (⟨kindD a.value, b.value, c.value, l.drop 3⟩, 0, 0) else (dc0, 3, 2)
    else (dc0, 2, 2)
  else (dc0, 1, 2)
def readS (s : List UInt8) : Dc × Int × Int := if (parseS s).2.2 = 0 then readD (parseS s).1 else (dc0, (parseS s).2.1, (parseS s).2.2)
/-- A paper is read just of its own text. -/
theorem readD_iff (l : List Fd) (d : Dc) : (∃ a, readD l = (d, a, 0)) ↔ (0 ≤ d.kind ∧ d.kind < 6) ∧ l = recP d := by
 constructor
 ·rintro ⟨a, h⟩
  unfold readD at h
  obtain ⟨o, h0⟩ : ∃ o, l[0]? = o := ⟨_, rfl⟩
  cases o with
  | none => rw [h0] at h; injection h with _ h; injection h with _ h; cases h
  | some x =>
   rw [h0] at h
   dsimp only at h
   split at h
   ·rename_i hx
    cases h1 : l[1]? with
    | none => rw [h1] at h; injection h with _ h; injection h with _ h; cases h
    | some y =>
     rw [h1] at h
     dsimp only at h
     split at h
     ·rename_i hy
      cases h2 : l[2]? with
      | none => rw [h2] at h; injection h with _ h; injection h with _ h; cases h
      | some z =>
       rw [h2] at h
       dsimp only at h
       split at h
       ·rename_i hz
        injection h with h _
        subst h
        obtain ⟨hk1, hk2⟩ := kindD_some hx.2
        refine ⟨⟨hx.2, hk1⟩, ?_⟩
        match l, h0, h1, h2 with
        | p :: q :: r :: t, h0, h1, h2 =>
         cases h0; cases h1; cases h2
         obtain ⟨n0, v0⟩ := x
         obtain ⟨n1, v1⟩ := y
         obtain ⟨n2, v2⟩ := z
         dsimp only at hx hy hz hk2
         unfold recP
         rw [hx.1, hy, hz, hk2]
         rfl
       ·injection h with _ h; injection h with _ h; cases h
     ·injection h with _ h; injection h with _ h; cases h
   ·injection h with _ h; injection h with _ h; cases h
 ·rintro ⟨⟨hk0, hk1⟩, rfl⟩
  obtain ⟨k, n, i, fs⟩ := d
  dsimp only at hk0 hk1
  obtain ⟨j, rfl⟩ : ∃ j : Nat, k = Int.ofNat j := ⟨k.toNat, by simp only [Int.ofNat_eq_natCast]; omega⟩
  have hj : j < 6 := by simp only [Int.ofNat_eq_natCast] at hk1; omega
  refine ⟨0, ?_⟩
  unfold readD recP
  simp only [List.getElem?_cons_zero, List.getElem?_cons_succ]
  rw [kindD_of hj, if_pos ⟨rfl, by simp only [Int.ofNat_eq_natCast]; omega⟩, if_pos (show (⟨#[110, 117, 109, 98, 101, 114]⟩ : ByteArray) = Num from rfl), if_pos (show (⟨#[105, 115, 115, 117, 101, 114]⟩ : ByteArray) = Iss from rfl)]
  rfl
theorem readS_iff (s : List UInt8) (d : Dc) : (∃ a, readS s = (d, a, 0)) ↔ docC d = 0 ∧ docS d = s := by
 have key : docC d = 0 ↔ (0 ≤ d.kind ∧ d.kind < 6) ∧ textC (recP d) = 0 := by
  unfold docC
  split
  ·rename_i h
   unfold docR at h
   simp only [Bool.and_eq_true, decide_eq_true_eq] at h
   exact ⟨fun e => ⟨h.1, e⟩, fun e => e.2⟩
  ·rename_i h
   refine ⟨fun e => (by cases e), fun e => absurd ?_ h⟩
   unfold docR
   have hl : (recP d).length ≤ 64 := by
    have := e.2
    unfold textC at this
    split at this
    ·cases this
    ·omega
   simp only [recP, List.length_cons] at hl
   rw [decide_eq_true e.1.1, decide_eq_true e.1.2, decide_eq_true (by omega : d.fields.length ≤ 61)]; rfl
 have key2 : docC d = 0 → docS d = textS (recP d) := fun h => by
  unfold docS
  unfold docC at h
  split at h
  ·rename_i h2; rw [if_pos h2]
  ·cases h
 constructor
 ·rintro ⟨a, h⟩
  unfold readS at h
  split at h
  ·rename_i h0
   obtain ⟨hk, hl⟩ := (readD_iff _ d).1 ⟨a, h⟩
   have hp := (parseS_iff s (recP d)).1 ⟨(parseS s).2.1, by rw [← hl, ← h0]⟩
   have h1 := key.2 ⟨hk, hp.1⟩
   exact ⟨h1, (key2 h1).trans hp.2⟩
  ·rename_i h0
   injection h with _ h
   injection h with _ h
   exact absurd h h0
 ·rintro ⟨h1, h2⟩
  obtain ⟨hk, ht⟩ := key.1 h1
  obtain ⟨a, ha⟩ := (parseS_iff s (recP d)).2 ⟨ht, (key2 h1).symm.trans h2⟩
  obtain ⟨b, hb⟩ := (readD_iff (recP d) d).2 ⟨hk, rfl⟩
  refine ⟨b, ?_⟩
  unfold readS
  rw [ha, if_pos rfl]
  exact hb
noncomputable def RdA (r : Dc × Int × Int) : AV := .tup [DcA r.1, .i r.2.1, .i r.2.2]
noncomputable def ReadC : Ctr := spec (fun s : ByteArray => [.str s]) (fun _ => []) shortS (fun s => RdA (readS s.data.toList)) fun _ => []
theorem parseS_len (s : List UInt8) : (parseS s).1.length ≤ 64 := by
 obtain ⟨⟨l, a, e⟩, h⟩ : ∃ r, parseS s = r := ⟨_, rfl⟩
 rw [h]
 by_cases he : e = 0
 ·subst he
  have := ((parseS_iff s l).1 ⟨a, h⟩).1
  unfold textC at this
  split at this
  ·cases this
  ·dsimp only; omega
 ·have := (parseG_err s 1 [] [] l a e h he).1
  rw [this]; exact Nat.zero_le _
theorem read_body (P : Program) (hP : FnOk P 43 ParseC) (hk : FnOk P 53 KindDC) (hC : FnOk P 54 CloneFC) : BodyOk P x22 ReadC := by
 intro args H K hc
 obtain ⟨s, rfl, rfl, hp, hK⟩ := hc
 refine ⟨Nat.le_of_ble_eq_true rfl, ?_⟩
 dsimp only at hK ⊢
 unfold readS at hK
 have hll := parseS_len s.data.toList
 obtain ⟨Z, hZ⟩ : ∃ r, r = parseS s.data.toList := ⟨_, rfl⟩
 cbv
 refine callG_spec0 hP s hp rfl rfl rfl ?_
 rw [← hZ] at hK hll ⊢
 clear hZ
 obtain ⟨l, a, e⟩ := Z
 dsimp only at hK hll
 have hl2 := mapA_len FdA l
 cbv; repeat' ((first | refine .mk (fun h => ?_) fun h => ?_ | refine .k fun z hz => ?_ | fail) <;> cbv)
 case' refine_2 =>
  rw [if_neg h] at hK
  (refine FinK.mk ⟨_, Gh.refl _, ?_⟩; cbv; exact .inl (CutK.pre [] (by rfl) (by exact Nat.le_of_ble_eq_true rfl) (by rfl) (by rfl) (by repeat' (first | exact LeL.nil | exact LeL0.nil | exact LeH.nil | exact LeE.refl _ | exact Le.refl _ | exact Le0.one (.refl _) | exact Le0.one (.nil _) | exact Le1.refl _ | exact Le1.nil _ | refine LeH.cons ?_ ?_ | refine LeE.row ?_ | refine LeE.blk ?_ | refine LeL0.cons ?_ ?_ | refine LeL.cons ?_ ?_ | refine Le0.agg ?_ | refine Le.tup ?_ | exact Le.one (.one (.nil _)) | refine Le.one (.agg ?_))) (LeH.refl _) hK))
 rw [if_pos h] at hK
 subst h
 obtain rfl : z = 3 := hz
 refine xloopV [] (fun q : { i : Nat // i ≤ 3 ∧ (0 < i → ∃ x, l[0]? = some x ∧ x.name = Pap ∧ 0 ≤ kindD x.value) ∧ (1 < i → ∃ y, l[1]? = some y ∧ y.name = Num) ∧ (2 < i → ∃ z, l[2]? = some z ∧ z.name = Iss) } => [(23, .i (nI q.1))]) (fun _ => [.blk 60 [.i 0, .str ⟨#[]⟩, .str ⟨#[]⟩, .v (.slice none 0 0)], .row 9 1 [.str ⟨#[112, 97, 112, 101, 114]⟩, .str ⟨#[110, 117, 109, 98, 101, 114]⟩, .str ⟨#[105, 115, 115, 117, 101, 114]⟩]]) (fun q => lft 3 q.1) ⟨0, by omega, fun h => absurd h (by omega), fun h => absurd h (by omega), fun h => absurd h (by omega)⟩ ?_
 rintro ⟨i, hi, i0, i1, i2⟩
 dsimp only
 rcases (show i = 0 ∨ i = 1 ∨ i = 2 ∨ i = 3 by omega) with rfl | rfl | rfl | rfl
 ·unfold readD at hK
  obtain ⟨o, h0⟩ : ∃ o, l[0]? = o := ⟨_, rfl⟩
  cases o with
  | none =>
   have hln : l.length = 0 := by have := List.getElem?_eq_none_iff.1 h0; omega
   rw [h0] at hK
   cbv; repeat' ((first | refine .y fun h => ?_ | refine .k fun z hz => ?_ | refine AskEl.i0 ?_ | refine AskIdx.i0 ?_ | fail) <;> cbv)
   obtain rfl : z = 1 := hz
   (refine FinK.mk ⟨_, Gh.refl _, ?_⟩; cbv; exact .inl (CutK.pre [] (by rfl) (by exact Nat.le_of_ble_eq_true rfl) (by rfl) (by rfl) (by repeat' (first | exact LeL.nil | exact LeL0.nil | exact LeH.nil | exact LeE.refl _ | exact Le.refl _ | exact Le0.one (.refl _) | exact Le0.one (.nil _) | exact Le1.refl _ | exact Le1.nil _ | refine LeH.cons ?_ ?_ | refine LeE.row ?_ | refine LeE.blk ?_ | refine LeL0.cons ?_ ?_ | refine LeL.cons ?_ ?_ | refine Le0.agg ?_ | refine Le.tup ?_ | exact Le.one (.one (.nil _)) | refine Le.one (.agg ?_))) (LeH.refl _) hK))
  | some x =>
   have hln : 0 < l.length := (List.getElem?_eq_some_iff.1 h0).1
   rw [h0] at hK
   dsimp only at hK
   obtain ⟨xn, xv⟩ := x
   cbv; repeat' ((first | refine .e ?_ | refine .n fun h => ?_ | refine .y fun h => ?_ | refine .mk (fun h => ?_) fun h => ?_ | refine .k fun z hz => ?_ | refine AskEl.i0 ?_ | refine AskIdx.i0 ?_ | fail) <;> cbv)
   ·have hxn : xn = Pap := by assumption
    obtain ⟨kd, hkd⟩ : ∃ k, k = kindD xv := ⟨_, rfl⟩
    refine callG_spec0 hk xv trivial rfl rfl rfl ?_
    rw [← hkd] at hK ⊢
    cbv; repeat' ((first | refine .mk (fun h => ?_) fun h => ?_ | refine .k fun z hz => ?_ | fail) <;> cbv)
    ·rw [if_neg (fun e => absurd e.2 (by omega))] at hK
     (refine FinK.mk ⟨_, Gh.refl _, ?_⟩; cbv; exact .inl (CutK.pre [] (by rfl) (by exact Nat.le_of_ble_eq_true rfl) (by rfl) (by rfl) (by repeat' (first | exact LeL.nil | exact LeL0.nil | exact LeH.nil | exact LeE.refl _ | exact Le.refl _ | exact Le0.one (.refl _) | exact Le0.one (.nil _) | exact Le1.refl _ | exact Le1.nil _ | refine LeH.cons ?_ ?_ | refine LeE.row ?_ | refine LeE.blk ?_ | refine LeL0.cons ?_ ?_ | refine LeL.cons ?_ ?_ | refine Le0.agg ?_ | refine Le.tup ?_ | exact Le.one (.one (.nil _)) | refine Le.one (.agg ?_))) (LeH.refl _) hK))
    ·obtain rfl : z = 1 := by ((try simp only [vn] at *) <;> omega)
     exact roundV ⟨1, by omega, fun _ => ⟨_, h0, hxn, by dsimp only; omega⟩, fun h => absurd h (by omega), fun h => absurd h (by omega)⟩ (lft_lt (by omega))
   ·rw [if_neg (fun e => absurd e.1 h)] at hK
    obtain rfl : z = 1 := hz
    (refine FinK.mk ⟨_, Gh.refl _, ?_⟩; cbv; exact .inl (CutK.pre [] (by rfl) (by exact Nat.le_of_ble_eq_true rfl) (by rfl) (by rfl) (by repeat' (first | exact LeL.nil | exact LeL0.nil | exact LeH.nil | exact LeE.refl _ | exact Le.refl _ | exact Le0.one (.refl _) | exact Le0.one (.nil _) | exact Le1.refl _ | exact Le1.nil _ | refine LeH.cons ?_ ?_ | refine LeE.row ?_ | refine LeE.blk ?_ | refine LeL0.cons ?_ ?_ | refine LeL.cons ?_ ?_ | refine Le0.agg ?_ | refine Le.tup ?_ | exact Le.one (.one (.nil _)) | refine Le.one (.agg ?_))) (LeH.refl _) hK))
 ·obtain ⟨⟨xn, xv⟩, h0, hxn, hxk⟩ := i0 (by omega)
  unfold readD at hK
  rw [h0] at hK
  dsimp only at hK hxn hxk
  rw [if_pos ⟨hxn, hxk⟩] at hK
  obtain ⟨o, h1⟩ : ∃ o, l[1]? = o := ⟨_, rfl⟩
  cases o with
  | none =>
   have hln : l.length ≤ 1 := List.getElem?_eq_none_iff.1 h1
   rw [h1] at hK
   cbv; repeat' ((first | refine .y fun h => ?_ | refine .k fun z hz => ?_ | refine AskEl.i1 ?_ | refine AskIdx.i1 ?_ | fail) <;> cbv)
   obtain rfl : z = 2 := hz
   (refine FinK.mk ⟨_, Gh.refl _, ?_⟩; cbv; exact .inl (CutK.pre [] (by rfl) (by exact Nat.le_of_ble_eq_true rfl) (by rfl) (by rfl) (by repeat' (first | exact LeL.nil | exact LeL0.nil | exact LeH.nil | exact LeE.refl _ | exact Le.refl _ | exact Le0.one (.refl _) | exact Le0.one (.nil _) | exact Le1.refl _ | exact Le1.nil _ | refine LeH.cons ?_ ?_ | refine LeE.row ?_ | refine LeE.blk ?_ | refine LeL0.cons ?_ ?_ | refine LeL.cons ?_ ?_ | refine Le0.agg ?_ | refine Le.tup ?_ | exact Le.one (.one (.nil _)) | refine Le.one (.agg ?_))) (LeH.refl _) hK))
  | some y =>
   have hln : 1 < l.length := (List.getElem?_eq_some_iff.1 h1).1
   rw [h1] at hK
   obtain ⟨yn, yv⟩ := y
   dsimp only at hK
   cbv; repeat' ((first | refine .e ?_ | refine .n fun h => ?_ | refine .y fun h => ?_ | refine .mk (fun h => ?_) fun h => ?_ | refine .k fun z hz => ?_ | refine AskEl.i1 ?_ | refine AskIdx.i1 ?_ | fail) <;> cbv)
   ·have hyn : yn = Num := by assumption
    obtain rfl : z = 2 := by ((try simp only [vn] at *) <;> omega)
    exact roundV ⟨2, by omega, fun _ => ⟨_, h0, hxn, hxk⟩, fun _ => ⟨_, h1, hyn⟩, fun h => absurd h (by omega)⟩ (lft_lt (by omega))
   ·rw [if_neg (show ¬ yn = Num from h)] at hK
    obtain rfl : z = 2 := hz
    (refine FinK.mk ⟨_, Gh.refl _, ?_⟩; cbv; exact .inl (CutK.pre [] (by rfl) (by exact Nat.le_of_ble_eq_true rfl) (by rfl) (by rfl) (by repeat' (first | exact LeL.nil | exact LeL0.nil | exact LeH.nil | exact LeE.refl _ | exact Le.refl _ | exact Le0.one (.refl _) | exact Le0.one (.nil _) | exact Le1.refl _ | exact Le1.nil _ | refine LeH.cons ?_ ?_ | refine LeE.row ?_ | refine LeE.blk ?_ | refine LeL0.cons ?_ ?_ | refine LeL.cons ?_ ?_ | refine Le0.agg ?_ | refine Le.tup ?_ | exact Le.one (.one (.nil _)) | refine Le.one (.agg ?_))) (LeH.refl _) hK))
 ·obtain ⟨⟨xn, xv⟩, h0, hxn, hxk⟩ := i0 (by omega)
  obtain ⟨⟨yn, yv⟩, h1, hyn⟩ := i1 (by omega)
  unfold readD at hK
  rw [h0] at hK
  dsimp only at hK hxn hxk hyn
  rw [if_pos ⟨hxn, hxk⟩, h1] at hK
  dsimp only at hK
  rw [if_pos hyn] at hK
  obtain ⟨o, h2⟩ : ∃ o, l[2]? = o := ⟨_, rfl⟩
  cases o with
  | none =>
   have hln : l.length ≤ 2 := List.getElem?_eq_none_iff.1 h2
   rw [h2] at hK
   cbv; repeat' ((first | refine .y fun h => ?_ | refine .k fun z hz => ?_ | refine AskEl.i2 ?_ | refine AskIdx.i2 ?_ | fail) <;> cbv)
   obtain rfl : z = 3 := hz
   (refine FinK.mk ⟨_, Gh.refl _, ?_⟩; cbv; exact .inl (CutK.pre [] (by rfl) (by exact Nat.le_of_ble_eq_true rfl) (by rfl) (by rfl) (by repeat' (first | exact LeL.nil | exact LeL0.nil | exact LeH.nil | exact LeE.refl _ | exact Le.refl _ | exact Le0.one (.refl _) | exact Le0.one (.nil _) | exact Le1.refl _ | exact Le1.nil _ | refine LeH.cons ?_ ?_ | refine LeE.row ?_ | refine LeE.blk ?_ | refine LeL0.cons ?_ ?_ | refine LeL.cons ?_ ?_ | refine Le0.agg ?_ | refine Le.tup ?_ | exact Le.one (.one (.nil _)) | refine Le.one (.agg ?_))) (LeH.refl _) hK))
  | some y =>
   have hln : 2 < l.length := (List.getElem?_eq_some_iff.1 h2).1
   rw [h2] at hK
   obtain ⟨zn, zv⟩ := y
   dsimp only at hK
   cbv; repeat' ((first | refine .e ?_ | refine .n fun h => ?_ | refine .y fun h => ?_ | refine .mk (fun h => ?_) fun h => ?_ | refine .k fun z hz => ?_ | refine AskEl.i2 ?_ | refine AskIdx.i2 ?_ | fail) <;> cbv)
   ·have hzn : zn = Iss := by assumption
    obtain rfl : z = 3 := by ((try simp only [vn] at *) <;> omega)
    exact roundV ⟨3, by omega, fun _ => ⟨_, h0, hxn, hxk⟩, fun _ => ⟨_, h1, hyn⟩, fun _ => ⟨_, h2, hzn⟩⟩ (lft_lt (by omega))
   ·rw [if_neg (show ¬ zn = Iss from h)] at hK
    obtain rfl : z = 3 := hz
    (refine FinK.mk ⟨_, Gh.refl _, ?_⟩; cbv; exact .inl (CutK.pre [] (by rfl) (by exact Nat.le_of_ble_eq_true rfl) (by rfl) (by rfl) (by repeat' (first | exact LeL.nil | exact LeL0.nil | exact LeH.nil | exact LeE.refl _ | exact Le.refl _ | exact Le0.one (.refl _) | exact Le0.one (.nil _) | exact Le1.refl _ | exact Le1.nil _ | refine LeH.cons ?_ ?_ | refine LeE.row ?_ | refine LeE.blk ?_ | refine LeL0.cons ?_ ?_ | refine LeL.cons ?_ ?_ | refine Le0.agg ?_ | refine Le.tup ?_ | exact Le.one (.one (.nil _)) | refine Le.one (.agg ?_))) (LeH.refl _) hK))
 ·obtain ⟨⟨xn, xv⟩, h0, hxn, hxk⟩ := i0 (by omega)
  obtain ⟨⟨yn, yv⟩, h1, hyn⟩ := i1 (by omega)
  obtain ⟨⟨zn, zv⟩, h2, hzn⟩ := i2 (by omega)
  have hln : 2 < l.length := (List.getElem?_eq_some_iff.1 h2).1
  unfold readD at hK
  rw [h0] at hK
  dsimp only at hK hxn hxk hyn hzn
  rw [if_pos ⟨hxn, hxk⟩, h1] at hK
  dsimp only at hK
  rw [if_pos hyn, h2] at hK
  dsimp only at hK
  rw [if_pos hzn] at hK
  obtain ⟨kd, hkd⟩ : ∃ k, k = kindD xv := ⟨_, rfl⟩
  cbv; repeat' ((first | refine .e ?_ | refine .n fun h => ?_ | refine .l fun ys hys hyl => ?_ | fail) <;> cbv)
  refine callG_spec0 hk xv trivial rfl rfl rfl ?_
  rw [← hkd] at hK ⊢
  cbv
  obtain rfl : ys = l.drop 3 := by
   rw [hys]
   show List.drop 3 (List.take (l.length : Int).toNat l) = _
   rw [Int.toNat_natCast, List.take_length]
  clear hys hyl
  obtain ⟨fs, hfs⟩ : ∃ f, f = l.drop 3 := ⟨_, rfl⟩
  have hfl : fs.length ≤ 4000 := by rw [hfs, List.length_drop]; omega
  rw [← hfs] at hK ⊢
  refine callG_spec0 hC fs hfl rfl rfl rfl ?_
  cbv
  (refine FinK.mk ⟨_, Gh.refl _, ?_⟩; cbv; exact .inl (CutK.pre [] (by rfl) (by exact Nat.le_of_ble_eq_true rfl) (by rfl) (by rfl) (by repeat' (first | exact LeL.nil | exact LeL0.nil | exact LeH.nil | exact LeE.refl _ | exact Le.refl _ | exact Le0.one (.refl _) | exact Le0.one (.nil _) | exact Le1.refl _ | exact Le1.nil _ | refine LeH.cons ?_ ?_ | refine LeE.row ?_ | refine LeE.blk ?_ | refine LeL0.cons ?_ ?_ | refine LeL.cons ?_ ?_ | refine Le0.agg ?_ | refine Le.tup ?_ | exact Le.one (.one (.nil _)) | refine Le.one (.agg ?_))) (LeH.refl _) hK))
end Go.Proofs.YtblkcnmecfppnaaGreatDoor
/-
 Reading papers: the reference's Read.
-/
namespace Go.Proofs.YtblkcnmecfppnaaGreatDoor
open Go.RowKit
set_option maxHeartbeats 8000000
set_option maxRecDepth 100000
def lastJ : Nat → ByteArray → Int
 | 0, _ => -1
 | n + 1, s => if kindS (Int.ofNat n) = s then Int.ofNat n else lastJ n s
theorem lastJ_eq (s : ByteArray) : ∀ n, n ≤ 6 → lastJ n s = match kindJ n s with
  | some k => Int.ofNat k
  | none => -1
 | 0, _ => rfl
 | n + 1, h => by
  unfold lastJ kindJ
  have ih := lastJ_eq s n (by omega)
  cases hk : kindJ n s with
  | none =>
   rw [hk] at ih
   dsimp only at ih ⊢
   by_cases e : kindS (Int.ofNat n) = s
   ·rw [if_pos e, if_pos e]
   ·rw [if_neg e, if_neg e]; exact ih
  | some j =>
   rw [hk] at ih
   obtain ⟨h1, h2⟩ := kindJ_lt hk
   have hne : ¬ kindS (Int.ofNat n) = s := fun e => by
    have := kindS_inj ⟨n, by omega⟩ ⟨j, by omega⟩ (e.trans h2.symm)
    simp only [Fin.mk.injEq] at this
    omega
   rw [if_neg hne]
   exact ih
theorem lastJ_kind (s : ByteArray) : lastJ 6 s = kindD s := lastJ_eq s 6 (by omega)
theorem rread_body (P : Program) (hP : FnOk P 18 ParseC) (hk : FnOk P 66 KindSC) : BodyOk P x27 ReadC := by
 intro args H K hc
 obtain ⟨s, rfl, rfl, hp, hK⟩ := hc
 refine ⟨Nat.le_of_ble_eq_true rfl, ?_⟩
 dsimp only at hK ⊢
 unfold readS at hK
 have hll := parseS_len s.data.toList
 obtain ⟨Z, hZ⟩ : ∃ r, r = parseS s.data.toList := ⟨_, rfl⟩
 cbv
 refine callG_spec0 hP s hp rfl rfl rfl ?_
 rw [← hZ] at hK hll ⊢
 clear hZ
 obtain ⟨l, a, e⟩ := Z
 dsimp only at hK hll ⊢
 have hl2 := mapA_len FdA l
 cbv; repeat' ((first | refine .y fun h => ?_ | refine .mk (fun h => ?_) fun h => ?_ | refine .k fun z hz => ?_ | fail) <;> cbv)
 case' refine_2 =>
  rw [if_neg h] at hK
  (refine FinK.mk ⟨_, Gh.refl _, ?_⟩; cbv; exact .inl (CutK.pre [] (by rfl) (by exact Nat.le_of_ble_eq_true rfl) (by rfl) (by rfl) (by repeat' (first | exact LeL.nil | exact LeL0.nil | exact LeH.nil | exact LeE.refl _ | exact Le.refl _ | exact Le0.one (.refl _) | exact Le0.one (.nil _) | exact Le1.refl _ | exact Le1.nil _ | refine LeH.cons ?_ ?_ | refine LeE.row ?_ | refine LeE.blk ?_ | refine LeL0.cons ?_ ?_ | refine LeL.cons ?_ ?_ | refine Le0.agg ?_ | refine Le.tup ?_ | exact Le.one (.one (.nil _)) | refine Le.one (.agg ?_))) (LeH.refl _) hK))
 all_goals obtain rfl : e = 0 := by assumption
 all_goals rw [if_pos rfl] at hK
 all_goals unfold readD at hK
 case' refine_1.refine_2 =>
  obtain rfl : l = [] := List.eq_nil_of_length_eq_zero (by ((try simp only [vn] at *) <;> omega))
  (refine FinK.mk ⟨_, Gh.refl _, ?_⟩; cbv; exact .inl (CutK.pre [] (by rfl) (by exact Nat.le_of_ble_eq_true rfl) (by rfl) (by rfl) (by repeat' (first | exact LeL.nil | exact LeL0.nil | exact LeH.nil | exact LeE.refl _ | exact Le.refl _ | exact Le0.one (.refl _) | exact Le0.one (.nil _) | exact Le1.refl _ | exact Le1.nil _ | refine LeH.cons ?_ ?_ | refine LeE.row ?_ | refine LeE.blk ?_ | refine LeL0.cons ?_ ?_ | refine LeL.cons ?_ ?_ | refine Le0.agg ?_ | refine Le.tup ?_ | exact Le.one (.one (.nil _)) | refine Le.one (.agg ?_))) (LeH.refl _) hK))
 obtain ⟨⟨xn, xv⟩, h0⟩ : ∃ x, l[0]? = some x := some_at (by ((try simp only [vn] at *) <;> omega))
 rw [h0] at hK
 dsimp only at hK
 cbv; repeat' ((first | refine .e ?_ | refine .y fun h => ?_ | refine .mk (fun h => ?_) fun h => ?_ | fail) <;> cbv)
 case' refine_1.refine_1.refine_2 =>
  rw [if_neg (fun e => absurd e.1 (by assumption))] at hK
  (refine FinK.mk ⟨_, Gh.refl _, ?_⟩; cbv; exact .inl (CutK.pre [] (by rfl) (by exact Nat.le_of_ble_eq_true rfl) (by rfl) (by rfl) (by repeat' (first | exact LeL.nil | exact LeL0.nil | exact LeH.nil | exact LeE.refl _ | exact Le.refl _ | exact Le0.one (.refl _) | exact Le0.one (.nil _) | exact Le1.refl _ | exact Le1.nil _ | refine LeH.cons ?_ ?_ | refine LeE.row ?_ | refine LeE.blk ?_ | refine LeL0.cons ?_ ?_ | refine LeL.cons ?_ ?_ | refine Le0.agg ?_ | refine Le.tup ?_ | exact Le.one (.one (.nil _)) | refine Le.one (.agg ?_))) (LeH.refl _) hK))
 have hxn : xn = Pap := by assumption
 refine xloopV [] (fun q : { q : Nat × Int // q.1 ≤ 6 ∧ q.2 = lastJ q.1 xv } => [(9, .i (nI q.1.1))]) (fun q => [.blk 60 [.i 0, .str ⟨#[]⟩, .str ⟨#[]⟩, .v (.slice none 0 0)], .blk 60 [.i q.1.2, .str ⟨#[]⟩, .str ⟨#[]⟩, .v (.slice none 0 0)]]) (fun q => lft 6 q.1.1) ⟨(0, -1), by omega, rfl⟩ ?_
 rintro ⟨⟨k, v⟩, hk6, hv⟩
 dsimp only at hk6 hv ⊢
 cbv; repeat' ((first | refine .e ?_ | refine .mk (fun h => ?_) fun h => ?_ | refine .k fun z hz => ?_ | fail) <;> cbv)
 ·obtain ⟨ks, hks⟩ : ∃ x, x = kindS (nI k) := ⟨_, rfl⟩
  refine callG_spec0 hk (nI k) trivial rfl rfl rfl ?_
  rw [← hks]
  have hn : lastJ (k + 1) xv = if ks = xv then nI k else v := by rw [hks, hv]; rfl
  cbv; repeat' ((first | refine .mk (fun h => ?_) fun h => ?_ | refine .k fun z hz => ?_ | fail) <;> cbv)
  ·obtain rfl : z = nI (k + 1) := by ((try simp only [vn] at *) <;> omega)
   exact roundV ⟨(k + 1, nI k), by ((try simp only [vn] at *) <;> omega), by rw [hn, if_pos (by assumption)]⟩ (lft_lt (by ((try simp only [vn] at *) <;> omega)))
  ·obtain rfl : z = nI (k + 1) := by ((try simp only [vn] at *) <;> omega)
   exact roundV ⟨(k + 1, v), by ((try simp only [vn] at *) <;> omega), by rw [hn, if_neg (by assumption)]⟩ (lft_lt (by ((try simp only [vn] at *) <;> omega)))
 all_goals obtain rfl : k = 6 := by ((try simp only [vn] at *) <;> omega)
 all_goals rw [lastJ_kind] at hv
 all_goals rw [← hv] at hK
 case' refine_2.refine_1 =>
  rw [if_neg (fun e => absurd e.2 (by omega))] at hK
  (refine FinK.mk ⟨_, Gh.refl _, ?_⟩; cbv; exact .inl (CutK.pre [] (by rfl) (by exact Nat.le_of_ble_eq_true rfl) (by rfl) (by rfl) (by repeat' (first | exact LeL.nil | exact LeL0.nil | exact LeH.nil | exact LeE.refl _ | exact Le.refl _ | exact Le0.one (.refl _) | exact Le0.one (.nil _) | exact Le1.refl _ | exact Le1.nil _ | refine LeH.cons ?_ ?_ | refine LeE.row ?_ | refine LeE.blk ?_ | refine LeL0.cons ?_ ?_ | refine LeL.cons ?_ ?_ | refine Le0.agg ?_ | refine Le.tup ?_ | exact Le.one (.one (.nil _)) | refine Le.one (.agg ?_))) (LeH.refl _) hK))
 all_goals rw [if_pos ⟨hxn, by omega⟩] at hK
 ·rw [List.getElem?_eq_none (show l.length ≤ 1 by ((try simp only [vn] at *) <;> omega))] at hK
  (refine FinK.mk ⟨_, Gh.refl _, ?_⟩; cbv; exact .inl (CutK.pre [] (by rfl) (by exact Nat.le_of_ble_eq_true rfl) (by rfl) (by rfl) (by repeat' (first | exact LeL.nil | exact LeL0.nil | exact LeH.nil | exact LeE.refl _ | exact Le.refl _ | exact Le0.one (.refl _) | exact Le0.one (.nil _) | exact Le1.refl _ | exact Le1.nil _ | refine LeH.cons ?_ ?_ | refine LeE.row ?_ | refine LeE.blk ?_ | refine LeL0.cons ?_ ?_ | refine LeL.cons ?_ ?_ | refine Le0.agg ?_ | refine Le.tup ?_ | exact Le.one (.one (.nil _)) | refine Le.one (.agg ?_))) (LeH.refl _) hK))
 obtain ⟨⟨yn, yv⟩, h1⟩ : ∃ x, l[1]? = some x := some_at (by ((try simp only [vn] at *) <;> omega))
 rw [h1] at hK
 dsimp only at hK
 cbv; repeat' ((first | refine .e ?_ | refine .mk (fun h => ?_) fun h => ?_ | refine .k fun z hz => ?_ | fail) <;> cbv)
 rotate_right 1
 ·rw [if_neg (show ¬ yn = Num from h)] at hK
  (refine FinK.mk ⟨_, Gh.refl _, ?_⟩; cbv; exact .inl (CutK.pre [] (by rfl) (by exact Nat.le_of_ble_eq_true rfl) (by rfl) (by rfl) (by repeat' (first | exact LeL.nil | exact LeL0.nil | exact LeH.nil | exact LeE.refl _ | exact Le.refl _ | exact Le0.one (.refl _) | exact Le0.one (.nil _) | exact Le1.refl _ | exact Le1.nil _ | refine LeH.cons ?_ ?_ | refine LeE.row ?_ | refine LeE.blk ?_ | refine LeL0.cons ?_ ?_ | refine LeL.cons ?_ ?_ | refine Le0.agg ?_ | refine Le.tup ?_ | exact Le.one (.one (.nil _)) | refine Le.one (.agg ?_))) (LeH.refl _) hK))
 all_goals rw [if_pos (show yn = Num by assumption)] at hK
 ·rw [List.getElem?_eq_none (show l.length ≤ 2 by ((try simp only [vn] at *) <;> omega))] at hK
  (refine FinK.mk ⟨_, Gh.refl _, ?_⟩; cbv; exact .inl (CutK.pre [] (by rfl) (by exact Nat.le_of_ble_eq_true rfl) (by rfl) (by rfl) (by repeat' (first | exact LeL.nil | exact LeL0.nil | exact LeH.nil | exact LeE.refl _ | exact Le.refl _ | exact Le0.one (.refl _) | exact Le0.one (.nil _) | exact Le1.refl _ | exact Le1.nil _ | refine LeH.cons ?_ ?_ | refine LeE.row ?_ | refine LeE.blk ?_ | refine LeL0.cons ?_ ?_ | refine LeL.cons ?_ ?_ | refine Le0.agg ?_ | refine Le.tup ?_ | exact Le.one (.one (.nil _)) | refine Le.one (.agg ?_))) (LeH.refl _) hK))
 obtain ⟨⟨zn, zv⟩, h2⟩ : ∃ x, l[2]? = some x := some_at (by ((try simp only [vn] at *) <;> omega))
 rw [h2] at hK
 dsimp only at hK
 cbv; repeat' ((first | refine .e ?_ | refine .mk (fun h => ?_) fun h => ?_ | fail) <;> cbv)
 rotate_right 1
 ·rw [if_neg (show ¬ zn = Iss from h)] at hK
  (refine FinK.mk ⟨_, Gh.refl _, ?_⟩; cbv; exact .inl (CutK.pre [] (by rfl) (by exact Nat.le_of_ble_eq_true rfl) (by rfl) (by rfl) (by repeat' (first | exact LeL.nil | exact LeL0.nil | exact LeH.nil | exact LeE.refl _ | exact Le.refl _ | exact Le0.one (.refl _) | exact Le0.one (.nil _) | exact Le1.refl _ | exact Le1.nil _ | refine LeH.cons ?_ ?_ | refine LeE.row ?_ | refine LeE.blk ?_ | refine LeL0.cons ?_ ?_ | refine LeL.cons ?_ ?_ | refine Le0.agg ?_ | refine Le.tup ?_ | exact Le.one (.one (.nil _)) | refine Le.one (.agg ?_))) (LeH.refl _) hK))
 rw [if_pos (show zn = Iss by assumption)] at hK
 obtain ⟨ll, hlen⟩ : ∃ n, n = l.length := ⟨_, rfl⟩
 refine xloopG (Gh.adoptC 1 3 24 2 rfl rfl) ?_
 cbv
 refine xloopV [2] (fun q : { q : Nat × List Fd // 3 ≤ q.1 ∧ q.1 ≤ ll ∧ q.2 = (l.take q.1).drop 3 } => [(10, .i (nI q.1.1))]) (fun q => [.blk 60 [.i 0, .str ⟨#[]⟩, .str ⟨#[]⟩, .v (.slice none 0 0)], .blk 60 [.i v, .str yv, .str zv, .hd 2], .row 24 2 (mapA FdA q.1.2)]) (fun q => lft ll q.1.1) ⟨(3, []), Nat.le_refl _, by ((try simp only [vn] at *) <;> omega), by rw [List.drop_eq_nil_of_le]; rw [List.length_take]; omega⟩ ?_
 rintro ⟨⟨i, L⟩, hi3, hil, hL⟩
 dsimp only at hi3 hil hL ⊢
 have hLl : L.length ≤ 64 := by rw [hL, List.length_drop, List.length_take]; omega
 have hL2 := mapA_len FdA L
 cbv; repeat' ((first | refine .mk (fun h => ?_) fun h => ?_ | refine .k fun z hz => ?_ | fail) <;> cbv)
 ·refine askEl_int (by ((try simp only [vn] at *) <;> omega)) (by ((try simp only [vn] at *) <;> omega)) fun j x hj hx => ?_
  obtain rfl : i = j := by ((try simp only [vn] at *) <;> omega)
  have hnx : L ++ [x] = (l.take (i + 1)).drop 3 := by rw [List.take_add_one, hx, List.drop_append_of_le_length (by rw [List.length_take]; omega), hL]; rfl
  clear hx
  obtain ⟨fn, fv⟩ := x
  cbv; repeat' ((first | refine .k fun z hz => ?_ | refine .zl fun zs hzs hzl => ?_ | fail) <;> cbv)
  obtain rfl : z = nI (i + 1) := by ((try simp only [vn] at *) <;> omega)
  obtain rfl : zs = mapA FdA (L ++ [(⟨fn, fv⟩ : Fd)]) := by (rw [mapA_app, mapA_one]; first | exact hzs | (subst_vars; rfl))
  exact roundV ⟨(i + 1, L ++ [⟨fn, fv⟩]), by dsimp only; omega, by ((try simp only [vn] at *) <;> omega), hnx⟩ (lft_lt (by ((try simp only [vn] at *) <;> omega)))
 ·obtain rfl : L = l.drop 3 := by rw [hL, List.take_of_length_le (by ((try simp only [vn] at *) <;> omega))]
  obtain ⟨fs, hfs⟩ : ∃ f, f = l.drop 3 := ⟨_, rfl⟩
  rw [← hfs] at hK
  rw [← hfs]
  refine FinK.mk ⟨_, Gh.plain 2 rfl, ?_⟩
  cbv
  exact .inl (CutK.pre [] (by rfl) (by exact Nat.le_of_ble_eq_true rfl) (by rfl) (by rfl) (Le.refl _) (LeH.refl _) hK)
end Go.Proofs.YtblkcnmecfppnaaGreatDoor
/-
 Reading money: what is read is just what is written so.
-/
namespace Go.Proofs.YtblkcnmecfppnaaGreatDoor
open Go.RowKit
set_option maxHeartbeats 8000000
set_option maxRecDepth 100000
/-- All digits of a text, as a number. -/
def digF (a : Int) : List UInt8 → Int
 | [] => a
 | c :: l => digF (if 48 ≤ c.toNat ∧ c.toNat ≤ 57 then a * 10 + (c.toNat - 48 : Int) else a) l
theorem digF_le : ∀ (l : List UInt8) (a : Int), 0 ≤ a → a ≤ digF a l
 | [], a, _ => Int.le_refl a
 | c :: l, a, h => by
  unfold digF
  split
  ·rename_i hc
   have := digF_le l (a * 10 + ((c.toNat : Int) - 48)) (by omega)
   omega
  ·exact digF_le l a h
theorem digF_app : ∀ (l m : List UInt8) (a : Int), digF a (l ++ m) = digF (digF a l) m
 | [], m, a => rfl
 | c :: l, m, a => by
  show digF _ (l ++ m) = digF (digF _ l) m
  rw [digF_app l m]
/-- The money that a text would be. -/
def monC (s : ByteArray) : ByteArray := s.extract 0 3
def monV (s : ByteArray) : Int := if s.data[4]? = some 45 then -(digF 0 (s.data.toList.drop 4)) else digF 0 (s.data.toList.drop 4)
def monP (s : ByteArray) : Option (ByteArray × Int) := if moneyB (monC s) (monV s) = true ∧ monS (monC s) (monV s) = s then some (monC s, monV s) else none
theorem curB_len {c : ByteArray} (h : curB c = true) : c.size = 3 := by
 unfold curB at h
 simp only [Bool.and_eq_true, decide_eq_true_eq] at h
 exact h.1
theorem digF_whole : ∀ (k u : Nat) (a : Int), u < 10 ^ k → digF a (wholeL u k) = a * 10 ^ k + u
 | 0, u, a, h => by
  obtain rfl : u = 0 := by simpa using h
  rw [whole_nil]
  show a = _
  omega
 | k + 1, u, a, h => by
  have hd : u / 10 < 10 ^ k := by rw [Nat.div_lt_iff_lt_mul (by omega)]; rw [Nat.pow_succ] at h; omega
  rw [whole_step (by omega), digF_app, show k + 1 - 1 = k from rfl, digF_whole k (u / 10) a hd]
  have hc : (UInt8.ofNat (48 + u % 10)).toNat = 48 + u % 10 := by simp; omega
  show digF (if _ then _ else _) [] = _
  unfold digF
  rw [hc, if_pos (by omega)]
  rw [Int.pow_succ]
  have e : ((48 + u % 10 : Nat) : Int) - 48 = (u : Int) % 10 := by omega
  have e2 : ((u / 10 : Nat) : Int) = (u : Int) / 10 := by omega
  rw [e, e2, Int.add_mul, Int.mul_assoc]
  omega
theorem digF_dec (u : Nat) (a : Int) : ∃ k : Nat, digF a (wholeL u 1) = a * 10 ^ k + u := by
 obtain ⟨n, hn⟩ : ∃ n, n = (wholeL u 1).length := ⟨_, rfl⟩
 have h1 := dec_len_pos u
 have e : wholeL u n = wholeL u 1 := by
  have := whole_pad n u (by omega)
  rw [this, hn, Nat.sub_self]; rfl
 have hlt : u < 10 ^ n := by
  rcases Nat.lt_or_ge u (10 ^ n) with h | h
  ·exact h
  ·exfalso
   have key : ∀ (m v : Nat), 10 ^ m ≤ v → m < (wholeL v 1).length := by
    intro m
    induction m with
    | zero => intro v _; have := dec_len_pos v; omega
    | succ m ih =>
     intro v hv
     have hv10 : 10 ^ m ≤ v / 10 := by rw [Nat.le_div_iff_mul_le (by omega)]; rw [Nat.pow_succ] at hv; exact hv
     have := ih (v / 10) hv10
     have hv0 : v / 10 ≠ 0 := by have := Nat.pow_pos (n := m) (show 0 < 10 by omega); omega
     rw [whole_step (by omega), List.length_append, show (1 : Nat) - 1 = 0 from rfl, whole_pos hv0]
     simp only [List.length_cons, List.length_nil]
     omega
   have := key n u h
   omega
 exact ⟨n, by rw [← e, digF_whole n u a hlt]⟩
theorem digF_frac {n : Nat} (hn : n = 0 ∨ n = 2 ∨ n = 3) (u : Nat) : digF 0 (fracL n u) = u := by
 unfold fracL
 split
 ·obtain ⟨k, hk⟩ := digF_dec u 0
  rw [hk]; omega
 ·obtain ⟨k, hk⟩ := digF_dec (u / 10 ^ n) 0
  rw [digF_app, hk]
  show digF (if _ then _ else _) (wholeL (u % 10 ^ n) n) = _
  rw [if_neg (by decide), digF_whole n (u % 10 ^ n) _ (Nat.mod_lt _ (Nat.pow_pos (by omega)))]
  rcases hn with rfl | rfl | rfl
  ·contradiction
  ·simp only [Int.zero_mul, Int.zero_add]; omega
  ·simp only [Int.zero_mul, Int.zero_add]; omega
theorem whole_dig : ∀ (n u least : Nat), u + least ≤ n → ∀ x ∈ wholeL u least, 48 ≤ x.toNat ∧ x.toNat ≤ 57
 | n, u, least, hn, x, hx => by
  by_cases h : u = 0 ∧ least = 0
  ·rw [h.1, h.2, whole_nil] at hx; cases hx
  ·rw [whole_step h] at hx
   rcases List.mem_append.1 hx with hx | hx
   ·match n with
    | 0 => omega
    | n + 1 => exact whole_dig n (u / 10) (least - 1) (by omega) x hx
   ·obtain rfl := List.mem_singleton.1 hx
    have : (UInt8.ofNat (48 + u % 10)).toNat = 48 + u % 10 := by simp; omega
    omega
theorem whole_cons (u : Nat) : ∃ x r, wholeL u 1 = x :: r ∧ 48 ≤ x.toNat := by
 have h1 := dec_len_pos u
 cases h : wholeL u 1 with
 | nil => rw [h] at h1; simp at h1
 | cons x r => exact ⟨x, r, rfl, (whole_dig _ u 1 (Nat.le_refl _) x (by rw [h]; exact List.mem_cons_self ..)).1⟩
theorem frac_cons (n u : Nat) : ∃ x r, fracL n u = x :: r ∧ 48 ≤ x.toNat := by
 unfold fracL
 split
 ·exact whole_cons u
 ·obtain ⟨x, r, h, hx⟩ := whole_cons (u / 10 ^ n)
  exact ⟨x, r ++ 46 :: wholeL (u % 10 ^ n) n, by rw [h]; rfl, hx⟩
theorem frac_len {n u : Nat} (hn : n = 0 ∨ n = 2 ∨ n = 3) (hu : u ≤ 1099511627776) : (fracL n u).length ≤ 17 := by
 have key : ∀ v, v ≤ 1099511627776 → (wholeL v 1).length ≤ 13 := fun v hv => by rw [← dec_whole]; exact dec_len 13 v (by omega) (by omega)
 unfold fracL
 split
 ·have := key u hu; omega
 ·have h1 := key (u / 10 ^ n) (Nat.le_trans (Nat.div_le_self _ _) hu)
  rw [List.length_append, List.length_cons, whole_len n _ (Nat.mod_lt _ (Nat.pow_pos (by omega)))]
  omega
structure MonS (s : ByteArray) (c : ByteArray) (a : Int) : Prop where
 lo : 5 ≤ s.size
 hi : s.size ≤ 24
 sp : s.data[3]? = some 32
 cur : monC s = c
 val : monV s = a
 dig : 0 ≤ digF 0 (s.data.toList.drop 4) ∧ digF 0 (s.data.toList.drop 4) ≤ 1099511627776
theorem monS_read {c : ByteArray} {a : Int} (h : moneyB c a = true) : MonS (monS c a) c a := by
 have hcur : curB c = true := by unfold moneyB at h; simp only [Bool.and_eq_true] at h; exact h.1.1
 have hc3 := curB_len hcur
 have hr := moneyB_rng h.symm
 have hn := digN_in c
 obtain ⟨F, hF⟩ : ∃ F, F = fracL (digN c) a.natAbs := ⟨_, rfl⟩
 obtain ⟨S, hS⟩ : ∃ S : List UInt8, S = if a < 0 then [45] else [] := ⟨_, rfl⟩
 have he : (monS c a).data.toList = c.data.toList ++ 32 :: (S ++ F) := by
  unfold monS
  rw [if_pos h, ← hF, hS]
  by_cases ha : a < 0
  ·simp [ha]
  ·simp [ha]
 have hcl : c.data.toList.length = 3 := by rw [Array.length_toList]; exact hc3
 have hfl : F.length ≤ 17 := by rw [hF]; exact frac_len hn (by omega)
 have hSl : S.length ≤ 1 := by rw [hS]; split <;> simp
 obtain ⟨x, r, hx, hx48⟩ := frac_cons (digN c) a.natAbs
 rw [← hF] at hx
 have hsz : (monS c a).size = 4 + S.length + F.length := by
  have := congrArg List.length he
  rw [Array.length_toList] at this
  simp only [List.length_append, List.length_cons] at this
  show (monS c a).data.size = _
  omega
 have hd4 : (monS c a).data.toList.drop 4 = S ++ F := by
  rw [he, show (4 : Nat) = (c.data.toList ++ [32]).length by simp [hcl], show c.data.toList ++ 32 :: (S ++ F) = (c.data.toList ++ [32]) ++ (S ++ F) by simp, List.drop_left]
 have hdig : digF 0 ((monS c a).data.toList.drop 4) = a.natAbs := by
  rw [hd4, digF_app]
  have e : digF 0 S = 0 := by
   rw [hS]
   split
   ·show digF (if _ then _ else _) [] = _
    rw [if_neg (by decide)]; rfl
   ·rfl
  rw [e, hF, digF_frac hn]
 have h4 : (monS c a).data[4]? = (S ++ F)[0]? := by
  have : (monS c a).data.toList[4]? = ((monS c a).data.toList.drop 4)[0]? := by rw [List.getElem?_drop]
  rw [hd4] at this
  simpa using this
 refine ⟨by rw [hsz, hx, List.length_cons]; omega, by rw [hsz]; omega, ?_, ?_, ?_, by rw [hdig]; omega⟩
 ·have : (monS c a).data.toList[3]? = some 32 := by rw [he, List.getElem?_append_right (by omega), hcl]; rfl
  simpa using this
 ·unfold monC
  apply ByteArray.ext
  apply Array.toList_inj.1
  rw [ByteArray.data_extract, Array.toList_extract, List.extract_eq_take_drop, he]
  simp [hcl]
 ·unfold monV
  rw [h4, hdig, hS]
  by_cases ha : a < 0
  ·rw [if_pos ha]
   show (if some (45 : UInt8) = some 45 then _ else _) = _
   rw [if_pos rfl]; omega
  ·rw [if_neg ha, hx]
   show (if some x = some 45 then _ else _) = _
   rw [if_neg (fun e => by injection e with e; rw [e] at hx48; exact absurd hx48 (by decide))]
   omega
theorem monP_iff (s : ByteArray) (c : ByteArray) (a : Int) : monP s = some (c, a) ↔ moneyB c a = true ∧ monS c a = s := by
 unfold monP
 constructor
 ·intro h
  split at h
  ·rename_i h1; cases h; exact h1
  ·cases h
 ·rintro ⟨h1, rfl⟩
  have h2 := monS_read h1
  rw [h2.cur, h2.val, if_pos ⟨h1, rfl⟩]
theorem monP_read {s : ByteArray} {q : ByteArray × Int} (h : monP s = some q) : MonS s q.1 q.2 := by
 obtain ⟨c, a⟩ := q
 obtain ⟨h1, rfl⟩ := (monP_iff s c a).1 h
 exact monS_read h1
theorem moneyB_of {s : ByteArray} {c : ByteArray} {a : Int} (h : monS c a = s) (hs : 5 ≤ s.size) : monP s = some (c, a) := by
 refine (monP_iff s c a).2 ⟨?_, h⟩
 cases hm : moneyB c a with
 | true => rfl
 | false =>
  unfold monS at h
  rw [hm, if_neg (by decide)] at h
  rw [← h] at hs
  exact absurd hs (by decide)
end Go.Proofs.YtblkcnmecfppnaaGreatDoor
/-
 Reading money: the program's and the reference's Parse.
-/
namespace Go.Proofs.YtblkcnmecfppnaaGreatDoor
open Go.RowKit
set_option maxHeartbeats 8000000
set_option maxRecDepth 100000
def MpA (s : ByteArray) : AV := match monP s with
 | some (c, a) => .tup [.agg [.str c, .i a], .i 0]
 | none => .tup [.agg [.str ⟨#[]⟩, .i 0], .i 2]
def MpC : Ctr := spec (fun s : ByteArray => [.str s]) (fun _ => []) shortS MpA fun _ => []
def MpB (s : ByteArray) : AV := match monP s with
 | some (c, a) => .tup [.agg [.str c, .i a], .bl true]
 | none => .tup [.agg [.str ⟨#[]⟩, .i 0], .bl false]
def RmpC : Ctr := spec (fun s : ByteArray => [.str s]) (fun _ => []) shortS MpB fun _ => []
theorem digF_step {a : Int} {c : UInt8} {x : Int} (hx : x = c.toNat) (h0 : 48 ≤ x) (h1 : x ≤ 57) (l : List UInt8) : digF a (c :: l) = digF (a * 10 + (x - 48)) l := by
 subst hx
 show digF (if _ then _ else _) l = _
 rw [if_pos (by omega)]
theorem digF_skip {a : Int} {c : UInt8} {x : Int} (hx : x = c.toNat) (h : x < 48 ∨ 57 < x) (l : List UInt8) : digF a (c :: l) = digF a l := by
 subst hx
 show digF (if _ then _ else _) l = _
 rw [if_neg (by omega)]
theorem wrap_u8 {x : Int} (h0 : 0 ≤ x) (h1 : x ≤ 255) : IntKind.wrap .u8 x = x := by
 unfold IntKind.wrap IntKind.bits IntKind.signed
 simp only [Bool.false_and]
 show x % 256 = x
 omega
theorem monP_end {s : ByteArray} {t : ByteArray} (ht : t = monS (monC s) (monV s)) (hs : 5 ≤ s.size) : (t = s → monP s = some (monC s, monV s)) ∧ (¬ t = s → monP s = none) := by
 subst ht
 refine ⟨fun h => moneyB_of h hs, fun h => ?_⟩
 unfold monP
 rw [if_neg fun e => h e.2]
theorem mparse_body (P : Program) (hT : FnOk P 30 (MonC monS)) : BodyOk P x52 MpC := by
 intro args H K hc
 obtain ⟨s, rfl, rfl, hp, hK⟩ := hc
 refine ⟨Nat.le_of_ble_eq_true rfl, ?_⟩
 dsimp only at hK ⊢
 have hs : s.size ≤ maxLen := hp
 unfold maxLen at hs
 have non : monP s = none → K (.tup [.agg [.str ⟨#[]⟩, .i 0], .i 2]) [] := fun e => by unfold MpA at hK; rw [e] at hK; exact hK
 have not_ : ∀ p : Prop, (∀ q, monP s = some q → p) → ¬ p → monP s = none := fun p h hn => by
  cases e : monP s with
  | none => rfl
  | some q => exact absurd (h q e) hn
 obtain ⟨sl, hsl⟩ : ∃ n, n = s.size := ⟨_, rfl⟩
 obtain ⟨D, hD⟩ : ∃ D, D = digF 0 (s.data.toList.drop 4) := ⟨_, rfl⟩
 have big : 1099511627776 < D → monP s = none := fun h => not_ _ (fun q hq => (monP_read hq).dig.2) (by omega)
 cbv; repeat' ((first | refine .mk (fun h => ?_) fun h => ?_ | refine .k fun z hz => ?_ | fail) <;> cbv)
 ·have e := non (not_ _ (fun q hq => (monP_read hq).lo) (by ((try simp only [vn] at *) <;> omega)))
  (refine FinK.mk ⟨_, Gh.refl _, ?_⟩; cbv; exact .inl (CutK.pre [] (by rfl) (by exact Nat.le_of_ble_eq_true rfl) (by rfl) (by rfl) (by repeat' (first | exact LeL.nil | exact LeL0.nil | exact LeH.nil | exact LeE.refl _ | exact Le.refl _ | exact Le0.one (.refl _) | exact Le0.one (.nil _) | exact Le1.refl _ | exact Le1.nil _ | refine LeH.cons ?_ ?_ | refine LeE.row ?_ | refine LeE.blk ?_ | refine LeL0.cons ?_ ?_ | refine LeL.cons ?_ ?_ | refine Le0.agg ?_ | refine Le.tup ?_ | exact Le.one (.one (.nil _)) | refine Le.one (.agg ?_))) (LeH.refl _) e))
 ·have e := non (not_ _ (fun q hq => (monP_read hq).hi) (by ((try simp only [vn] at *) <;> omega)))
  (refine FinK.mk ⟨_, Gh.refl _, ?_⟩; cbv; exact .inl (CutK.pre [] (by rfl) (by exact Nat.le_of_ble_eq_true rfl) (by rfl) (by rfl) (by repeat' (first | exact LeL.nil | exact LeL0.nil | exact LeH.nil | exact LeE.refl _ | exact Le.refl _ | exact Le0.one (.refl _) | exact Le0.one (.nil _) | exact Le1.refl _ | exact Le1.nil _ | refine LeH.cons ?_ ?_ | refine LeE.row ?_ | refine LeE.blk ?_ | refine LeL0.cons ?_ ?_ | refine LeL.cons ?_ ?_ | refine Le0.agg ?_ | refine Le.tup ?_ | exact Le.one (.one (.nil _)) | refine Le.one (.agg ?_))) (LeH.refl _) e))
 refine ⟨3, rfl, by ((try simp only [vn] at *) <;> omega), fun c3 hc3 x3 hx3 => ?_⟩
 cbv; repeat' ((first | refine .mk (fun h => ?_) fun h => ?_ | fail) <;> cbv)
 rotate_right 1
 ·have e := non (not_ _ (fun q hq => (monP_read hq).sp) (fun e => absurd (show x3 = 32 by rw [hx3, Option.some.inj (hc3.symm.trans e)]; rfl) h))
  (refine FinK.mk ⟨_, Gh.refl _, ?_⟩; cbv; exact .inl (CutK.pre [] (by rfl) (by exact Nat.le_of_ble_eq_true rfl) (by rfl) (by rfl) (by repeat' (first | exact LeL.nil | exact LeL0.nil | exact LeH.nil | exact LeE.refl _ | exact Le.refl _ | exact Le0.one (.refl _) | exact Le0.one (.nil _) | exact Le1.refl _ | exact Le1.nil _ | refine LeH.cons ?_ ?_ | refine LeE.row ?_ | refine LeE.blk ?_ | refine LeL0.cons ?_ ?_ | refine LeL.cons ?_ ?_ | refine Le0.agg ?_ | refine Le.tup ?_ | exact Le.one (.one (.nil _)) | refine Le.one (.agg ?_))) (LeH.refl _) e))
 refine ⟨4, rfl, by ((try simp only [vn] at *) <;> omega), fun c4 hc4 x4 hx4 => ?_⟩
 have hv : monV s = if x4 = 45 then -D else D := by
  unfold monV
  rw [hc4, ← hD]
  by_cases e : c4 = 45
  ·rw [if_pos (by rw [e]), if_pos (by rw [hx4, e]; rfl)]
  ·rw [if_neg (fun h => e (Option.some.inj h)), if_neg (fun h : x4 = 45 => e (u8_eq hx4 h))]
 cbv; repeat' ((first | refine .mk (fun h => ?_) fun h => ?_ | fail) <;> cbv)
 ·refine xloopV [] (fun q : { q : Nat × Int // 4 ≤ q.1 ∧ q.1 ≤ sl ∧ 0 ≤ q.2 ∧ q.2 ≤ 1099511627776 ∧ D = digF q.2 (s.data.toList.drop q.1) } => [(6, .i (nI q.1.1)), (5, .i q.1.2)]) (fun _ => [.blk 27 [.str ⟨#[]⟩, .i 0]]) (fun q => lft sl q.1.1) ⟨(4, 0), Nat.le_refl _, by ((try simp only [vn] at *) <;> omega), by decide, by decide, hD⟩ ?_
  rintro ⟨⟨i, a⟩, hi4, hil, ha0, ha1, hd⟩
  dsimp only at hi4 hil ha0 ha1 hd ⊢
  cbv; repeat' ((first | refine .mk (fun h => ?_) fun h => ?_ | refine .k fun z hz => ?_ | refine .u fun u hu hul => ?_ | fail) <;> cbv)
  ·refine ⟨i, rfl, by ((try simp only [vn] at *) <;> omega), fun c hc x hx => ?_⟩
   rw [drop_at s hc] at hd
   have skip : (x < 48 ∨ 57 < x) → D = digF a (s.data.toList.drop (i + 1)) := fun h => hd.trans (digF_skip hx h _)
   have step : 48 ≤ x → x ≤ 57 → D = digF (a * 10 + (x - 48)) (s.data.toList.drop (i + 1)) := fun h0 h1 => hd.trans (digF_step hx h0 h1 _)
   clear hd
   cbv; repeat' ((first | refine .mk (fun h => ?_) fun h => ?_ | refine .k fun z hz => ?_ | fail) <;> cbv)
   ·obtain rfl : z = nI (i + 1) := by ((try simp only [vn] at *) <;> omega)
    exact roundV ⟨(i + 1, a), by dsimp only; omega, by ((try simp only [vn] at *) <;> omega), ha0, ha1, skip (.inl (by assumption))⟩ (lft_lt (by ((try simp only [vn] at *) <;> omega)))
   ·refine ⟨i, rfl, by ((try simp only [vn] at *) <;> omega), fun c' hc' x' hx' => ?_⟩
    obtain rfl : c = c' := Option.some.inj (hc.symm.trans hc')
    obtain rfl : x = x' := hx.trans hx'.symm
    cbv; repeat' ((first | refine .mk (fun h => ?_) fun h => ?_ | refine .k fun z hz => ?_ | fail) <;> cbv)
    ·obtain rfl : z = nI (i + 1) := by ((try simp only [vn] at *) <;> omega)
     exact roundV ⟨(i + 1, a), by dsimp only; omega, by ((try simp only [vn] at *) <;> omega), ha0, ha1, skip (.inr (by assumption))⟩ (lft_lt (by ((try simp only [vn] at *) <;> omega)))
    ·refine ⟨i, rfl, by ((try simp only [vn] at *) <;> omega), fun c' hc' x' hx' => ?_⟩
     obtain rfl : c = c' := Option.some.inj (hc.symm.trans hc')
     obtain rfl : x = x' := hx.trans hx'.symm
     cbv; repeat' ((first | refine .k fun z hz => ?_ | fail) <;> cbv)
     rw [wrap_u8 (by omega) (by omega)] at hz
     rename_i m hm _ _
     have hd2 := step (by assumption) (by assumption)
     cbv; repeat' ((first | refine .mk (fun h => ?_) fun h => ?_ | refine .k fun z hz => ?_ | refine .o ?_ | fail) <;> cbv)
     ·rw [← show z = a * 10 + (x - 48) by omega] at hd2
      have e := non (big (by have := digF_le (s.data.toList.drop (i + 1)) z (by omega); omega))
      (refine FinK.mk ⟨_, Gh.refl _, ?_⟩; cbv; exact .inl (CutK.pre [] (by rfl) (by exact Nat.le_of_ble_eq_true rfl) (by rfl) (by rfl) (by repeat' (first | exact LeL.nil | exact LeL0.nil | exact LeH.nil | exact LeE.refl _ | exact Le.refl _ | exact Le0.one (.refl _) | exact Le0.one (.nil _) | exact Le1.refl _ | exact Le1.nil _ | refine LeH.cons ?_ ?_ | refine LeE.row ?_ | refine LeE.blk ?_ | refine LeL0.cons ?_ ?_ | refine LeL.cons ?_ ?_ | refine Le0.agg ?_ | refine Le.tup ?_ | exact Le.one (.one (.nil _)) | refine Le.one (.agg ?_))) (LeH.refl _) e))
     ·rename_i b hb
      rw [← show b = a * 10 + (x - 48) by omega] at hd2
      obtain rfl : z = nI (i + 1) := by ((try simp only [vn] at *) <;> omega)
      exact roundV ⟨(i + 1, b), by dsimp only; omega, by ((try simp only [vn] at *) <;> omega), by dsimp only; omega, by dsimp only; omega, hd2⟩ (lft_lt (by ((try simp only [vn] at *) <;> omega)))
  ·have he : monV s = if x4 = 45 then -a else a := by rw [drop_end s (by ((try simp only [vn] at *) <;> omega))] at hd; rw [hv, hd]; rfl
   obtain ⟨V, hV⟩ : ∃ V, V = monV s := ⟨_, rfl⟩
   have hu2 : u = monC s := hu
   obtain ⟨t, ht⟩ : ∃ t, t = monS u V := ⟨_, rfl⟩
   have hend := monP_end (s := s) (t := t) (by rw [ht, hu2, hV]) (by ((try simp only [vn] at *) <;> omega))
   clear hu hul
   obtain rfl : z = V := by rw [hV, he, if_pos (by assumption)]; exact hz
   refine callG_spec0 hT (u, _) trivial rfl rfl rfl ?_
   try dsimp only
   rw [← ht]
   cbv; repeat' ((first | refine .mk (fun h => ?_) fun h => ?_ | fail) <;> cbv)
   ·have e := hend.1 (by assumption)
    rw [← hu2, ← hV] at e
    unfold MpA at hK
    rw [e] at hK
    (refine FinK.mk ⟨_, Gh.refl _, ?_⟩; cbv; exact .inl (CutK.pre [] (by rfl) (by exact Nat.le_of_ble_eq_true rfl) (by rfl) (by rfl) (by repeat' (first | exact LeL.nil | exact LeL0.nil | exact LeH.nil | exact LeE.refl _ | exact Le.refl _ | exact Le0.one (.refl _) | exact Le0.one (.nil _) | exact Le1.refl _ | exact Le1.nil _ | refine LeH.cons ?_ ?_ | refine LeE.row ?_ | refine LeE.blk ?_ | refine LeL0.cons ?_ ?_ | refine LeL.cons ?_ ?_ | refine Le0.agg ?_ | refine Le.tup ?_ | exact Le.one (.one (.nil _)) | refine Le.one (.agg ?_))) (LeH.refl _) hK))
   ·have e := non (hend.2 (by assumption))
    (refine FinK.mk ⟨_, Gh.refl _, ?_⟩; cbv; exact .inl (CutK.pre [] (by rfl) (by exact Nat.le_of_ble_eq_true rfl) (by rfl) (by rfl) (by repeat' (first | exact LeL.nil | exact LeL0.nil | exact LeH.nil | exact LeE.refl _ | exact Le.refl _ | exact Le0.one (.refl _) | exact Le0.one (.nil _) | exact Le1.refl _ | exact Le1.nil _ | refine LeH.cons ?_ ?_ | refine LeE.row ?_ | refine LeE.blk ?_ | refine LeL0.cons ?_ ?_ | refine LeL.cons ?_ ?_ | refine Le0.agg ?_ | refine Le.tup ?_ | exact Le.one (.one (.nil _)) | refine Le.one (.agg ?_))) (LeH.refl _) e))
 ·refine xloopV [] (fun q : { q : Nat × Int // 4 ≤ q.1 ∧ q.1 ≤ sl ∧ 0 ≤ q.2 ∧ q.2 ≤ 1099511627776 ∧ D = digF q.2 (s.data.toList.drop q.1) } => [(6, .i (nI q.1.1)), (5, .i q.1.2)]) (fun _ => [.blk 27 [.str ⟨#[]⟩, .i 0]]) (fun q => lft sl q.1.1) ⟨(4, 0), Nat.le_refl _, by ((try simp only [vn] at *) <;> omega), by decide, by decide, hD⟩ ?_
  rintro ⟨⟨i, a⟩, hi4, hil, ha0, ha1, hd⟩
  dsimp only at hi4 hil ha0 ha1 hd ⊢
  cbv; repeat' ((first | refine .mk (fun h => ?_) fun h => ?_ | refine .k fun z hz => ?_ | refine .u fun u hu hul => ?_ | fail) <;> cbv)
  ·refine ⟨i, rfl, by ((try simp only [vn] at *) <;> omega), fun c hc x hx => ?_⟩
   rw [drop_at s hc] at hd
   have skip : (x < 48 ∨ 57 < x) → D = digF a (s.data.toList.drop (i + 1)) := fun h => hd.trans (digF_skip hx h _)
   have step : 48 ≤ x → x ≤ 57 → D = digF (a * 10 + (x - 48)) (s.data.toList.drop (i + 1)) := fun h0 h1 => hd.trans (digF_step hx h0 h1 _)
   clear hd
   cbv; repeat' ((first | refine .mk (fun h => ?_) fun h => ?_ | refine .k fun z hz => ?_ | fail) <;> cbv)
   ·obtain rfl : z = nI (i + 1) := by ((try simp only [vn] at *) <;> omega)
    exact roundV ⟨(i + 1, a), by dsimp only; omega, by ((try simp only [vn] at *) <;> omega), ha0, ha1, skip (.inl (by assumption))⟩ (lft_lt (by ((try simp only [vn] at *) <;> omega)))
   ·refine ⟨i, rfl, by ((try simp only [vn] at *) <;> omega), fun c' hc' x' hx' => ?_⟩
    obtain rfl : c = c' := Option.some.inj (hc.symm.trans hc')
    obtain rfl : x = x' := hx.trans hx'.symm
    cbv; repeat' ((first | refine .mk (fun h => ?_) fun h => ?_ | refine .k fun z hz => ?_ | fail) <;> cbv)
    ·obtain rfl : z = nI (i + 1) := by ((try simp only [vn] at *) <;> omega)
     exact roundV ⟨(i + 1, a), by dsimp only; omega, by ((try simp only [vn] at *) <;> omega), ha0, ha1, skip (.inr (by assumption))⟩ (lft_lt (by ((try simp only [vn] at *) <;> omega)))
    ·refine ⟨i, rfl, by ((try simp only [vn] at *) <;> omega), fun c' hc' x' hx' => ?_⟩
     obtain rfl : c = c' := Option.some.inj (hc.symm.trans hc')
     obtain rfl : x = x' := hx.trans hx'.symm
     cbv; repeat' ((first | refine .k fun z hz => ?_ | fail) <;> cbv)
     rw [wrap_u8 (by omega) (by omega)] at hz
     rename_i m hm _ _
     have hd2 := step (by assumption) (by assumption)
     cbv; repeat' ((first | refine .mk (fun h => ?_) fun h => ?_ | refine .k fun z hz => ?_ | refine .o ?_ | fail) <;> cbv)
     ·rw [← show z = a * 10 + (x - 48) by omega] at hd2
      have e := non (big (by have := digF_le (s.data.toList.drop (i + 1)) z (by omega); omega))
      (refine FinK.mk ⟨_, Gh.refl _, ?_⟩; cbv; exact .inl (CutK.pre [] (by rfl) (by exact Nat.le_of_ble_eq_true rfl) (by rfl) (by rfl) (by repeat' (first | exact LeL.nil | exact LeL0.nil | exact LeH.nil | exact LeE.refl _ | exact Le.refl _ | exact Le0.one (.refl _) | exact Le0.one (.nil _) | exact Le1.refl _ | exact Le1.nil _ | refine LeH.cons ?_ ?_ | refine LeE.row ?_ | refine LeE.blk ?_ | refine LeL0.cons ?_ ?_ | refine LeL.cons ?_ ?_ | refine Le0.agg ?_ | refine Le.tup ?_ | exact Le.one (.one (.nil _)) | refine Le.one (.agg ?_))) (LeH.refl _) e))
     ·rename_i b hb
      rw [← show b = a * 10 + (x - 48) by omega] at hd2
      obtain rfl : z = nI (i + 1) := by ((try simp only [vn] at *) <;> omega)
      exact roundV ⟨(i + 1, b), by dsimp only; omega, by ((try simp only [vn] at *) <;> omega), by dsimp only; omega, by dsimp only; omega, hd2⟩ (lft_lt (by ((try simp only [vn] at *) <;> omega)))
  ·have he : monV s = if x4 = 45 then -a else a := by rw [drop_end s (by ((try simp only [vn] at *) <;> omega))] at hd; rw [hv, hd]; rfl
   obtain ⟨V, hV⟩ : ∃ V, V = monV s := ⟨_, rfl⟩
   have hu2 : u = monC s := hu
   obtain ⟨t, ht⟩ : ∃ t, t = monS u V := ⟨_, rfl⟩
   have hend := monP_end (s := s) (t := t) (by rw [ht, hu2, hV]) (by ((try simp only [vn] at *) <;> omega))
   clear hu hul
   obtain rfl : a = V := by rw [hV, he, if_neg (by assumption)]
   refine callG_spec0 hT (u, _) trivial rfl rfl rfl ?_
   try dsimp only
   rw [← ht]
   cbv; repeat' ((first | refine .mk (fun h => ?_) fun h => ?_ | fail) <;> cbv)
   ·have e := hend.1 (by assumption)
    rw [← hu2, ← hV] at e
    unfold MpA at hK
    rw [e] at hK
    (refine FinK.mk ⟨_, Gh.refl _, ?_⟩; cbv; exact .inl (CutK.pre [] (by rfl) (by exact Nat.le_of_ble_eq_true rfl) (by rfl) (by rfl) (by repeat' (first | exact LeL.nil | exact LeL0.nil | exact LeH.nil | exact LeE.refl _ | exact Le.refl _ | exact Le0.one (.refl _) | exact Le0.one (.nil _) | exact Le1.refl _ | exact Le1.nil _ | refine LeH.cons ?_ ?_ | refine LeE.row ?_ | refine LeE.blk ?_ | refine LeL0.cons ?_ ?_ | refine LeL.cons ?_ ?_ | refine Le0.agg ?_ | refine Le.tup ?_ | exact Le.one (.one (.nil _)) | refine Le.one (.agg ?_))) (LeH.refl _) hK))
   ·have e := non (hend.2 (by assumption))
    (refine FinK.mk ⟨_, Gh.refl _, ?_⟩; cbv; exact .inl (CutK.pre [] (by rfl) (by exact Nat.le_of_ble_eq_true rfl) (by rfl) (by rfl) (by repeat' (first | exact LeL.nil | exact LeL0.nil | exact LeH.nil | exact LeE.refl _ | exact Le.refl _ | exact Le0.one (.refl _) | exact Le0.one (.nil _) | exact Le1.refl _ | exact Le1.nil _ | refine LeH.cons ?_ ?_ | refine LeE.row ?_ | refine LeE.blk ?_ | refine LeL0.cons ?_ ?_ | refine LeL.cons ?_ ?_ | refine Le0.agg ?_ | refine Le.tup ?_ | exact Le.one (.one (.nil _)) | refine Le.one (.agg ?_))) (LeH.refl _) e))
end Go.Proofs.YtblkcnmecfppnaaGreatDoor
/-
 Reading money: the reference's Parse.
-/
namespace Go.Proofs.YtblkcnmecfppnaaGreatDoor
open Go.RowKit
set_option maxHeartbeats 8000000
set_option maxRecDepth 100000
def w64 (x : Int) : Int := IntKind.wrap .i64 x
theorem w64_in {x : Int} (h : -9223372036854775808 ≤ x ∧ x ≤ 9223372036854775807) : w64 x = x := IntWalk.i64_in x h
/-- All digits of a text, as a machine's number. -/
def digW (a : Int) : List UInt8 → Int
 | [] => a
 | c :: l => digW (if 48 ≤ c.toNat ∧ c.toNat ≤ 57 then w64 (w64 (w64 (10 * a) + (c.toNat : Int)) - 48) else a) l
theorem digW_step {a : Int} {c : UInt8} {x : Int} (hx : x = c.toNat) (h0 : 48 ≤ x) (h1 : x ≤ 57) (l : List UInt8) : digW a (c :: l) = digW (w64 (w64 (w64 (10 * a) + x) - 48)) l := by
 subst hx
 show digW (if _ then _ else _) l = _
 rw [if_pos (by omega)]
theorem digW_skip {a : Int} {c : UInt8} {x : Int} (hx : x = c.toNat) (h : x < 48 ∨ 57 < x) (l : List UInt8) : digW a (c :: l) = digW a l := by
 subst hx
 show digW (if _ then _ else _) l = _
 rw [if_neg (by omega)]
theorem digW_eq : ∀ (l : List UInt8) (a : Int), 0 ≤ a → digF a l ≤ 1099511627776 → digW a l = digF a l
 | [], a, _, _ => rfl
 | c :: l, a, h, hd => by
  by_cases hc : 48 ≤ (c.toNat : Int) ∧ (c.toNat : Int) ≤ 57
  ·rw [digF_step rfl hc.1 hc.2] at hd ⊢
   have := digF_le l (a * 10 + ((c.toNat : Int) - 48)) (by omega)
   rw [digW_step rfl hc.1 hc.2, w64_in (x := 10 * a) (by omega), w64_in (x := 10 * a + _) (by omega), w64_in (by omega), show 10 * a + (c.toNat : Int) - 48 = a * 10 + ((c.toNat : Int) - 48) by omega]
   exact digW_eq l _ (by omega) hd
  ·rw [digF_skip rfl (by omega)] at hd ⊢
   rw [digW_skip rfl (by omega)]
   exact digW_eq l a h hd
def monW (s : ByteArray) : Int := if s.data[4]? = some 45 then w64 (-(digW 0 (s.data.toList.drop 4))) else digW 0 (s.data.toList.drop 4)
theorem monW_end {s : ByteArray} {t : ByteArray} (ht : t = monS (monC s) (monW s)) (hs : 5 ≤ s.size) : (t = s → monP s = some (monC s, monW s)) ∧ (¬ t = s → monP s = none) := by
 subst ht
 refine ⟨fun h => moneyB_of h hs, fun h => ?_⟩
 cases e : monP s with
 | none => rfl
 | some q =>
  obtain ⟨c, a⟩ := q
  have h1 := (monP_iff s c a).1 e
  have h2 := monP_read e
  dsimp only at h2
  have e1 := digW_eq (s.data.toList.drop 4) 0 (by decide) h2.dig.2
  have e2 : monW s = monV s := by
   unfold monW monV
   rw [e1]
   split
   ·exact w64_in (by have := h2.dig; omega)
   ·rfl
  exact absurd (by rw [e2, h2.cur, h2.val]; exact h1.2) h
theorem rmparse_body (P : Program) (hT : FnOk P 41 (MonC monS)) : BodyOk P x26 RmpC := by
 intro args H K hc
 obtain ⟨s, rfl, rfl, hp, hK⟩ := hc
 refine ⟨Nat.le_of_ble_eq_true rfl, ?_⟩
 dsimp only at hK ⊢
 have hs : s.size ≤ maxLen := hp
 unfold maxLen at hs
 have non : monP s = none → K (.tup [.agg [.str ⟨#[]⟩, .i 0], .bl false]) [] := fun e => by unfold MpB at hK; rw [e] at hK; exact hK
 have not_ : ∀ p : Prop, (∀ q, monP s = some q → p) → ¬ p → monP s = none := fun p h hn => by
  cases e : monP s with
  | none => rfl
  | some q => exact absurd (h q e) hn
 obtain ⟨sl, hsl⟩ : ∃ n, n = s.size := ⟨_, rfl⟩
 obtain ⟨D, hD⟩ : ∃ D, D = digW 0 (s.data.toList.drop 4) := ⟨_, rfl⟩
 cbv; repeat' ((first | refine .mk (fun h => ?_) fun h => ?_ | refine .k fun z hz => ?_ | refine .u fun u hu hul => ?_ | fail) <;> cbv)
 ·have e := non (not_ _ (fun q hq => (monP_read hq).lo) (by ((try simp only [vn] at *) <;> omega)))
  (refine FinK.mk ⟨_, Gh.refl _, ?_⟩; cbv; exact .inl (CutK.pre [] (by rfl) (by exact Nat.le_of_ble_eq_true rfl) (by rfl) (by rfl) (by repeat' (first | exact LeL.nil | exact LeL0.nil | exact LeH.nil | exact LeE.refl _ | exact Le.refl _ | exact Le0.one (.refl _) | exact Le0.one (.nil _) | exact Le1.refl _ | exact Le1.nil _ | refine LeH.cons ?_ ?_ | refine LeE.row ?_ | refine LeE.blk ?_ | refine LeL0.cons ?_ ?_ | refine LeL.cons ?_ ?_ | refine Le0.agg ?_ | refine Le.tup ?_ | exact Le.one (.one (.nil _)) | refine Le.one (.agg ?_))) (LeH.refl _) e))
 ·have e := non (not_ _ (fun q hq => (monP_read hq).hi) (by ((try simp only [vn] at *) <;> omega)))
  (refine FinK.mk ⟨_, Gh.refl _, ?_⟩; cbv; exact .inl (CutK.pre [] (by rfl) (by exact Nat.le_of_ble_eq_true rfl) (by rfl) (by rfl) (by repeat' (first | exact LeL.nil | exact LeL0.nil | exact LeH.nil | exact LeE.refl _ | exact Le.refl _ | exact Le0.one (.refl _) | exact Le0.one (.nil _) | exact Le1.refl _ | exact Le1.nil _ | refine LeH.cons ?_ ?_ | refine LeE.row ?_ | refine LeE.blk ?_ | refine LeL0.cons ?_ ?_ | refine LeL.cons ?_ ?_ | refine Le0.agg ?_ | refine Le.tup ?_ | exact Le.one (.one (.nil _)) | refine Le.one (.agg ?_))) (LeH.refl _) e))
 have hu2 : u = monC s := hu
 clear hu hul
 refine xloopV [] (fun q : { q : Nat × Int // 4 ≤ q.1 ∧ q.1 ≤ sl ∧ D = digW q.2 (s.data.toList.drop q.1) } => [(5, .i (nI q.1.1))]) (fun q => [.blk 27 [.str ⟨#[]⟩, .i 0], .blk 27 [.str u, .i q.1.2]]) (fun q => lft sl q.1.1) ⟨(4, 0), Nat.le_refl _, by ((try simp only [vn] at *) <;> omega), hD⟩ ?_
 rintro ⟨⟨i, a⟩, hi4, hil, hd⟩
 dsimp only at hi4 hil hd ⊢
 cbv; repeat' ((first | refine .mk (fun h => ?_) fun h => ?_ | refine .k fun z hz => ?_ | fail) <;> cbv)
 ·refine ⟨i, rfl, by ((try simp only [vn] at *) <;> omega), fun c hc x hx => ?_⟩
  rw [drop_at s hc] at hd
  have skip : (x < 48 ∨ 57 < x) → D = digW a (s.data.toList.drop (i + 1)) := fun h => hd.trans (digW_skip hx h _)
  have step : 48 ≤ x → x ≤ 57 → D = digW (w64 (w64 (w64 (10 * a) + x) - 48)) (s.data.toList.drop (i + 1)) := fun h0 h1 => hd.trans (digW_step hx h0 h1 _)
  clear hd
  cbv; repeat' ((first | refine .mk (fun h => ?_) fun h => ?_ | refine .k fun z hz => ?_ | fail) <;> cbv)
  ·refine ⟨i, rfl, by ((try simp only [vn] at *) <;> omega), fun c' hc' x' hx' => ?_⟩
   obtain rfl : c = c' := Option.some.inj (hc.symm.trans hc')
   obtain rfl : x = x' := hx.trans hx'.symm
   cbv; repeat' ((first | refine .mk (fun h => ?_) fun h => ?_ | refine .k fun z hz => ?_ | fail) <;> cbv)
   ·refine MulK.w fun z1 hz1 => ?_
    cbv
    refine ⟨i, rfl, by ((try simp only [vn] at *) <;> omega), fun c' hc' x' hx' => ?_⟩
    obtain rfl : c = c' := Option.some.inj (hc.symm.trans hc')
    obtain rfl : x = x' := hx.trans hx'.symm
    cbv; repeat' ((first | refine .o ?_ | fail) <;> cbv)
    refine AddK.w fun z2 hz2 => ?_
    cbv
    refine SubK.w fun z3 hz3 => ?_
    cbv; repeat' ((first | refine .k fun z hz => ?_ | fail) <;> cbv)
    have hd2 := step (by assumption) (by assumption)
    rw [← show z3 = w64 (w64 (w64 (10 * a) + x) - 48) from by rw [hz3, hz2, hz1]; rfl] at hd2
    obtain rfl : z = nI (i + 1) := by ((try simp only [vn] at *) <;> omega)
    exact roundV ⟨(i + 1, z3), by dsimp only; omega, by ((try simp only [vn] at *) <;> omega), hd2⟩ (lft_lt (by ((try simp only [vn] at *) <;> omega)))
   ·obtain rfl : z = nI (i + 1) := by ((try simp only [vn] at *) <;> omega)
    exact roundV ⟨(i + 1, a), by dsimp only; omega, by ((try simp only [vn] at *) <;> omega), skip (.inr (by assumption))⟩ (lft_lt (by ((try simp only [vn] at *) <;> omega)))
  ·obtain rfl : z = nI (i + 1) := by ((try simp only [vn] at *) <;> omega)
   exact roundV ⟨(i + 1, a), by dsimp only; omega, by ((try simp only [vn] at *) <;> omega), skip (.inl (by assumption))⟩ (lft_lt (by ((try simp only [vn] at *) <;> omega)))
 ·rw [drop_end s (by ((try simp only [vn] at *) <;> omega))] at hd
  have hd : D = a := hd
  subst hd
  refine ⟨4, rfl, by ((try simp only [vn] at *) <;> omega), fun c4 hc4 x4 hx4 => ?_⟩
  have hv : monW s = if x4 = 45 then w64 (-D) else D := by
   unfold monW
   rw [hc4, ← hD]
   by_cases e : c4 = 45
   ·rw [if_pos (by rw [e]), if_pos (by rw [hx4, e]; rfl)]
   ·rw [if_neg (fun h => e (Option.some.inj h)), if_neg (fun h : x4 = 45 => e (u8_eq hx4 h))]
  obtain ⟨V, hV⟩ : ∃ V, V = monW s := ⟨_, rfl⟩
  obtain ⟨t, ht⟩ : ∃ t, t = monS u V := ⟨_, rfl⟩
  have hend := monW_end (s := s) (t := t) (by rw [ht, hu2, hV]) (by ((try simp only [vn] at *) <;> omega))
  clear hD
  cbv; repeat' ((first | refine .mk (fun h => ?_) fun h => ?_ | fail) <;> cbv)
  ·refine NegK.w fun z hz => ?_
   obtain rfl : z = V := by rw [hV, hv, if_pos (by assumption)]; exact hz
   cbv
   refine callG_spec0 hT (u, _) trivial rfl rfl rfl ?_
   try dsimp only
   rw [← ht]
   cbv; repeat' ((first | refine .mk (fun h => ?_) fun h => ?_ | fail) <;> cbv)
   ·have e := hend.1 (by assumption)
    rw [← hu2, ← hV] at e
    unfold MpB at hK
    rw [e] at hK
    (refine FinK.mk ⟨_, Gh.refl _, ?_⟩; cbv; exact .inl (CutK.pre [] (by rfl) (by exact Nat.le_of_ble_eq_true rfl) (by rfl) (by rfl) (by repeat' (first | exact LeL.nil | exact LeL0.nil | exact LeH.nil | exact LeE.refl _ | exact Le.refl _ | exact Le0.one (.refl _) | exact Le0.one (.nil _) | exact Le1.refl _ | exact Le1.nil _ | refine LeH.cons ?_ ?_ | refine LeE.row ?_ | refine LeE.blk ?_ | refine LeL0.cons ?_ ?_ | refine LeL.cons ?_ ?_ | refine Le0.agg ?_ | refine Le.tup ?_ | exact Le.one (.one (.nil _)) | refine Le.one (.agg ?_))) (LeH.refl _) hK))
   ·have e := non (hend.2 (by assumption))
    (refine FinK.mk ⟨_, Gh.refl _, ?_⟩; cbv; exact .inl (CutK.pre [] (by rfl) (by exact Nat.le_of_ble_eq_true rfl) (by rfl) (by rfl) (by repeat' (first | exact LeL.nil | exact LeL0.nil | exact LeH.nil | exact LeE.refl _ | exact Le.refl _ | exact Le0.one (.refl _) | exact Le0.one (.nil _) | exact Le1.refl _ | exact Le1.nil _ | refine LeH.cons ?_ ?_ | refine LeE.row ?_ | refine LeE.blk ?_ | refine LeL0.cons ?_ ?_ | refine LeL.cons ?_ ?_ | refine Le0.agg ?_ | refine Le.tup ?_ | exact Le.one (.one (.nil _)) | refine Le.one (.agg ?_))) (LeH.refl _) e))
  ·obtain rfl : D = V := by rw [hV, hv, if_neg (by assumption)]
   cbv
   refine callG_spec0 hT (u, _) trivial rfl rfl rfl ?_
   try dsimp only
   rw [← ht]
   cbv; repeat' ((first | refine .mk (fun h => ?_) fun h => ?_ | fail) <;> cbv)
   ·have e := hend.1 (by assumption)
    rw [← hu2, ← hV] at e
    unfold MpB at hK
    rw [e] at hK
    (refine FinK.mk ⟨_, Gh.refl _, ?_⟩; cbv; exact .inl (CutK.pre [] (by rfl) (by exact Nat.le_of_ble_eq_true rfl) (by rfl) (by rfl) (by repeat' (first | exact LeL.nil | exact LeL0.nil | exact LeH.nil | exact LeE.refl _ | exact Le.refl _ | exact Le0.one (.refl _) | exact Le0.one (.nil _) | exact Le1.refl _ | exact Le1.nil _ | refine LeH.cons ?_ ?_ | refine LeE.row ?_ | refine LeE.blk ?_ | refine LeL0.cons ?_ ?_ | refine LeL.cons ?_ ?_ | refine Le0.agg ?_ | refine Le.tup ?_ | exact Le.one (.one (.nil _)) | refine Le.one (.agg ?_))) (LeH.refl _) hK))
   ·have e := non (hend.2 (by assumption))
    (refine FinK.mk ⟨_, Gh.refl _, ?_⟩; cbv; exact .inl (CutK.pre [] (by rfl) (by exact Nat.le_of_ble_eq_true rfl) (by rfl) (by rfl) (by repeat' (first | exact LeL.nil | exact LeL0.nil | exact LeH.nil | exact LeE.refl _ | exact Le.refl _ | exact Le0.one (.refl _) | exact Le0.one (.nil _) | exact Le1.refl _ | exact Le1.nil _ | refine LeH.cons ?_ ?_ | refine LeE.row ?_ | refine LeE.blk ?_ | refine LeL0.cons ?_ ?_ | refine LeL.cons ?_ ?_ | refine Le0.agg ?_ | refine Le.tup ?_ | exact Le.one (.one (.nil _)) | refine Le.one (.agg ?_))) (LeH.refl _) e))
end Go.Proofs.YtblkcnmecfppnaaGreatDoor
/-
  strconv.ParseInt and strconv.FormatInt at base 10: the library's contracts at this program's numbers; field.Number's three ways.
-/
namespace Go.Proofs.YtblkcnmecfppnaaGreatDoor
open Go.Shelf Go.RowKit
set_option maxRecDepth 100000

def laysM173_ren : Go.Shelf.Ren := ⟨fun | 173 => 84 | 246 => 88 | 283 => 99 | 284 => 100 | 285 => 101 | 286 => 102 | 129 => 116 | 317 => 115 | 318 => 117 | 319 => 118 | 320 => 119 | 337 => 128 | 338 => 129 | n => n, fun | 2 => 2 | 3 => 3 | 9 => 9 | 4 => 4 | 171 => 128 | 0 => 0 | 53 => 97 | 37 => 102 | 5 => 5 | 173 => 131 | 212 => 149 | 51 => 133 | 20 => 20 | 213 => 150 | 46 => 120 | 232 => 164 | 233 => 165 | n => n, fun | 17 => 2 | 18 => 6 | 19 => 7 | n => n⟩
theorem laysM173 : Go.Proofs.LaysM.n173 Tryz.prog laysM173_ren := {
  mixed := by kernel_rfl
  f129 := Tryz.func116.trans (congrArg some (by kernel_rfl))
  f173 := Tryz.func84.trans (congrArg some (by kernel_rfl))
  f246 := Tryz.func88.trans (congrArg some (by kernel_rfl))
  f283 := Tryz.func99.trans (congrArg some (by kernel_rfl))
  f284 := Tryz.func100.trans (congrArg some (by kernel_rfl))
  f285 := Tryz.func101.trans (congrArg some (by kernel_rfl))
  f286 := Tryz.func102.trans (congrArg some (by kernel_rfl))
  f317 := Tryz.func115.trans (congrArg some (by kernel_rfl))
  f318 := Tryz.func117.trans (congrArg some (by kernel_rfl))
  f319 := Tryz.func118.trans (congrArg some (by kernel_rfl))
  f320 := Tryz.func119.trans (congrArg some (by kernel_rfl))
  f337 := Tryz.func128.trans (congrArg some (by kernel_rfl))
  f338 := Tryz.func129.trans (congrArg some (by kernel_rfl))
  t0 := Tryz.underlying0
  a0 := Tryz.isAgg0
  z0 := Tryz.sizeOf0
  v0 := Tryz.zeroValue0
  t2 := Tryz.underlying2
  a2 := Tryz.isAgg2
  z2 := Tryz.sizeOf2
  v2 := Tryz.zeroValue2
  t3 := Tryz.underlying3
  a3 := Tryz.isAgg3
  z3 := Tryz.sizeOf3
  v3 := Tryz.zeroValue3
  t4 := Tryz.underlying4
  a4 := Tryz.isAgg4
  z4 := Tryz.sizeOf4
  v4 := Tryz.zeroValue4
  t5 := Tryz.underlying5
  a5 := Tryz.isAgg5
  z5 := Tryz.sizeOf5
  v5 := Tryz.zeroValue5
  t9 := Tryz.underlying9
  a9 := Tryz.isAgg9
  z9 := Tryz.sizeOf9
  v9 := Tryz.zeroValue9
  t20 := Tryz.underlying20
  a20 := Tryz.isAgg20
  z20 := Tryz.sizeOf20
  v20 := Tryz.zeroValue20
  t37 := Tryz.underlying102
  a37 := Tryz.isAgg102
  z37 := Tryz.sizeOf102
  v37 := Tryz.zeroValue102
  t46 := Tryz.underlying120
  a46 := Tryz.isAgg120
  z46 := Tryz.sizeOf120
  v46 := Tryz.zeroValue120
  t51 := Tryz.underlying133
  a51 := Tryz.isAgg133
  z51 := Tryz.sizeOf133
  v51 := Tryz.zeroValue133
  t53 := Tryz.underlying97
  a53 := Tryz.isAgg97
  z53 := Tryz.sizeOf97
  v53 := Tryz.zeroValue97
  t171 := Tryz.underlying128
  a171 := Tryz.isAgg128
  z171 := Tryz.sizeOf128
  v171 := Tryz.zeroValue128
  t173 := Tryz.underlying131
  a173 := Tryz.isAgg131
  z173 := Tryz.sizeOf131
  v173 := Tryz.zeroValue131
  t212 := Tryz.underlying149
  a212 := Tryz.isAgg149
  z212 := Tryz.sizeOf149
  v212 := Tryz.zeroValue149
  t213 := Tryz.underlying150
  a213 := Tryz.isAgg150
  z213 := Tryz.sizeOf150
  t232 := Tryz.underlying164
  a232 := Tryz.isAgg164
  z232 := Tryz.sizeOf164
  v232 := Tryz.zeroValue164
  t233 := Tryz.underlying165
  a233 := Tryz.isAgg165
  z233 := Tryz.sizeOf165
  v233 := Tryz.zeroValue165
  g17 := by kernel_rfl
  g18 := by kernel_rfl
  g19 := by kernel_rfl
  i0 := by kernel_rfl
  i2 := by kernel_rfl
  i3 := by kernel_rfl
  i4 := by kernel_rfl
  i5 := by kernel_rfl
  i9 := by kernel_rfl
  i20 := by kernel_rfl
  i37 := by kernel_rfl
  i46 := by kernel_rfl
  i51 := by kernel_rfl
  i53 := by kernel_rfl
  i171 := by kernel_rfl
  i173 := by kernel_rfl
  i212 := by kernel_rfl
  i232 := by kernel_rfl
  i233 := by kernel_rfl
  m17 := by kernel_rfl
  m18 := by kernel_rfl
  m19 := by kernel_rfl }
def laysC174_ren : Go.Shelf.Ren := ⟨fun | 174 => 83 | 247 => 97 | 245 => 98 | 287 => 110 | 279 => 111 | 280 => 112 | 281 => 113 | 282 => 114 | 321 => 124 | 322 => 125 | 316 => 126 | 171 => 29 | 205 => 127 | 243 => 67 | 246 => 88 | 283 => 99 | 284 => 100 | 285 => 101 | 286 => 102 | 129 => 116 | 317 => 115 | 318 => 117 | 319 => 118 | 320 => 119 | 337 => 128 | 338 => 129 | n => n, fun | 9 => 9 | 3 => 3 | 2 => 2 | 75 => 106 | 85 => 116 | 4 => 4 | 167 => 141 | 5 => 5 | 53 => 97 | 175 => 142 | 46 => 120 | 168 => 144 | 37 => 102 | 0 => 0 | 210 => 157 | 21 => 21 | 127 => 126 | 145 => 163 | 143 => 161 | 171 => 128 | 173 => 131 | 212 => 149 | 51 => 133 | 20 => 20 | 213 => 150 | 232 => 164 | 233 => 165 | 80 => 110 | n => n, fun | 15 => 4 | 16 => 5 | 17 => 2 | 18 => 6 | 19 => 7 | n => n⟩
theorem laysC174 : Go.Proofs.LaysC.n174 Tryz.prog laysC174_ren := {
  mixed := by kernel_rfl
  f129 := Tryz.func116.trans (congrArg some (by kernel_rfl))
  f171 := Tryz.func29.trans (congrArg some (by kernel_rfl))
  f174 := Tryz.func83.trans (congrArg some (by kernel_rfl))
  f205 := Tryz.func127.trans (congrArg some (by kernel_rfl))
  f243 := Tryz.func67.trans (congrArg some (by kernel_rfl))
  f245 := Tryz.func98.trans (congrArg some (by kernel_rfl))
  f246 := Tryz.func88.trans (congrArg some (by kernel_rfl))
  f247 := Tryz.func97.trans (congrArg some (by kernel_rfl))
  f279 := Tryz.func111.trans (congrArg some (by kernel_rfl))
  f280 := Tryz.func112.trans (congrArg some (by kernel_rfl))
  f281 := Tryz.func113.trans (congrArg some (by kernel_rfl))
  f282 := Tryz.func114.trans (congrArg some (by kernel_rfl))
  f283 := Tryz.func99.trans (congrArg some (by kernel_rfl))
  f284 := Tryz.func100.trans (congrArg some (by kernel_rfl))
  f285 := Tryz.func101.trans (congrArg some (by kernel_rfl))
  f286 := Tryz.func102.trans (congrArg some (by kernel_rfl))
  f287 := Tryz.func110.trans (congrArg some (by kernel_rfl))
  f316 := Tryz.func126.trans (congrArg some (by kernel_rfl))
  f317 := Tryz.func115.trans (congrArg some (by kernel_rfl))
  f318 := Tryz.func117.trans (congrArg some (by kernel_rfl))
  f319 := Tryz.func118.trans (congrArg some (by kernel_rfl))
  f320 := Tryz.func119.trans (congrArg some (by kernel_rfl))
  f321 := Tryz.func124.trans (congrArg some (by kernel_rfl))
  f322 := Tryz.func125.trans (congrArg some (by kernel_rfl))
  f337 := Tryz.func128.trans (congrArg some (by kernel_rfl))
  f338 := Tryz.func129.trans (congrArg some (by kernel_rfl))
  t0 := Tryz.underlying0
  a0 := Tryz.isAgg0
  z0 := Tryz.sizeOf0
  v0 := Tryz.zeroValue0
  t2 := Tryz.underlying2
  a2 := Tryz.isAgg2
  z2 := Tryz.sizeOf2
  v2 := Tryz.zeroValue2
  t3 := Tryz.underlying3
  a3 := Tryz.isAgg3
  z3 := Tryz.sizeOf3
  v3 := Tryz.zeroValue3
  t4 := Tryz.underlying4
  a4 := Tryz.isAgg4
  z4 := Tryz.sizeOf4
  v4 := Tryz.zeroValue4
  t5 := Tryz.underlying5
  a5 := Tryz.isAgg5
  z5 := Tryz.sizeOf5
  v5 := Tryz.zeroValue5
  t9 := Tryz.underlying9
  a9 := Tryz.isAgg9
  z9 := Tryz.sizeOf9
  v9 := Tryz.zeroValue9
  t20 := Tryz.underlying20
  a20 := Tryz.isAgg20
  z20 := Tryz.sizeOf20
  v20 := Tryz.zeroValue20
  t21 := Tryz.underlying21
  a21 := Tryz.isAgg21
  z21 := Tryz.sizeOf21
  v21 := Tryz.zeroValue21
  t37 := Tryz.underlying102
  a37 := Tryz.isAgg102
  z37 := Tryz.sizeOf102
  v37 := Tryz.zeroValue102
  t46 := Tryz.underlying120
  a46 := Tryz.isAgg120
  z46 := Tryz.sizeOf120
  v46 := Tryz.zeroValue120
  t51 := Tryz.underlying133
  a51 := Tryz.isAgg133
  z51 := Tryz.sizeOf133
  v51 := Tryz.zeroValue133
  t53 := Tryz.underlying97
  a53 := Tryz.isAgg97
  z53 := Tryz.sizeOf97
  v53 := Tryz.zeroValue97
  t75 := Tryz.underlying106
  a75 := Tryz.isAgg106
  z75 := Tryz.sizeOf106
  v75 := Tryz.zeroValue106
  t85 := Tryz.underlying116
  a85 := Tryz.isAgg116
  z85 := Tryz.sizeOf116
  v85 := Tryz.zeroValue116
  t127 := Tryz.underlying126
  a127 := Tryz.isAgg126
  z127 := Tryz.sizeOf126
  v127 := Tryz.zeroValue126
  t143 := Tryz.underlying161
  a143 := Tryz.isAgg161
  z143 := Tryz.sizeOf161
  v143 := Tryz.zeroValue161
  t145 := Tryz.underlying163
  a145 := Tryz.isAgg163
  z145 := Tryz.sizeOf163
  v145 := Tryz.zeroValue163
  t167 := Tryz.underlying141
  a167 := Tryz.isAgg141
  z167 := Tryz.sizeOf141
  v167 := Tryz.zeroValue141
  t168 := Tryz.underlying144
  a168 := Tryz.isAgg144
  z168 := Tryz.sizeOf144
  v168 := Tryz.zeroValue144
  t171 := Tryz.underlying128
  a171 := Tryz.isAgg128
  z171 := Tryz.sizeOf128
  v171 := Tryz.zeroValue128
  t173 := Tryz.underlying131
  a173 := Tryz.isAgg131
  z173 := Tryz.sizeOf131
  v173 := Tryz.zeroValue131
  t175 := Tryz.underlying142
  a175 := Tryz.isAgg142
  z175 := Tryz.sizeOf142
  v175 := Tryz.zeroValue142
  t210 := Tryz.underlying157
  a210 := Tryz.isAgg157
  z210 := Tryz.sizeOf157
  v210 := Tryz.zeroValue157
  t212 := Tryz.underlying149
  a212 := Tryz.isAgg149
  z212 := Tryz.sizeOf149
  v212 := Tryz.zeroValue149
  t213 := Tryz.underlying150
  a213 := Tryz.isAgg150
  z213 := Tryz.sizeOf150
  t232 := Tryz.underlying164
  a232 := Tryz.isAgg164
  z232 := Tryz.sizeOf164
  v232 := Tryz.zeroValue164
  t233 := Tryz.underlying165
  a233 := Tryz.isAgg165
  z233 := Tryz.sizeOf165
  v233 := Tryz.zeroValue165
  g15 := by kernel_rfl
  g16 := by kernel_rfl
  g17 := by kernel_rfl
  g18 := by kernel_rfl
  g19 := by kernel_rfl
  t80 := Tryz.underlying110
  a80 := Tryz.isAgg110
  z80 := Tryz.sizeOf110
  v80 := Tryz.zeroValue110
  i0 := by kernel_rfl
  i2 := by kernel_rfl
  i3 := by kernel_rfl
  i4 := by kernel_rfl
  i5 := by kernel_rfl
  i9 := by kernel_rfl
  i20 := by kernel_rfl
  i21 := by kernel_rfl
  i37 := by kernel_rfl
  i46 := by kernel_rfl
  i51 := by kernel_rfl
  i53 := by kernel_rfl
  i75 := by kernel_rfl
  i80 := by kernel_rfl
  i85 := by kernel_rfl
  i127 := by kernel_rfl
  i143 := by kernel_rfl
  i145 := by kernel_rfl
  i167 := by kernel_rfl
  i168 := by kernel_rfl
  i171 := by kernel_rfl
  i173 := by kernel_rfl
  i175 := by kernel_rfl
  i210 := by kernel_rfl
  i212 := by kernel_rfl
  i232 := by kernel_rfl
  i233 := by kernel_rfl
  m15 := by kernel_rfl
  m16 := by kernel_rfl
  m17 := by kernel_rfl
  m18 := by kernel_rfl
  m19 := by kernel_rfl
  c0 := by kernel_rfl
  c2 := by kernel_rfl
  c3 := by kernel_rfl
  c4 := by kernel_rfl
  c5 := by kernel_rfl
  c9 := by kernel_rfl
  c20 := by kernel_rfl
  c21 := by kernel_rfl
  c37 := by kernel_rfl
  c46 := by kernel_rfl
  c51 := by kernel_rfl
  c53 := by kernel_rfl
  c75 := by kernel_rfl
  c80 := by kernel_rfl
  c85 := by kernel_rfl
  c127 := by kernel_rfl
  c143 := by kernel_rfl
  c145 := by kernel_rfl
  c167 := by kernel_rfl
  c168 := by kernel_rfl
  c171 := by kernel_rfl
  c173 := by kernel_rfl
  c175 := by kernel_rfl
  c210 := by kernel_rfl
  c212 := by kernel_rfl
  c213 := by kernel_rfl
  c232 := by kernel_rfl
  c233 := by kernel_rfl }
end Go.Proofs.YtblkcnmecfppnaaGreatDoor
/-
  field.Number.
-/
namespace Go.Proofs.YtblkcnmecfppnaaGreatDoor
open Go.Shelf Go.RowKit

/-- The library's variables that the walk reads. -/
structure NumVars (w : World) : Prop where
  tab : Lib.TabIs Tryz.prog w "internal/strconv.uint64pow10" .u64 Lib.pow10Tab
  syn : ∃ tp p, w.var? Tryz.prog "strconv.ErrSyntax" = some #[.iface tp p]
  rng : ∃ tp p, w.var? Tryz.prog "strconv.ErrRange" = some #[.iface tp p]
theorem var_below {P : Program} {w w' : World} {n : String} {cs : Array Value} (h : w.var? P n = some cs) (hb : Below w.heap.size w w') : w'.var? P n = some cs := by
  unfold World.var? at h ⊢
  cases hg : P.globalNamed n with
  | none => rw [hg] at h; cases h
  | some g =>
    rw [hg] at h
    simp only [Option.bind_some] at h ⊢
    have hlt : g < w.heap.size := by
      by_cases hlt : g < w.heap.size
      · exact hlt
      · rw [Array.getElem?_eq_none (by omega)] at h; cases h
    rw [hb.block g hlt]
    exact h
theorem NumVars.below {w w' : World} (h : NumVars w) (hb : Below w.heap.size w w') : NumVars w' := by
  obtain ⟨h1, ⟨t2, p2, h2⟩, ⟨t3, p3, h3⟩⟩ := h
  exact ⟨var_below h1 hb, ⟨t2, p2, var_below h2 hb⟩, ⟨t3, p3, var_below h3 hb⟩⟩
def IsErr (w : World) (e : Ending) (w' : World) : Prop := ∃ (n : Int) (t : TypeId) (p : Value), e = .returned (.tuple #[.int .i64 n, .iface t p]) ∧ Below w.heap.size w w'
theorem parse_err (s : ByteArray) (hs : s.size ≤ 281474976710656) (w : World) (h : NumVars w) (hp : ∀ v, Lib.parseIntB 64 s.data.toList ≠ .ok v) :
    Calls Tryz.prog 83 #[.string s, .int .i64 10, .int .i64 64] w (IsErr w) := by
  rcases hl : Lib.parseIntB 64 s.data.toList with v | _ | _
  · exact absurd hl (hp v)
  · obtain ⟨tp, p, hv⟩ := h.syn
    exact (Any.strconv_ParseInt_10_at64_syntax_var laysC174 s hs hl tp p w hv).mono fun e w' ⟨N, he, _, _, hb⟩ => ⟨_, _, _, he, hb⟩
  · obtain ⟨tp, p, hv⟩ := h.rng
    exact (Any.strconv_ParseInt_10_at64_range_var laysC174 s hs hl tp p w hv).mono fun e w' ⟨N, he, _, _, hb⟩ => ⟨_, _, _, he, hb⟩
theorem parse_ok (s : ByteArray) (hs : s.size ≤ 281474976710656) (w : World) (v : Int) (hl : Lib.parseIntB 64 s.data.toList = .ok v) :
    Calls Tryz.prog 83 #[.string s, .int .i64 10, .int .i64 64] w fun e w' => e = .returned (.tuple #[.int .i64 v, .nilIface]) ∧ Below w.heap.size w w' :=
  (Any.strconv_ParseInt_10_at64_ok laysC174 s (by omega) v hl w).mono fun e w' ⟨he, hw⟩ => ⟨he, by
    rcases hw with rfl | ⟨t, rfl⟩
    · exact Below.refl _ _
    · exact Lib.bytesWorld_below _ _ _⟩
theorem format_any (n : Int) (h0 : -9223372036854775808 ≤ n) (h1 : n ≤ 9223372036854775807) (w : World) (h : NumVars w) :
    Calls Tryz.prog 84 #[.int .i64 n, .int .i64 10] w fun e w' => e = .returned (.string ⟨(Lib.itoa n).toArray⟩) ∧ Below w.heap.size w w' :=
  (Any.strconv_FormatInt_10 laysM173 n h0 h1 w h.tab).mono fun e w' ⟨he, k, os, hw⟩ => ⟨he, by subst hw; exact below_grow _ _ _⟩

def NumPost (o : Option Int) (w : World) (e : Ending) (w' : World) : Prop := e = .returned (.tuple #[.int .i64 (o.getD 0), .bool o.isSome]) ∧ Below w.heap.size w w'

set_option maxRecDepth 100000 in
set_option maxHeartbeats 4000000 in
theorem number_any (s : ByteArray) (hs : s.size ≤ 281474976710656) (w : World) (h : NumVars w) :
    Calls Tryz.prog 49 #[.string s] w (NumPost (numP s.data.toList) w) := by
  have HV := Lib.hid h
  clear h
  have HS := Lib.hid hs
  clear hs
  by_cases hok : ∃ v, Lib.parseIntB 64 s.data.toList = .ok v
  · obtain ⟨v, hv⟩ := hok
    have hbd := Lib.parseIntB_bounds hv
    have hb0 : -9223372036854775808 ≤ v := by have := hbd.1; omega
    have hb1 : v ≤ 9223372036854775807 := by have := hbd.2; omega
    clear hbd
    have hn : numP s.data.toList = if inR v ∧ Lib.itoa v = s.data.toList then some v else none := by unfold numP; rw [hv]
    rw [hn]
    have HP := Lib.hid hv
    clear hn hv
    by_cases h1 : v < -4611686018427387904
    · rw [if_neg (by unfold inR; omega)]
      go_enter Tryz.func49, Tryz.ntmps49
      go_wp2_with (go_at_call 83; refine (parse_ok s HS.out _ v HP.out).mono ?_; rintro e w1 ⟨rfl, hb⟩)
      go_ret2
      exact ⟨rfl, hb⟩
    by_cases h2 : 4611686018427387904 < v
    · rw [if_neg (by unfold inR; omega)]
      go_enter Tryz.func49, Tryz.ntmps49
      go_wp2_with (go_at_call 83; refine (parse_ok s HS.out _ v HP.out).mono ?_; rintro e w1 ⟨rfl, hb⟩)
      go_ret2
      exact ⟨rfl, hb⟩
    have HI : Hid (inR v) := Lib.hid (by unfold inR; omega)
    by_cases h3 : Lib.itoa v = s.data.toList
    · rw [if_pos ⟨HI.out, h3⟩]
      have HQ := Lib.hid h3
      have h4 : (⟨(Lib.itoa v).toArray⟩ : ByteArray) = s := by rw [h3]
      have H4 := Lib.hid h4
      clear h3 h4
      go_enter Tryz.func49, Tryz.ntmps49
      go_wp2_with (first | (go_at_call 83; refine (parse_ok s HS.out _ v HP.out).mono ?_; rintro e w1 ⟨rfl, hb⟩) | (go_at_call 84; refine (format_any v hb0 hb1 _ (HV.out.below hb)).mono ?_; rw [H4.out]; rintro e w2 ⟨rfl, hb2⟩; have hw2 := Below.go hb hb2))
      go_ret2
      exact ⟨rfl, hw2⟩
    · rw [if_neg (fun h => h3 h.2)]
      have h4 : ((⟨(Lib.itoa v).toArray⟩ : ByteArray).toList == s.toList) = false := by
        rw [beq_eq_false_iff_ne]
        intro h
        apply h3
        rw [Go.ByteArray.toList_eq, Go.ByteArray.toList_eq] at h
        exact h
      have h5 : ((⟨(Lib.itoa v).toArray⟩ : ByteArray).toList != s.toList) = true := by unfold bne; rw [h4]; rfl
      clear h3
      obtain ⟨T, hT⟩ : ∃ T : ByteArray, T = ⟨(Lib.itoa v).toArray⟩ := ⟨_, rfl⟩
      rw [← hT] at h4 h5
      have HT := Lib.hid hT
      clear hT
      go_enter Tryz.func49, Tryz.ntmps49
      go_wp2_with (first | (go_at_call 83; refine (parse_ok s HS.out _ v HP.out).mono ?_; rintro e w1 ⟨rfl, hb⟩) | (go_at_call 84; refine (format_any v hb0 hb1 _ (HV.out.below hb)).mono ?_; rw [← HT.out]; rintro e w2 ⟨rfl, hb2⟩; have hw2 := Below.go hb hb2))
      go_ret2
      exact ⟨rfl, hw2⟩
  · have hn : numP s.data.toList = none := by
      unfold numP
      split
      · rename_i v hv; exact absurd ⟨v, hv⟩ hok
      · rfl
    rw [hn]
    have HE := Lib.hid (fun W hW => parse_err s HS.out W hW (fun v hv => hok ⟨v, hv⟩))
    clear hn hok
    go_enter Tryz.func49, Tryz.ntmps49
    go_wp2_with (go_at_call 83; refine (HE.out _ HV.out).mono ?_; rintro e w1 ⟨n, t, p, rfl, hb⟩)
    go_ret2
    exact ⟨rfl, hb⟩
end Go.Proofs.YtblkcnmecfppnaaGreatDoor
/-
 Numbers of texts: the program's and the reference's Number.
-/
namespace Go.Proofs.YtblkcnmecfppnaaGreatDoor
open Go.RowKit
set_option maxHeartbeats 8000000
set_option maxRecDepth 100000
theorem err_of_glob {pub : Pub} {w : World} (h : GlobOk pub w) {g : Nat} {n : String} (hn : Tryz.prog.globalNamed n = some g) (hg : globI g = true) : ∃ tp p, w.var? Tryz.prog n = some #[.iface tp p] := by
 obtain ⟨t, p, t', fz, hb⟩ := h.errBlock hg
 refine ⟨t, p, ?_⟩
 unfold World.var?
 rw [hn]
 simp only [Option.bind_some]
 rw [hb]
theorem vars_of_glob {pub : Pub} {w : World} (h : GlobOk pub w) : NumVars w :=
 ⟨tab_of_glob h, err_of_glob h (g := 4) (by kernel_rfl) (by rfl), err_of_glob h (g := 5) (by kernel_rfl) (by rfl)⟩
def NumC (p : ByteArray → Prop) : Ctr := spec (fun s : ByteArray => [.str s]) (fun _ => []) p (fun s => .tup [.i ((numP s.data.toList).getD 0), .bl (numP s.data.toList).isSome]) fun _ => []
def longS (s : ByteArray) : Prop := s.size ≤ 281474976710656
theorem k_fnumber : FnOk Tryz.prog 49 (NumC longS) := fn_add fun s hp pub w vals hf hg hv => by
 obtain ⟨us, h1, hv⟩ := VRels.str_inv hv |>.imp fun _ h => h
 have h3 := hv.nil_inv
 have e : vals = #[.string s] := Array.toList_inj.1 (by rw [h1, h3])
 rw [e]
 exact (number_any s hp w (vars_of_glob hg)).mono fun e w' ⟨he, hb⟩ => AddPost.plain he hb hf (tup2 (.int ..) (.bl ..))
theorem refLoop_bad {c : UInt8} {x : Int} (hx : x = c.toNat) {m : Nat} (r : List UInt8) (h : x < 48 ∨ 57 < x ∨ 461168601842738790 < (m : Int)) : refLoop m (c :: r) = none := by
 show (if _ then _ else _) = _
 rw [if_pos (by omega)]
theorem refLoop_ok {c : UInt8} {x : Int} (hx : x = c.toNat) {m k : Nat} (r : List UInt8) (h0 : 48 ≤ x) (h1 : x ≤ 57) (h2 : (m : Int) ≤ 461168601842738790) (hk : (k : Int) = 10 * m + x - 48) : refLoop m (c :: r) = refLoop k r := by
 show (if _ then _ else _) = _
 rw [if_neg (by omega)]
 congr 1
 omega
theorem rnum_body (P : Program) (hD : FnOk P 79 (ItoC itoS)) : BodyOk P x65 (NumC shortS) := by
 intro args H K hc
 obtain ⟨s, rfl, rfl, hp, hK⟩ := hc
 refine ⟨Nat.le_of_ble_eq_true rfl, ?_⟩
 dsimp only at hK ⊢
 have hs : s.size ≤ maxLen := hp
 unfold maxLen at hs
 rw [← ref_prog] at hK
 have hlen : s.data.toList.length = s.size := by rw [Array.length_toList]; rfl
 have non : refNum s.data.toList = none → K (.tup [.i 0, .bl false]) [] := fun e => by rw [e] at hK; exact hK
 have yes : ∀ v, refNum s.data.toList = some v → K (.tup [.i v, .bl true]) [] := fun v e => by rw [e] at hK; exact hK
 have hiff := fun v => refNum_iff s.data.toList v
 clear hK
 obtain ⟨sl, hsl⟩ : ∃ n, n = s.size := ⟨_, rfl⟩
 cbv; repeat' ((first | refine .mk (fun h => ?_) fun h => ?_ | refine .k fun z hz => ?_ | fail) <;> cbv)
 ·exact FinK.mk ⟨_, Gh.refl _, .inl (CutK.val rfl (Le.refl _) (non (by unfold refNum; rw [if_pos (.inl (by rw [h]))])))⟩
 ·exact FinK.mk ⟨_, Gh.refl _, .inl (CutK.val rfl (Le.refl _) (non (by unfold refNum; rw [if_pos (.inr (by ((try simp only [vn] at *) <;> omega)))])))⟩
 have hne : s.data.toList ≠ [] := fun e => absurd (ByteArray.ext (Array.toList_inj.1 e)) (by assumption)
 have hpos : 0 < s.size := by rw [← hlen]; exact List.length_pos_iff.2 hne
 refine ⟨0, rfl, by ((try simp only [vn] at *) <;> omega), fun c0 hc0 x0 hx0 => ?_⟩
 have hhd : s.data.toList.head? = some c0 := by rw [List.head?_eq_getElem?]; simpa using hc0
 have hun : refNum s.data.toList = match refLoop 0 (if c0 = 45 then s.data.toList.drop 1 else s.data.toList) with
   | none => none
   | some m => if inR (if c0 = 45 then -(m : Int) else m) ∧ Lib.itoa (if c0 = 45 then -(m : Int) else m) = s.data.toList then some (if c0 = 45 then -(m : Int) else m) else none := by
  unfold refNum refV
  rw [if_neg (by rw [hlen]; intro e; rcases e with e | e; exact hne e; ((try simp only [vn] at *) <;> omega)), hhd]
  by_cases e : c0 = 45
  ·rw [if_pos (by rw [e]), if_pos e, List.drop_one]; simp only [e, if_true]; rfl
  ·rw [if_neg (fun h => e (Option.some.inj h)), if_neg e]; simp only [e, Option.some.injEq, if_false]; rfl
 cbv; repeat' ((first | refine .mk (fun h => ?_) fun h => ?_ | fail) <;> cbv)
 ·have e45 : c0 = 45 := u8_eq hx0 (by assumption)
  simp only [e45, if_true] at hun
  refine xloopV [] (fun q : { q : Nat × Nat // 1 ≤ q.1 ∧ q.1 ≤ sl ∧ refLoop 0 (s.data.toList.drop 1) = refLoop q.2 (s.data.toList.drop q.1) ∧ q.2 ≤ 4611686018427387909 } => [(6, .i (nI q.1.1)), (4, .i (nI q.1.2))]) (fun _ => []) (fun q => lft sl q.1.1) ⟨(1, 0), Nat.le_refl _, by ((try simp only [vn] at *) <;> omega), rfl, by decide⟩ ?_
  rintro ⟨⟨i, m⟩, hif, hil, hr, hm⟩
  dsimp only at hif hil hr hm ⊢
  rw [hr] at hun
  cbv; repeat' ((first | refine .n fun h => ?_ | refine .y fun h => ?_ | refine .mk (fun h => ?_) fun h => ?_ | refine .k fun z hz => ?_ | fail) <;> cbv)
  ·refine ⟨i, rfl, by ((try simp only [vn] at *) <;> omega), fun c hc x hx => ?_⟩
   rw [drop_at s hc] at hun hr
   have bad : (x < 48 ∨ 57 < x ∨ 461168601842738790 < (m : Int)) → K (.tup [.i 0, .bl false]) [] := fun h => non (by rw [hun, refLoop_bad hx _ h])
   cbv; repeat' ((first | refine .mk (fun h => ?_) fun h => ?_ | fail) <;> cbv)
   ·exact FinK.mk ⟨_, Gh.refl _, .inl (CutK.val rfl (Le.refl _) (bad (.inl (by assumption))))⟩
   refine ⟨i, rfl, by ((try simp only [vn] at *) <;> omega), fun c' hc' x' hx' => ?_⟩
   obtain rfl : c = c' := Option.some.inj (hc.symm.trans hc')
   obtain rfl : x = x' := hx.trans hx'.symm
   cbv; repeat' ((first | refine .mk (fun h => ?_) fun h => ?_ | refine .k fun z hz => ?_ | fail) <;> cbv)
   ·exact FinK.mk ⟨_, Gh.refl _, .inl (CutK.val rfl (Le.refl _) (bad (.inr (.inl (by assumption)))))⟩
   ·exact FinK.mk ⟨_, Gh.refl _, .inl (CutK.val rfl (Le.refl _) (bad (.inr (.inr (by ((try simp only [vn] at *) <;> omega))))))⟩
   refine ⟨i, rfl, by ((try simp only [vn] at *) <;> omega), fun c' hc' x' hx' => ?_⟩
   obtain rfl : c = c' := Option.some.inj (hc.symm.trans hc')
   obtain rfl : x = x' := hx.trans hx'.symm
   have h48 : 48 ≤ x := by assumption
   have h57 : x ≤ 57 := by assumption
   cbv; repeat' ((first | refine .k fun z hz => ?_ | refine .o ?_ | fail) <;> cbv)
   obtain rfl : z = nI (i + 1) := by ((try simp only [vn] at *) <;> omega)
   obtain ⟨k, hk⟩ : ∃ k : Nat, k = 10 * m + c.toNat - 48 := ⟨_, rfl⟩
   obtain rfl : z = nI k := by ((try simp only [vn] at *) <;> omega)
   rw [refLoop_ok (k := k) hx _ h48 h57 (by ((try simp only [vn] at *) <;> omega)) (by ((try simp only [vn] at *) <;> omega))] at hr
   exact roundV ⟨(i + 1, k), by dsimp only; omega, by ((try simp only [vn] at *) <;> omega), hr, by dsimp only; ((try simp only [vn] at *) <;> omega)⟩ (lft_lt (by ((try simp only [vn] at *) <;> omega)))
  all_goals
   rw [drop_end s (by ((try simp only [vn] at *) <;> omega))] at hun
   replace hun : refNum s.data.toList = if inR (-(Int.ofNat m)) ∧ Lib.itoa (-(Int.ofNat m)) = s.data.toList then some (-(Int.ofNat m)) else none := hun
  ·exact FinK.mk ⟨_, Gh.refl _, .inl (CutK.val rfl (Le.refl _) (non (by rw [hun, if_neg fun e => by have := e.1; unfold inR at this; omega])))⟩
  ·rw [← hz] at hun
   refine callG_spec0 hD (z) (by constructor <;> (simp only [Int.ofNat_eq_natCast] at *; omega)) rfl rfl rfl ?_
   try dsimp only
   obtain ⟨t, ht⟩ : ∃ t, t = itoS (z) := ⟨_, rfl⟩
   rw [← ht]
   have htl : t.data.toList = Lib.itoa (z) := by rw [ht]; unfold itoS; simp
   have hin : inR (z) := by unfold inR; simp only [Int.ofNat_eq_natCast] at *; omega
   cbv; repeat' ((first | refine .mk (fun h => ?_) fun h => ?_ | fail) <;> cbv)
   ·exact FinK.mk ⟨_, Gh.refl _, .inl (CutK.val rfl (Le.refl _) (yes _ (by rw [hun, if_pos ⟨hin, by rw [← htl, h]⟩])))⟩
   ·exact FinK.mk ⟨_, Gh.refl _, .inl (CutK.val rfl (Le.refl _) (non (by rw [hun, if_neg fun e => h (ByteArray.ext (Array.toList_inj.1 (htl.trans e.2)))])))⟩
 ·have e45 : ¬ c0 = 45 := fun e => absurd (show x0 = 45 by rw [hx0, e]; rfl) (by assumption)
  simp only [e45, if_false] at hun
  refine xloopV [] (fun q : { q : Nat × Nat // 0 ≤ q.1 ∧ q.1 ≤ sl ∧ refLoop 0 (s.data.toList) = refLoop q.2 (s.data.toList.drop q.1) ∧ q.2 ≤ 4611686018427387909 } => [(6, .i (nI q.1.1)), (4, .i (nI q.1.2))]) (fun _ => []) (fun q => lft sl q.1.1) ⟨(0, 0), Nat.le_refl _, by ((try simp only [vn] at *) <;> omega), rfl, by decide⟩ ?_
  rintro ⟨⟨i, m⟩, hif, hil, hr, hm⟩
  dsimp only at hif hil hr hm ⊢
  rw [hr] at hun
  cbv; repeat' ((first | refine .n fun h => ?_ | refine .mk (fun h => ?_) fun h => ?_ | refine .k fun z hz => ?_ | fail) <;> cbv)
  ·refine ⟨i, rfl, by ((try simp only [vn] at *) <;> omega), fun c hc x hx => ?_⟩
   rw [drop_at s hc] at hun hr
   have bad : (x < 48 ∨ 57 < x ∨ 461168601842738790 < (m : Int)) → K (.tup [.i 0, .bl false]) [] := fun h => non (by rw [hun, refLoop_bad hx _ h])
   cbv; repeat' ((first | refine .mk (fun h => ?_) fun h => ?_ | fail) <;> cbv)
   ·exact FinK.mk ⟨_, Gh.refl _, .inl (CutK.val rfl (Le.refl _) (bad (.inl (by assumption))))⟩
   refine ⟨i, rfl, by ((try simp only [vn] at *) <;> omega), fun c' hc' x' hx' => ?_⟩
   obtain rfl : c = c' := Option.some.inj (hc.symm.trans hc')
   obtain rfl : x = x' := hx.trans hx'.symm
   cbv; repeat' ((first | refine .mk (fun h => ?_) fun h => ?_ | refine .k fun z hz => ?_ | fail) <;> cbv)
   ·exact FinK.mk ⟨_, Gh.refl _, .inl (CutK.val rfl (Le.refl _) (bad (.inr (.inl (by assumption)))))⟩
   ·exact FinK.mk ⟨_, Gh.refl _, .inl (CutK.val rfl (Le.refl _) (bad (.inr (.inr (by ((try simp only [vn] at *) <;> omega))))))⟩
   refine ⟨i, rfl, by ((try simp only [vn] at *) <;> omega), fun c' hc' x' hx' => ?_⟩
   obtain rfl : c = c' := Option.some.inj (hc.symm.trans hc')
   obtain rfl : x = x' := hx.trans hx'.symm
   have h48 : 48 ≤ x := by assumption
   have h57 : x ≤ 57 := by assumption
   cbv; repeat' ((first | refine .k fun z hz => ?_ | refine .o ?_ | fail) <;> cbv)
   obtain rfl : z = nI (i + 1) := by ((try simp only [vn] at *) <;> omega)
   obtain ⟨k, hk⟩ : ∃ k : Nat, k = 10 * m + c.toNat - 48 := ⟨_, rfl⟩
   obtain rfl : z = nI k := by ((try simp only [vn] at *) <;> omega)
   rw [refLoop_ok (k := k) hx _ h48 h57 (by ((try simp only [vn] at *) <;> omega)) (by ((try simp only [vn] at *) <;> omega))] at hr
   exact roundV ⟨(i + 1, k), by dsimp only; omega, by ((try simp only [vn] at *) <;> omega), hr, by dsimp only; ((try simp only [vn] at *) <;> omega)⟩ (lft_lt (by ((try simp only [vn] at *) <;> omega)))
  all_goals
   rw [drop_end s (by ((try simp only [vn] at *) <;> omega))] at hun
   replace hun : refNum s.data.toList = if inR (Int.ofNat m) ∧ Lib.itoa (Int.ofNat m) = s.data.toList then some (Int.ofNat m) else none := hun
  ·exact FinK.mk ⟨_, Gh.refl _, .inl (CutK.val rfl (Le.refl _) (non (by rw [hun, if_neg fun e => by have := e.1; unfold inR at this; omega])))⟩
  ·skip
   refine callG_spec0 hD (Int.ofNat m) (by constructor <;> (simp only [Int.ofNat_eq_natCast] at *; omega)) rfl rfl rfl ?_
   try dsimp only
   obtain ⟨t, ht⟩ : ∃ t, t = itoS (Int.ofNat m) := ⟨_, rfl⟩
   rw [← ht]
   have htl : t.data.toList = Lib.itoa (Int.ofNat m) := by rw [ht]; unfold itoS; simp
   have hin : inR (Int.ofNat m) := by unfold inR; simp only [Int.ofNat_eq_natCast] at *; omega
   cbv; repeat' ((first | refine .mk (fun h => ?_) fun h => ?_ | fail) <;> cbv)
   ·exact FinK.mk ⟨_, Gh.refl _, .inl (CutK.val rfl (Le.refl _) (yes _ (by rw [hun, if_pos ⟨hin, by rw [← htl, h]⟩])))⟩
   ·exact FinK.mk ⟨_, Gh.refl _, .inl (CutK.val rfl (Le.refl _) (non (by rw [hun, if_neg fun e => h (ByteArray.ext (Array.toList_inj.1 (htl.trans e.2)))])))⟩
end Go.Proofs.YtblkcnmecfppnaaGreatDoor
/-
 A letter of its record, in plain words: there is one at most.
-/
namespace Go.Proofs.YtblkcnmecfppnaaGreatDoor
open Go.RowKit
set_option maxHeartbeats 8000000
set_option maxRecDepth 100000
/-- The record that a letter would have. -/
def recA (l : Lt) : List Fd := recB l.frm l.to (itoS l.number) (kindN l.kind) (itoS l.ack) l.deal l.text l.party (itoS l.index) (itoS l.day) (monS l.cur l.amt) ++ (l.docs.map docF ++ l.boxes.map boxF)
theorem fieldsL_rec {l : Lt} (h : mayB l = true) : fieldsL itoS monS l = recA l := by
 unfold fieldsL
 rw [if_pos h, List.append_assoc]; rfl
structure VL (l : Lt) : Prop where
 number : inR l.number
 ack : inR l.ack
 index : inR l.index
 day : inR l.day
 kind : 0 ≤ l.kind ∧ l.kind ≤ 28
 sum : (l.cur = ⟨#[]⟩ ∧ l.amt = 0) ∨ moneyB l.cur l.amt = true
 docs : ∀ d ∈ l.docs, docC d = 0
theorem mayB_VL {l : Lt} (h : mayB l = true) : VL l := by
 obtain ⟨f1, f2, f3, f4, f5, f6⟩ := mayB_facts h
 have hk := mayB_kind h
 have hd := mayB_docs h
 refine ⟨by unfold inR; omega, by unfold inR; omega, by unfold inR; omega, by unfold inR; omega, hk, ?_, fun d hd' => ?_⟩
 ·simp only [mayB, Bool.and_eq_true] at h
  have hs := h.1.1.1.1.1.2
  simp only [Bool.or_eq_true, decide_eq_true_eq] at hs
  exact hs
 ·have := hd d hd'
  unfold isDocB at this
  simp only [Bool.and_eq_true, decide_eq_true_eq] at this
  exact this.1
theorem itoS_inj {n m : Int} (hn : inR n) (hm : inR m) (h : itoS n = itoS m) : n = m := by
 have e : Lib.itoa n = Lib.itoa m := by
  have := congrArg (fun s : ByteArray => s.data.toList) h
  simpa [itoS] using this
 have h1 := (numP_iff (Lib.itoa n) n).2 ⟨hn, rfl⟩
 have h2 := (numP_iff (Lib.itoa n) m).2 ⟨hm, e⟩
 exact Option.some.inj (h1.symm.trans h2)
theorem docS_inj {d e : Dc} (hd : docC d = 0) (he : docC e = 0) (h : docS d = docS e) : d = e := by
 obtain ⟨a, ha⟩ := (readS_iff (docS d) d).2 ⟨hd, rfl⟩
 obtain ⟨b, hb⟩ := (readS_iff (docS d) e).2 ⟨he, h.symm⟩
 exact congrArg Prod.fst (ha.symm.trans hb)
theorem docF_inj {d e : Dc} (hd : docC d = 0) (he : docC e = 0) (h : docF d = docF e) : d = e := by
 refine docS_inj hd he ?_
 have := congrArg (fun f : Fd => f.value.data.toList) h
 simpa [docF] using this
theorem tail_inj : ∀ (D D' : List Dc) (B B' : List ByteArray), (∀ d ∈ D, docC d = 0) → (∀ d ∈ D', docC d = 0) → D.map docF ++ B.map boxF = D'.map docF ++ B'.map boxF → D = D' ∧ B = B'
 | [], [], B, B', _, _, h => by
  refine ⟨rfl, ?_⟩
  have := congrArg (List.map Fd.value) h
  simpa [boxF, Function.comp_def] using this
 | [], d :: D', B, B', _, _, h => by
  cases B with
  | nil => cases h
  | cons b B =>
   have := congrArg Fd.name (List.cons.inj h).1
   exact absurd this (by show ¬ (⟨#[98, 111, 120]⟩ : ByteArray) = ⟨#[100, 111, 99]⟩; decide)
 | d :: D, [], B, B', _, _, h => by
  cases B' with
  | nil => cases h
  | cons b B' =>
   have := congrArg Fd.name (List.cons.inj h).1
   exact absurd this (by show ¬ (⟨#[100, 111, 99]⟩ : ByteArray) = ⟨#[98, 111, 120]⟩; decide)
 | d :: D, e :: D', B, B', h1, h2, h => by
  obtain ⟨ha, hb⟩ := List.cons.inj h
  have hde := docF_inj (h1 d (List.mem_cons_self ..)) (h2 e (List.mem_cons_self ..)) ha
  obtain ⟨hD, hB⟩ := tail_inj D D' B B' (fun x hx => h1 x (List.mem_cons_of_mem _ hx)) (fun x hx => h2 x (List.mem_cons_of_mem _ hx)) hb
  exact ⟨by rw [hde, hD], hB⟩
theorem monS_inj {c c' : ByteArray} {a a' : Int} (h : (c = ⟨#[]⟩ ∧ a = 0) ∨ moneyB c a = true) (h' : (c' = ⟨#[]⟩ ∧ a' = 0) ∨ moneyB c' a' = true) (e : monS c a = monS c' a') : c = c' ∧ a = a' := by
 have big : ∀ {c a}, moneyB c a = true → ¬ monS c a = ⟨#[]⟩ := fun hm he => by
  have := (monS_read hm).lo
  rw [he] at this
  exact absurd this (by decide)
 rcases h with h | h
 ·rcases h' with h' | h'
  ·exact ⟨h.1.trans h'.1.symm, h.2.trans h'.2.symm⟩
  ·rw [monS_none h] at e
   exact absurd e.symm (big h')
 ·rcases h' with h' | h'
  ·rw [monS_none h'] at e
   exact absurd e (big h)
  ·have h1 := (monP_iff (monS c a) c a).2 ⟨h, rfl⟩
   have h2 := (monP_iff (monS c a) c' a').2 ⟨h', e.symm⟩
   have := Option.some.inj (h1.symm.trans h2)
   injection this with e1 e2
   exact ⟨e1, e2⟩
theorem kindN_one : ∀ i j : Fin 29, kindN (Int.ofNat i.1) = kindN (Int.ofNat j.1) → i = j := by decide +kernel
theorem kindN_eq {j k : Int} (hj : 0 ≤ j ∧ j ≤ 28) (hk : 0 ≤ k ∧ k ≤ 28) (h : kindN j = kindN k) : j = k := by
 obtain ⟨a, rfl⟩ : ∃ a : Nat, j = Int.ofNat a := ⟨j.toNat, by simp only [Int.ofNat_eq_natCast]; omega⟩
 obtain ⟨b, rfl⟩ : ∃ a : Nat, k = Int.ofNat a := ⟨k.toNat, by simp only [Int.ofNat_eq_natCast]; omega⟩
 simp only [Int.ofNat_eq_natCast] at hj hk
 have := kindN_one ⟨a, by omega⟩ ⟨b, by omega⟩ h
 rw [Fin.mk.injEq] at this
 rw [this]
theorem recA_inj {l m : Lt} (hl : VL l) (hm : VL m) (h : recA l = recA m) : l = m := by
 unfold recA at h
 obtain ⟨h1, h2⟩ := List.append_inj h (by unfold recB; rfl)
 obtain ⟨hD, hB⟩ := tail_inj _ _ _ _ hl.docs hm.docs h2
 unfold recB at h1
 simp only [List.cons.injEq, Fd.mk.injEq, true_and, and_true] at h1
 obtain ⟨e1, e2, e3, e4, e5, e6, e7, e8, e9, e10, e11⟩ := h1
 have k1 := itoS_inj hl.number hm.number e3
 have k2 := kindN_eq hl.kind hm.kind e4
 have k3 := itoS_inj hl.ack hm.ack e5
 have k4 := itoS_inj hl.index hm.index e9
 have k5 := itoS_inj hl.day hm.day e10
 obtain ⟨k6, k7⟩ := monS_inj hl.sum hm.sum e11
 obtain ⟨_, _, _, _, _, _, _, _, _, _, _, _, _, _⟩ := l
 obtain ⟨_, _, _, _, _, _, _, _, _, _, _, _, _, _⟩ := m
 simp only at e1 e2 k1 k2 k3 e6 e7 e8 k4 k5 k6 k7 hD hB
 simp only [Lt.mk.injEq]
 exact ⟨e1, e2, k1, k2, k3, e6, e7, e8, k4, k5, k6, k7, hD, hB⟩
/-- The letter of a record. -/
noncomputable def fromR (f : List Fd) : Option Lt := @dite _ (∃ l, VL l ∧ recA l = f) (Classical.propDecidable _) (fun h => if mayB h.choose = true then some h.choose else none) fun _ => none
theorem fromR_at {l : Lt} {f : List Fd} (h : VL l) (e : recA l = f) : fromR f = if mayB l = true then some l else none := by
 have hx : ∃ l, VL l ∧ recA l = f := ⟨l, h, e⟩
 have he : hx.choose = l := recA_inj hx.choose_spec.1 h (hx.choose_spec.2.trans e.symm)
 unfold fromR
 rw [dif_pos hx, he]
theorem fromR_no {f : List Fd} (h : ∀ l, VL l → recA l = f → False) : fromR f = none := by
 unfold fromR
 rw [dif_neg fun ⟨l, h1, h2⟩ => h l h1 h2]
theorem fromR_some {f : List Fd} {l : Lt} (h : fromR f = some l) : mayB l = true ∧ fieldsL itoS monS l = f := by
 unfold fromR at h
 split at h
 ·rename_i hx
  split at h
  ·rename_i hm
   cases h
   exact ⟨hm, (fieldsL_rec hm).trans hx.choose_spec.2⟩
  ·cases h
 ·cases h
theorem fromR_fields {l : Lt} (h : mayB l = true) : fromR (fieldsL itoS monS l) = some l := by
 rw [fromR_at (mayB_VL h) (fieldsL_rec h).symm, if_pos h]
end Go.Proofs.YtblkcnmecfppnaaGreatDoor
/-
 The steps that put a record's values into a letter.
-/
namespace Go.Proofs.YtblkcnmecfppnaaGreatDoor
open Go.RowKit
set_option maxHeartbeats 8000000
set_option maxRecDepth 100000
/-- A letter's cells, without papers and boxes yet. -/
noncomputable def LtL : Lt → List AV
 | ⟨frm, to, number, kind, ack, deal, text, party, index, day, cur, amt, docs, boxes⟩ => [.str frm, .str to, .i number, .i kind, .i ack, .str deal, .str text, .str party, .i index, .i day, .str cur, .i amt, .v (.slice none 0 0), .v (.slice none 0 0)]
def setT (l : Lt) (off : Nat) (v : ByteArray) : Lt := match off with
 | 0 => { l with frm := v }
 | 1 => { l with to := v }
 | 5 => { l with deal := v }
 | 6 => { l with text := v }
 | 7 => { l with party := v }
 | _ => l
def setN (l : Lt) (off : Nat) (n : Int) : Lt := match off with
 | 2 => { l with number := n }
 | 4 => { l with ack := n }
 | 8 => { l with index := n }
 | 9 => { l with day := n }
 | _ => l
/-- A step of one pointer, made. -/
noncomputable def MkC (f : Nat) (t : TypeId) : Ctr := spec (fun i : Lt × Nat => [.ptr 0 i.2]) (fun i => [.blk 31 (LtL i.1)]) (fun _ => True) (fun _ => .clo f [.ptr 1 0]) fun i => [.blk 31 (LtL i.1), .blk t [.ptr 0 i.2]]
theorem stepT_body (P : Program) : BodyOk P x45 (MkC 46 84) := by
 intro args H K hc
 obtain ⟨⟨l, off⟩, rfl, rfl, _, hK⟩ := hc
 refine ⟨Nat.le_of_ble_eq_true rfl, ?_⟩
 dsimp only at hK ⊢
 obtain ⟨frm, to, number, kind, ack, deal, text, party, index, day, cur, amt, docs, boxes⟩ := l
 cbv
 exact FinK.mk ⟨_, Gh.refl _, .inl (CutK.pre _ (by rfl) (by exact Nat.le_of_ble_eq_true rfl) (by rfl) (by rfl) (Le.refl _) (LeH.refl _) hK)⟩
theorem stepN_body (P : Program) : BodyOk P x47 (MkC 48 86) := by
 intro args H K hc
 obtain ⟨⟨l, off⟩, rfl, rfl, _, hK⟩ := hc
 refine ⟨Nat.le_of_ble_eq_true rfl, ?_⟩
 dsimp only at hK ⊢
 obtain ⟨frm, to, number, kind, ack, deal, text, party, index, day, cur, amt, docs, boxes⟩ := l
 cbv
 exact FinK.mk ⟨_, Gh.refl _, .inl (CutK.pre _ (by rfl) (by exact Nat.le_of_ble_eq_true rfl) (by rfl) (by rfl) (Le.refl _) (LeH.refl _) hK)⟩
/-- A step that puts a text. -/
noncomputable def PutTC : Ctr := spec (fun i : Lt × Nat × ByteArray => [.str i.2.2, .ptr 1 0]) (fun i => [.blk 31 (LtL i.1), .blk 84 [.ptr 0 i.2.1]]) (fun i => i.2.1 = 0 ∨ i.2.1 = 1 ∨ i.2.1 = 5 ∨ i.2.1 = 6 ∨ i.2.1 = 7) (fun _ => .bl true) fun i => [.blk 31 (LtL (setT i.1 i.2.1 i.2.2)), .blk 84 [.ptr 0 i.2.1]]
theorem putT_body (P : Program) : BodyOk P x46 PutTC := by
 intro args H K hc
 obtain ⟨⟨l, off, v⟩, rfl, rfl, hp, hK⟩ := hc
 refine ⟨Nat.le_of_ble_eq_true rfl, ?_⟩
 dsimp only at hK hp ⊢
 obtain ⟨frm, to, number, kind, ack, deal, text, party, index, day, cur, amt, docs, boxes⟩ := l
 rcases hp with rfl | rfl | rfl | rfl | rfl
 all_goals
  cbv
  exact FinK.mk ⟨_, Gh.refl _, .inl (CutK.pre _ (by rfl) (by exact Nat.le_of_ble_eq_true rfl) (by rfl) (by rfl) (Le.refl _) (LeH.refl _) hK)⟩
/-- A step that puts a number. -/
noncomputable def PutNC : Ctr := spec (fun i : Lt × Nat × ByteArray => [.str i.2.2, .ptr 1 0]) (fun i => [.blk 31 (LtL i.1), .blk 86 [.ptr 0 i.2.1]]) (fun i => (i.2.1 = 2 ∨ i.2.1 = 4 ∨ i.2.1 = 8 ∨ i.2.1 = 9) ∧ longS i.2.2) (fun i => .bl (numP i.2.2.data.toList).isSome) fun i => [.blk 31 (LtL (setN i.1 i.2.1 ((numP i.2.2.data.toList).getD 0))), .blk 86 [.ptr 0 i.2.1]]
theorem putN_body (P : Program) (hN : FnOk P 49 (NumC longS)) : BodyOk P x48 PutNC := by
 intro args H K hc
 obtain ⟨⟨l, off, v⟩, rfl, rfl, ⟨hp, hv⟩, hK⟩ := hc
 refine ⟨Nat.le_of_ble_eq_true rfl, ?_⟩
 dsimp only at hK hp hv ⊢
 obtain ⟨n, hn⟩ : ∃ n, n = (numP v.data.toList).getD 0 := ⟨_, rfl⟩
 obtain ⟨b, hb⟩ : ∃ n, n = (numP v.data.toList).isSome := ⟨_, rfl⟩
 rw [← hn, ← hb] at hK
 obtain ⟨frm, to, number, kind, ack, deal, text, party, index, day, cur, amt, docs, boxes⟩ := l
 rcases hp with rfl | rfl | rfl | rfl
 all_goals
  cbv
  refine callG_spec0 hN v hv rfl rfl rfl ?_
  try dsimp only
  rw [← hn, ← hb]
  cbv
  exact FinK.mk ⟨_, Gh.refl _, .inl (CutK.pre _ (by rfl) (by exact Nat.le_of_ble_eq_true rfl) (by rfl) (by rfl) (Le.refl _) (LeH.refl _) hK)⟩
/-- The step that puts the kind. -/
noncomputable def PutKC : Ctr := spec (fun i : Lt × ByteArray => [.str i.2, .ptr 1 0]) (fun i => [.blk 31 (LtL i.1), .blk 56 [.ptr 0 0]]) (fun _ => True) (fun i => .bl (kindOf i.2).isSome) fun i => [.blk 31 (LtL { i.1 with kind := nI ((kindOf i.2).getD 0) }), .blk 56 [.ptr 0 0]]
theorem putK_body (P : Program) (hk : FnOk P 19 KindC) : BodyOk P x50 PutKC := by
 intro args H K hc
 obtain ⟨⟨l, v⟩, rfl, rfl, _, hK⟩ := hc
 refine ⟨Nat.le_of_ble_eq_true rfl, ?_⟩
 dsimp only at hK ⊢
 obtain ⟨n, hn⟩ : ∃ n, n = (kindOf v).getD 0 := ⟨_, rfl⟩
 obtain ⟨b, hb⟩ : ∃ n, n = (kindOf v).isSome := ⟨_, rfl⟩
 have e : kindA v = .tup [.i (nI n), .bl b] := by
  unfold kindA
  rw [hn, hb]
  cases kindOf v <;> rfl
 rw [← hn, ← hb] at hK
 obtain ⟨frm, to, number, kind, ack, deal, text, party, index, day, cur, amt, docs, boxes⟩ := l
 cbv
 refine callG_spec0 hk v trivial rfl (by rw [e]; rfl) rfl ?_
 rw [e]
 cbv
 exact FinK.mk ⟨_, Gh.refl _, .inl (CutK.pre _ (by rfl) (by exact Nat.le_of_ble_eq_true rfl) (by rfl) (by rfl) (Le.refl _) (LeH.refl _) hK)⟩
def sumV (l : Lt) (v : ByteArray) : Lt := if v = ⟨#[]⟩ then l else { l with cur := ((monP v).getD (⟨#[]⟩, 0)).1, amt := ((monP v).getD (⟨#[]⟩, 0)).2 }
def sumOk (v : ByteArray) : Bool := decide (v = ⟨#[]⟩) || (monP v).isSome
/-- The step that puts the sum. -/
noncomputable def PutSC : Ctr := spec (fun i : Lt × ByteArray => [.str i.2, .ptr 1 0]) (fun i => [.blk 31 (LtL i.1), .blk 56 [.ptr 0 0]]) (fun i => shortS i.2) (fun i => .bl (sumOk i.2)) fun i => [.blk 31 (LtL (sumV i.1 i.2)), .blk 56 [.ptr 0 0]]
theorem putS_body (P : Program) (hm : FnOk P 52 MpC) : BodyOk P x51 PutSC := by
 intro args H K hc
 obtain ⟨⟨l, v⟩, rfl, rfl, hp, hK⟩ := hc
 refine ⟨Nat.le_of_ble_eq_true rfl, ?_⟩
 dsimp only at hK ⊢
 unfold sumV sumOk at hK
 cbv; repeat' ((first | refine .mk (fun h => ?_) fun h => ?_ | fail) <;> cbv)
 ·rw [if_pos h, decide_eq_true h] at hK
  obtain ⟨frm, to, number, kind, ack, deal, text, party, index, day, cur, amt, docs, boxes⟩ := l
  exact FinK.mk ⟨_, Gh.refl _, .inl (CutK.pre _ (by rfl) (by exact Nat.le_of_ble_eq_true rfl) (by rfl) (by rfl) (Le.refl _) (LeH.refl _) hK)⟩
 ·rw [if_neg h, decide_eq_false h, Bool.false_or] at hK
  cases e : monP v with
  | none =>
   have e2 : MpA v = .tup [.agg [.str ⟨#[]⟩, .i 0], .i 2] := by unfold MpA; rw [e]
   rw [e] at hK
   obtain ⟨frm, to, number, kind, ack, deal, text, party, index, day, cur, amt, docs, boxes⟩ := l
   refine callG_spec0 hm v hp rfl (by rw [e2]; rfl) rfl ?_
   rw [e2]
   cbv; repeat' ((first | refine .n fun h => ?_ | fail) <;> cbv)
   exact FinK.mk ⟨_, Gh.refl _, .inl (CutK.pre _ (by rfl) (by exact Nat.le_of_ble_eq_true rfl) (by rfl) (by rfl) (Le.refl _) (LeH.refl _) hK)⟩
  | some q =>
   obtain ⟨c, a⟩ := q
   have e2 : MpA v = .tup [.agg [.str c, .i a], .i 0] := by unfold MpA; rw [e]
   rw [e] at hK
   obtain ⟨frm, to, number, kind, ack, deal, text, party, index, day, cur, amt, docs, boxes⟩ := l
   refine callG_spec0 hm v hp rfl (by rw [e2]; rfl) rfl ?_
   rw [e2]
   cbv; repeat' ((first | refine .y fun h => ?_ | fail) <;> cbv)
   exact FinK.mk ⟨_, Gh.refl _, .inl (CutK.pre _ (by rfl) (by exact Nat.le_of_ble_eq_true rfl) (by rfl) (by rfl) (Le.refl _) (LeH.refl _) hK)⟩
end Go.Proofs.YtblkcnmecfppnaaGreatDoor
/-
 The row of steps.
-/
namespace Go.Proofs.YtblkcnmecfppnaaGreatDoor
open Go.RowKit
set_option maxHeartbeats 8000000
set_option maxRecDepth 100000
def stepsR : List AV := [.str ⟨#[102, 114, 111, 109]⟩, .clo 46 [.ptr 3 0], .str ⟨#[116, 111]⟩, .clo 46 [.ptr 4 0], .str ⟨#[110, 117, 109, 98, 101, 114]⟩, .clo 48 [.ptr 5 0], .str ⟨#[107, 105, 110, 100]⟩, .clo 50 [.ptr 1 0], .str ⟨#[97, 99, 107]⟩, .clo 48 [.ptr 6 0], .str ⟨#[100, 101, 97, 108]⟩, .clo 46 [.ptr 7 0], .str ⟨#[116, 101, 120, 116]⟩, .clo 46 [.ptr 8 0], .str ⟨#[112, 97, 114, 116, 121]⟩, .clo 46 [.ptr 9 0], .str ⟨#[105, 110, 100, 101, 120]⟩, .clo 48 [.ptr 10 0], .str ⟨#[100, 97, 121]⟩, .clo 48 [.ptr 11 0], .str ⟨#[115, 117, 109]⟩, .clo 51 [.ptr 1 0]]
def ptrB (t : TypeId) (off : Nat) : Ent := .blk t [.ptr 0 off]
noncomputable def stepsH (l : Lt) : List Ent := [.blk 31 (LtL l), .blk 56 [.ptr 0 0], .hrow 58 2 11 stepsR, ptrB 84 0, ptrB 84 1, ptrB 86 2, ptrB 86 4, ptrB 84 5, ptrB 84 6, ptrB 84 7, ptrB 86 8, ptrB 86 9]
noncomputable def StepsC : Ctr := spec (fun _ : Lt => [.ptr 0 0]) (fun l => [.blk 31 (LtL l)]) (fun _ => True) (fun _ => .hd 2) stepsH
theorem steps_body (P : Program) (hm1 : MayCall P 45) (hm2 : MayCall P 47) (h1 : FnOk P 45 (MkC 46 84)) (h2 : FnOk P 47 (MkC 48 86)) : BodyOk P x21 StepsC := by
 intro args H K hc
 obtain ⟨l, rfl, rfl, _, hK⟩ := hc
 refine ⟨Nat.le_of_ble_eq_true rfl, ?_⟩
 dsimp only at hK ⊢
 obtain ⟨frm, to, number, kind, ack, deal, text, party, index, day, cur, amt, docs, boxes⟩ := l
 cbv; repeat' ((first | refine And.intro ?_ ?_ | fail) <;> cbv)
 ·exact hm1
 (refine callG_spec h1 (⟨frm, to, number, kind, ack, deal, text, party, index, day, cur, amt, docs, boxes⟩, 0) [0] trivial rfl rfl (by decide) rfl rfl rfl rfl rfl ?_; try dsimp only)
 cbv; repeat' ((first | refine And.intro ?_ ?_ | fail) <;> cbv)
 ·exact hm1
 (refine callG_spec h1 (⟨frm, to, number, kind, ack, deal, text, party, index, day, cur, amt, docs, boxes⟩, 1) [0] trivial rfl rfl (by decide) rfl rfl rfl rfl rfl ?_; try dsimp only)
 cbv; repeat' ((first | refine And.intro ?_ ?_ | fail) <;> cbv)
 ·exact hm2
 (refine callG_spec h2 (⟨frm, to, number, kind, ack, deal, text, party, index, day, cur, amt, docs, boxes⟩, 2) [0] trivial rfl rfl (by decide) rfl rfl rfl rfl rfl ?_; try dsimp only)
 cbv; repeat' ((first | refine And.intro ?_ ?_ | fail) <;> cbv)
 ·exact hm2
 (refine callG_spec h2 (⟨frm, to, number, kind, ack, deal, text, party, index, day, cur, amt, docs, boxes⟩, 4) [0] trivial rfl rfl (by decide) rfl rfl rfl rfl rfl ?_; try dsimp only)
 cbv; repeat' ((first | refine And.intro ?_ ?_ | fail) <;> cbv)
 ·exact hm1
 (refine callG_spec h1 (⟨frm, to, number, kind, ack, deal, text, party, index, day, cur, amt, docs, boxes⟩, 5) [0] trivial rfl rfl (by decide) rfl rfl rfl rfl rfl ?_; try dsimp only)
 cbv; repeat' ((first | refine And.intro ?_ ?_ | fail) <;> cbv)
 ·exact hm1
 (refine callG_spec h1 (⟨frm, to, number, kind, ack, deal, text, party, index, day, cur, amt, docs, boxes⟩, 6) [0] trivial rfl rfl (by decide) rfl rfl rfl rfl rfl ?_; try dsimp only)
 cbv; repeat' ((first | refine And.intro ?_ ?_ | fail) <;> cbv)
 ·exact hm1
 (refine callG_spec h1 (⟨frm, to, number, kind, ack, deal, text, party, index, day, cur, amt, docs, boxes⟩, 7) [0] trivial rfl rfl (by decide) rfl rfl rfl rfl rfl ?_; try dsimp only)
 cbv; repeat' ((first | refine And.intro ?_ ?_ | fail) <;> cbv)
 ·exact hm2
 (refine callG_spec h2 (⟨frm, to, number, kind, ack, deal, text, party, index, day, cur, amt, docs, boxes⟩, 8) [0] trivial rfl rfl (by decide) rfl rfl rfl rfl rfl ?_; try dsimp only)
 cbv; repeat' ((first | refine And.intro ?_ ?_ | fail) <;> cbv)
 ·exact hm2
 (refine callG_spec h2 (⟨frm, to, number, kind, ack, deal, text, party, index, day, cur, amt, docs, boxes⟩, 9) [0] trivial rfl rfl (by decide) rfl rfl rfl rfl rfl ?_; try dsimp only)
 cbv
 exact FinK.mk ⟨_, Gh.refl _, .inl (CutK.pre _ (by rfl) (by exact Nat.le_of_ble_eq_true rfl) (by rfl) (by rfl) (Le.refl _) (LeH.refl _) hK)⟩
end Go.Proofs.YtblkcnmecfppnaaGreatDoor
