/-
  Texts of this proof, joined: RD, VN, RE, RF, RG, RH, RI, RJ, RK, RL, RM, RN, RO, RP, RQ, RR, RS, SA, SB, SC, SD, SE.
-/
import Derived.Test.YtagcjileaknjnaaGreatDoorB3
import Derived.Shelf.Sort.Plain
import Derived.Shelf.Slices.In.SortNone
import Derived.Sort.OwnSorted
import Derived.Test.YtagcjileaknjnaaGreatDoorChecked
set_option linter.unusedVariables false
set_option linter.unusedSimpArgs false
noncomputable section
namespace Go.Proofs.YtagcjileaknjnaaGreatDoor
open Go.RowKit
set_option maxHeartbeats 1000000
set_option maxRecDepth 100000
def markB (s : ByteArray) : Bool := decide (s.size = 12) && (decide (0 ≤ sumM s) && decide (s.extract 10 12 = digS (sumM s).toNat))
theorem right_body (P : Program) (hs : FnOk P 140 SumC) (hd : FnOk P 141 DigC) : BodyOk P x117 (StrC (fun _ => True) markB) := by
 intro args H K hc; obtain ⟨s, rfl, rfl, hp, hK⟩ := hc; refine ⟨nb9, ?_⟩; dsimp only at hp hK ⊢
 have hb := sumM_bd s
 unfold markB at hK
 obtain ⟨q, hq⟩ : ∃ x, x = (sumM s) := ⟨_, rfl⟩
 rw [← hq] at hK hb
 cbv; repeat' ((first | refine .mk (fun h => ?_) fun h => ?_ | refine .k fun z hz => ?_ | fail) <;> cbv)
 rotate_left
 ·exact FinK.mk ⟨_, Gh.refl _, .inl (.v9 (K_bl hK (by (rw [decide_eq_false om9]; rfl))))⟩
 ·have hsz : s.size = 12 := om9
  (refine c09 hs s trivial ?_; try dsimp only)
  rw [← hq]
  cbv; repeat' ((first | refine .mk (fun h => ?_) fun h => ?_ | refine .u fun u hu hul => ?_ | fail) <;> cbv)
  ·obtain ⟨n, rfl⟩ := Int.eq_ofNat_of_zero_le h
   cbv
   have hv2 : u = s.extract 10 12 := by rw [hu, ← hsz]; rfl
   (refine c09 hd n (by have : (n : Int) < 97 := hb.2; omega) ?_; try dsimp only)
   have e1 : ((n : Int)).toNat = n := rfl
   rw [e1] at hK
   obtain ⟨t, ht⟩ : ∃ x, x = (digS n) := ⟨_, rfl⟩
   rw [← ht] at hK ⊢
   cbv; repeat' ((first | refine .mk (fun h => ?_) fun h => ?_ | fail) <;> cbv)
   ·exact FinK.mk ⟨_, Gh.refl _, .inl (.v9 (K_bl hK (by (rw [decide_eq_true hsz, decide_eq_true (by omega), decide_eq_true (by rw [← hv2]; exact h)]; rfl))))⟩
   ·exact FinK.mk ⟨_, Gh.refl _, .inl (.v9 (K_bl hK (by (rw [decide_eq_true hsz, decide_eq_true (by omega), decide_eq_false (by rw [← hv2]; exact h)]; rfl))))⟩
  ·exact FinK.mk ⟨_, Gh.refl _, .inl (.v9 (K_bl hK (by (rw [decide_eq_true hsz, decide_eq_false (by omega)]; rfl))))⟩
theorem rname_body (P : Program) (hl : FnOk P 124 (ByC letB)) (hd : FnOk P 125 (ByC digB)) : BodyOk P x91 (StrC (fun s => s.size ≤ maxLen) nameB) := by
 intro args H K hc; obtain ⟨s, rfl, rfl, hp, hK⟩ := hc; refine ⟨nb9, ?_⟩; dsimp only at hp hK ⊢
 unfold maxLen at hp
 obtain ⟨n, hn⟩ : ∃ n, n = s.size := ⟨_, rfl⟩
 cbv
 refine xloopV [] (fun p : { k : Nat // k ≤ s.size ∧ firstAll s k } => [(3, .i (nI p.1))]) (fun _ => []) (fun p => lft n p.1) ⟨0, Nat.zero_le _, firstAll_zero s⟩ ?_
 rintro ⟨k, hk, hf⟩
 dsimp only at hk hf ⊢
 rcases Nat.lt_or_ge k s.size with hks | hks
 rotate_left
 ·obtain rfl : n = k := by omega
  rw [hn] at hf
  cbv; repeat' ((first | refine .n fun h => ?_ | refine .mk (fun h => ?_) fun h => ?_ | refine .k fun z hz => ?_ | fail) <;> cbv)
  ·exact FinK.mk ⟨_, Gh.refl _, .inl (.v9 (K_bl hK (by (rw [nameB_long hf om9 om9]))))⟩
  ·exact FinK.mk ⟨_, Gh.refl _, .inl (.v9 (K_bl hK (by (rw [nameB_short om9]))))⟩
  ·exact FinK.mk ⟨_, Gh.refl _, .inl (.v9 (K_bl hK (by (rw [nameB_short om9]))))⟩
 cbv; repeat' ((first | refine .y fun h => ?_ | refine .k fun z hz => ?_ | fail) <;> cbv)
 refine askByte_nI hks fun z hz => ?_
 have hch := ch_or (c := s[k]) hz
 cbv
 (refine c09 hl z trivial ?_; try dsimp only)
 cases h1 : letB z with
 | true =>
  cbv; repeat' ((first | refine .k fun z hz => ?_ | fail) <;> cbv)
  obtain rfl := hz
  exact roundV ⟨k + 1, hks, firstAll_succ hks hf (by rw [hch, h1]; rfl)⟩ (lft_lt (by omega))
 | false =>
  cbv
  refine askByte_nI hks fun z2 hz2 => ?_
  obtain rfl : z = z2 := hz.trans hz2.symm
  cbv
  (refine c09 hd z trivial ?_; try dsimp only)
  cases h2 : digB z with
  | true =>
   cbv; repeat' ((first | refine .k fun z hz => ?_ | fail) <;> cbv)
   obtain rfl := hz
   exact roundV ⟨k + 1, hks, firstAll_succ hks hf (by rw [hch, h1, h2]; rfl)⟩ (lft_lt (by omega))
  | false =>
   cbv
   refine askByte_nI hks fun z2 hz2 => ?_
   obtain rfl : z = z2 := hz.trans hz2.symm
   cbv; repeat' ((first | refine .mk (fun h => ?_) fun h => ?_ | refine .k fun z hz => ?_ | fail) <;> cbv)
   ·obtain rfl := hz
    exact roundV ⟨k + 1, hks, firstAll_succ hks hf (by rw [hch, h1, h2]; simp [h])⟩ (lft_lt (by omega))
   ·exact FinK.mk ⟨_, Gh.refl _, .inl (.v9 (K_bl hK (by (rw [nameB_not hks (by rw [hch, h1, h2]; simp [h])]))))⟩
def headB (s : ByteArray) : Bool := (accM s 10).isSome
theorem rhead_body (P : Program) (hl : FnOk P 124 (ByC letB)) (hd : FnOk P 125 (ByC digB)) : BodyOk P x154 (StrC (fun _ => True) headB) := by
 intro args H K hc; obtain ⟨s, rfl, rfl, hp, hK⟩ := hc; refine ⟨nb9, ?_⟩; dsimp only at hp hK ⊢
 cbv; repeat' ((first | refine .mk (fun h => ?_) fun h => ?_ | refine .k fun z hz => ?_ | fail) <;> cbv)
 ·exact FinK.mk ⟨_, Gh.refl _, .inl (.v9 (K_bl hK (by (unfold headB; rw [accM_short om9]; rfl))))⟩
 refine xloopV [] (fun p : { k : Nat // k ≤ 10 ∧ (accM s k).isSome = true } => [(3, .i (nI p.1))]) (fun _ => []) (fun p => lft 10 p.1) ⟨0, Nat.zero_le _, rfl⟩ ?_
 rintro ⟨k, hk, hf⟩
 dsimp only at hk hf ⊢
 obtain ⟨a, ha⟩ := Option.isSome_iff_exists.1 hf
 have hsz : 10 ≤ s.size := om9
 clear hz
 rcases Nat.lt_or_ge k 10 with hk10 | hk10
 rotate_left
 ·obtain rfl : k = 10 := by omega
  cbv; repeat' ((first | refine .n fun h => ?_ | fail) <;> cbv)
  exact FinK.mk ⟨_, Gh.refl _, .inl (.v9 (K_bl hK (by (exact hf.symm))))⟩
 have hks : k < s.size := by omega
 have hat := accM_at hks ha
 have hno : vM s[k] k = none → headB s = false := fun hv => by
  have h1 : accM s (k + 1) = none := by rw [hat, hv]; rfl
  have h2 := accM_none h1 (9 - k)
  rw [show k + 1 + (9 - k) = 10 by omega] at h2
  unfold headB; rw [h2]; rfl
 rcases Nat.lt_or_ge k 4 with hk4 | hk4
 ·cbv; repeat' ((first | refine .y fun h => ?_ | fail) <;> cbv)
  refine askByte_nI hks fun z hz => ?_
  cbv
  (refine c09 hl z trivial ?_; try dsimp only)
  cases h1 : letB z with
  | true =>
   have hv : vM s[k] k = some (z - 96) := by rw [hz] at h1 ⊢; unfold vM; rw [if_pos hk4, if_pos (show letB (s[k].toNat : Int) = true from h1)]; rfl
   rw [hv] at hat
   cbv; repeat' ((first | refine .n fun h => ?_ | refine .k fun z hz => ?_ | fail) <;> cbv)
   obtain rfl := hz
   exact roundV ⟨k + 1, hk10, by rw [hat]; rfl⟩ (lft_lt (by omega))
  | false =>
   cbv
   exact FinK.mk ⟨_, Gh.refl _, .inl (.v9 (K_bl hK (by (rw [hno (by rw [hz] at h1; unfold vM; rw [if_pos hk4, if_neg (by rw [show letB ((s[k].toNat : Nat) : Int) = false from h1]; decide)])]))))⟩
 ·cbv; repeat' ((first | refine .n fun h => ?_ | refine .y fun h => ?_ | fail) <;> cbv)
  refine askByte_nI hks fun z hz => ?_
  cbv
  (refine c09 hd z trivial ?_; try dsimp only)
  cases h1 : digB z with
  | true =>
   have hv : vM s[k] k = some (z - 48) := by rw [hz] at h1 ⊢; unfold vM; rw [if_neg (by omega), if_pos (show digB (s[k].toNat : Int) = true from h1)]; rfl
   rw [hv] at hat
   cbv; repeat' ((first | refine .k fun z hz => ?_ | fail) <;> cbv)
   obtain rfl := hz
   exact roundV ⟨k + 1, hk10, by rw [hat]; rfl⟩ (lft_lt (by omega))
  | false =>
   cbv
   exact FinK.mk ⟨_, Gh.refl _, .inl (.v9 (K_bl hK (by (rw [hno (by rw [hz] at h1; unfold vM; rw [if_neg (by omega), if_neg (by rw [show digB ((s[k].toNat : Nat) : Int) = false from h1]; decide)])]))))⟩
theorem rsum_body (P : Program) (hh : FnOk P 154 (StrC (fun _ => True) headB)) : BodyOk P x155 SumC := by
 intro args H K hc; obtain ⟨s, rfl, rfl, hp, hK⟩ := hc; refine ⟨nb9, ?_⟩; dsimp only at hp hK ⊢
 obtain ⟨u, hu⟩ : ∃ x, x = (sumM s) := ⟨_, rfl⟩
 rw [← hu] at hK
 obtain ⟨b, hb⟩ : ∃ x, x = (headB s) := ⟨_, rfl⟩
 cbv
 (refine c09 hh s trivial ?_; try dsimp only)
 rw [← hb]
 cases b with
 | false =>
  cbv
  have hn : accM s 10 = none := by unfold headB at hb; cases h : accM s 10 with | none => rfl | some a => rw [h] at hb; cases hb
  exact FinK.mk ⟨_, Gh.refl _, .inl (.v9 (K_i hK (by (rw [hu]; unfold sumM; rw [hn]))))⟩
 | true =>
  obtain ⟨A, hA⟩ := Option.isSome_iff_exists.1 (show (accM s 10).isSome = true from hb.symm)
  have hsz : 10 ≤ s.size := by
   rcases Nat.lt_or_ge s.size 10 with h | h
   ·rw [accM_short h] at hA; cases hA
   ·exact h
  cbv
  refine xloopV [] (fun p : { p : Nat × Int // p.1 ≤ 10 ∧ accM s p.1 = some p.2 } => [(4, .i (nI p.1.1)), (3, .i p.1.2)]) (fun _ => []) (fun p => lft 10 p.1.1) ⟨(0, 0), Nat.zero_le _, rfl⟩ ?_
  rintro ⟨⟨k, a⟩, hk, ha⟩
  dsimp only at hk ha ⊢
  have hbd := accM_bd ha hk
  rcases Nat.lt_or_ge k 10 with hk10 | hk10
  rotate_left
  ·obtain rfl : k = 10 := by omega
   have hs := sumM_all ha
   have hs0 := Int.tmod_nonneg 97 hbd.1
   cbv; repeat' ((first | refine .n fun h => ?_ | refine .q fun z hz hz0 hz1 => ?_ | fail) <;> cbv)
   exact FinK.mk ⟨_, Gh.refl _, .inl (.v9 (K_i hK (by (rw [hu, hs]; assumption))))⟩
  have hks : k < s.size := by omega
  have hat := accM_at hks ha
  have hsome : ∃ v, vM s[k] k = some v := by
   cases h : vM s[k] k with
   | some v => exact ⟨v, rfl⟩
   | none =>
    exfalso
    have h1 : accM s (k + 1) = none := by rw [hat, h]; rfl
    have h2 := accM_none h1 (9 - k)
    rw [show k + 1 + (9 - k) = 10 by omega, hA] at h2
    cases h2
  obtain ⟨v, hv⟩ := hsome
  have hvb := vM_bd hv
  rw [hv] at hat
  rcases Nat.lt_or_ge k 4 with hk4 | hk4
  ·have hv2 : v = (s[k].toNat : Int) - 96 := by
    unfold vM at hv; rw [if_pos hk4] at hv; split at hv; (· cases hv; rfl); cases hv
   cbv; repeat' ((first | refine .y fun h => ?_ | fail) <;> cbv)
   refine askByte_nI hks fun z hz => ?_
   have hz' : z = (s[k].toNat : Int) := hz
   obtain ⟨c, hc⟩ : ∃ c, c = z := ⟨_, rfl⟩
   cbv; repeat' ((first | refine .y fun h => ?_ | refine .k fun z hz => ?_ | refine .o ?_ | fail) <;> cbv)
   refine askByte_nI hks fun z hz => ?_
   obtain rfl : c = z := by rw [hc, hz', hz]; rfl
   cbv; repeat' ((first | refine .k fun z hz => ?_ | refine .o ?_ | fail) <;> cbv)
   rename_i w hw
   obtain rfl : w = v := by omega
   obtain rfl : z = (k : Int) + 1 := om9
   have hm2 := mul_bd (a := w) (b := (k : Int) + 1) hvb (by omega)
   refine MulK.k (fun m hm => ?_) (by omega)
   rw [← hm] at hm2
   cbv; repeat' ((first | refine .k fun z hz => ?_ | fail) <;> cbv)
   rename_i z4 hz4
   obtain rfl : z = nI (k + 1) := om9
   exact roundV ⟨(k + 1, z4), by dsimp only; omega, by rw [hat, hz4, hm]; rfl⟩ (lft_lt (by omega))
  ·have hv2 : v = (s[k].toNat : Int) - 48 := by
    unfold vM at hv; rw [if_neg (by omega)] at hv; split at hv; (· cases hv; rfl); cases hv
   cbv; repeat' ((first | refine .y fun h => ?_ | fail) <;> cbv)
   refine askByte_nI hks fun z hz => ?_
   have hz' : z = (s[k].toNat : Int) := hz
   obtain ⟨c, hc⟩ : ∃ c, c = z := ⟨_, rfl⟩
   cbv; repeat' ((first | refine .n fun h => ?_ | refine .k fun z hz => ?_ | refine .o ?_ | fail) <;> cbv)
   rename_i w hw
   obtain rfl : w = v := by omega
   obtain rfl : z = (k : Int) + 1 := om9
   have hm2 := mul_bd (a := w) (b := (k : Int) + 1) hvb (by omega)
   refine MulK.k (fun m hm => ?_) (by omega)
   rw [← hm] at hm2
   cbv; repeat' ((first | refine .k fun z hz => ?_ | fail) <;> cbv)
   rename_i z4 hz4
   obtain rfl : z = nI (k + 1) := om9
   exact roundV ⟨(k + 1, z4), by dsimp only; omega, by rw [hat, hz4, hm]; rfl⟩ (lft_lt (by omega))
theorem ext_two : ∀ (a b : Fin 256) (n : Fin 97), (⟨#[UInt8.ofNat a.val, UInt8.ofNat b.val]⟩ : ByteArray) = digS n.val ↔ (a.val = 48 + n.val / 10 ∧ b.val = 48 + n.val % 10) := by
 intro a b n
 unfold digS
 constructor
 ·intro h
  simp only [ByteArray.mk.injEq, Array.mk.injEq, List.cons.injEq, and_true] at h
  have h1 := congrArg UInt8.toNat h.1
  have h2 := congrArg UInt8.toNat h.2
  simp at h1 h2
  omega
 ·rintro ⟨h1, h2⟩
  rw [h1, h2]
theorem markB_ref {s : ByteArray} (h12 : s.size = 12) : markB s = (headB s && digB (s[10]'(by omega)).toNat && digB (s[11]'(by omega)).toNat && decide (sumM s = 10 * (((s[10]'(by omega)).toNat : Int) - 48) + ((s[11]'(by omega)).toNat : Int) - 48)) := by
 have hsz := h12
 have hex : s.extract 10 12 = ⟨#[UInt8.ofNat (s[10]'(by omega)).toNat, UInt8.ofNat (s[11]'(by omega)).toNat]⟩ := by
  have hd : s.data.size = 12 := h12
  have : (s.extract 10 12).data = #[s[10]'(by omega), s[11]'(by omega)] := by
   rw [ByteArray.data_extract]
   refine Array.ext (by simp [hd]) fun i h1 h2 => ?_
   simp at h2
   have h3 : i = 0 ∨ i = 1 := by omega
   rcases h3 with rfl | rfl <;> simp <;> rfl
  have h4 : ∀ c : UInt8, UInt8.ofNat c.toNat = c := fun c => by simp
  rw [h4, h4]
  exact ByteArray.ext this
 have hb := sumM_bd s
 unfold markB
 rw [decide_eq_true h12, Bool.true_and, hex]
 have ha : (s[10]'(by omega)).toNat < 256 := UInt8.toNat_lt _
 have hbb : (s[11]'(by omega)).toNat < 256 := UInt8.toNat_lt _
 obtain ⟨a, hae⟩ : ∃ a, a = (s[10]'(by omega)).toNat := ⟨_, rfl⟩
 obtain ⟨b, hbe⟩ : ∃ b, b = (s[11]'(by omega)).toNat := ⟨_, rfl⟩
 rw [← hae] at ha ⊢
 rw [← hbe] at hbb ⊢
 cases hh : headB s with
 | false =>
  have hn : sumM s = -1 := by
   unfold sumM
   unfold headB at hh
   cases h : accM s 10 with
   | none => rfl
   | some a => rw [h] at hh; cases hh
  rw [hn]
  rfl
 | true =>
  have h0 : 0 ≤ sumM s := by
   unfold sumM
   unfold headB at hh
   cases h : accM s 10 with
   | none => rw [h] at hh; cases hh
   | some a => exact Int.tmod_nonneg 97 (accM_bd h (Nat.le_refl _)).1
  obtain ⟨n, hn⟩ := Int.eq_ofNat_of_zero_le h0
  rw [hn] at hb ⊢
  have h2 := ext_two ⟨a, ha⟩ ⟨b, hbb⟩ ⟨n, by omega⟩
  rw [decide_eq_true (show (0 : Int) ≤ (n : Int) by omega), Bool.true_and, Bool.true_and]
  unfold digB
  rw [Bool.eq_iff_iff]
  simp only [Bool.and_eq_true, decide_eq_true_eq]
  rw [show ((n : Int)).toNat = n from rfl]
  constructor
  ·intro h
   have := h2.1 h
   dsimp only at this
   omega
  ·intro h
   exact h2.2 (by dsimp only; omega)
theorem markB_short {s : ByteArray} (h : s.size ≠ 12) : markB s = false := by unfold markB; rw [decide_eq_false h]; rfl
theorem askByte_at {s : ByteArray} {x : Int} (i : Nat) {K : Int → Prop} (h : i < s.size) (e : x = i) (hk : ∀ z : Int, z = (s[i]'h).toNat → K z) : AskByte s x K := by
 subst e; exact askByte_nI h hk
theorem rright_body (P : Program) (hh : FnOk P 154 (StrC (fun _ => True) headB)) (hd : FnOk P 125 (ByC digB)) (hs : FnOk P 155 SumC) : BodyOk P x143 (StrC (fun _ => True) markB) := by
 intro args H K hc; obtain ⟨s, rfl, rfl, hp, hK⟩ := hc; refine ⟨nb9, ?_⟩; dsimp only at hp hK ⊢
 obtain ⟨q, hq⟩ : ∃ x, x = (sumM s) := ⟨_, rfl⟩
 obtain ⟨hb, hhb⟩ : ∃ x, x = (headB s) := ⟨_, rfl⟩
 by_cases h12 : s.size = 12
 rotate_left
 ·cbv; repeat' ((first | refine .n fun h => ?_ | refine .k fun z hz => ?_ | fail) <;> cbv)
  exact FinK.mk ⟨_, Gh.refl _, .inl (.v9 (K_bl hK (by (exact (markB_short h12).symm))))⟩
 have hm := markB_ref h12
 rw [← hq, ← hhb] at hm
 have h10 : 10 < s.size := by omega
 have h11 : 11 < s.size := by omega
 obtain ⟨A, hA⟩ : ∃ x : Int, x = ((s[10]'h10).toNat : Int) := ⟨_, rfl⟩
 obtain ⟨B, hB⟩ : ∃ x : Int, x = ((s[11]'h11).toNat : Int) := ⟨_, rfl⟩
 rw [← hA, ← hB] at hm
 cbv; repeat' ((first | refine .y fun h => ?_ | refine .k fun z hz => ?_ | fail) <;> cbv)
 (refine c09 hh s trivial ?_; try dsimp only)
 rw [← hhb]
 cases hb with
 | false =>
  cbv
  exact FinK.mk ⟨_, Gh.refl _, .inl (.v9 (K_bl hK (by (rw [hm]; rfl))))⟩
 | true =>
  cbv
  refine askByte_at 10 h10 rfl fun a ha => ?_
  obtain rfl : a = A := ha.trans hA.symm
  have ha0 : 0 ≤ a ∧ a ≤ 255 := by have := UInt8.toNat_lt (s[10]'h10); omega
  cbv
  (refine c09 hd a trivial ?_; try dsimp only)
  cases h1 : digB a with
  | false =>
   rw [h1] at hm
   cbv
   exact FinK.mk ⟨_, Gh.refl _, .inl (.v9 (K_bl hK (by (rw [hm]; rfl))))⟩
  | true =>
   rw [h1] at hm
   cbv
   refine askByte_at 11 h11 rfl fun b hb => ?_
   obtain rfl : b = B := hb.trans hB.symm
   have hb0 : 0 ≤ b ∧ b ≤ 255 := by have := UInt8.toNat_lt (s[11]'h11); omega
   cbv
   (refine c09 hd b trivial ?_; try dsimp only)
   cases h2 : digB b with
   | false =>
    rw [h2] at hm
    cbv
    exact FinK.mk ⟨_, Gh.refl _, .inl (.v9 (K_bl hK (by (rw [hm]; rfl))))⟩
   | true =>
    rw [h2] at hm
    cbv
    refine askByte_at 10 h10 rfl fun a2 ha2 => ?_
    obtain rfl : a = a2 := ha.trans ha2.symm
    cbv; repeat' ((first | refine .k fun z hz => ?_ | refine .o ?_ | fail) <;> cbv)
    refine askByte_at 11 h11 rfl fun b2 hb2 => ?_
    obtain rfl : b = b2 := hb.trans hb2.symm
    cbv; repeat' ((first | refine .k fun z hz => ?_ | refine .o ?_ | fail) <;> cbv)
    (refine c09 hs s trivial ?_; try dsimp only)
    rw [← hq]
    cbv; repeat' ((first | refine .mk (fun h => ?_) fun h => ?_ | fail) <;> cbv)
    ·exact FinK.mk ⟨_, Gh.refl _, .inl (.v9 (K_bl hK (by (rw [show markB s = decide (q = 10 * (a - 48) + b - 48) from hm, decide_eq_true (by omega)]))))⟩
    ·exact FinK.mk ⟨_, Gh.refl _, .inl (.v9 (K_bl hK (by (rw [show markB s = decide (q = 10 * (a - 48) + b - 48) from hm, decide_eq_false (by omega)]))))⟩
section
variable {x1 x2 : Int} {K : Int → Prop}
theorem ArrK.o {n : Nat} {K : Prop} (k : K) (d : 0 ≤ x1 ∧ x1 < n := by (try simp only [vn] at *) <;> omega) : ArrK n x1 K := ⟨d, k⟩
theorem IdxH.o {n : Nat} {K : Nat → Prop} (k : K x1.toNat) (d : 0 ≤ x1 ∧ x1 < n := by (try simp only [vn] at *) <;> omega) : IdxH n x1 K := ⟨d, k⟩
theorem MksK.zl {bytes : Nat} {x : AV} {K : List AV → Prop} (k : ∀ zs, zs = List.replicate x1.toNat x → zs.length = x1.toNat → K zs) (d : 0 ≤ x1 ∧ x1 ≤ x2 ∧ x2 ≤ maxLen ∧ bytes * x2 ≤ 140737488355328 := by (try simp only [vn] at *) <;> (try unfold maxLen) <;> omega) : MksK x1 x2 bytes x K :=
 ⟨d, fun zs h => k zs h (by rw [h, List.length_replicate])⟩
end
theorem Gh.viewT {M : Nat} {st : St} : Gh M st ⟨st.T.map fun p => (p.1, st.view p.2), st.H⟩ := fun C a w r pub _ h => by
 refine ⟨r, pub, h.mod, h.own, h.fr, fun n => ?_, h.defers, h.size, h.stab, h.low⟩
 have hs := h.slots n
 have e : ∀ T : List (Nat × AV), tget (T.map fun p => (p.1, st.view p.2)) n = st.view (tget T n) := fun T => by
  induction T with
  | nil => rfl
  | cons p T ih =>
   obtain ⟨m, x⟩ := p
   show (if m = n then st.view x else tget (T.map fun p => (p.1, st.view p.2)) n) = st.view (if m = n then x else tget T n)
   split
   ·rfl
   ·exact ih
 dsimp only
 rw [e]
 exact h.view hs
theorem Gh.viewE {M : Nat} {st : St} (q : Nat) {t : TypeId} {cs : List AV} (hq : st.H[q]? = some (.blk t cs)) : Gh M st ⟨st.T, st.H.set q (.blk t (cs.map st.view1))⟩ := fun C a w r pub _ h => by
 obtain ⟨b, arr, hr, hb, hc, hp⟩ := h.ent_blk hq
 refine ⟨r, pub, h.mod.set hr (Fr.refl (fun _ => False) _ _) (fun _ h => h.elim) h.mod.fresh h.mod.there (.blk hb ⟨by rw [List.length_map]; exact hc.len, fun i x u hx hu => ?_⟩ hp), h.own, h.fr, h.slots, h.defers, h.size, h.stab, h.low.1, by simpa using h.low.2⟩
 rw [List.getElem?_map] at hx
 cases hy : cs[i]? with
 | none => rw [hy] at hx; cases hx
 | some y => rw [hy] at hx; cases hx; exact h.view1 (hc.at_ i y u hy hu)
section
variable {α : Type} {f : α → PEl} {L : List α}
theorem LenP.k {K : Int → Prop} (k : ∀ z : Int, z = (L.length : Int) → K z) : LenP (mapA f L) K := ⟨fun z hz => k z (by rw [hz, mapA_len])⟩
def atS (key : α → ByteArray) (L : List α) (s : ByteArray) : Option Nat := L.findIdx? fun a => decide (key a = s)
theorem atS_some {key : α → ByteArray} {L : List α} {s : ByteArray} {i : Nat} (h : atS key L s = some i) : ∃ a, L[i]? = some a ∧ key a = s := by
 unfold atS at h
 rw [List.findIdx?_eq_some_iff_getElem] at h
 obtain ⟨hi, h1, _⟩ := h
 exact ⟨L[i], List.getElem?_eq_getElem hi, by simpa using h1⟩
theorem atS_none {key : α → ByteArray} {L : List α} {s : ByteArray} (h : atS key L s = none) : ∀ a ∈ L, key a ≠ s := by
 unfold atS at h
 rw [List.findIdx?_eq_none_iff] at h
 intro a ha e
 have := h a ha
 simp [e] at this
theorem findL_str (key : α → ByteArray) (hf : ∀ a, (f a).1 = .str (key a)) (s : ByteArray) : ∀ (L : List α) (i : Nat), findL (.str s) ((mapA f L).map (·.1)) i = some ((atS key L s).map (· + i))
 | [], i => rfl
 | x :: L, i => by
  have e : (mapA f (x :: L)).map (·.1) = (f x).1 :: (mapA f L).map (·.1) := rfl
  rw [e, hf x]
  unfold findL atS
  rw [List.findIdx?_cons]
  by_cases h : key x = s
  ·have h2 : keyIs (.str s) (.str (key x)) = some true := congrArg some ((MapKept.bytes_beq _ _).2 h.symm)
   simp only [h2]
   simp [h]
  ·have h3 : ¬ s = key x := fun e => h e.symm
   have h2 : keyIs (.str s) (.str (key x)) = some false := congrArg some (Bool.eq_false_iff.2 fun hb => h3 ((MapKept.bytes_beq _ _).1 hb))
   simp only [h2, findL_str key hf s L (i + 1), h, decide_false, Bool.false_eq_true, if_false, Option.map_map, atS]
   congr 1
   cases (L.findIdx? fun a => decide (key a = s)) with
   | none => rfl
   | some n => simp; omega
theorem poolK_in (key : α → ByteArray) (hf : ∀ a, (f a).1 = .str (key a)) {s : ByteArray} {Kin : Nat → AV → List Ent → Prop} {Kout : AV → Prop} {Kno : Unit → Prop} (h : ∀ i y, atS key L s = some i → L[i]? = some y → key y = s → Kin i (f y).2.1 (f y).2.2) (hn : atS key L s = none → Kno ()) :
  PoolK (.str s) (mapA f L) [] Kin Kout Kno := by
 refine ⟨?_⟩
 have hfl := findL_str (f := f) key hf s L 0
 cases ha : atS key L s with
 | none => rw [ha] at hfl; exact .inr (.inr ⟨hfl, hn ha⟩)
 | some i =>
  rw [ha] at hfl
  obtain ⟨y, hy, hk⟩ := atS_some ha
  exact .inl ⟨i, (f y).1, (f y).2.1, (f y).2.2, hfl, by rw [mapA_eq, List.getElem?_map, hy]; rfl, by simp, h i y ha hy hk⟩
theorem pupK_new (key : α → ByteArray) (hf : ∀ a, (f a).1 = .str (key a)) {s : ByteArray} {outs : List (Nat × AV)} {v : AV} {K : List PEl → List (Nat × AV) → Prop} (ha : atS key L s = none) (h : K (mapA f L ++ [(.str s, .any, [])]) ((L.length, v) :: outs)) :
  PupK (.str s) (mapA f L) outs v K := by
 have hfl := findL_str (f := f) key hf s L 0
 rw [ha] at hfl
 exact ⟨.inl ⟨hfl, fun es' n h1 h2 => by rw [mapA_len] at h2; subst h1 h2; exact h⟩⟩
theorem nxtK_in {since : Nat} {seen : List Nat} {K : Nat → AV → AV → List Ent → Prop} {D : Unit → Prop} (hs : since = L.length) (h : ∀ i y, L[i]? = some y → i ∉ seen → K i (f y).1 (f y).2.1 (f y).2.2) (hd : (∀ i, i < L.length → i ∈ seen) → D ()) : NxtK (mapA f L) since seen K D := by
 refine ⟨by rw [mapA_len]; exact hs, fun i k hd' l he hn => ?_, fun h => hd fun i hi => h i (by rw [mapA_len]; exact hi)⟩
 rw [mapA_eq, List.getElem?_map] at he
 cases hy : L[i]? with
 | none => rw [hy] at he; cases he
 | some y =>
  rw [hy] at he
  have := h i y hy hn
  simp only [Option.map_some, Option.some.injEq] at he
  rw [he] at this
  exact this
theorem entK_in {since i : Nat} {seen : List Nat} {x : AV} {y : α} {K : AV → AV → Prop} (hs : since = L.length) (hy : L[i]? = some y) (h : K (f y).1 x) : EntK (mapA f L) [(i, x)] since (seen ++ [i]) K :=
 ⟨i, (f y).1, x, by rw [mapA_len]; exact hs, by simp, by rw [mapA_eq, List.getElem?_map, hy]; rfl, by simp, h⟩
theorem Gh.back {M : Nat} {st : St} (k : Nat) (sel : List Nat) (f : α → PEl) {L : List α} {i : Nat} {y0 : α} (y : α) {t : TypeId} {x : AV} (hk : st.H[k]? = some (.pool t (mapA f L) [(i, x)])) (hy : L[i]? = some y0) (hkey : (f y0).1 = (f y).1 := by rfl)
  (hx : x = (f y).2.1.ren sel 0 := by rfl) (hH : sel.map (fun q => st.H[q]?) = (renH sel 0 (f y).2.2).map some := by rfl) (hnd : sel.Nodup := by decide) (hsel : sel.all (fun q => Nat.ble M q && q != k) = true := by decide) (hb : (f y).2.1.bnd sel.length = true := by rfl) (hbH : bndH sel.length (f y).2.2 = true := by rfl) (hpl : (f y).2.2.all plainE = true := by rfl) :
  Gh M st ⟨killTs st.T sel, dieH (killHs (st.H.set k (.pool t (mapA f (L.set i y)) [])) sel) sel⟩ := by
 have h := Gh.putIn (M := M) (st := st) k 0 sel (f y).2.1 (f y).2.2 (x := x) (i := i) (key := (f y0).1) hk rfl (by simp) (by rw [mapA_eq, List.getElem?_map, hy]; rfl) hx hH hnd hsel hb hbH hpl
 have e : (mapA f L).set i ((f y0).1, (f y).2.1, (f y).2.2) = mapA f (L.set i y) := by
  rw [hkey]
  show (mapA f L).set i (f y) = _
  rw [mapA_eq, mapA_eq, List.map_set]
 rw [e] at h
 exact h
theorem set_same {L : List α} {i : Nat} {y : α} (hy : L[i]? = some y) : L.set i y = L := by
 obtain ⟨h, rfl⟩ := List.getElem?_eq_some_iff.1 hy
 exact List.set_getElem_self h
theorem Gh.back0 {M : Nat} {st : St} (k : Nat) (sel : List Nat) (f : α → PEl) {L : List α} {i : Nat} {y : α} {t : TypeId} {x : AV} (hk : st.H[k]? = some (.pool t (mapA f L) [(i, x)])) (hy : L[i]? = some y)
  (hx : x = (f y).2.1.ren sel 0 := by rfl) (hH : sel.map (fun q => st.H[q]?) = (renH sel 0 (f y).2.2).map some := by rfl) (hnd : sel.Nodup := by decide) (hsel : sel.all (fun q => Nat.ble M q && q != k) = true := by decide) (hb : (f y).2.1.bnd sel.length = true := by rfl) (hbH : bndH sel.length (f y).2.2 = true := by rfl) (hpl : (f y).2.2.all plainE = true := by rfl) :
  Gh M st ⟨killTs st.T sel, dieH (killHs (st.H.set k (.pool t (mapA f L) [])) sel) sel⟩ := by
 have h := Gh.back k sel f y hk hy rfl hx hH hnd hsel hb hbH hpl
 rw [set_same hy] at h
 exact h
theorem Gh.backN {M : Nat} {st : St} (k : Nat) (sel : List Nat) (f : α → PEl) {L : List α} (y : α) {key : AV} {t : TypeId} {x : AV} (hk : st.H[k]? = some (.pool t (mapA f L ++ [(key, .any, [])]) [(L.length, x)])) (hkey : (f y).1 = key := by rfl)
  (hx : x = (f y).2.1.ren sel 0 := by rfl) (hH : sel.map (fun q => st.H[q]?) = (renH sel 0 (f y).2.2).map some := by rfl) (hnd : sel.Nodup := by decide) (hsel : sel.all (fun q => Nat.ble M q && q != k) = true := by decide) (hb : (f y).2.1.bnd sel.length = true := by rfl) (hbH : bndH sel.length (f y).2.2 = true := by rfl) (hpl : (f y).2.2.all plainE = true := by rfl) :
  Gh M st ⟨killTs st.T sel, dieH (killHs (st.H.set k (.pool t (mapA f (L ++ [y])) [])) sel) sel⟩ := by
 have hl : (mapA f L).length = L.length := mapA_len f L
 have h := Gh.putIn (M := M) (st := st) k 0 sel (f y).2.1 (f y).2.2 (x := x) (i := L.length) (key := key) hk rfl (by simp) (by rw [List.getElem?_append_right (by omega)]; simp [hl]) hx hH hnd hsel hb hbH hpl
 have e : (mapA f L ++ [(key, AV.any, [])]).set L.length (key, (f y).2.1, (f y).2.2) = mapA f (L ++ [y]) := by
  rw [List.set_append_right _ _ (by omega), hl, Nat.sub_self, mapA_app, mapA_one, ← hkey]
  rfl
 rw [e] at h
 exact h
end
structure Edm where
 frm : ByteArray
 to : ByteArray
 kind : Int
 day : Int
structure Bl where
 number : ByteArray
 carrier : ByteArray
 shipper : ByteArray
 frm : ByteArray
 to : ByteArray
 boxes : List ByteArray
 parents : List ByteArray
 issued : Int
 clean : Bool
structure Og where
 state : Int
 holder : ByteArray
 chain : List Edm
structure Br where
 b : Bl
 st : Int
 o0 : Og
 o1 : Og
 o2 : Og
structure Rg where
 carrier : ByteArray
 bills : List Br
def EdA : Edm → AV
 | ⟨f, t, k, d⟩ => .agg [.str f, .str t, .i k, .i d]
def BlL : Bl → List AV
 | ⟨number, carrier, shipper, frm, to, boxes, parents, issued, clean⟩ => [.str number, .str carrier, .str shipper, .str frm, .str to, .sl 1 (mapA .str boxes), .sl 1 (mapA .str parents), .i issued, .bl clean]
def BlA (b : Bl) : AV := .agg (BlL b)
def EntC : Br → List Ent
 | ⟨⟨number, carrier, shipper, frm, to, boxes, parents, issued, clean⟩, st, ⟨sa, ha, ca⟩, ⟨sb, hb, cb⟩, ⟨sc, hc, cc⟩⟩ =>
  [.blk 86 [.str number, .str carrier, .str shipper, .str frm, .str to, .sl 1 (mapA .str boxes), .sl 1 (mapA .str parents), .i issued, .bl clean, .i st, .i sa, .str ha, .hd 1, .i sb, .str hb, .hd 2, .i sc, .str hc, .hd 3],
   .tip 131 4 (mapA EdA ca), .tip 131 4 (mapA EdA cb), .tip 131 4 (mapA EdA cc)]
def PelA (b : Br) : PEl := (.str b.b.number, .ptr 0 0, EntC b)
def RegH (R : Rg) : List Ent := [.blk 79 [.str R.carrier, .ph 1], .pool 77 (mapA PelA R.bills) []]
def bAt (L : List Br) (s : ByteArray) : Option Nat := atS (fun b : Br => b.b.number) L s
def stateM (L : List Br) (s : ByteArray) : Int := match bAt L s with
 | some i => match L[i]? with
  | some b => b.st
  | none => -1
 | none => -1
def NewC : Ctr := spec (fun s : ByteArray => [.str s]) (fun _ => []) (fun _ => True) (fun _ => .ptr 0 0) fun s => RegH ⟨s, []⟩
theorem new_body (P : Program) : BodyOk P x31 NewC := by
 intro args H K hc; obtain ⟨s, rfl, rfl, hp, hK⟩ := hc; refine ⟨nb9, ?_⟩; dsimp only at hp hK ⊢
 cbv
 exact FinK.mk ⟨_, Gh.refl _, .inl (CutK.sel [1, 0] (RegH ⟨s, []⟩) (.ptr 0 0) (by rfl) (by rfl) (by decide) (by rfl) nb9 (by rfl) (by rfl) (Le.refl _) (LeH.refl _) hK)⟩
def StateC : Ctr := spec (fun i : Rg × ByteArray => [.ptr 0 0, .str i.2]) (fun i => RegH i.1) (fun _ => True) (fun i => .i (stateM i.1.bills i.2)) fun i => RegH i.1
theorem state_body (P : Program) : BodyOk P x17 StateC := by
 intro args H K hc
 obtain ⟨⟨⟨carrier, L⟩, s⟩, rfl, rfl, _, hK⟩ := hc
 refine ⟨nb9, ?_⟩
 dsimp only at hK ⊢
 cbv
 refine poolK_in (fun b : Br => b.b.number) (fun _ => rfl) (fun i y hai hy hky => ?_) (fun hai => ?_) <;> dsimp only at *
 ·obtain ⟨⟨nq1, cq1, sq1, frm1, to1, bq1, pq1, iq1, lq1⟩, st1, ⟨sa1, ha1, ca1⟩, ⟨sb1, hb1, cb1⟩, ⟨sc1, hc1, cc1⟩⟩ := y
  cbv
  (refine .r9 (Gh.back0 1 [2, 3, 4, 5] PelA rfl hy) ?_; cbv; exact .inl (.f9 (K_i hK (by unfold stateM bAt; rw [hai]; dsimp only; rw [hy]))))
 ·cbv
  (refine .r9 (Gh.refl _) ?_; cbv; exact .inl (.f9 (K_i hK (by unfold stateM bAt; rw [hai]))))
def CloneC (sz bytes : Nat) : Ctr := spec (fun xs : List AV => [.sl sz xs]) (fun _ => []) (fun xs => xs.length ≤ maxLen ∧ xs.length * bytes ≤ 140737488355328) (fun xs => .sl sz xs) fun _ => []
def CloneR (t sz bytes : Nat) : Ctr := spec (fun xs : List AV => [.sl sz xs]) (fun _ => []) (fun xs => xs.length ≤ maxLen ∧ xs.length * bytes ≤ 140737488355328) (fun _ => .hd 0) fun xs => [.row t sz xs]
theorem cloneS_body (P : Program) : BodyOk P x84 (CloneC 1 16) := by
 intro args H K hc
 obtain ⟨xs, rfl, rfl, ⟨h1, h2⟩, hK⟩ := hc
 refine ⟨nb9, ?_⟩
 dsimp only at h1 h2 hK ⊢
 cbv; repeat' ((first | refine .zl fun zs hzs hzl => ?_ | refine .mk (fun h => ?_) ?_ | fail) <;> cbv)
 ·subst h
  exact ⟨⟨_, Gh.refl _, .inl (CutK.val rfl (.one (.one (.nil _))) hK)⟩⟩
 ·have hzs : zs = xs := hzs
  subst hzs
  exact ⟨⟨_, Gh.publish 0 rfl, .inr (.v9 hK)⟩⟩
theorem cloneE_body (P : Program) : BodyOk P x102 (CloneC 4 48) := by
 intro args H K hc
 obtain ⟨xs, rfl, rfl, ⟨h1, h2⟩, hK⟩ := hc
 refine ⟨nb9, ?_⟩
 dsimp only at h1 h2 hK ⊢
 cbv; repeat' ((first | refine .zl fun zs hzs hzl => ?_ | refine .mk (fun h => ?_) ?_ | fail) <;> cbv)
 ·subst h
  exact ⟨⟨_, Gh.refl _, .inl (CutK.val rfl (.one (.one (.nil _))) hK)⟩⟩
 ·have hzs : zs = xs := hzs
  subst hzs
  exact ⟨⟨_, Gh.publish 0 rfl, .inr (.v9 hK)⟩⟩
theorem cloneER_body (P : Program) : BodyOk P x102 (CloneR 131 4 48) := by
 intro args H K hc
 obtain ⟨xs, rfl, rfl, ⟨h1, h2⟩, hK⟩ := hc
 refine ⟨nb9, ?_⟩
 dsimp only at h1 h2 hK ⊢
 cbv; repeat' ((first | refine .zl fun zs hzs hzl => ?_ | refine .mk (fun h => ?_) ?_ | fail) <;> cbv)
 ·subst h
  exact ⟨⟨_, Gh.adopt 2 131 4 rfl, .inl (CutK.pre [.row 131 4 []] rfl (Nat.zero_le _) rfl rfl (Le.refl _) (LeH.refl _) hK)⟩⟩
 ·have hzs : zs = xs := hzs
  subst hzs
  exact ⟨⟨_, Gh.refl _, .inl (CutK.pre [.row 131 4 zs] rfl (Nat.zero_le _) rfl rfl (Le.refl _) (LeH.refl _) hK)⟩⟩
def okB (b : Bl) : Prop := b.boxes.length ≤ 5000 ∧ b.parents.length ≤ 5000
def CopyBC : Ctr := spec (fun b : Bl => [BlA b]) (fun _ => []) okB (fun b => BlA b) fun _ => []
theorem copyBill_body (P : Program) (hc1 : FnOk P 84 (CloneC 1 16)) : BodyOk P x35 CopyBC := by
 intro args H K hc
 obtain ⟨⟨number, carrier, shipper, frm, to, boxes, parents, issued, clean⟩, rfl, rfl, ⟨h1, h2⟩, hK⟩ := hc
 refine ⟨nb9, ?_⟩
 dsimp only at h1 h2 hK ⊢
 cbv
 (refine c09 hc1 _ ⟨by rw [mapA_len]; unfold maxLen; omega, by rw [mapA_len]; omega⟩ ?_; try dsimp only)
 cbv
 (refine c09 hc1 _ ⟨by rw [mapA_len]; unfold maxLen; omega, by rw [mapA_len]; omega⟩ ?_; try dsimp only)
 cbv
 (refine .r9 (Gh.refl _) ?_; cbv; exact .inl (.f9 hK))
structure OkR (R : Rg) : Prop where
 few : R.bills.length ≤ 256
 bills : ∀ b ∈ R.bills, okB b.b
 chains : ∀ b ∈ R.bills, b.o0.chain.length ≤ 4096 ∧ b.o1.chain.length ≤ 4096 ∧ b.o2.chain.length ≤ 4096
def zeroB : Bl := ⟨⟨#[]⟩, ⟨#[]⟩, ⟨#[]⟩, ⟨#[]⟩, ⟨#[]⟩, [], [], 0, false⟩
def getM (L : List Br) (s : ByteArray) : Bl × Bool := match bAt L s with
 | some i => match L[i]? with
  | some b => (b.b, true)
  | none => (zeroB, false)
 | none => (zeroB, false)
theorem getM_some {L : List Br} {s : ByteArray} {i : Nat} {y : Br} (h : bAt L s = some i) (hy : L[i]? = some y) : getM L s = (y.b, true) := by unfold getM; rw [h]; dsimp only; rw [hy]
theorem getM_none {L : List Br} {s : ByteArray} (h : bAt L s = none) : getM L s = (zeroB, false) := by unfold getM; rw [h]
def GetC : Ctr := spec (fun i : Rg × ByteArray => [.ptr 0 0, .str i.2]) (fun i => RegH i.1) (fun i => OkR i.1) (fun i => .tup [BlA (getM i.1.bills i.2).1, .bl (getM i.1.bills i.2).2]) fun i => RegH i.1
theorem get_body (P : Program) (hcp : FnOk P 35 CopyBC) : BodyOk P x13 GetC := by
 intro args H K hc; obtain ⟨⟨⟨carrier, L⟩, s⟩, rfl, rfl, hp, hK⟩ := hc; refine ⟨nb9, ?_⟩; dsimp only at hp hK ⊢
 have hob := hp.bills
 dsimp only at hob
 cbv
 refine poolK_in (fun b : Br => b.b.number) (fun _ => rfl) (fun i y hai hy hky => ?_) (fun hai => ?_) <;> dsimp only at *
 ·rw [getM_some hai hy] at hK
  have ho := hob y (List.mem_of_getElem? hy)
  obtain ⟨⟨nq1, cq1, sq1, frm1, to1, bq1, pq1, iq1, lq1⟩, st1, ⟨sa1, ha1, ca1⟩, ⟨sb1, hb1, cb1⟩, ⟨sc1, hc1, cc1⟩⟩ := y
  cbv
  (refine c09 hcp ⟨nq1, cq1, sq1, frm1, to1, bq1, pq1, iq1, lq1⟩ ho ?_; try dsimp only)
  cbv
  (refine .r9 (Gh.back0 1 [3, 4, 5, 6] PelA rfl hy) ?_; cbv; exact .inl (.f9 hK))
 ·rw [getM_none hai] at hK
  cbv
  (refine .r9 (Gh.refl _) ?_; cbv; exact .inl (.g9 hK))
set_option maxHeartbeats 2000000
structure Ak where
 bill : ByteArray
 index : Int
 least : Int
 by_ : ByteArray
 state : Int
 day : Int
 dated : Bool
 wrong : Bool
def AkL : Ak → List AV
 | ⟨bill, index, least, by_, state, day, dated, wrong⟩ => [.str bill, .i index, .i least, .str by_, .i state, .i day, .bl dated, .bl wrong]
def OgA : Og → AV
 | ⟨s, h, c⟩ => .agg [.i s, .str h, .sl 4 (mapA EdA c)]
def lastM (o : Og) (issued : Int) : Int := match o.chain.getLast? with
 | some e => e.day
 | none => issued
def LastC : Ctr := spec (fun i : Og × Int => [OgA i.1, .i i.2]) (fun _ => []) (fun i => i.1.chain.length ≤ 5000) (fun i => .i (lastM i.1 i.2)) fun _ => []
theorem last_body (P : Program) : BodyOk P x113 LastC := by
 intro args H K hc; obtain ⟨⟨⟨s, h, c⟩, issued⟩, rfl, rfl, hp, hK⟩ := hc; refine ⟨nb9, ?_⟩; dsimp only at hp hK ⊢
 have hd : lastM ⟨s, h, c⟩ issued = match c.getLast? with
  | some e => e.day
  | none => issued := rfl
 obtain ⟨q, hq⟩ : ∃ x, x = (lastM ⟨s, h, c⟩ issued) := ⟨_, rfl⟩
 rw [← hq] at hK hd
 cbv; repeat' ((first | refine .mk (fun h => ?_) fun h => ?_ | refine .k fun z hz => ?_ | fail) <;> cbv)
 ·have e0 : c = [] := List.eq_nil_of_length_eq_zero om9
  exact FinK.mk ⟨_, Gh.refl _, .inl (.v9 (K_i hK (by (rw [hd, e0]; rfl))))⟩
 ·refine askEl_int om9 om9 fun i l hi hl => ?_
  obtain ⟨f, t, k, d⟩ := l
  cbv
  have hlast : c.getLast? = some ⟨f, t, k, d⟩ := by
   rw [List.getLast?_eq_getElem?]
   rw [show c.length - 1 = i by exact om9]
   exact hl
  exact FinK.mk ⟨_, Gh.refl _, .inl (.v9 (K_i hK (by (rw [hd, hlast]))))⟩
def hitB (idx : Int) (k : Int) : Bool := decide (idx = -1) || decide (idx = k)
def some3 (idx : Int) (b : Br) (p : Og → Bool) : Bool := (hitB idx 0 && p b.o0) || ((hitB idx 1 && p b.o1) || (hitB idx 2 && p b.o2))
def chOk (b : Br) : Prop := b.o0.chain.length ≤ 4500 ∧ b.o1.chain.length ≤ 4500 ∧ b.o2.chain.length ≤ 4500
def pState (a : Ak) (o : Og) : Bool := !decide (o.state = a.state)
def pHolder (a : Ak) (o : Og) : Bool := !decide (o.holder = a.by_)
def pFull (who : ByteArray) (o : Og) : Bool := !decide (o.state = 0) || !decide (o.holder = who)
def pOf (who : ByteArray) (o : Og) : Bool := decide (o.state = 0) && decide (o.holder = who)
def pDay (b : Br) (a : Ak) (o : Og) : Bool := decide (a.day < lastM o b.b.issued)
def CloA (p : Ak → Og → Bool) : Ctr := spec (fun i : Og × Ak => [OgA i.1, .ptr 0 0]) (fun i => [.blk 128 (AkL i.2)]) (fun _ => True) (fun i => .bl (p i.2 i.1)) fun i => [.blk 128 (AkL i.2)]
def CloW (p : ByteArray → Og → Bool) : Ctr := spec (fun i : Og × ByteArray => [OgA i.1, .ptr 0 0]) (fun i => [.blk 9 [.str i.2]]) (fun _ => True) (fun i => .bl (p i.2 i.1)) fun i => [.blk 9 [.str i.2]]
def AskH (b : Br) (a : Ak) : List Ent := [.blk 128 (AkL a), .blk 76 [.ptr 2 0]] ++ renH [] 2 (EntC b)
def CloE : Ctr := spec (fun i : Og × Br × Ak => [OgA i.1, .ptr 0 0, .ptr 1 0]) (fun i => AskH i.2.1 i.2.2) (fun i => i.1.chain.length ≤ 5000) (fun i => .bl (pDay i.2.1 i.2.2 i.1)) fun i => AskH i.2.1 i.2.2
theorem c41_body (P : Program) : BodyOk P x108 (CloA pState) := by
 intro args H K hc; obtain ⟨⟨⟨s, hl, c⟩, ⟨bill, index, least, by_, state, day, dated, wrong⟩⟩, rfl, rfl, hp, hK⟩ := hc; refine ⟨nb9, ?_⟩; dsimp only at hp hK ⊢
 unfold pState at hK
 dsimp only at hK
 cbv; repeat' ((first | refine .mk (fun h => ?_) fun h => ?_ | fail) <;> cbv)
 ·(refine .r9 (Gh.refl _) ?_; cbv; exact .inl (.f9 (K_bl hK (by rw [decide_eq_true h]; rfl))))
 ·(refine .r9 (Gh.refl _) ?_; cbv; exact .inl (.f9 (K_bl hK (by rw [decide_eq_false h]; rfl))))
theorem c51_body (P : Program) : BodyOk P x110 (CloA pHolder) := by
 intro args H K hc; obtain ⟨⟨⟨s, hl, c⟩, ⟨bill, index, least, by_, state, day, dated, wrong⟩⟩, rfl, rfl, hp, hK⟩ := hc; refine ⟨nb9, ?_⟩; dsimp only at hp hK ⊢
 unfold pHolder at hK
 dsimp only at hK
 cbv; repeat' ((first | refine .mk (fun h => ?_) fun h => ?_ | fail) <;> cbv)
 ·(refine .r9 (Gh.refl _) ?_; cbv; exact .inl (.f9 (K_bl hK (by rw [decide_eq_true h]; rfl))))
 ·(refine .r9 (Gh.refl _) ?_; cbv; exact .inl (.f9 (K_bl hK (by rw [decide_eq_false h]; rfl))))
theorem full1_body (P : Program) : BodyOk P x37 (CloW pFull) := by
 intro args H K hc; obtain ⟨⟨⟨s, hl, c⟩, who⟩, rfl, rfl, hp, hK⟩ := hc; refine ⟨nb9, ?_⟩; dsimp only at hp hK ⊢
 unfold pFull at hK
 dsimp only at hK
 cbv; repeat' ((first | refine .mk (fun h => ?_) fun h => ?_ | fail) <;> cbv)
 all_goals (refine .r9 (Gh.refl _) ?_; cbv; exact .inl (.f9 (K_bl hK (by simp [*]))))
theorem of11_body (P : Program) : BodyOk P x100 (CloW pOf) := by
 intro args H K hc; obtain ⟨⟨⟨s, hl, c⟩, who⟩, rfl, rfl, hp, hK⟩ := hc; refine ⟨nb9, ?_⟩; dsimp only at hp hK ⊢
 unfold pOf at hK
 dsimp only at hK
 cbv; repeat' ((first | refine .mk (fun h => ?_) fun h => ?_ | fail) <;> cbv)
 all_goals (refine .r9 (Gh.refl _) ?_; cbv; exact .inl (.f9 (K_bl hK (by simp [*]))))
theorem hitB_not {idx k : Int} (h : idx ≠ -1) (h2 : idx ≠ k) : hitB idx k = false := by unfold hitB; rw [decide_eq_false h, decide_eq_false h2]; rfl
theorem c61_body (P : Program) (hlast : FnOk P 113 LastC) : BodyOk P x112 CloE := by
 intro args H K hc
 obtain ⟨⟨⟨s, hl, c⟩, y, ⟨bill, index, least, by_, state, day, dated, wrong⟩⟩, rfl, rfl, hp, hK⟩ := hc
 obtain ⟨⟨nq1, cq1, sq1, frm1, to1, bq1, pq1, iq1, lq1⟩, st1, ⟨sa1, ha1, ca1⟩, ⟨sb1, hb1, cb1⟩, ⟨sc1, hc1, cc1⟩⟩ := y
 refine ⟨nb9, ?_⟩
 dsimp only at hp hK ⊢
 unfold pDay at hK
 dsimp only at hK
 obtain ⟨q, hq⟩ : ∃ x, x = (lastM ⟨s, hl, c⟩ iq1) := ⟨_, rfl⟩
 rw [← hq] at hK
 cbv
 (refine c09 hlast (⟨s, hl, c⟩, iq1) hp ?_; try dsimp only)
 rw [← hq]
 cbv; repeat' ((first | refine .mk (fun h => ?_) fun h => ?_ | fail) <;> cbv)
 ·(refine .r9 (Gh.refl _) ?_; cbv; exact .inl (.f9 (K_bl hK (by simp [h]))))
 ·(refine .r9 (Gh.refl _) ?_; cbv; exact .inl (.f9 (K_bl hK (by simp; omega))))
def SomeA (f : Nat) (p : Ak → Og → Bool) : Ctr := spec (fun i : Br × Int × Ak => [.ptr 0 0, .i i.2.1, .clo f [.ptr 4 0]]) (fun i => EntC i.1 ++ [.blk 128 (AkL i.2.2)]) (fun i => chOk i.1) (fun i => .bl (some3 i.2.1 i.1 (p i.2.2))) fun i => EntC i.1 ++ [.blk 128 (AkL i.2.2)]
theorem someA_body (P : Program) (f : Nat) (p : Ak → Og → Bool) (hcl : MayCall P f) (hf : FnOk P f (CloA p)) : BodyOk P x36 (SomeA f p) := by
 intro args H K hc
 obtain ⟨⟨y, idx, ⟨bill, index, least, by_, state, day, dated, wrong⟩⟩, rfl, rfl, hp, hK⟩ := hc
 obtain ⟨⟨nq1, cq1, sq1, frm1, to1, bq1, pq1, iq1, lq1⟩, st1, ⟨sa1, ha1, ca1⟩, ⟨sb1, hb1, cb1⟩, ⟨sc1, hc1, cc1⟩⟩ := y
 refine ⟨nb9, ?_⟩
 obtain ⟨hp0, hp1, hp2⟩ := hp
 dsimp only at hp0 hp1 hp2 hK ⊢
 unfold some3 at hK
 dsimp only at hK
 obtain ⟨q0, hq0⟩ : ∃ q, q = p ⟨bill, index, least, by_, state, day, dated, wrong⟩ ⟨sa1, ha1, ca1⟩ := ⟨_, rfl⟩
 obtain ⟨q1, hq1⟩ : ∃ q, q = p ⟨bill, index, least, by_, state, day, dated, wrong⟩ ⟨sb1, hb1, cb1⟩ := ⟨_, rfl⟩
 obtain ⟨q2, hq2⟩ : ∃ q, q = p ⟨bill, index, least, by_, state, day, dated, wrong⟩ ⟨sc1, hc1, cc1⟩ := ⟨_, rfl⟩
 rw [← hq0, ← hq1, ← hq2] at hK
 cbv
 refine xloopG Gh.viewT ?_
 cbv
 refine xloopV [] (fun p : { k : Nat // k ≤ 3 ∧ (1 ≤ k → (hitB idx 0 && q0) = false) ∧ (2 ≤ k → (hitB idx 1 && q1) = false) ∧ (3 ≤ k → (hitB idx 2 && q2) = false) } => [(13, .i (nI p.1))]) (fun _ => EntC ⟨⟨nq1, cq1, sq1, frm1, to1, bq1, pq1, iq1, lq1⟩, st1, ⟨sa1, ha1, ca1⟩, ⟨sb1, hb1, cb1⟩, ⟨sc1, hc1, cc1⟩⟩ ++ [.blk 128 (AkL ⟨bill, index, least, by_, state, day, dated, wrong⟩)]) (fun p => lft 3 p.1) ⟨0, by decide, fun h => absurd h (by decide), fun h => absurd h (by decide), fun h => absurd h (by decide)⟩ ?_
 rintro ⟨k, hk, g0, g1, g2⟩
 dsimp only at hk g0 g1 g2 ⊢
 have hk4 : k = 0 ∨ k = 1 ∨ k = 2 ∨ k = 3 := by omega
 rcases hk4 with rfl | rfl | rfl | rfl
 rotate_right
 ·have e0 := g0 (by decide)
  have e1 := g1 (by decide)
  have e2 := g2 (by decide)
  cbv; repeat' ((first | refine .n fun h => ?_ | fail) <;> cbv)
  (refine .r9 (Gh.refl _) ?_; cbv; exact .inl (.f9 (K_bl hK (by rw [e0, e1, e2]; rfl))))
 ·cbv; repeat' ((first | refine .n fun h => ?_ | refine .y fun h => ?_ | refine .mk (fun h => ?_) fun h => ?_ | refine .k fun z hz => ?_ | refine .o ?_ | refine And.intro ?_ ?_ | fail) <;> cbv)
  ·exact hcl
  ·(refine cs9 hf (⟨sa1, ha1, ca1⟩, ⟨bill, index, least, by_, state, day, dated, wrong⟩) [4] trivial ?_; try dsimp only)
   rw [← hq0]
   cases q0 with
   | true =>
    cbv
    (refine .r9 (Gh.refl _) ?_; cbv; exact .inl (.f9 (K_bl hK (by simp [hitB, h]))))
   | false =>
    cbv; repeat' ((first | refine .k fun z hz => ?_ | fail) <;> cbv)
    obtain rfl : z = nI 1 := om9
    exact roundV ⟨1, by decide, fun _ => Bool.and_false _, fun h => absurd h (by decide), fun h => absurd h (by decide)⟩ (lft_lt (by decide))
  ·exact hcl
  ·(refine cs9 hf (⟨sa1, ha1, ca1⟩, ⟨bill, index, least, by_, state, day, dated, wrong⟩) [4] trivial ?_; try dsimp only)
   rw [← hq0]
   cases q0 with
   | true =>
    cbv
    (refine .r9 (Gh.refl _) ?_; cbv; exact .inl (.f9 (K_bl hK (by simp [hitB, h]))))
   | false =>
    cbv; repeat' ((first | refine .k fun z hz => ?_ | fail) <;> cbv)
    obtain rfl : z = nI 1 := om9
    exact roundV ⟨1, by decide, fun _ => Bool.and_false _, fun h => absurd h (by decide), fun h => absurd h (by decide)⟩ (lft_lt (by decide))
  ·obtain rfl : z = nI 1 := om9
   exact roundV ⟨1, by decide, fun _ => by rw [hitB_not om9 om9]; rfl, fun h => absurd h (by decide), fun h => absurd h (by decide)⟩ (lft_lt (by decide))
 ·cbv; repeat' ((first | refine .n fun h => ?_ | refine .y fun h => ?_ | refine .mk (fun h => ?_) fun h => ?_ | refine .k fun z hz => ?_ | refine .o ?_ | refine And.intro ?_ ?_ | fail) <;> cbv)
  ·exact hcl
  ·(refine cs9 hf (⟨sb1, hb1, cb1⟩, ⟨bill, index, least, by_, state, day, dated, wrong⟩) [4] trivial ?_; try dsimp only)
   rw [← hq1]
   cases q1 with
   | true =>
    cbv
    (refine .r9 (Gh.refl _) ?_; cbv; exact .inl (.f9 (K_bl hK (by simp [hitB, h]))))
   | false =>
    cbv; repeat' ((first | refine .k fun z hz => ?_ | fail) <;> cbv)
    obtain rfl : z = nI 2 := om9
    exact roundV ⟨2, by decide, fun _ => g0 (by decide), fun _ => Bool.and_false _, fun h => absurd h (by decide)⟩ (lft_lt (by decide))
  ·exact hcl
  ·(refine cs9 hf (⟨sb1, hb1, cb1⟩, ⟨bill, index, least, by_, state, day, dated, wrong⟩) [4] trivial ?_; try dsimp only)
   rw [← hq1]
   cases q1 with
   | true =>
    cbv
    (refine .r9 (Gh.refl _) ?_; cbv; exact .inl (.f9 (K_bl hK (by simp [hitB, h]))))
   | false =>
    cbv; repeat' ((first | refine .k fun z hz => ?_ | fail) <;> cbv)
    obtain rfl : z = nI 2 := om9
    exact roundV ⟨2, by decide, fun _ => g0 (by decide), fun _ => Bool.and_false _, fun h => absurd h (by decide)⟩ (lft_lt (by decide))
  ·obtain rfl : z = nI 2 := om9
   exact roundV ⟨2, by decide, fun _ => g0 (by decide), fun _ => by rw [hitB_not om9 om9]; rfl, fun h => absurd h (by decide)⟩ (lft_lt (by decide))
 ·cbv; repeat' ((first | refine .y fun h => ?_ | refine .mk (fun h => ?_) fun h => ?_ | refine .k fun z hz => ?_ | refine .o ?_ | refine And.intro ?_ ?_ | fail) <;> cbv)
  ·exact hcl
  ·(refine cs9 hf (⟨sc1, hc1, cc1⟩, ⟨bill, index, least, by_, state, day, dated, wrong⟩) [4] trivial ?_; try dsimp only)
   rw [← hq2]
   cases q2 with
   | true =>
    cbv
    (refine .r9 (Gh.refl _) ?_; cbv; exact .inl (.f9 (K_bl hK (by simp [hitB, h]))))
   | false =>
    cbv; repeat' ((first | refine .k fun z hz => ?_ | fail) <;> cbv)
    obtain rfl : z = nI 3 := om9
    exact roundV ⟨3, by decide, fun _ => g0 (by decide), fun _ => g1 (by decide), fun _ => Bool.and_false _⟩ (lft_lt (by decide))
  ·exact hcl
  ·(refine cs9 hf (⟨sc1, hc1, cc1⟩, ⟨bill, index, least, by_, state, day, dated, wrong⟩) [4] trivial ?_; try dsimp only)
   rw [← hq2]
   cases q2 with
   | true =>
    cbv
    (refine .r9 (Gh.refl _) ?_; cbv; exact .inl (.f9 (K_bl hK (by simp [hitB, h]))))
   | false =>
    cbv; repeat' ((first | refine .k fun z hz => ?_ | fail) <;> cbv)
    obtain rfl : z = nI 3 := om9
    exact roundV ⟨3, by decide, fun _ => g0 (by decide), fun _ => g1 (by decide), fun _ => Bool.and_false _⟩ (lft_lt (by decide))
  ·obtain rfl : z = nI 3 := om9
   exact roundV ⟨3, by decide, fun _ => g0 (by decide), fun _ => g1 (by decide), fun _ => by rw [hitB_not om9 om9]; rfl⟩ (lft_lt (by decide))
def SomeW (f : Nat) (p : ByteArray → Og → Bool) : Ctr := spec (fun i : Br × Int × ByteArray => [.ptr 0 0, .i i.2.1, .clo f [.ptr 4 0]]) (fun i => EntC i.1 ++ [.blk 9 [.str i.2.2]]) (fun i => chOk i.1) (fun i => .bl (some3 i.2.1 i.1 (p i.2.2))) fun i => EntC i.1 ++ [.blk 9 [.str i.2.2]]
theorem someW_body (P : Program) (f : Nat) (p : ByteArray → Og → Bool) (hcl : MayCall P f) (hf : FnOk P f (CloW p)) : BodyOk P x36 (SomeW f p) := by
 intro args H K hc
 obtain ⟨⟨y, idx, who⟩, rfl, rfl, hp, hK⟩ := hc
 obtain ⟨⟨nq1, cq1, sq1, frm1, to1, bq1, pq1, iq1, lq1⟩, st1, ⟨sa1, ha1, ca1⟩, ⟨sb1, hb1, cb1⟩, ⟨sc1, hc1, cc1⟩⟩ := y
 refine ⟨nb9, ?_⟩
 obtain ⟨hp0, hp1, hp2⟩ := hp
 dsimp only at hp0 hp1 hp2 hK ⊢
 unfold some3 at hK
 dsimp only at hK
 obtain ⟨q0, hq0⟩ : ∃ q, q = p who ⟨sa1, ha1, ca1⟩ := ⟨_, rfl⟩
 obtain ⟨q1, hq1⟩ : ∃ q, q = p who ⟨sb1, hb1, cb1⟩ := ⟨_, rfl⟩
 obtain ⟨q2, hq2⟩ : ∃ q, q = p who ⟨sc1, hc1, cc1⟩ := ⟨_, rfl⟩
 rw [← hq0, ← hq1, ← hq2] at hK
 cbv
 refine xloopG Gh.viewT ?_
 cbv
 refine xloopV [] (fun p : { k : Nat // k ≤ 3 ∧ (1 ≤ k → (hitB idx 0 && q0) = false) ∧ (2 ≤ k → (hitB idx 1 && q1) = false) ∧ (3 ≤ k → (hitB idx 2 && q2) = false) } => [(13, .i (nI p.1))]) (fun _ => EntC ⟨⟨nq1, cq1, sq1, frm1, to1, bq1, pq1, iq1, lq1⟩, st1, ⟨sa1, ha1, ca1⟩, ⟨sb1, hb1, cb1⟩, ⟨sc1, hc1, cc1⟩⟩ ++ [.blk 9 [.str who]]) (fun p => lft 3 p.1) ⟨0, by decide, fun h => absurd h (by decide), fun h => absurd h (by decide), fun h => absurd h (by decide)⟩ ?_
 rintro ⟨k, hk, g0, g1, g2⟩
 dsimp only at hk g0 g1 g2 ⊢
 have hk4 : k = 0 ∨ k = 1 ∨ k = 2 ∨ k = 3 := by omega
 rcases hk4 with rfl | rfl | rfl | rfl
 rotate_right
 ·have e0 := g0 (by decide)
  have e1 := g1 (by decide)
  have e2 := g2 (by decide)
  cbv; repeat' ((first | refine .n fun h => ?_ | fail) <;> cbv)
  (refine .r9 (Gh.refl _) ?_; cbv; exact .inl (.f9 (K_bl hK (by rw [e0, e1, e2]; rfl))))
 ·cbv; repeat' ((first | refine .n fun h => ?_ | refine .y fun h => ?_ | refine .mk (fun h => ?_) fun h => ?_ | refine .k fun z hz => ?_ | refine .o ?_ | refine And.intro ?_ ?_ | fail) <;> cbv)
  ·exact hcl
  ·(refine cs9 hf (⟨sa1, ha1, ca1⟩, who) [4] trivial ?_; try dsimp only)
   rw [← hq0]
   cases q0 with
   | true =>
    cbv
    (refine .r9 (Gh.refl _) ?_; cbv; exact .inl (.f9 (K_bl hK (by simp [hitB, h]))))
   | false =>
    cbv; repeat' ((first | refine .k fun z hz => ?_ | fail) <;> cbv)
    obtain rfl : z = nI 1 := om9
    exact roundV ⟨1, by decide, fun _ => Bool.and_false _, fun h => absurd h (by decide), fun h => absurd h (by decide)⟩ (lft_lt (by decide))
  ·exact hcl
  ·(refine cs9 hf (⟨sa1, ha1, ca1⟩, who) [4] trivial ?_; try dsimp only)
   rw [← hq0]
   cases q0 with
   | true =>
    cbv
    (refine .r9 (Gh.refl _) ?_; cbv; exact .inl (.f9 (K_bl hK (by simp [hitB, h]))))
   | false =>
    cbv; repeat' ((first | refine .k fun z hz => ?_ | fail) <;> cbv)
    obtain rfl : z = nI 1 := om9
    exact roundV ⟨1, by decide, fun _ => Bool.and_false _, fun h => absurd h (by decide), fun h => absurd h (by decide)⟩ (lft_lt (by decide))
  ·obtain rfl : z = nI 1 := om9
   exact roundV ⟨1, by decide, fun _ => by rw [hitB_not om9 om9]; rfl, fun h => absurd h (by decide), fun h => absurd h (by decide)⟩ (lft_lt (by decide))
 ·cbv; repeat' ((first | refine .n fun h => ?_ | refine .y fun h => ?_ | refine .mk (fun h => ?_) fun h => ?_ | refine .k fun z hz => ?_ | refine .o ?_ | refine And.intro ?_ ?_ | fail) <;> cbv)
  ·exact hcl
  ·(refine cs9 hf (⟨sb1, hb1, cb1⟩, who) [4] trivial ?_; try dsimp only)
   rw [← hq1]
   cases q1 with
   | true =>
    cbv
    (refine .r9 (Gh.refl _) ?_; cbv; exact .inl (.f9 (K_bl hK (by simp [hitB, h]))))
   | false =>
    cbv; repeat' ((first | refine .k fun z hz => ?_ | fail) <;> cbv)
    obtain rfl : z = nI 2 := om9
    exact roundV ⟨2, by decide, fun _ => g0 (by decide), fun _ => Bool.and_false _, fun h => absurd h (by decide)⟩ (lft_lt (by decide))
  ·exact hcl
  ·(refine cs9 hf (⟨sb1, hb1, cb1⟩, who) [4] trivial ?_; try dsimp only)
   rw [← hq1]
   cases q1 with
   | true =>
    cbv
    (refine .r9 (Gh.refl _) ?_; cbv; exact .inl (.f9 (K_bl hK (by simp [hitB, h]))))
   | false =>
    cbv; repeat' ((first | refine .k fun z hz => ?_ | fail) <;> cbv)
    obtain rfl : z = nI 2 := om9
    exact roundV ⟨2, by decide, fun _ => g0 (by decide), fun _ => Bool.and_false _, fun h => absurd h (by decide)⟩ (lft_lt (by decide))
  ·obtain rfl : z = nI 2 := om9
   exact roundV ⟨2, by decide, fun _ => g0 (by decide), fun _ => by rw [hitB_not om9 om9]; rfl, fun h => absurd h (by decide)⟩ (lft_lt (by decide))
 ·cbv; repeat' ((first | refine .y fun h => ?_ | refine .mk (fun h => ?_) fun h => ?_ | refine .k fun z hz => ?_ | refine .o ?_ | refine And.intro ?_ ?_ | fail) <;> cbv)
  ·exact hcl
  ·(refine cs9 hf (⟨sc1, hc1, cc1⟩, who) [4] trivial ?_; try dsimp only)
   rw [← hq2]
   cases q2 with
   | true =>
    cbv
    (refine .r9 (Gh.refl _) ?_; cbv; exact .inl (.f9 (K_bl hK (by simp [hitB, h]))))
   | false =>
    cbv; repeat' ((first | refine .k fun z hz => ?_ | fail) <;> cbv)
    obtain rfl : z = nI 3 := om9
    exact roundV ⟨3, by decide, fun _ => g0 (by decide), fun _ => g1 (by decide), fun _ => Bool.and_false _⟩ (lft_lt (by decide))
  ·exact hcl
  ·(refine cs9 hf (⟨sc1, hc1, cc1⟩, who) [4] trivial ?_; try dsimp only)
   rw [← hq2]
   cases q2 with
   | true =>
    cbv
    (refine .r9 (Gh.refl _) ?_; cbv; exact .inl (.f9 (K_bl hK (by simp [hitB, h]))))
   | false =>
    cbv; repeat' ((first | refine .k fun z hz => ?_ | fail) <;> cbv)
    obtain rfl : z = nI 3 := om9
    exact roundV ⟨3, by decide, fun _ => g0 (by decide), fun _ => g1 (by decide), fun _ => Bool.and_false _⟩ (lft_lt (by decide))
  ·obtain rfl : z = nI 3 := om9
   exact roundV ⟨3, by decide, fun _ => g0 (by decide), fun _ => g1 (by decide), fun _ => by rw [hitB_not om9 om9]; rfl⟩ (lft_lt (by decide))
def SomeE (f : Nat)  : Ctr := spec (fun i : Br × Int × Ak => [.ptr 0 0, .i i.2.1, .clo f [.ptr 4 0, .ptr 5 0]]) (fun i => EntC i.1 ++ [.blk 128 (AkL i.2.2), .blk 76 [.ptr 0 0]]) (fun i => chOk i.1) (fun i => .bl (some3 i.2.1 i.1 (pDay i.1 i.2.2))) fun i => EntC i.1 ++ [.blk 128 (AkL i.2.2), .blk 76 [.ptr 0 0]]
theorem someE_body (P : Program) (f : Nat)  (hcl : MayCall P f) (hf : FnOk P f CloE) : BodyOk P x36 (SomeE f) := by
 intro args H K hc
 obtain ⟨⟨y, idx, ⟨bill, index, least, by_, state, day, dated, wrong⟩⟩, rfl, rfl, hp, hK⟩ := hc
 obtain ⟨⟨nq1, cq1, sq1, frm1, to1, bq1, pq1, iq1, lq1⟩, st1, ⟨sa1, ha1, ca1⟩, ⟨sb1, hb1, cb1⟩, ⟨sc1, hc1, cc1⟩⟩ := y
 refine ⟨nb9, ?_⟩
 obtain ⟨hp0, hp1, hp2⟩ := hp
 dsimp only at hp0 hp1 hp2 hK ⊢
 unfold some3 at hK
 dsimp only at hK
 obtain ⟨q0, hq0⟩ : ∃ q, q = pDay ⟨⟨nq1, cq1, sq1, frm1, to1, bq1, pq1, iq1, lq1⟩, st1, ⟨sa1, ha1, ca1⟩, ⟨sb1, hb1, cb1⟩, ⟨sc1, hc1, cc1⟩⟩ ⟨bill, index, least, by_, state, day, dated, wrong⟩ ⟨sa1, ha1, ca1⟩ := ⟨_, rfl⟩
 obtain ⟨q1, hq1⟩ : ∃ q, q = pDay ⟨⟨nq1, cq1, sq1, frm1, to1, bq1, pq1, iq1, lq1⟩, st1, ⟨sa1, ha1, ca1⟩, ⟨sb1, hb1, cb1⟩, ⟨sc1, hc1, cc1⟩⟩ ⟨bill, index, least, by_, state, day, dated, wrong⟩ ⟨sb1, hb1, cb1⟩ := ⟨_, rfl⟩
 obtain ⟨q2, hq2⟩ : ∃ q, q = pDay ⟨⟨nq1, cq1, sq1, frm1, to1, bq1, pq1, iq1, lq1⟩, st1, ⟨sa1, ha1, ca1⟩, ⟨sb1, hb1, cb1⟩, ⟨sc1, hc1, cc1⟩⟩ ⟨bill, index, least, by_, state, day, dated, wrong⟩ ⟨sc1, hc1, cc1⟩ := ⟨_, rfl⟩
 rw [← hq0, ← hq1, ← hq2] at hK
 cbv
 refine xloopG Gh.viewT ?_
 cbv
 refine xloopV [] (fun p : { k : Nat // k ≤ 3 ∧ (1 ≤ k → (hitB idx 0 && q0) = false) ∧ (2 ≤ k → (hitB idx 1 && q1) = false) ∧ (3 ≤ k → (hitB idx 2 && q2) = false) } => [(13, .i (nI p.1))]) (fun _ => EntC ⟨⟨nq1, cq1, sq1, frm1, to1, bq1, pq1, iq1, lq1⟩, st1, ⟨sa1, ha1, ca1⟩, ⟨sb1, hb1, cb1⟩, ⟨sc1, hc1, cc1⟩⟩ ++ [.blk 128 (AkL ⟨bill, index, least, by_, state, day, dated, wrong⟩), .blk 76 [.ptr 0 0]]) (fun p => lft 3 p.1) ⟨0, by decide, fun h => absurd h (by decide), fun h => absurd h (by decide), fun h => absurd h (by decide)⟩ ?_
 rintro ⟨k, hk, g0, g1, g2⟩
 dsimp only at hk g0 g1 g2 ⊢
 have hk4 : k = 0 ∨ k = 1 ∨ k = 2 ∨ k = 3 := by omega
 rcases hk4 with rfl | rfl | rfl | rfl
 rotate_right
 ·have e0 := g0 (by decide)
  have e1 := g1 (by decide)
  have e2 := g2 (by decide)
  cbv; repeat' ((first | refine .n fun h => ?_ | fail) <;> cbv)
  (refine .r9 (Gh.refl _) ?_; cbv; exact .inl (.f9 (K_bl hK (by rw [e0, e1, e2]; rfl))))
 ·cbv; repeat' ((first | refine .n fun h => ?_ | refine .y fun h => ?_ | refine .mk (fun h => ?_) fun h => ?_ | refine .k fun z hz => ?_ | refine .o ?_ | refine And.intro ?_ ?_ | fail) <;> cbv)
  ·exact hcl
  ·(refine cs9 hf (⟨sa1, ha1, ca1⟩, ⟨⟨nq1, cq1, sq1, frm1, to1, bq1, pq1, iq1, lq1⟩, st1, ⟨sa1, ha1, ca1⟩, ⟨sb1, hb1, cb1⟩, ⟨sc1, hc1, cc1⟩⟩, ⟨bill, index, least, by_, state, day, dated, wrong⟩) [4, 5, 0, 1, 2, 3] (by dsimp only; omega) ?_; try dsimp only)
   rw [← hq0]
   cases q0 with
   | true =>
    cbv
    (refine .r9 (Gh.refl _) ?_; cbv; exact .inl (.f9 (K_bl hK (by simp [hitB, h]))))
   | false =>
    cbv; repeat' ((first | refine .k fun z hz => ?_ | fail) <;> cbv)
    obtain rfl : z = nI 1 := om9
    exact roundV ⟨1, by decide, fun _ => Bool.and_false _, fun h => absurd h (by decide), fun h => absurd h (by decide)⟩ (lft_lt (by decide))
  ·exact hcl
  ·(refine cs9 hf (⟨sa1, ha1, ca1⟩, ⟨⟨nq1, cq1, sq1, frm1, to1, bq1, pq1, iq1, lq1⟩, st1, ⟨sa1, ha1, ca1⟩, ⟨sb1, hb1, cb1⟩, ⟨sc1, hc1, cc1⟩⟩, ⟨bill, index, least, by_, state, day, dated, wrong⟩) [4, 5, 0, 1, 2, 3] (by dsimp only; omega) ?_; try dsimp only)
   rw [← hq0]
   cases q0 with
   | true =>
    cbv
    (refine .r9 (Gh.refl _) ?_; cbv; exact .inl (.f9 (K_bl hK (by simp [hitB, h]))))
   | false =>
    cbv; repeat' ((first | refine .k fun z hz => ?_ | fail) <;> cbv)
    obtain rfl : z = nI 1 := om9
    exact roundV ⟨1, by decide, fun _ => Bool.and_false _, fun h => absurd h (by decide), fun h => absurd h (by decide)⟩ (lft_lt (by decide))
  ·obtain rfl : z = nI 1 := om9
   exact roundV ⟨1, by decide, fun _ => by rw [hitB_not om9 om9]; rfl, fun h => absurd h (by decide), fun h => absurd h (by decide)⟩ (lft_lt (by decide))
 ·cbv; repeat' ((first | refine .n fun h => ?_ | refine .y fun h => ?_ | refine .mk (fun h => ?_) fun h => ?_ | refine .k fun z hz => ?_ | refine .o ?_ | refine And.intro ?_ ?_ | fail) <;> cbv)
  ·exact hcl
  ·(refine cs9 hf (⟨sb1, hb1, cb1⟩, ⟨⟨nq1, cq1, sq1, frm1, to1, bq1, pq1, iq1, lq1⟩, st1, ⟨sa1, ha1, ca1⟩, ⟨sb1, hb1, cb1⟩, ⟨sc1, hc1, cc1⟩⟩, ⟨bill, index, least, by_, state, day, dated, wrong⟩) [4, 5, 0, 1, 2, 3] (by dsimp only; omega) ?_; try dsimp only)
   rw [← hq1]
   cases q1 with
   | true =>
    cbv
    (refine .r9 (Gh.refl _) ?_; cbv; exact .inl (.f9 (K_bl hK (by simp [hitB, h]))))
   | false =>
    cbv; repeat' ((first | refine .k fun z hz => ?_ | fail) <;> cbv)
    obtain rfl : z = nI 2 := om9
    exact roundV ⟨2, by decide, fun _ => g0 (by decide), fun _ => Bool.and_false _, fun h => absurd h (by decide)⟩ (lft_lt (by decide))
  ·exact hcl
  ·(refine cs9 hf (⟨sb1, hb1, cb1⟩, ⟨⟨nq1, cq1, sq1, frm1, to1, bq1, pq1, iq1, lq1⟩, st1, ⟨sa1, ha1, ca1⟩, ⟨sb1, hb1, cb1⟩, ⟨sc1, hc1, cc1⟩⟩, ⟨bill, index, least, by_, state, day, dated, wrong⟩) [4, 5, 0, 1, 2, 3] (by dsimp only; omega) ?_; try dsimp only)
   rw [← hq1]
   cases q1 with
   | true =>
    cbv
    (refine .r9 (Gh.refl _) ?_; cbv; exact .inl (.f9 (K_bl hK (by simp [hitB, h]))))
   | false =>
    cbv; repeat' ((first | refine .k fun z hz => ?_ | fail) <;> cbv)
    obtain rfl : z = nI 2 := om9
    exact roundV ⟨2, by decide, fun _ => g0 (by decide), fun _ => Bool.and_false _, fun h => absurd h (by decide)⟩ (lft_lt (by decide))
  ·obtain rfl : z = nI 2 := om9
   exact roundV ⟨2, by decide, fun _ => g0 (by decide), fun _ => by rw [hitB_not om9 om9]; rfl, fun h => absurd h (by decide)⟩ (lft_lt (by decide))
 ·cbv; repeat' ((first | refine .y fun h => ?_ | refine .mk (fun h => ?_) fun h => ?_ | refine .k fun z hz => ?_ | refine .o ?_ | refine And.intro ?_ ?_ | fail) <;> cbv)
  ·exact hcl
  ·(refine cs9 hf (⟨sc1, hc1, cc1⟩, ⟨⟨nq1, cq1, sq1, frm1, to1, bq1, pq1, iq1, lq1⟩, st1, ⟨sa1, ha1, ca1⟩, ⟨sb1, hb1, cb1⟩, ⟨sc1, hc1, cc1⟩⟩, ⟨bill, index, least, by_, state, day, dated, wrong⟩) [4, 5, 0, 1, 2, 3] (by dsimp only; omega) ?_; try dsimp only)
   rw [← hq2]
   cases q2 with
   | true =>
    cbv
    (refine .r9 (Gh.refl _) ?_; cbv; exact .inl (.f9 (K_bl hK (by simp [hitB, h]))))
   | false =>
    cbv; repeat' ((first | refine .k fun z hz => ?_ | fail) <;> cbv)
    obtain rfl : z = nI 3 := om9
    exact roundV ⟨3, by decide, fun _ => g0 (by decide), fun _ => g1 (by decide), fun _ => Bool.and_false _⟩ (lft_lt (by decide))
  ·exact hcl
  ·(refine cs9 hf (⟨sc1, hc1, cc1⟩, ⟨⟨nq1, cq1, sq1, frm1, to1, bq1, pq1, iq1, lq1⟩, st1, ⟨sa1, ha1, ca1⟩, ⟨sb1, hb1, cb1⟩, ⟨sc1, hc1, cc1⟩⟩, ⟨bill, index, least, by_, state, day, dated, wrong⟩) [4, 5, 0, 1, 2, 3] (by dsimp only; omega) ?_; try dsimp only)
   rw [← hq2]
   cases q2 with
   | true =>
    cbv
    (refine .r9 (Gh.refl _) ?_; cbv; exact .inl (.f9 (K_bl hK (by simp [hitB, h]))))
   | false =>
    cbv; repeat' ((first | refine .k fun z hz => ?_ | fail) <;> cbv)
    obtain rfl : z = nI 3 := om9
    exact roundV ⟨3, by decide, fun _ => g0 (by decide), fun _ => g1 (by decide), fun _ => Bool.and_false _⟩ (lft_lt (by decide))
  ·obtain rfl : z = nI 3 := om9
   exact roundV ⟨3, by decide, fun _ => g0 (by decide), fun _ => g1 (by decide), fun _ => by rw [hitB_not om9 om9]; rfl⟩ (lft_lt (by decide))
def dayB (n : Int) : Bool := decide (0 ≤ n) && decide (n ≤ 1048576)
def DayC : Ctr := spec (fun z : Int => [.i z]) (fun _ => []) (fun _ => True) (fun z => .bl (dayB z)) fun _ => []
theorem isDay_body (P : Program) : BodyOk P x106 DayC := by
 intro args H K hc; obtain ⟨z, rfl, rfl, hp, hK⟩ := hc; refine ⟨nb9, ?_⟩; dsimp only at hp hK ⊢
 cbv; repeat' ((first | refine .mk (fun h => ?_) fun h => ?_ | fail) <;> cbv)
 all_goals exact FinK.mk ⟨_, Gh.refl _, .inl (.v9 (K_bl hK (by (unfold dayB; simp; omega))))⟩
def k1 (a : Ak) : Bool := decide (a.index < a.least) || decide (3 ≤ a.index)
def k2 (a : Ak) : Bool := a.wrong || (a.dated && !dayB a.day)
def k3 (b : Br) (a : Ak) : Bool := !decide (b.st = 0) || some3 a.index b (pState a)
def k4 (b : Br) (a : Ak) : Bool := some3 a.index b (pHolder a)
def k5 (b : Br) (a : Ak) : Bool := a.dated && some3 a.index b (pDay b a)
def askE (b : Br) (a : Ak) : Int := if k1 a then 3 else if k2 a then 1 else if k3 b a then 9 else if k4 b a then 8 else if k5 b a then 6 else 0
def KActC (p : Ak → Bool) : Ctr := spec (fun _ : Ak => [.ptr 0 0]) (fun i => [.blk 128 (AkL i)]) (fun _ => True) (fun i => .bl (p i)) fun i => [.blk 128 (AkL i)]
def KEntC (args : List AV) (p : Br → Ak → Bool) : Ctr := spec (fun _ : Br × Ak => args) (fun i => AskH i.1 i.2) (fun i => chOk i.1) (fun i => .bl (p i.1 i.2)) fun i => AskH i.1 i.2
theorem ask1_body (P : Program) : BodyOk P x103 (KEntC [.ptr 1 0] fun _ _ => false) := by
 intro args H K hc; obtain ⟨⟨y, ⟨bill, index, least, by_, state, day, dated, wrong⟩⟩, rfl, rfl, hp, hK⟩ := hc; refine ⟨nb9, ?_⟩; dsimp only at hp hK ⊢
 obtain ⟨⟨nq1, cq1, sq1, frm1, to1, bq1, pq1, iq1, lq1⟩, st1, ⟨sa1, ha1, ca1⟩, ⟨sb1, hb1, cb1⟩, ⟨sc1, hc1, cc1⟩⟩ := y
 cbv
 (refine .r9 (Gh.refl _) ?_; cbv; exact .inl (.f9 hK))
theorem ask2_body (P : Program) : BodyOk P x104 (KActC k1) := by
 intro args H K hc; obtain ⟨⟨bill, index, least, by_, state, day, dated, wrong⟩, rfl, rfl, hp, hK⟩ := hc; refine ⟨nb9, ?_⟩; dsimp only at hp hK ⊢
 unfold k1 at hK
 dsimp only at hK
 cbv; repeat' ((first | refine .mk (fun h => ?_) fun h => ?_ | fail) <;> cbv)
 all_goals (refine .r9 (Gh.refl _) ?_; cbv; exact .inl (.f9 (K_bl hK (by simp; omega))))
theorem ask3_body (P : Program) (hd : FnOk P 106 DayC) : BodyOk P x105 (KActC k2) := by
 intro args H K hc; obtain ⟨⟨bill, index, least, by_, state, day, dated, wrong⟩, rfl, rfl, hp, hK⟩ := hc; refine ⟨nb9, ?_⟩; dsimp only at hp hK ⊢
 unfold k2 at hK
 dsimp only at hK
 obtain ⟨q, hq⟩ : ∃ x, x = (dayB day) := ⟨_, rfl⟩
 rw [← hq] at hK
 cases wrong with
 | true =>
  cbv
  (refine .r9 (Gh.refl _) ?_; cbv; exact .inl (.f9 hK))
 | false =>
  cases dated with
  | false =>
   cbv
   (refine .r9 (Gh.refl _) ?_; cbv; exact .inl (.f9 hK))
  | true =>
   cbv
   (refine c09 hd day trivial ?_; try dsimp only)
   rw [← hq]
   cases q with
   | true =>
    cbv
    (refine .r9 (Gh.refl _) ?_; cbv; exact .inl (.f9 hK))
   | false =>
    cbv
    (refine .r9 (Gh.refl _) ?_; cbv; exact .inl (.f9 hK))
theorem ask4_body (P : Program) (hs : FnOk P 36 (SomeA 108 pState)) : BodyOk P x107 (KEntC [.ptr 1 0, .ptr 0 0] k3) := by
 intro args H K hc; obtain ⟨⟨y, ⟨bill, index, least, by_, state, day, dated, wrong⟩⟩, rfl, rfl, hp, hK⟩ := hc; refine ⟨nb9, ?_⟩; dsimp only at hp hK ⊢
 obtain ⟨q, hq⟩ : ∃ x, x = (some3 index y (pState ⟨bill, index, least, by_, state, day, dated, wrong⟩)) := ⟨_, rfl⟩
 unfold k3 at hK
 dsimp only at hK
 rw [← hq] at hK
 obtain ⟨⟨nq1, cq1, sq1, frm1, to1, bq1, pq1, iq1, lq1⟩, st1, ⟨sa1, ha1, ca1⟩, ⟨sb1, hb1, cb1⟩, ⟨sc1, hc1, cc1⟩⟩ := y
 dsimp only at hK
 by_cases h0 : st1 = 0
 ·cbv; repeat' ((first | refine .y fun h => ?_ | fail) <;> cbv)
  (refine cs9 hs (⟨⟨nq1, cq1, sq1, frm1, to1, bq1, pq1, iq1, lq1⟩, st1, ⟨sa1, ha1, ca1⟩, ⟨sb1, hb1, cb1⟩, ⟨sc1, hc1, cc1⟩⟩, index, ⟨bill, index, least, by_, state, day, dated, wrong⟩) [2, 3, 4, 5, 0] hp ?_; try dsimp only)
  rw [← hq]
  cbv
  (refine .r9 (Gh.refl _) ?_; cbv; exact .inl (.f9 (K_bl hK (by simp [h0]))))
 ·cbv; repeat' ((first | refine .n fun h => ?_ | fail) <;> cbv)
  (refine .r9 (Gh.refl _) ?_; cbv; exact .inl (.f9 (K_bl hK (by simp [h0]))))
theorem ask5_body (P : Program) (hs : FnOk P 36 (SomeA 110 pHolder)) : BodyOk P x109 (KEntC [.ptr 1 0, .ptr 0 0] k4) := by
 intro args H K hc; obtain ⟨⟨y, ⟨bill, index, least, by_, state, day, dated, wrong⟩⟩, rfl, rfl, hp, hK⟩ := hc; refine ⟨nb9, ?_⟩; dsimp only at hp hK ⊢
 obtain ⟨q, hq⟩ : ∃ x, x = (some3 index y (pHolder ⟨bill, index, least, by_, state, day, dated, wrong⟩)) := ⟨_, rfl⟩
 unfold k4 at hK
 dsimp only at hK
 rw [← hq] at hK
 obtain ⟨⟨nq1, cq1, sq1, frm1, to1, bq1, pq1, iq1, lq1⟩, st1, ⟨sa1, ha1, ca1⟩, ⟨sb1, hb1, cb1⟩, ⟨sc1, hc1, cc1⟩⟩ := y
 cbv
 (refine cs9 hs (⟨⟨nq1, cq1, sq1, frm1, to1, bq1, pq1, iq1, lq1⟩, st1, ⟨sa1, ha1, ca1⟩, ⟨sb1, hb1, cb1⟩, ⟨sc1, hc1, cc1⟩⟩, index, ⟨bill, index, least, by_, state, day, dated, wrong⟩) [2, 3, 4, 5, 0] hp ?_; try dsimp only)
 rw [← hq]
 cbv
 (refine .r9 (Gh.refl _) ?_; cbv; exact .inl (.f9 hK))
theorem ask6_body (P : Program) (hs : FnOk P 36 (SomeE 112)) : BodyOk P x111 (KEntC [.ptr 0 0, .ptr 1 0] k5) := by
 intro args H K hc; obtain ⟨⟨y, ⟨bill, index, least, by_, state, day, dated, wrong⟩⟩, rfl, rfl, hp, hK⟩ := hc; refine ⟨nb9, ?_⟩; dsimp only at hp hK ⊢
 obtain ⟨q, hq⟩ : ∃ x, x = (some3 index y (pDay y ⟨bill, index, least, by_, state, day, dated, wrong⟩)) := ⟨_, rfl⟩
 unfold k5 at hK
 dsimp only at hK
 rw [← hq] at hK
 obtain ⟨⟨nq1, cq1, sq1, frm1, to1, bq1, pq1, iq1, lq1⟩, st1, ⟨sa1, ha1, ca1⟩, ⟨sb1, hb1, cb1⟩, ⟨sc1, hc1, cc1⟩⟩ := y
 cases dated with
 | false =>
  cbv
  (refine .r9 (Gh.refl _) ?_; cbv; exact .inl (.f9 hK))
 | true =>
  cbv
  (refine cs9 hs (⟨⟨nq1, cq1, sq1, frm1, to1, bq1, pq1, iq1, lq1⟩, st1, ⟨sa1, ha1, ca1⟩, ⟨sb1, hb1, cb1⟩, ⟨sc1, hc1, cc1⟩⟩, index, ⟨bill, index, least, by_, state, day, true, wrong⟩) [2, 3, 4, 5, 0, 1] hp ?_; try dsimp only)
  rw [← hq]
  cbv
  (refine .r9 (Gh.refl _) ?_; cbv; exact .inl (.f9 hK))
def ChkL : List AV := [.i 4, .clo 103 [.ptr 2 0], .i 3, .clo 104 [.ptr 1 0], .i 1, .clo 105 [.ptr 1 0], .i 9, .clo 107 [.ptr 2 0, .ptr 1 0], .i 8, .clo 109 [.ptr 2 0, .ptr 1 0], .i 6, .clo 111 [.ptr 1 0, .ptr 2 0]]
def FirH (b : Br) (a : Ak) : List Ent := .hrow 136 2 6 ChkL :: renH [] 1 (AskH b a)
def FirC : Ctr := spec (fun _ : Br × Ak => [.hd 0]) (fun i => FirH i.1 i.2) (fun i => chOk i.1) (fun i => .i (askE i.1 i.2)) fun i => FirH i.1 i.2
def FirN : Ctr := spec (fun _ : Ak => [.hd 0]) (fun i => [.hrow 136 2 6 ChkL, .blk 128 (AkL i), .blk 76 [.v (.pointer none)]]) (fun _ => True) (fun _ => .i 4) fun i => [.hrow 136 2 6 ChkL, .blk 128 (AkL i), .blk 76 [.v (.pointer none)]]
structure AskF (P : Program) : Prop where
 m1 : MayCall P 103
 m2 : MayCall P 104
 m3 : MayCall P 105
 m4 : MayCall P 107
 m5 : MayCall P 109
 m6 : MayCall P 111
 f1 : FnOk P 103 (KEntC [.ptr 1 0] fun _ _ => false)
 f2 : FnOk P 104 (KActC k1)
 f3 : FnOk P 105 (KActC k2)
 f4 : FnOk P 107 (KEntC [.ptr 1 0, .ptr 0 0] k3)
 f5 : FnOk P 109 (KEntC [.ptr 1 0, .ptr 0 0] k4)
 f6 : FnOk P 111 (KEntC [.ptr 0 0, .ptr 1 0] k5)
theorem first_body (P : Program) (F : AskF P) : BodyOk P x70 FirC := by
 intro args H K hc; obtain ⟨⟨y, ⟨bill, index, least, by_, state, day, dated, wrong⟩⟩, rfl, rfl, hp, hK⟩ := hc; refine ⟨nb9, ?_⟩; dsimp only at hp hK ⊢
 have he : askE y ⟨bill, index, least, by_, state, day, dated, wrong⟩ = if k1 ⟨bill, index, least, by_, state, day, dated, wrong⟩ then 3 else if k2 ⟨bill, index, least, by_, state, day, dated, wrong⟩ then 1 else if k3 y ⟨bill, index, least, by_, state, day, dated, wrong⟩ then 9 else if k4 y ⟨bill, index, least, by_, state, day, dated, wrong⟩ then 8 else if k5 y ⟨bill, index, least, by_, state, day, dated, wrong⟩ then 6 else 0 := rfl
 obtain ⟨e, hee⟩ : ∃ e, e = askE y ⟨bill, index, least, by_, state, day, dated, wrong⟩ := ⟨_, rfl⟩
 rw [← hee] at hK he
 obtain ⟨q1, hq1⟩ : ∃ q, q = k1 ⟨bill, index, least, by_, state, day, dated, wrong⟩ := ⟨_, rfl⟩
 obtain ⟨q2, hq2⟩ : ∃ q, q = k2 ⟨bill, index, least, by_, state, day, dated, wrong⟩ := ⟨_, rfl⟩
 obtain ⟨q3, hq3⟩ : ∃ q, q = k3 y ⟨bill, index, least, by_, state, day, dated, wrong⟩ := ⟨_, rfl⟩
 obtain ⟨q4, hq4⟩ : ∃ q, q = k4 y ⟨bill, index, least, by_, state, day, dated, wrong⟩ := ⟨_, rfl⟩
 obtain ⟨q5, hq5⟩ : ∃ q, q = k5 y ⟨bill, index, least, by_, state, day, dated, wrong⟩ := ⟨_, rfl⟩
 rw [← hq1, ← hq2, ← hq3, ← hq4, ← hq5] at he
 obtain ⟨⟨nq1, cq1, sq1, frm1, to1, bq1, pq1, iq1, lq1⟩, st1, ⟨sa1, ha1, ca1⟩, ⟨sb1, hb1, cb1⟩, ⟨sc1, hc1, cc1⟩⟩ := y
 cbv
 refine xloopV [] (fun p : { k : Nat // k ≤ 6 ∧ (2 ≤ k → q1 = false) ∧ (3 ≤ k → q2 = false) ∧ (4 ≤ k → q3 = false) ∧ (5 ≤ k → q4 = false) ∧ (6 ≤ k → q5 = false) } => [(7, .i (nI p.1))]) (fun _ => FirH ⟨⟨nq1, cq1, sq1, frm1, to1, bq1, pq1, iq1, lq1⟩, st1, ⟨sa1, ha1, ca1⟩, ⟨sb1, hb1, cb1⟩, ⟨sc1, hc1, cc1⟩⟩ ⟨bill, index, least, by_, state, day, dated, wrong⟩) (fun p => lft 6 p.1) ⟨0, by decide, fun h => absurd h (by decide), fun h => absurd h (by decide), fun h => absurd h (by decide), fun h => absurd h (by decide), fun h => absurd h (by decide)⟩ ?_
 rintro ⟨k, hk, g1, g2, g3, g4, g5⟩
 dsimp only at hk g1 g2 g3 g4 g5 ⊢
 have hk4 : k = 0 ∨ k = 1 ∨ k = 2 ∨ k = 3 ∨ k = 4 ∨ k = 5 ∨ k = 6 := by omega
 rcases hk4 with rfl | rfl | rfl | rfl | rfl | rfl | rfl
 ·cbv; repeat' ((first | refine .y fun h => ?_ | refine .o ?_ | refine And.intro ?_ ?_ | fail) <;> cbv)
  ·exact F.m1
  ·(refine cs9 F.f1 (⟨⟨nq1, cq1, sq1, frm1, to1, bq1, pq1, iq1, lq1⟩, st1, ⟨sa1, ha1, ca1⟩, ⟨sb1, hb1, cb1⟩, ⟨sc1, hc1, cc1⟩⟩, ⟨bill, index, least, by_, state, day, dated, wrong⟩) [1, 2, 3, 4, 5, 6] hp ?_; try dsimp only)
   cbv; repeat' ((first | refine .k fun z hz => ?_ | fail) <;> cbv)
   obtain rfl : z = nI 1 := om9
   exact roundV ⟨1, by decide, fun h => absurd h (by decide), fun h => absurd h (by decide), fun h => absurd h (by decide), fun h => absurd h (by decide), fun h => absurd h (by decide)⟩ (lft_lt (by decide))
 ·cbv; repeat' ((first | refine .y fun h => ?_ | refine .o ?_ | refine And.intro ?_ ?_ | fail) <;> cbv)
  ·exact F.m2
  (refine cs9 F.f2 ⟨bill, index, least, by_, state, day, dated, wrong⟩ [1] trivial ?_; try dsimp only)
  rw [← hq1]
  cases q1 with
  | true =>
   cbv
   (refine .r9 (Gh.refl _) ?_; cbv; exact .inl (.f9 (K_i hK (by rw [he]; rfl))))
  | false =>
   cbv; repeat' ((first | refine .k fun z hz => ?_ | fail) <;> cbv)
   obtain rfl : z = nI 2 := om9
   exact roundV ⟨2, by decide, fun _ => rfl, fun h => absurd h (by decide), fun h => absurd h (by decide), fun h => absurd h (by decide), fun h => absurd h (by decide)⟩ (lft_lt (by decide))
 ·cbv; repeat' ((first | refine .y fun h => ?_ | refine .o ?_ | refine And.intro ?_ ?_ | fail) <;> cbv)
  ·exact F.m3
  have e1 := g1 (by decide)
  (refine cs9 F.f3 ⟨bill, index, least, by_, state, day, dated, wrong⟩ [1] trivial ?_; try dsimp only)
  rw [← hq2]
  cases q2 with
  | true =>
   cbv
   (refine .r9 (Gh.refl _) ?_; cbv; exact .inl (.f9 (K_i hK (by rw [he, e1]; rfl))))
  | false =>
   cbv; repeat' ((first | refine .k fun z hz => ?_ | fail) <;> cbv)
   obtain rfl : z = nI 3 := om9
   exact roundV ⟨3, by decide, fun _ => g1 (by decide), fun _ => rfl, fun h => absurd h (by decide), fun h => absurd h (by decide), fun h => absurd h (by decide)⟩ (lft_lt (by decide))
 ·cbv; repeat' ((first | refine .y fun h => ?_ | refine .o ?_ | refine And.intro ?_ ?_ | fail) <;> cbv)
  ·exact F.m4
  have e1 := g1 (by decide)
  have e2 := g2 (by decide)
  (refine cs9 F.f4 (⟨⟨nq1, cq1, sq1, frm1, to1, bq1, pq1, iq1, lq1⟩, st1, ⟨sa1, ha1, ca1⟩, ⟨sb1, hb1, cb1⟩, ⟨sc1, hc1, cc1⟩⟩, ⟨bill, index, least, by_, state, day, dated, wrong⟩) [1, 2, 3, 4, 5, 6] hp ?_; try dsimp only)
  rw [← hq3]
  cases q3 with
  | true =>
   cbv
   (refine .r9 (Gh.refl _) ?_; cbv; exact .inl (.f9 (K_i hK (by rw [he, e1, e2]; rfl))))
  | false =>
   cbv; repeat' ((first | refine .k fun z hz => ?_ | fail) <;> cbv)
   obtain rfl : z = nI 4 := om9
   exact roundV ⟨4, by decide, fun _ => g1 (by decide), fun _ => g2 (by decide), fun _ => rfl, fun h => absurd h (by decide), fun h => absurd h (by decide)⟩ (lft_lt (by decide))
 ·cbv; repeat' ((first | refine .y fun h => ?_ | refine .o ?_ | refine And.intro ?_ ?_ | fail) <;> cbv)
  ·exact F.m5
  have e1 := g1 (by decide)
  have e2 := g2 (by decide)
  have e3 := g3 (by decide)
  (refine cs9 F.f5 (⟨⟨nq1, cq1, sq1, frm1, to1, bq1, pq1, iq1, lq1⟩, st1, ⟨sa1, ha1, ca1⟩, ⟨sb1, hb1, cb1⟩, ⟨sc1, hc1, cc1⟩⟩, ⟨bill, index, least, by_, state, day, dated, wrong⟩) [1, 2, 3, 4, 5, 6] hp ?_; try dsimp only)
  rw [← hq4]
  cases q4 with
  | true =>
   cbv
   (refine .r9 (Gh.refl _) ?_; cbv; exact .inl (.f9 (K_i hK (by rw [he, e1, e2, e3]; rfl))))
  | false =>
   cbv; repeat' ((first | refine .k fun z hz => ?_ | fail) <;> cbv)
   obtain rfl : z = nI 5 := om9
   exact roundV ⟨5, by decide, fun _ => g1 (by decide), fun _ => g2 (by decide), fun _ => g3 (by decide), fun _ => rfl, fun h => absurd h (by decide)⟩ (lft_lt (by decide))
 ·cbv; repeat' ((first | refine .y fun h => ?_ | refine .o ?_ | refine And.intro ?_ ?_ | fail) <;> cbv)
  ·exact F.m6
  have e1 := g1 (by decide)
  have e2 := g2 (by decide)
  have e3 := g3 (by decide)
  have e4 := g4 (by decide)
  (refine cs9 F.f6 (⟨⟨nq1, cq1, sq1, frm1, to1, bq1, pq1, iq1, lq1⟩, st1, ⟨sa1, ha1, ca1⟩, ⟨sb1, hb1, cb1⟩, ⟨sc1, hc1, cc1⟩⟩, ⟨bill, index, least, by_, state, day, dated, wrong⟩) [1, 2, 3, 4, 5, 6] hp ?_; try dsimp only)
  rw [← hq5]
  cases q5 with
  | true =>
   cbv
   (refine .r9 (Gh.refl _) ?_; cbv; exact .inl (.f9 (K_i hK (by rw [he, e1, e2, e3, e4]; rfl))))
  | false =>
   cbv; repeat' ((first | refine .k fun z hz => ?_ | fail) <;> cbv)
   obtain rfl : z = nI 6 := om9
   exact roundV ⟨6, by decide, fun _ => g1 (by decide), fun _ => g2 (by decide), fun _ => g3 (by decide), fun _ => g4 (by decide), fun _ => rfl⟩ (lft_lt (by decide))
 ·have e1 := g1 (by decide)
  have e2 := g2 (by decide)
  have e3 := g3 (by decide)
  have e4 := g4 (by decide)
  have e5 := g5 (by decide)
  cbv; repeat' ((first | refine .n fun h => ?_ | fail) <;> cbv)
  (refine .r9 (Gh.refl _) ?_; cbv; exact .inl (.f9 (K_i hK (by rw [he, e1, e2, e3, e4, e5]; rfl))))
theorem firstN_body (P : Program) (hm : MayCall P 103) (hf : FnOk P 103 (spec (fun _ : Unit => [.ptr 0 0]) (fun _ => [.blk 76 [.v (.pointer none)]]) (fun _ => True) (fun _ => .bl true) fun _ => [.blk 76 [.v (.pointer none)]])) : BodyOk P x70 FirN := by
 intro args H K hc; obtain ⟨⟨bill, index, least, by_, state, day, dated, wrong⟩, rfl, rfl, hp, hK⟩ := hc; refine ⟨nb9, ?_⟩; dsimp only at hp hK ⊢
 cbv
 refine xloopV [] (fun p : Unit => [(7, .i 0)]) (fun _ => [.hrow 136 2 6 ChkL, .blk 128 (AkL ⟨bill, index, least, by_, state, day, dated, wrong⟩), .blk 76 [.v (.pointer none)]]) (fun p => lft 6 0) () ?_
 rintro ⟨⟩
 cbv; repeat' ((first | refine .y fun h => ?_ | refine .o ?_ | refine And.intro ?_ ?_ | fail) <;> cbv)
 ·exact hm
 ·(refine cs9 hf () [2] trivial ?_; try dsimp only)
  cbv
  (refine .r9 (Gh.refl _) ?_; cbv; exact .inl (.f9 hK))
theorem ask1n_body (P : Program) : BodyOk P x103 (spec (fun _ : Unit => [.ptr 0 0]) (fun _ => [.blk 76 [.v (.pointer none)]]) (fun _ => True) (fun _ => .bl true) fun _ => [.blk 76 [.v (.pointer none)]]) := by
 intro args H K hc; obtain ⟨⟨⟩, rfl, rfl, hp, hK⟩ := hc; refine ⟨nb9, ?_⟩; dsimp only at hp hK ⊢
 cbv
 (refine .r9 (Gh.refl _) ?_; cbv; exact .inl (.f9 hK))
def askM (L : List Br) (a : Ak) : Int := match bAt L a.bill with
 | some i => match L[i]? with
  | some b => askE b a
  | none => 4
 | none => 4
def AskC : Ctr := spec (fun i : Rg × Ak => [.ptr 0 0, .agg (AkL i.2)]) (fun i => RegH i.1) (fun i => ∀ b ∈ i.1.bills, chOk b) (fun i => .i (askM i.1.bills i.2)) fun i => RegH i.1
theorem ask_body (P : Program) (hf : FnOk P 70 FirC) (hn : FnOk P 70 FirN) : BodyOk P x67 AskC := by
 intro args H K hc; obtain ⟨⟨⟨carrier, L⟩, ⟨bill, index, least, by_, state, day, dated, wrong⟩⟩, rfl, rfl, hp, hK⟩ := hc; refine ⟨nb9, ?_⟩; dsimp only at hp hK ⊢
 obtain ⟨e, he⟩ : ∃ e, e = askM L ⟨bill, index, least, by_, state, day, dated, wrong⟩ := ⟨_, rfl⟩
 rw [← he] at hK
 cbv; repeat' ((first | refine And.intro ?_ ?_ | fail) <;> cbv)
 all_goals
  refine poolK_in (fun b : Br => b.b.number) (fun _ => rfl) (fun i y hai hy hky => ?_) (fun hai => ?_) <;> dsimp only at *
  ·have hch := hp y (List.mem_of_getElem? hy)
   have hee : e = askE y ⟨bill, index, least, by_, state, day, dated, wrong⟩ := by rw [he]; unfold askM bAt; dsimp only; rw [hai]; dsimp only; rw [hy]
   obtain ⟨q, hq⟩ : ∃ q, q = askE y ⟨bill, index, least, by_, state, day, dated, wrong⟩ := ⟨_, rfl⟩
   rw [← hq] at hee
   obtain ⟨⟨nq1, cq1, sq1, frm1, to1, bq1, pq1, iq1, lq1⟩, st1, ⟨sa1, ha1, ca1⟩, ⟨sb1, hb1, cb1⟩, ⟨sc1, hc1, cc1⟩⟩ := y
   cbv
   (refine cs9 hf (⟨⟨nq1, cq1, sq1, frm1, to1, bq1, pq1, iq1, lq1⟩, st1, ⟨sa1, ha1, ca1⟩, ⟨sb1, hb1, cb1⟩, ⟨sc1, hc1, cc1⟩⟩, ⟨bill, index, least, by_, state, day, dated, wrong⟩) [8, 2, 3, 4, 5, 6, 7] hch ?_; try dsimp only)
   rw [← hq]
   cbv
   (refine .r9 (Gh.back0 1 [4, 5, 6, 7] PelA rfl hy) ?_; cbv; exact .inl (.f9 (K_i hK hee.symm)))
  ·have hee : e = 4 := by rw [he]; unfold askM bAt; dsimp only; rw [hai]
   cbv
   (refine cs9 hn ⟨bill, index, least, by_, state, day, dated, wrong⟩ [4, 2, 3] trivial ?_; try dsimp only)
   cbv
   (refine .r9 (Gh.refl _) ?_; cbv; exact .inl (.f9 (K_i hK hee.symm)))
def kindB (l : List Edm) (k : Int) : Bool := match l.getLast? with
 | some e => decide (e.kind = k)
 | none => false
def lateB (l : List Edm) (d : Int) : Bool := match l.getLast? with
 | some e => decide (d < e.day)
 | none => false
theorem last_nil {l : List Edm} (h : l.length = 0) : l.getLast? = none := by rw [List.eq_nil_of_length_eq_zero h]; rfl
theorem last_at {l : List Edm} {i : Nat} {e : Edm} (h : i + 1 = l.length) (hl : l[i]? = some e) : l.getLast? = some e := by
 rw [List.getLast?_eq_getElem?, show l.length - 1 = i by omega]
 exact hl
def KindC (k : Int) : Ctr := spec (fun l : List Edm => [.sl 4 (mapA EdA l)]) (fun _ => []) (fun l => l.length ≤ 5000) (fun l => .bl (kindB l k)) fun _ => []
theorem blank_body (P : Program) : BodyOk P x152 (KindC 1) := by
 intro args H K hc; obtain ⟨c, rfl, rfl, hp, hK⟩ := hc; refine ⟨nb9, ?_⟩; dsimp only at hp hK ⊢
 have hd : kindB c 1 = match c.getLast? with
  | some e => decide (e.kind = 1)
  | none => false := rfl
 obtain ⟨q, hq⟩ : ∃ x, x = (kindB c 1) := ⟨_, rfl⟩
 rw [← hq] at hK hd
 cbv; repeat' ((first | refine .mk (fun h => ?_) fun h => ?_ | refine .k fun z hz => ?_ | fail) <;> cbv)
 ·refine askEl_int om9 om9 fun i l hi hl => ?_
  obtain ⟨f, t, k, d⟩ := l
  rw [last_at om9 hl] at hd
  cbv; repeat' ((first | refine .mk (fun h => ?_) fun h => ?_ | fail) <;> cbv)
  exact FinK.mk ⟨_, Gh.refl _, .inl (.v9 (K_bl hK (by (rw [hd]; simp [*]))))⟩
  exact FinK.mk ⟨_, Gh.refl _, .inl (.v9 (K_bl hK (by (rw [hd]; simp [*]))))⟩
 ·rw [last_nil om9] at hd
  exact FinK.mk ⟨_, Gh.refl _, .inl (.v9 (K_bl hK (by (rw [hd]))))⟩
theorem closed_body (P : Program) : BodyOk P x151 (KindC 2) := by
 intro args H K hc; obtain ⟨c, rfl, rfl, hp, hK⟩ := hc; refine ⟨nb9, ?_⟩; dsimp only at hp hK ⊢
 have hd : kindB c 2 = match c.getLast? with
  | some e => decide (e.kind = 2)
  | none => false := rfl
 obtain ⟨q, hq⟩ : ∃ x, x = (kindB c 2) := ⟨_, rfl⟩
 rw [← hq] at hK hd
 cbv; repeat' ((first | refine .mk (fun h => ?_) fun h => ?_ | refine .k fun z hz => ?_ | fail) <;> cbv)
 ·refine askEl_int om9 om9 fun i l hi hl => ?_
  obtain ⟨f, t, k, d⟩ := l
  rw [last_at om9 hl] at hd
  cbv; repeat' ((first | refine .mk (fun h => ?_) fun h => ?_ | fail) <;> cbv)
  exact FinK.mk ⟨_, Gh.refl _, .inl (.v9 (K_bl hK (by (rw [hd]; simp [*]))))⟩
  exact FinK.mk ⟨_, Gh.refl _, .inl (.v9 (K_bl hK (by (rw [hd]; simp [*]))))⟩
 ·rw [last_nil om9] at hd
  exact FinK.mk ⟨_, Gh.refl _, .inl (.v9 (K_bl hK (by (rw [hd]))))⟩
def edMay : Edm → Bool
 | ⟨f, t, k, d⟩ => nameB f && (decide (0 ≤ d) && decide (d ≤ 1048576)) && (if k = 1 then decide (t = ⟨⟨[]⟩⟩) else if k = 0 ∨ k = 2 then nameB t && !decide (t = f) else false)
def EdMayC : Ctr := spec (fun e : Edm => [EdA e]) (fun _ => []) (fun _ => True) (fun e => .bl (edMay e)) fun _ => []
theorem edmay_body (P : Program) (hn : FnOk P 68 (StrC (fun _ => True) nameB)) : BodyOk P x150 EdMayC := by
 intro args H K hc; obtain ⟨⟨f, t, k, d⟩, rfl, rfl, hp, hK⟩ := hc; refine ⟨nb9, ?_⟩; dsimp only at hp hK ⊢
 have hd : edMay ⟨f, t, k, d⟩ = (nameB f && (decide (0 ≤ d) && decide (d ≤ 1048576)) && (if k = 1 then decide (t = ⟨⟨[]⟩⟩) else if k = 0 ∨ k = 2 then nameB t && !decide (t = f) else false)) := rfl
 obtain ⟨q, hq⟩ : ∃ x, x = (edMay ⟨f, t, k, d⟩) := ⟨_, rfl⟩
 obtain ⟨n, hn1⟩ : ∃ x, x = nameB f := ⟨_, rfl⟩
 obtain ⟨m, hm⟩ : ∃ x, x = (nameB t) := ⟨_, rfl⟩
 rw [← hq] at hK hd
 rw [← hn1, ← hm] at hd
 cbv
 (refine c09 hn f trivial ?_; try dsimp only)
 rw [← hn1]
 cases n with
 | false =>
  cbv
  exact FinK.mk ⟨_, Gh.refl _, .inl (.v9 (K_bl hK (by (rw [hd]; rfl))))⟩
 | true =>
  cbv; repeat' ((first | refine .mk (fun h => ?_) fun h => ?_ | fail) <;> cbv)
  ·exact FinK.mk ⟨_, Gh.refl _, .inl (.v9 (K_bl hK (by (rw [hd]; simp; omega))))⟩
  ·exact FinK.mk ⟨_, Gh.refl _, .inl (.v9 (K_bl hK (by (rw [hd]; simp; omega))))⟩
  ·exact FinK.mk ⟨_, Gh.refl _, .inl (.v9 (K_bl hK (by (rw [hd]; simp [*]))))⟩
  ·exact FinK.mk ⟨_, Gh.refl _, .inl (.v9 (K_bl hK (by (rw [hd]; simp [*]))))⟩
  all_goals first | exact FinK.mk ⟨_, Gh.refl _, .inl (.v9 (K_bl hK (by (rw [hd]; simp [*]))))⟩ | skip
  all_goals
   (refine c09 hn t trivial ?_; try dsimp only)
   rw [← hm]
   cases m with
   | false =>
    cbv
    exact FinK.mk ⟨_, Gh.refl _, .inl (.v9 (K_bl hK (by (rw [hd]; clear hn1 hm hq; simp [*]))))⟩
   | true =>
    cbv; repeat' ((first | refine .mk (fun h => ?_) fun h => ?_ | fail) <;> cbv)
    ·exact FinK.mk ⟨_, Gh.refl _, .inl (.v9 (K_bl hK (by (rw [hd]; clear hn1 hm hq; simp [*]))))⟩
    ·exact FinK.mk ⟨_, Gh.refl _, .inl (.v9 (K_bl hK (by (rw [hd]; clear hn1 hm hq; simp [*]))))⟩
def wrongM (holder : ByteArray) (c : List Edm) (e : Edm) : Int := if edMay e = false then 2 else if kindB c 2 then 9 else if kindB c 1 = false ∧ ¬ e.frm = holder then 8 else if lateB c e.day then 6 else 0
def WrongC : Ctr := spec (fun i : ByteArray × List Edm × Edm => [.str i.1, .sl 4 (mapA EdA i.2.1), EdA i.2.2]) (fun _ => []) (fun i => i.2.1.length ≤ 5000) (fun i => .i (wrongM i.1 i.2.1 i.2.2)) fun _ => []
theorem wrong_body (P : Program) (hm : FnOk P 150 EdMayC) (hb : FnOk P 152 (KindC 1)) (hc : FnOk P 151 (KindC 2)) : BodyOk P x139 WrongC := by
 intro args H K hc; obtain ⟨⟨holder, c, ⟨f, t, k, d⟩⟩, rfl, rfl, hp, hK⟩ := hc; refine ⟨nb9, ?_⟩; dsimp only at hp hK ⊢
 have hd : wrongM holder c ⟨f, t, k, d⟩ = if edMay ⟨f, t, k, d⟩ = false then 2 else if kindB c 2 then 9 else if kindB c 1 = false ∧ ¬ f = holder then 8 else if lateB c d then 6 else 0 := rfl
 have hl : lateB c d = match c.getLast? with
  | some e => decide (d < e.day)
  | none => false := rfl
 obtain ⟨q, hq⟩ : ∃ q, q = wrongM holder c ⟨f, t, k, d⟩ := ⟨_, rfl⟩
 obtain ⟨q1, hq1⟩ : ∃ q, q = edMay ⟨f, t, k, d⟩ := ⟨_, rfl⟩
 obtain ⟨q2, hq2⟩ : ∃ q, q = kindB c 2 := ⟨_, rfl⟩
 obtain ⟨q3, hq3⟩ : ∃ q, q = kindB c 1 := ⟨_, rfl⟩
 obtain ⟨q4, hq4⟩ : ∃ q, q = lateB c d := ⟨_, rfl⟩
 rw [← hq] at hK hd
 rw [← hq1, ← hq2, ← hq3, ← hq4] at hd
 rw [← hq4] at hl
 cbv
 (refine c09 hm (⟨f, t, k, d⟩ : Edm) trivial ?_; try dsimp only)
 rw [← hq1]
 cases q1 with
 | false =>
  cbv
  exact FinK.mk ⟨_, Gh.refl _, .inl (.v9 (K_i hK (by (rw [hd]; rfl))))⟩
 | true =>
  cbv
  (refine c09 hc c hp ?_; try dsimp only)
  rw [← hq2]
  cases q2 with
  | true =>
   cbv
   exact FinK.mk ⟨_, Gh.refl _, .inl (.v9 (K_i hK (by (rw [hd]; rfl))))⟩
  | false =>
   cbv
   (refine c09 hb c hp ?_; try dsimp only)
   rw [← hq3]
   cases q3 with
   | true =>
    cbv; repeat' ((first | refine .mk (fun h => ?_) fun h => ?_ | refine .k fun z hz => ?_ | fail) <;> cbv)
    ·refine askEl_int om9 om9 fun i l hi hli => ?_
     obtain ⟨f', t', k', d'⟩ := l
     rw [last_at om9 hli] at hl
     dsimp only at hl
     cbv; repeat' ((first | refine .mk (fun h => ?_) fun h => ?_ | fail) <;> cbv)
     ·rw [decide_eq_true h] at hl
      exact FinK.mk ⟨_, Gh.refl _, .inl (.v9 (K_i hK (by (rw [hd, hl]; clear hd hq hq1 hq2 hq3 hq4; simp [*]))))⟩
     ·rw [decide_eq_false (by omega)] at hl
      exact FinK.mk ⟨_, Gh.refl _, .inl (.v9 (K_i hK (by (rw [hd, hl]; clear hd hq hq1 hq2 hq3 hq4; simp [*]))))⟩
    ·rw [last_nil om9] at hl
     dsimp only at hl
     exact FinK.mk ⟨_, Gh.refl _, .inl (.v9 (K_i hK (by (rw [hd, hl]; clear hd hq hq1 hq2 hq3 hq4; simp [*]))))⟩
   | false =>
    cbv; repeat' ((first | refine .mk (fun h => ?_) fun h => ?_ | refine .k fun z hz => ?_ | fail) <;> cbv)
    ·refine askEl_int om9 om9 fun i l hi hli => ?_
     obtain ⟨f', t', k', d'⟩ := l
     rw [last_at om9 hli] at hl
     dsimp only at hl
     cbv; repeat' ((first | refine .mk (fun h => ?_) fun h => ?_ | fail) <;> cbv)
     ·rw [decide_eq_true h] at hl
      exact FinK.mk ⟨_, Gh.refl _, .inl (.v9 (K_i hK (by (rw [hd, hl]; clear hd hq hq1 hq2 hq3 hq4; simp [*]))))⟩
     ·rw [decide_eq_false (by omega)] at hl
      exact FinK.mk ⟨_, Gh.refl _, .inl (.v9 (K_i hK (by (rw [hd, hl]; clear hd hq hq1 hq2 hq3 hq4; simp [*]))))⟩
    ·rw [last_nil om9] at hl
     dsimp only at hl
     exact FinK.mk ⟨_, Gh.refl _, .inl (.v9 (K_i hK (by (rw [hd, hl]; clear hd hq hq1 hq2 hq3 hq4; simp [*]))))⟩
    ·exact FinK.mk ⟨_, Gh.refl _, .inl (.v9 (K_i hK (by (rw [hd]; clear hd hq hq1 hq2 hq3 hq4; simp [*]))))⟩
def chkFrom (h : ByteArray) (ahead : List Edm) : List Edm → ByteArray × Int × Int
 | [] => (h, Int.ofNat ahead.length, 0)
 | e :: r => if wrongM h ahead e = 0 then chkFrom e.to (ahead ++ [e]) r else (⟨⟨[]⟩⟩, Int.ofNat ahead.length, wrongM h ahead e)
def checkM (first : ByteArray) (l : List Edm) : ByteArray × Int × Int := if nameB first = false then (⟨⟨[]⟩⟩, 0, 1) else chkFrom first [] l
theorem chkFrom_ok {c : List Edm} {h : ByteArray} {k : Nat} {e : Edm} (he : c[k]? = some e) (hw : wrongM h (c.take k) e = 0) : chkFrom h (c.take k) (c.drop k) = chkFrom e.to (c.take (k + 1)) (c.drop (k + 1)) := by
 obtain ⟨hk, rfl⟩ := List.getElem?_eq_some_iff.1 he
 rw [List.drop_eq_getElem_cons hk, chkFrom, if_pos hw, List.take_succ_eq_append_getElem hk]
theorem chkFrom_bad {c : List Edm} {h : ByteArray} {k : Nat} {e : Edm} (he : c[k]? = some e) (hw : ¬ wrongM h (c.take k) e = 0) : chkFrom h (c.take k) (c.drop k) = (⟨⟨[]⟩⟩, Int.ofNat k, wrongM h (c.take k) e) := by
 obtain ⟨hk, rfl⟩ := List.getElem?_eq_some_iff.1 he
 rw [List.drop_eq_getElem_cons hk, chkFrom, if_neg hw, List.length_take, Nat.min_eq_left (Nat.le_of_lt hk)]
theorem chkFrom_end {c : List Edm} {h : ByteArray} {k : Nat} (hk : k = c.length) : chkFrom h (c.take k) (c.drop k) = (h, Int.ofNat k, 0) := by
 rw [List.drop_eq_nil_of_le (by omega), chkFrom, List.length_take, hk, Nat.min_self]
def TriA : ByteArray × Int × Int → AV
 | (s, i, e) => .tup [.str s, .i i, .i e]
def CheckC : Ctr := spec (fun i : ByteArray × List Edm => [.str i.1, .sl 4 (mapA EdA i.2)]) (fun _ => []) (fun i => i.2.length ≤ 5000) (fun i => TriA (checkM i.1 i.2)) fun _ => []
theorem check_body (P : Program) (hn : FnOk P 68 (StrC (fun _ => True) nameB)) (hw : FnOk P 139 WrongC) : BodyOk P x116 CheckC := by
 intro args H K hc; obtain ⟨⟨first, c⟩, rfl, rfl, hp, hK⟩ := hc; refine ⟨nb9, ?_⟩; dsimp only at hp hK ⊢
 have hd : checkM first c = if nameB first = false then (⟨⟨[]⟩⟩, 0, 1) else chkFrom first (c.take 0) (c.drop 0) := rfl
 obtain ⟨q, hq⟩ : ∃ q, q = checkM first c := ⟨_, rfl⟩
 obtain ⟨n, hn1⟩ : ∃ q, q = nameB first := ⟨_, rfl⟩
 rw [← hq] at hK hd
 rw [← hn1] at hd
 cbv
 refine xscope (ι := Empty) 0 (fun e => nomatch e) (fun e => nomatch e) rfl ?_ (fun e => nomatch e)
 cbv
 (refine c09 hn first trivial ?_; try dsimp only)
 rw [← hn1]
 cases n with
 | false =>
  rw [if_pos rfl] at hd
  subst hd
  cbv
  exact FinK.mk ⟨_, Gh.refl _, .inl (.v9 hK)⟩
 | true =>
  rw [if_neg (by decide)] at hd
  cbv; repeat' ((first | refine .k fun z hz => ?_ | fail) <;> cbv)
  refine xloopV [] (fun p : { p : Nat × ByteArray // p.1 ≤ c.length ∧ q = chkFrom p.2 (c.take p.1) (c.drop p.1) } => [(14, .i (nI p.1.1)), (4, .str p.1.2), (5, .i 0), (6, .i 0)]) (fun _ => []) (fun p => lft 5001 p.1.1) ⟨(0, first), Nat.zero_le _, hd⟩ ?_
  rintro ⟨⟨k, hh⟩, hk, hd⟩
  dsimp only at hk hd ⊢
  cbv; repeat' ((first | refine .y fun h => ?_ | refine .mk (fun h => ?_) fun h => ?_ | refine .k fun z hz => ?_ | refine .l fun ys hys hyl => ?_ | fail) <;> cbv)
  ·obtain rfl : ys = c.take k := by rw [hys]; simp
   refine askEl_int om9 om9 fun i l hi hl => ?_
   obtain rfl : k = i := om9
   obtain ⟨f', t', k', d'⟩ := l
   have e1 := chkFrom_ok (h := hh) hl
   have e2 := chkFrom_bad (h := hh) hl
   cbv
   obtain ⟨w, hw1⟩ : ∃ w, w = wrongM hh (c.take k) ⟨f', t', k', d'⟩ := ⟨_, rfl⟩
   rw [← hw1] at e1 e2
   (refine c09 hw (hh, c.take k, (⟨f', t', k', d'⟩ : Edm)) (by dsimp only; rw [List.length_take]; omega) ?_; try dsimp only)
   rw [← hw1]
   cbv; repeat' ((first | refine .e ?_ | refine .n fun h => ?_ | refine .mk (fun h => ?_) fun h => ?_ | refine .k fun z hz => ?_ | fail) <;> cbv)
   ·subst h
    obtain rfl : z = nI (k + 1) := om9
    exact roundV ⟨(k + 1, t'), by exact om9, hd.trans (e1 rfl)⟩ (lft_lt om9)
   ·obtain rfl := hd.trans (e2 h)
    exact FinK.mk ⟨_, Gh.refl _, .inl (.v9 hK)⟩
  ·obtain rfl : k = c.length := om9
   obtain rfl : z = nI c.length := om9
   rw [chkFrom_end rfl] at hd
   subst hd
   exact FinK.mk ⟨_, Gh.refl _, .inl (.v9 hK)⟩
def HolderC : Ctr := spec (fun i : ByteArray × List Edm => [.str i.1, .sl 4 (mapA EdA i.2)]) (fun _ => []) (fun i => i.2.length ≤ 5000) (fun i => .str (checkM i.1 i.2).1) fun _ => []
theorem holderE_body (P : Program) (hc : FnOk P 116 CheckC) : BodyOk P x69 HolderC := by
 intro args H K hc; obtain ⟨⟨first, c⟩, rfl, rfl, hp, hK⟩ := hc; refine ⟨nb9, ?_⟩; dsimp only at hp hK ⊢
 obtain ⟨⟨h, i, e⟩, hq⟩ : ∃ q, q = checkM first c := ⟨_, rfl⟩
 rw [← hq] at hK
 dsimp only at hK
 cbv
 (refine c09 hc (first, c) hp ?_; try dsimp only)
 rw [← hq]
 cbv
 exact FinK.mk ⟨_, Gh.refl _, .inl (.v9 (K_of hK (by rfl)))⟩
def stO (s : Int) : Og → Og
 | ⟨_, h, c⟩ => ⟨s, h, c⟩
def onO (idx : Int) (f : Og → Og) : Br → Br
 | ⟨b, st, o0, o1, o2⟩ => ⟨b, st, bif hitB idx 0 then f o0 else o0, bif hitB idx 1 then f o1 else o1, bif hitB idx 2 then f o2 else o2⟩
def endM (st : Int) : Br → Br
 | ⟨b, _, o0, o1, o2⟩ => ⟨b, st, stO 2 o0, stO 2 o1, stO 2 o2⟩
def endK (st : Int) : Nat → Br → Br
 | 0, ⟨b, _, o0, o1, o2⟩ => ⟨b, st, o0, o1, o2⟩
 | 1, ⟨b, _, o0, o1, o2⟩ => ⟨b, st, stO 2 o0, o1, o2⟩
 | 2, ⟨b, _, o0, o1, o2⟩ => ⟨b, st, stO 2 o0, stO 2 o1, o2⟩
 | _, ⟨b, _, o0, o1, o2⟩ => ⟨b, st, stO 2 o0, stO 2 o1, stO 2 o2⟩
def EndC : Ctr := spec (fun i : Br × Int => [.ptr 0 0, .i i.2]) (fun i => EntC i.1) (fun _ => True) (fun _ => .tup []) fun i => EntC (endM i.2 i.1)
theorem end_body (P : Program) : BodyOk P x119 EndC := by
 intro args H K hc; obtain ⟨⟨y, st⟩, rfl, rfl, hp, hK⟩ := hc; refine ⟨nb9, ?_⟩; dsimp only at hp hK ⊢
 obtain ⟨⟨nq1, cq1, sq1, frm1, to1, bq1, pq1, iq1, lq1⟩, st1, ⟨sa1, ha1, ca1⟩, ⟨sb1, hb1, cb1⟩, ⟨sc1, hc1, cc1⟩⟩ := y
 cbv
 refine xloopV [] (fun p : { k : Nat // k ≤ 3 } => [(9, .i (nI p.1))]) (fun p => EntC (endK st p.1 ⟨⟨nq1, cq1, sq1, frm1, to1, bq1, pq1, iq1, lq1⟩, st1, ⟨sa1, ha1, ca1⟩, ⟨sb1, hb1, cb1⟩, ⟨sc1, hc1, cc1⟩⟩)) (fun p => lft 3 p.1) ⟨0, by decide⟩ ?_
 rintro ⟨k, hk⟩
 dsimp only at hk ⊢
 have hk4 : k = 0 ∨ k = 1 ∨ k = 2 ∨ k = 3 := by omega
 rcases hk4 with rfl | rfl | rfl | rfl
 ·cbv; repeat' ((first | refine .n fun h => ?_ | refine .y fun h => ?_ | refine .k fun z hz => ?_ | refine .o ?_ | fail) <;> cbv)
  obtain rfl : z = nI 1 := om9
  exact roundV ⟨1, by decide⟩ (lft_lt (by decide))
 ·cbv; repeat' ((first | refine .n fun h => ?_ | refine .y fun h => ?_ | refine .k fun z hz => ?_ | refine .o ?_ | fail) <;> cbv)
  obtain rfl : z = nI 2 := om9
  exact roundV ⟨2, by decide⟩ (lft_lt (by decide))
 ·cbv; repeat' ((first | refine .y fun h => ?_ | refine .k fun z hz => ?_ | refine .o ?_ | fail) <;> cbv)
  obtain rfl : z = nI 3 := om9
  exact roundV ⟨3, by decide⟩ (lft_lt (by decide))
 ·cbv; repeat' ((first | refine .n fun h => ?_ | fail) <;> cbv)
  (refine .r9 (Gh.refl _) ?_; cbv; exact .inl (.f9 hK))
def updM (L : List Br) (s : ByteArray) (f : Br → Br) : List Br := match bAt L s with
 | some i => match L[i]? with
  | some b => L.set i (f b)
  | none => L
 | none => L
theorem updM_some {L : List Br} {s : ByteArray} {i : Nat} {b : Br} (f : Br → Br) (h : bAt L s = some i) (hb : L[i]? = some b) : updM L s f = L.set i (f b) := by unfold updM; rw [h]; dsimp only; rw [hb]
def actM (L : List Br) (a : Ak) (f : Br → Br) : List Br := if askM L a = 0 then updM L a.bill f else L
theorem ask_zero {L : List Br} {a : Ak} {i : Nat} {b : Br} (h : askM L a = 0) (hi : bAt L a.bill = some i) (hb : L[i]? = some b) : askE b a = 0 := by
 unfold askM at h
 rw [hi] at h
 dsimp only at h
 rw [hb] at h
 exact h
theorem ask_none {L : List Br} {a : Ak} (h : askM L a = 0) (hi : bAt L a.bill = none) : False := by
 unfold askM at h
 rw [hi] at h
 exact absurd h (show ¬ (4:Int) = 0 by decide)
theorem askE_k1 {b : Br} {a : Ak} (h : askE b a = 0) : a.least ≤ a.index ∧ a.index < 3 := by
 unfold askE at h
 split at h
 ·exact absurd h (by decide)
 ·next hk => unfold k1 at hk; simp at hk; omega
def actC (args : Ak → List AV) (f : Ak → Br → Br) (p : Ak → Prop) : Ctr := spec (fun i : Rg × Ak => args i.2) (fun i => RegH i.1) (fun i => (∀ b ∈ i.1.bills, chOk b) ∧ p i.2) (fun i => .i (askM i.1.bills i.2)) fun i => RegH ⟨i.1.carrier, actM i.1.bills i.2 (f i.2)⟩
def loseF (a : Ak) : Br → Br := onO a.index (stO 3)
def LoseC : Ctr := actC (fun a => [.ptr 0 0, .str a.bill, .i a.index, .str a.by_]) loseF fun a => a.least = 0 ∧ a.state = 0 ∧ a.day = 0 ∧ a.dated = false ∧ a.wrong = false
theorem lose_body (P : Program) (ha : FnOk P 67 AskC) : BodyOk P x78 LoseC := by
 intro args H K hc; obtain ⟨⟨⟨carrier, L⟩, ⟨bill, index, least, by_, state, day, dated, wrong⟩⟩, rfl, rfl, hp, hK⟩ := hc; refine ⟨nb9, ?_⟩; dsimp only at hp hK ⊢
 obtain ⟨hp, rfl, rfl, rfl, rfl, rfl⟩ := hp
 obtain ⟨e, he⟩ : ∃ e, e = askM L ⟨bill, index, 0, by_, 0, 0, false, false⟩ := ⟨_, rfl⟩
 obtain ⟨L', hL'⟩ : ∃ L', L' = actM L ⟨bill, index, 0, by_, 0, 0, false, false⟩ (loseF ⟨bill, index, 0, by_, 0, 0, false, false⟩) := ⟨_, rfl⟩
 rw [← he, ← hL'] at hK
 unfold actM at hL'
 dsimp only at hL'
 rw [← he] at hL'
 cbv
 (refine cs9 ha (⟨carrier, L⟩, ⟨bill, index, 0, by_, 0, 0, false, false⟩) [0, 1] hp ?_; try dsimp only)
 rw [← he]
 cbv; repeat' ((first | refine .mk (fun h => ?_) fun h => ?_ | fail) <;> cbv)
 ·rw [if_pos h] at hL'
  refine poolK_in (fun b : Br => b.b.number) (fun _ => rfl) (fun i y hai hy hky => ?_) (fun hai => ?_) <;> dsimp only at *
  ·have hz := ask_zero (he.symm.trans h) hai hy
   have hk := askE_k1 hz
   clear hz
   rw [updM_some _ hai hy] at hL'
   dsimp only at hk
   have hk3 : index = 0 ∨ index = 1 ∨ index = 2 := by omega
   obtain ⟨⟨nq1, cq1, sq1, frm1, to1, bq1, pq1, iq1, lq1⟩, st1, ⟨sa1, ha1, ca1⟩, ⟨sb1, hb1, cb1⟩, ⟨sc1, hc1, cc1⟩⟩ := y
   rcases hk3 with rfl | rfl | rfl
   ·obtain rfl : L' = L.set i ⟨⟨nq1, cq1, sq1, frm1, to1, bq1, pq1, iq1, lq1⟩, st1, ⟨3, ha1, ca1⟩, ⟨sb1, hb1, cb1⟩, ⟨sc1, hc1, cc1⟩⟩ := hL'
    cbv; repeat' ((first | refine .n fun h => ?_ | refine .o ?_ | fail) <;> cbv)
    (refine .r9 (Gh.back 1 ([2, 3, 4, 5]) PelA ⟨⟨nq1, cq1, sq1, frm1, to1, bq1, pq1, iq1, lq1⟩, st1, ⟨3, ha1, ca1⟩, ⟨sb1, hb1, cb1⟩, ⟨sc1, hc1, cc1⟩⟩ rfl hy) ?_; cbv; exact .inl (.f9 hK))
   ·obtain rfl : L' = L.set i ⟨⟨nq1, cq1, sq1, frm1, to1, bq1, pq1, iq1, lq1⟩, st1, ⟨sa1, ha1, ca1⟩, ⟨3, hb1, cb1⟩, ⟨sc1, hc1, cc1⟩⟩ := hL'
    cbv; repeat' ((first | refine .n fun h => ?_ | refine .y fun h => ?_ | refine .o ?_ | fail) <;> cbv)
    (refine .r9 (Gh.back 1 ([2, 3, 4, 5]) PelA ⟨⟨nq1, cq1, sq1, frm1, to1, bq1, pq1, iq1, lq1⟩, st1, ⟨sa1, ha1, ca1⟩, ⟨3, hb1, cb1⟩, ⟨sc1, hc1, cc1⟩⟩ rfl hy) ?_; cbv; exact .inl (.f9 hK))
   ·obtain rfl : L' = L.set i ⟨⟨nq1, cq1, sq1, frm1, to1, bq1, pq1, iq1, lq1⟩, st1, ⟨sa1, ha1, ca1⟩, ⟨sb1, hb1, cb1⟩, ⟨3, hc1, cc1⟩⟩ := hL'
    cbv; repeat' ((first | refine .y fun h => ?_ | refine .o ?_ | fail) <;> cbv)
    (refine .r9 (Gh.back 1 ([2, 3, 4, 5]) PelA ⟨⟨nq1, cq1, sq1, frm1, to1, bq1, pq1, iq1, lq1⟩, st1, ⟨sa1, ha1, ca1⟩, ⟨sb1, hb1, cb1⟩, ⟨3, hc1, cc1⟩⟩ rfl hy) ?_; cbv; exact .inl (.f9 hK))
  ·exact (ask_none (he.symm.trans h) hai).elim
 ·rw [if_neg h] at hL'
  subst hL'
  (refine .r9 (Gh.refl _) ?_; cbv; exact .inl (.f9 hK))
def repF (a : Ak) : Br → Br := onO a.index (stO 0)
def ReplaceC : Ctr := actC (fun a => [.ptr 0 0, .str a.bill, .i a.index, .str a.by_, .i a.day]) repF fun a => a.least = 0 ∧ a.state = 3 ∧ a.dated = true ∧ a.wrong = false
theorem replace_body (P : Program) (ha : FnOk P 67 AskC) : BodyOk P x79 ReplaceC := by
 intro args H K hc; obtain ⟨⟨⟨carrier, L⟩, ⟨bill, index, least, by_, state, day, dated, wrong⟩⟩, rfl, rfl, hp, hK⟩ := hc; refine ⟨nb9, ?_⟩; dsimp only at hp hK ⊢
 obtain ⟨hp, rfl, rfl, rfl, rfl⟩ := hp
 obtain ⟨e, he⟩ : ∃ e, e = askM L ⟨bill, index, 0, by_, 3, day, true, false⟩ := ⟨_, rfl⟩
 obtain ⟨L', hL'⟩ : ∃ L', L' = actM L ⟨bill, index, 0, by_, 3, day, true, false⟩ (repF ⟨bill, index, 0, by_, 3, day, true, false⟩) := ⟨_, rfl⟩
 rw [← he, ← hL'] at hK
 unfold actM at hL'
 dsimp only at hL'
 rw [← he] at hL'
 cbv
 (refine cs9 ha (⟨carrier, L⟩, ⟨bill, index, 0, by_, 3, day, true, false⟩) [0, 1] hp ?_; try dsimp only)
 rw [← he]
 cbv; repeat' ((first | refine .mk (fun h => ?_) fun h => ?_ | fail) <;> cbv)
 ·rw [if_pos h] at hL'
  refine poolK_in (fun b : Br => b.b.number) (fun _ => rfl) (fun i y hai hy hky => ?_) (fun hai => ?_) <;> dsimp only at *
  ·have hz := ask_zero (he.symm.trans h) hai hy
   have hk := askE_k1 hz
   clear hz
   rw [updM_some _ hai hy] at hL'
   dsimp only at hk
   have hk3 : index = 0 ∨ index = 1 ∨ index = 2 := by omega
   obtain ⟨⟨nq1, cq1, sq1, frm1, to1, bq1, pq1, iq1, lq1⟩, st1, ⟨sa1, ha1, ca1⟩, ⟨sb1, hb1, cb1⟩, ⟨sc1, hc1, cc1⟩⟩ := y
   rcases hk3 with rfl | rfl | rfl
   ·obtain rfl : L' = L.set i ⟨⟨nq1, cq1, sq1, frm1, to1, bq1, pq1, iq1, lq1⟩, st1, ⟨0, ha1, ca1⟩, ⟨sb1, hb1, cb1⟩, ⟨sc1, hc1, cc1⟩⟩ := hL'
    cbv; repeat' ((first | refine .n fun h => ?_ | refine .o ?_ | fail) <;> cbv)
    (refine .r9 (Gh.back 1 ([2, 3, 4, 5]) PelA ⟨⟨nq1, cq1, sq1, frm1, to1, bq1, pq1, iq1, lq1⟩, st1, ⟨0, ha1, ca1⟩, ⟨sb1, hb1, cb1⟩, ⟨sc1, hc1, cc1⟩⟩ rfl hy) ?_; cbv; exact .inl (.f9 hK))
   ·obtain rfl : L' = L.set i ⟨⟨nq1, cq1, sq1, frm1, to1, bq1, pq1, iq1, lq1⟩, st1, ⟨sa1, ha1, ca1⟩, ⟨0, hb1, cb1⟩, ⟨sc1, hc1, cc1⟩⟩ := hL'
    cbv; repeat' ((first | refine .n fun h => ?_ | refine .y fun h => ?_ | refine .o ?_ | fail) <;> cbv)
    (refine .r9 (Gh.back 1 ([2, 3, 4, 5]) PelA ⟨⟨nq1, cq1, sq1, frm1, to1, bq1, pq1, iq1, lq1⟩, st1, ⟨sa1, ha1, ca1⟩, ⟨0, hb1, cb1⟩, ⟨sc1, hc1, cc1⟩⟩ rfl hy) ?_; cbv; exact .inl (.f9 hK))
   ·obtain rfl : L' = L.set i ⟨⟨nq1, cq1, sq1, frm1, to1, bq1, pq1, iq1, lq1⟩, st1, ⟨sa1, ha1, ca1⟩, ⟨sb1, hb1, cb1⟩, ⟨0, hc1, cc1⟩⟩ := hL'
    cbv; repeat' ((first | refine .y fun h => ?_ | refine .o ?_ | fail) <;> cbv)
    (refine .r9 (Gh.back 1 ([2, 3, 4, 5]) PelA ⟨⟨nq1, cq1, sq1, frm1, to1, bq1, pq1, iq1, lq1⟩, st1, ⟨sa1, ha1, ca1⟩, ⟨sb1, hb1, cb1⟩, ⟨0, hc1, cc1⟩⟩ rfl hy) ?_; cbv; exact .inl (.f9 hK))
  ·exact (ask_none (he.symm.trans h) hai).elim
 ·rw [if_neg h] at hL'
  subst hL'
  (refine .r9 (Gh.refl _) ?_; cbv; exact .inl (.f9 hK))
def retF (_ : Ak) : Br → Br := endM 4
def RetireC : Ctr := actC (fun a => [.ptr 0 0, .str a.bill, .str a.by_, .i a.day]) retF fun a => a.index = -1 ∧ a.least = -1 ∧ a.state = 0 ∧ a.dated = true ∧ a.wrong = false
theorem retire_body (P : Program) (hend : FnOk P 119 EndC) (ha : FnOk P 67 AskC) : BodyOk P x80 RetireC := by
 intro args H K hc; obtain ⟨⟨⟨carrier, L⟩, ⟨bill, index, least, by_, state, day, dated, wrong⟩⟩, rfl, rfl, hp, hK⟩ := hc; refine ⟨nb9, ?_⟩; dsimp only at hp hK ⊢
 obtain ⟨hp, rfl, rfl, rfl, rfl, rfl⟩ := hp
 obtain ⟨e, he⟩ : ∃ e, e = askM L ⟨bill, -1, -1, by_, 0, day, true, false⟩ := ⟨_, rfl⟩
 obtain ⟨L', hL'⟩ : ∃ L', L' = actM L ⟨bill, -1, -1, by_, 0, day, true, false⟩ (retF ⟨bill, -1, -1, by_, 0, day, true, false⟩) := ⟨_, rfl⟩
 rw [← he, ← hL'] at hK
 unfold actM at hL'
 dsimp only at hL'
 rw [← he] at hL'
 cbv
 (refine cs9 ha (⟨carrier, L⟩, ⟨bill, -1, -1, by_, 0, day, true, false⟩) [0, 1] hp ?_; try dsimp only)
 rw [← he]
 cbv; repeat' ((first | refine .mk (fun h => ?_) fun h => ?_ | fail) <;> cbv)
 ·rw [if_pos h] at hL'
  refine poolK_in (fun b : Br => b.b.number) (fun _ => rfl) (fun i y hai hy hky => ?_) (fun hai => ?_) <;> dsimp only at *
  ·rw [updM_some _ hai hy] at hL'
   obtain ⟨⟨nq1, cq1, sq1, frm1, to1, bq1, pq1, iq1, lq1⟩, st1, ⟨sa1, ha1, ca1⟩, ⟨sb1, hb1, cb1⟩, ⟨sc1, hc1, cc1⟩⟩ := y
   obtain rfl : L' = L.set i ⟨⟨nq1, cq1, sq1, frm1, to1, bq1, pq1, iq1, lq1⟩, 4, ⟨2, ha1, ca1⟩, ⟨2, hb1, cb1⟩, ⟨2, hc1, cc1⟩⟩ := hL'
   cbv
   (refine cs9 hend (⟨⟨nq1, cq1, sq1, frm1, to1, bq1, pq1, iq1, lq1⟩, st1, ⟨sa1, ha1, ca1⟩, ⟨sb1, hb1, cb1⟩, ⟨sc1, hc1, cc1⟩⟩, 4) [2, 3, 4, 5] trivial ?_; try dsimp only)
   cbv
   (refine .r9 (Gh.back 1 ([2, 3, 4, 5]) PelA ⟨⟨nq1, cq1, sq1, frm1, to1, bq1, pq1, iq1, lq1⟩, 4, ⟨2, ha1, ca1⟩, ⟨2, hb1, cb1⟩, ⟨2, hc1, cc1⟩⟩ rfl hy) ?_; cbv; exact .inl (.f9 hK))
  ·exact (ask_none (he.symm.trans h) hai).elim
 ·rw [if_neg h] at hL'
  subst hL'
  (refine .r9 (Gh.refl _) ?_; cbv; exact .inl (.f9 hK))
def surF (a : Ak) : Br → Br := fun b => onO a.index (stO 1) (endM 1 b)
def boxM (L : List Br) (a : Ak) : List ByteArray := if askM L a = 0 then (getM L a.bill).1.boxes else []
def SurrenderC : Ctr := spec (fun i : Rg × Ak => [.ptr 0 0, .str i.2.bill, .i i.2.index, .str i.2.by_, .i i.2.day]) (fun i => RegH i.1) (fun i => (∀ b ∈ i.1.bills, chOk b ∧ okB b.b) ∧ i.2.least = 0 ∧ i.2.state = 0 ∧ i.2.dated = true ∧ i.2.wrong = false) (fun i => .tup [.sl 1 (mapA .str (boxM i.1.bills i.2)), .i (askM i.1.bills i.2)]) fun i => RegH ⟨i.1.carrier, actM i.1.bills i.2 (surF i.2)⟩
theorem surrender_body (P : Program) (hend : FnOk P 119 EndC) (hcl : FnOk P 84 (CloneC 1 16)) (ha : FnOk P 67 AskC) : BodyOk P x77 SurrenderC := by
 intro args H K hc; obtain ⟨⟨⟨carrier, L⟩, ⟨bill, index, least, by_, state, day, dated, wrong⟩⟩, rfl, rfl, hp, hK⟩ := hc; refine ⟨nb9, ?_⟩; dsimp only at hp hK ⊢
 obtain ⟨hp, rfl, rfl, rfl, rfl⟩ := hp
 obtain ⟨e, he⟩ : ∃ e, e = askM L ⟨bill, index, 0, by_, 0, day, true, false⟩ := ⟨_, rfl⟩
 obtain ⟨L', hL'⟩ : ∃ L', L' = actM L ⟨bill, index, 0, by_, 0, day, true, false⟩ (surF ⟨bill, index, 0, by_, 0, day, true, false⟩) := ⟨_, rfl⟩
 obtain ⟨l, hl⟩ : ∃ l, l = boxM L ⟨bill, index, 0, by_, 0, day, true, false⟩ := ⟨_, rfl⟩
 rw [← he, ← hL', ← hl] at hK
 unfold boxM at hl
 dsimp only at hl
 rw [← he] at hl
 unfold actM at hL'
 dsimp only at hL'
 rw [← he] at hL'
 cbv
 (refine cs9 ha (⟨carrier, L⟩, ⟨bill, index, 0, by_, 0, day, true, false⟩) [0, 1] (fun b hb => (hp b hb).1) ?_; try dsimp only)
 rw [← he]
 cbv; repeat' ((first | refine .mk (fun h => ?_) fun h => ?_ | fail) <;> cbv)
 ·rw [if_pos h] at hL' hl
  rw [h] at hK
  refine poolK_in (fun b : Br => b.b.number) (fun _ => rfl) (fun i y hai hy hky => ?_) (fun hai => ?_) <;> dsimp only at *
  ·have hz := ask_zero (he.symm.trans h) hai hy
   have hk := askE_k1 hz
   clear hz
   rw [updM_some _ hai hy] at hL'
   dsimp only at hk
   have hk3 : index = 0 ∨ index = 1 ∨ index = 2 := by omega
   rw [getM_some hai hy] at hl
   have hob := (hp y (List.mem_of_getElem? hy)).2
   unfold okB at hob
   obtain ⟨⟨nq1, cq1, sq1, frm1, to1, bq1, pq1, iq1, lq1⟩, st1, ⟨sa1, ha1, ca1⟩, ⟨sb1, hb1, cb1⟩, ⟨sc1, hc1, cc1⟩⟩ := y
   dsimp only at hl hob
   subst l
   rcases hk3 with rfl | rfl | rfl
   ·obtain rfl : L' = L.set i ⟨⟨nq1, cq1, sq1, frm1, to1, bq1, pq1, iq1, lq1⟩, 1, ⟨1, ha1, ca1⟩, ⟨2, hb1, cb1⟩, ⟨2, hc1, cc1⟩⟩ := hL'
    cbv
    (refine cs9 hend (⟨⟨nq1, cq1, sq1, frm1, to1, bq1, pq1, iq1, lq1⟩, st1, ⟨sa1, ha1, ca1⟩, ⟨sb1, hb1, cb1⟩, ⟨sc1, hc1, cc1⟩⟩, 1) [2, 3, 4, 5] trivial ?_; try dsimp only)
    cbv; repeat' ((first | refine .n fun h => ?_ | refine .o ?_ | fail) <;> cbv)
    (refine c09 hcl _ ⟨by rw [mapA_len]; unfold maxLen; omega, by rw [mapA_len]; omega⟩ ?_; try dsimp only)
    cbv
    (refine .r9 (Gh.back 1 ([2, 3, 4, 5]) PelA ⟨⟨nq1, cq1, sq1, frm1, to1, bq1, pq1, iq1, lq1⟩, 1, ⟨1, ha1, ca1⟩, ⟨2, hb1, cb1⟩, ⟨2, hc1, cc1⟩⟩ rfl hy) ?_; cbv; exact .inl (.f9 hK))
   ·obtain rfl : L' = L.set i ⟨⟨nq1, cq1, sq1, frm1, to1, bq1, pq1, iq1, lq1⟩, 1, ⟨2, ha1, ca1⟩, ⟨1, hb1, cb1⟩, ⟨2, hc1, cc1⟩⟩ := hL'
    cbv
    (refine cs9 hend (⟨⟨nq1, cq1, sq1, frm1, to1, bq1, pq1, iq1, lq1⟩, st1, ⟨sa1, ha1, ca1⟩, ⟨sb1, hb1, cb1⟩, ⟨sc1, hc1, cc1⟩⟩, 1) [2, 3, 4, 5] trivial ?_; try dsimp only)
    cbv; repeat' ((first | refine .n fun h => ?_ | refine .y fun h => ?_ | refine .o ?_ | fail) <;> cbv)
    (refine c09 hcl _ ⟨by rw [mapA_len]; unfold maxLen; omega, by rw [mapA_len]; omega⟩ ?_; try dsimp only)
    cbv
    (refine .r9 (Gh.back 1 ([2, 3, 4, 5]) PelA ⟨⟨nq1, cq1, sq1, frm1, to1, bq1, pq1, iq1, lq1⟩, 1, ⟨2, ha1, ca1⟩, ⟨1, hb1, cb1⟩, ⟨2, hc1, cc1⟩⟩ rfl hy) ?_; cbv; exact .inl (.f9 hK))
   ·obtain rfl : L' = L.set i ⟨⟨nq1, cq1, sq1, frm1, to1, bq1, pq1, iq1, lq1⟩, 1, ⟨2, ha1, ca1⟩, ⟨2, hb1, cb1⟩, ⟨1, hc1, cc1⟩⟩ := hL'
    cbv
    (refine cs9 hend (⟨⟨nq1, cq1, sq1, frm1, to1, bq1, pq1, iq1, lq1⟩, st1, ⟨sa1, ha1, ca1⟩, ⟨sb1, hb1, cb1⟩, ⟨sc1, hc1, cc1⟩⟩, 1) [2, 3, 4, 5] trivial ?_; try dsimp only)
    cbv; repeat' ((first | refine .y fun h => ?_ | refine .o ?_ | fail) <;> cbv)
    (refine c09 hcl _ ⟨by rw [mapA_len]; unfold maxLen; omega, by rw [mapA_len]; omega⟩ ?_; try dsimp only)
    cbv
    (refine .r9 (Gh.back 1 ([2, 3, 4, 5]) PelA ⟨⟨nq1, cq1, sq1, frm1, to1, bq1, pq1, iq1, lq1⟩, 1, ⟨2, ha1, ca1⟩, ⟨2, hb1, cb1⟩, ⟨1, hc1, cc1⟩⟩ rfl hy) ?_; cbv; exact .inl (.f9 hK))
  ·exact (ask_none (he.symm.trans h) hai).elim
 ·rw [if_neg h] at hL' hl
  subst hL'
  subst hl
  (refine .r9 (Gh.refl _) ?_; cbv; exact .inl (.g9 hK))
def endF (f t : ByteArray) (d : Int) : Og → Og
 | ⟨s, h, c⟩ => ⟨s, (checkM h [⟨f, t, 0, d⟩]).1, c ++ [⟨f, t, 0, d⟩]⟩
def wrongE (by_ to : ByteArray) : Bool := !nameB to || decide (to = by_)
def EndorseC : Ctr := spec (fun i : Rg × Ak × ByteArray => [.ptr 0 0, .str i.2.1.bill, .i i.2.1.index, .str i.2.1.by_, .str i.2.2, .i i.2.1.day]) (fun i => RegH i.1) (fun i => (∀ b ∈ i.1.bills, chOk b) ∧ i.2.1.least = -1 ∧ i.2.1.state = 0 ∧ i.2.1.dated = true ∧ i.2.1.wrong = wrongE i.2.1.by_ i.2.2) (fun i => .i (askM i.1.bills i.2.1)) fun i => RegH ⟨i.1.carrier, actM i.1.bills i.2.1 (onO i.2.1.index (endF i.2.1.by_ i.2.2 i.2.1.day))⟩
def pick4 {α : Type} : Nat → α → α → α → α → α
 | 0, a, _, _, _ => a
 | 1, _, b, _, _ => b
 | 2, _, _, c, _ => c
 | _, _, _, _, d => d
theorem hitB_yes {idx k : Int} (h : idx = -1 ∨ idx = k) : hitB idx k = true := by unfold hitB; rcases h with h | h <;> rw [decide_eq_true h] <;> simp
theorem ask_wrong {L : List Br} {a : Ak} (hw : a.wrong = true) : askM L a ≠ 0 := by
 unfold askM
 split
 ·split
  ·unfold askE
   have h2 : k2 a = true := by unfold k2; rw [hw]; rfl
   rw [h2, if_pos rfl]
   split
   ·exact (by decide : (3 : Int) ≠ 0)
   ·exact (by decide : (1 : Int) ≠ 0)
  ·exact (by decide : (4 : Int) ≠ 0)
 ·exact (by decide : (4 : Int) ≠ 0)
theorem endorse_body (P : Program) (hn : FnOk P 68 (StrC (fun _ => True) nameB)) (ha : FnOk P 67 AskC) (hh : FnOk P 69 HolderC) : BodyOk P x30 EndorseC := by
 intro args H K hc; obtain ⟨⟨⟨carrier, L⟩, ⟨bill, index, least, by_, state, day, dated, wrong⟩, to⟩, rfl, rfl, hp, hK⟩ := hc; refine ⟨nb9, ?_⟩; dsimp only at hp hK ⊢
 obtain ⟨hp, rfl, rfl, rfl, hwr⟩ := hp
 unfold wrongE at hwr
 obtain ⟨e, he⟩ : ∃ e, e = askM L ⟨bill, index, -1, by_, 0, day, true, wrong⟩ := ⟨_, rfl⟩
 obtain ⟨L', hL'⟩ : ∃ L', L' = actM L ⟨bill, index, -1, by_, 0, day, true, wrong⟩ (onO index (endF by_ to day)) := ⟨_, rfl⟩
 obtain ⟨n, hn1⟩ : ∃ n, n = nameB to := ⟨_, rfl⟩
 rw [← he, ← hL'] at hK
 rw [← hn1] at hwr
 unfold actM at hL'
 dsimp only at hL'
 rw [← he] at hL'
 cbv
 (refine c09 hn to trivial ?_; try dsimp only)
 rw [← hn1]
 have hw3 : (n = false ∧ wrong = true) ∨ (n = true ∧ to = by_ ∧ wrong = true) ∨ (n = true ∧ ¬ to = by_ ∧ wrong = false) := by
  rw [hwr]
  cases n <;> by_cases ht : to = by_ <;> simp [ht]
 clear hwr
 obtain ⟨q0, hq0⟩ : ∃ q, q = hitB index 0 := ⟨_, rfl⟩
 obtain ⟨q1, hq1⟩ : ∃ q, q = hitB index 1 := ⟨_, rfl⟩
 obtain ⟨q2, hq2⟩ : ∃ q, q = hitB index 2 := ⟨_, rfl⟩
 rcases hw3 with ⟨rfl, rfl⟩ | ⟨rfl, ht, rfl⟩ | ⟨rfl, ht, rfl⟩
 ·have hne := ask_wrong (L := L) (a := ⟨bill, index, -1, by_, 0, day, true, true⟩) rfl
  rw [← he] at hne
  rw [if_neg hne] at hL'
  rw [hL'] at hK
  cbv
  (refine cs9 ha (⟨carrier, L⟩, ⟨bill, index, -1, by_, 0, day, true, true⟩) [0, 1] hp ?_; try dsimp only)
  rw [← he]
  cbv; repeat' ((first | refine .n fun h => ?_ | fail) <;> cbv)
  (refine .r9 (Gh.refl _) ?_; cbv; exact .inl (.f9 hK))
 ·have hne := ask_wrong (L := L) (a := ⟨bill, index, -1, by_, 0, day, true, true⟩) rfl
  rw [← he] at hne
  rw [if_neg hne] at hL'
  rw [hL'] at hK
  cbv; repeat' ((first | refine .mk (fun h => ?_) fun h => ?_ | fail) <;> cbv)
  ·(refine cs9 ha (⟨carrier, L⟩, ⟨bill, index, -1, by_, 0, day, true, true⟩) [0, 1] hp ?_; try dsimp only)
   rw [← he]
   cbv; repeat' ((first | refine .n fun h => ?_ | fail) <;> cbv)
   (refine .r9 (Gh.refl _) ?_; cbv; exact .inl (.f9 hK))
  ·exact (h ht).elim
 ·cbv; repeat' ((first | refine .mk (fun h => ?_) fun h => ?_ | fail) <;> cbv)
  ·exact (ht h).elim
  ·(refine cs9 ha (⟨carrier, L⟩, ⟨bill, index, -1, by_, 0, day, true, false⟩) [0, 1] hp ?_; try dsimp only)
   rw [← he]
   cbv; repeat' ((first | refine .mk (fun h => ?_) fun h => ?_ | fail) <;> cbv)
   ·rw [if_pos ‹e = 0›] at hL'
    rw [‹e = 0›] at hK
    refine poolK_in (fun b : Br => b.b.number) (fun _ => rfl) (fun i y hai hy hky => ?_) (fun hai => ?_) <;> dsimp only at *
    ·rw [updM_some _ hai hy] at hL'
     have hch := hp y (List.mem_of_getElem? hy)
     obtain ⟨⟨nq1, cq1, sq1, frm1, to1, bq1, pq1, iq1, lq1⟩, st1, ⟨sa1, ha1, ca1⟩, ⟨sb1, hb1, cb1⟩, ⟨sc1, hc1, cc1⟩⟩ := y
     unfold chOk at hch
     dsimp only at hch
     obtain ⟨hch0, hch1, hch2⟩ := hch
     obtain ⟨⟨ux, xh, xc⟩, hx⟩ : ∃ o, o = bif q0 then endF by_ to day ⟨sa1, ha1, ca1⟩ else ⟨sa1, ha1, ca1⟩ := ⟨_, rfl⟩
     obtain ⟨⟨uy, yh, yc⟩, hyy⟩ : ∃ o, o = bif q1 then endF by_ to day ⟨sb1, hb1, cb1⟩ else ⟨sb1, hb1, cb1⟩ := ⟨_, rfl⟩
     obtain ⟨⟨uz, zh, zc⟩, hzz⟩ : ∃ o, o = bif q2 then endF by_ to day ⟨sc1, hc1, cc1⟩ else ⟨sc1, hc1, cc1⟩ := ⟨_, rfl⟩
     obtain ⟨⟨m0, mi0, me0⟩, hm0⟩ : ∃ m, m = checkM ha1 [⟨by_, to, 0, day⟩] := ⟨_, rfl⟩
     obtain ⟨⟨m1, mi1, me1⟩, hm1⟩ : ∃ m, m = checkM hb1 [⟨by_, to, 0, day⟩] := ⟨_, rfl⟩
     obtain ⟨⟨m2, mi2, me2⟩, hm2⟩ : ∃ m, m = checkM hc1 [⟨by_, to, 0, day⟩] := ⟨_, rfl⟩
     unfold onO at hL'
     dsimp only at hL'
     rw [← hq0, ← hq1, ← hq2, ← hx, ← hyy, ← hzz] at hL'
     subst hL'
     cbv
     refine xloopV [] (fun p : { k : Nat // k ≤ 3 } => [(42, .i (nI p.1))]) (fun p => [.blk 79 [.str carrier, .ph 1], .pool 77 (mapA PelA L) [(i, .ptr 2 0)]] ++ renH [] 2 (EntC (pick4 p.1 ⟨⟨nq1, cq1, sq1, frm1, to1, bq1, pq1, iq1, lq1⟩, st1, ⟨sa1, ha1, ca1⟩, ⟨sb1, hb1, cb1⟩, ⟨sc1, hc1, cc1⟩⟩ ⟨⟨nq1, cq1, sq1, frm1, to1, bq1, pq1, iq1, lq1⟩, st1, ⟨ux, xh, xc⟩, ⟨sb1, hb1, cb1⟩, ⟨sc1, hc1, cc1⟩⟩ ⟨⟨nq1, cq1, sq1, frm1, to1, bq1, pq1, iq1, lq1⟩, st1, ⟨ux, xh, xc⟩, ⟨uy, yh, yc⟩, ⟨sc1, hc1, cc1⟩⟩ ⟨⟨nq1, cq1, sq1, frm1, to1, bq1, pq1, iq1, lq1⟩, st1, ⟨ux, xh, xc⟩, ⟨uy, yh, yc⟩, ⟨uz, zh, zc⟩⟩))) (fun p => lft 3 p.1) ⟨0, by decide⟩ ?_
     rintro ⟨k, hk⟩
     dsimp only at hk ⊢
     have hk4 : k = 0 ∨ k = 1 ∨ k = 2 ∨ k = 3 := by omega
     rcases hk4 with rfl | rfl | rfl | rfl
     ·cases q0 with
      | true =>
       obtain ⟨rfl, rfl, rfl⟩ : ux = sa1 ∧ xh = m0 ∧ xc = ca1 ++ [⟨by_, to, 0, day⟩] := by
        unfold endF at hx
        dsimp only at hx
        rw [← hm0] at hx
        injection hx with h1 h2 h3
        exact ⟨h1, h2, h3⟩
       cbv; repeat' ((first | refine .n fun h => ?_ | refine .y fun h => ?_ | refine .mk (fun h => ?_) fun h => ?_ | refine .k fun z hz => ?_ | refine .o ?_ | refine .zl fun zs hzs hzl => ?_ | fail) <;> cbv)
       ·refine callG_publish 9 rfl ?_
        cbv
        (refine c09 hh (ha1, [⟨by_, to, 0, day⟩]) (Nat.le_add_left 1 4999) ?_; try dsimp only)
        rw [← hm0]
        dsimp only
        obtain rfl : zs = mapA EdA (ca1 ++ [(⟨by_, to, 0, day⟩ : Edm)]) := by (rw [mapA_app, mapA_one]; first | exact hzs | (subst_vars; rfl))
        cbv; repeat' ((first | refine .k fun z hz => ?_ | fail) <;> cbv)
        obtain rfl : z = nI 1 := om9
        exact roundV ⟨1, by decide⟩ (lft_lt (by decide))
       ·refine callG_publish 9 rfl ?_
        cbv
        (refine c09 hh (ha1, [⟨by_, to, 0, day⟩]) (Nat.le_add_left 1 4999) ?_; try dsimp only)
        rw [← hm0]
        dsimp only
        obtain rfl : zs = mapA EdA (ca1 ++ [(⟨by_, to, 0, day⟩ : Edm)]) := by (rw [mapA_app, mapA_one]; first | exact hzs | (subst_vars; rfl))
        cbv; repeat' ((first | refine .k fun z hz => ?_ | fail) <;> cbv)
        obtain rfl : z = nI 1 := om9
        exact roundV ⟨1, by decide⟩ (lft_lt (by decide))
       ·exact absurd (hq0.trans (hitB_not ‹¬ index = -1› ‹¬ index = Int.ofNat 0›)) (by decide)
      | false =>
       obtain ⟨rfl, rfl, rfl⟩ : ux = sa1 ∧ xh = ha1 ∧ xc = ca1 := by
        injection hx with h1 h2 h3
        exact ⟨h1, h2, h3⟩
       cbv; repeat' ((first | refine .n fun h => ?_ | refine .y fun h => ?_ | refine .mk (fun h => ?_) fun h => ?_ | refine .k fun z hz => ?_ | refine .o ?_ | refine .zl fun zs hzs hzl => ?_ | fail) <;> cbv)
       ·exact absurd (hq0.trans (hitB_yes (.inl ‹index = -1›))) (by decide)
       ·exact absurd (hq0.trans (hitB_yes (.inr ‹index = Int.ofNat 0›))) (by decide)
       ·obtain rfl : z = nI 1 := om9
        exact roundV ⟨1, by decide⟩ (lft_lt (by decide))
     ·cases q1 with
      | true =>
       obtain ⟨rfl, rfl, rfl⟩ : uy = sb1 ∧ yh = m1 ∧ yc = cb1 ++ [⟨by_, to, 0, day⟩] := by
        unfold endF at hyy
        dsimp only at hyy
        rw [← hm1] at hyy
        injection hyy with h1 h2 h3
        exact ⟨h1, h2, h3⟩
       cbv; repeat' ((first | refine .n fun h => ?_ | refine .y fun h => ?_ | refine .mk (fun h => ?_) fun h => ?_ | refine .k fun z hz => ?_ | refine .o ?_ | refine .zl fun zs hzs hzl => ?_ | fail) <;> cbv)
       ·refine callG_publish 9 rfl ?_
        cbv
        (refine c09 hh (hb1, [⟨by_, to, 0, day⟩]) (Nat.le_add_left 1 4999) ?_; try dsimp only)
        rw [← hm1]
        dsimp only
        obtain rfl : zs = mapA EdA (cb1 ++ [(⟨by_, to, 0, day⟩ : Edm)]) := by (rw [mapA_app, mapA_one]; first | exact hzs | (subst_vars; rfl))
        cbv; repeat' ((first | refine .k fun z hz => ?_ | fail) <;> cbv)
        obtain rfl : z = nI 2 := om9
        exact roundV ⟨2, by decide⟩ (lft_lt (by decide))
       ·refine callG_publish 9 rfl ?_
        cbv
        (refine c09 hh (hb1, [⟨by_, to, 0, day⟩]) (Nat.le_add_left 1 4999) ?_; try dsimp only)
        rw [← hm1]
        dsimp only
        obtain rfl : zs = mapA EdA (cb1 ++ [(⟨by_, to, 0, day⟩ : Edm)]) := by (rw [mapA_app, mapA_one]; first | exact hzs | (subst_vars; rfl))
        cbv; repeat' ((first | refine .k fun z hz => ?_ | fail) <;> cbv)
        obtain rfl : z = nI 2 := om9
        exact roundV ⟨2, by decide⟩ (lft_lt (by decide))
       ·exact absurd (hq1.trans (hitB_not ‹¬ index = -1› ‹¬ index = Int.ofNat 1›)) (by decide)
      | false =>
       obtain ⟨rfl, rfl, rfl⟩ : uy = sb1 ∧ yh = hb1 ∧ yc = cb1 := by
        injection hyy with h1 h2 h3
        exact ⟨h1, h2, h3⟩
       cbv; repeat' ((first | refine .n fun h => ?_ | refine .y fun h => ?_ | refine .mk (fun h => ?_) fun h => ?_ | refine .k fun z hz => ?_ | refine .o ?_ | refine .zl fun zs hzs hzl => ?_ | fail) <;> cbv)
       ·exact absurd (hq1.trans (hitB_yes (.inl ‹index = -1›))) (by decide)
       ·exact absurd (hq1.trans (hitB_yes (.inr ‹index = Int.ofNat 1›))) (by decide)
       ·obtain rfl : z = nI 2 := om9
        exact roundV ⟨2, by decide⟩ (lft_lt (by decide))
     ·cases q2 with
      | true =>
       obtain ⟨rfl, rfl, rfl⟩ : uz = sc1 ∧ zh = m2 ∧ zc = cc1 ++ [⟨by_, to, 0, day⟩] := by
        unfold endF at hzz
        dsimp only at hzz
        rw [← hm2] at hzz
        injection hzz with h1 h2 h3
        exact ⟨h1, h2, h3⟩
       cbv; repeat' ((first | refine .y fun h => ?_ | refine .mk (fun h => ?_) fun h => ?_ | refine .k fun z hz => ?_ | refine .o ?_ | refine .zl fun zs hzs hzl => ?_ | fail) <;> cbv)
       ·refine callG_publish 9 rfl ?_
        cbv
        (refine c09 hh (hc1, [⟨by_, to, 0, day⟩]) (Nat.le_add_left 1 4999) ?_; try dsimp only)
        rw [← hm2]
        dsimp only
        obtain rfl : zs = mapA EdA (cc1 ++ [(⟨by_, to, 0, day⟩ : Edm)]) := by (rw [mapA_app, mapA_one]; first | exact hzs | (subst_vars; rfl))
        cbv; repeat' ((first | refine .k fun z hz => ?_ | fail) <;> cbv)
        obtain rfl : z = nI 3 := om9
        exact roundV ⟨3, by decide⟩ (lft_lt (by decide))
       ·refine callG_publish 9 rfl ?_
        cbv
        (refine c09 hh (hc1, [⟨by_, to, 0, day⟩]) (Nat.le_add_left 1 4999) ?_; try dsimp only)
        rw [← hm2]
        dsimp only
        obtain rfl : zs = mapA EdA (cc1 ++ [(⟨by_, to, 0, day⟩ : Edm)]) := by (rw [mapA_app, mapA_one]; first | exact hzs | (subst_vars; rfl))
        cbv; repeat' ((first | refine .k fun z hz => ?_ | fail) <;> cbv)
        obtain rfl : z = nI 3 := om9
        exact roundV ⟨3, by decide⟩ (lft_lt (by decide))
       ·exact absurd (hq2.trans (hitB_not ‹¬ index = -1› ‹¬ index = Int.ofNat 2›)) (by decide)
      | false =>
       obtain ⟨rfl, rfl, rfl⟩ : uz = sc1 ∧ zh = hc1 ∧ zc = cc1 := by
        injection hzz with h1 h2 h3
        exact ⟨h1, h2, h3⟩
       cbv; repeat' ((first | refine .y fun h => ?_ | refine .mk (fun h => ?_) fun h => ?_ | refine .k fun z hz => ?_ | refine .o ?_ | refine .zl fun zs hzs hzl => ?_ | fail) <;> cbv)
       ·exact absurd (hq2.trans (hitB_yes (.inl ‹index = -1›))) (by decide)
       ·exact absurd (hq2.trans (hitB_yes (.inr ‹index = Int.ofNat 2›))) (by decide)
       ·obtain rfl : z = nI 3 := om9
        exact roundV ⟨3, by decide⟩ (lft_lt (by decide))
     ·cbv; repeat' ((first | refine .n fun h => ?_ | fail) <;> cbv)
      (refine .r9 (Gh.back 1 ([2, 3, 4, 5]) PelA ⟨⟨nq1, cq1, sq1, frm1, to1, bq1, pq1, iq1, lq1⟩, st1, ⟨ux, xh, xc⟩, ⟨uy, yh, yc⟩, ⟨uz, zh, zc⟩⟩ rfl hy) ?_; cbv; exact .inl (.f9 hK))
    ·exact (ask_none (he.symm.trans ‹e = 0›) hai).elim
   ·rw [if_neg h] at hL'
    subst hL'
    (refine .r9 (Gh.refl _) ?_; cbv; exact .inl (.f9 hK))
def zeroO : Og := ⟨0, ⟨⟨[]⟩⟩, []⟩
def pickO (idx : Int) : Br → Og × Bool
 | ⟨_, _, o0, o1, o2⟩ => if idx = 0 then (o0, true) else if idx = 1 then (o1, true) else if idx = 2 then (o2, true) else (zeroO, false)
def origM (L : List Br) (s : ByteArray) (idx : Int) : Og × Bool := match bAt L s with
 | some i => match L[i]? with
  | some b => pickO idx b
  | none => (zeroO, false)
 | none => (zeroO, false)
theorem origM_some {L : List Br} {s : ByteArray} {i : Nat} {y : Br} {idx : Int} (h : bAt L s = some i) (hy : L[i]? = some y) : origM L s idx = pickO idx y := by unfold origM; rw [h]; dsimp only; rw [hy]
theorem origM_none {L : List Br} {s : ByteArray} {idx : Int} (h : bAt L s = none) : origM L s idx = (zeroO, false) := by unfold origM; rw [h]
def OgB : Og × Bool → AV
 | (o, b) => .tup [OgA o, .bl b]
def OrigC : Ctr := spec (fun i : Rg × ByteArray × Int => [.ptr 0 0, .str i.2.1, .i i.2.2]) (fun i => RegH i.1) (fun _ => True) (fun i => OgB (origM i.1.bills i.2.1 i.2.2)) fun i => RegH i.1
theorem original_body (P : Program) : BodyOk P x101 OrigC := by
 intro args H K hc; obtain ⟨⟨⟨carrier, L⟩, s, idx⟩, rfl, rfl, hp, hK⟩ := hc; refine ⟨nb9, ?_⟩; dsimp only at hp hK ⊢
 obtain ⟨q, hq⟩ : ∃ q, q = origM L s idx := ⟨_, rfl⟩
 rw [← hq] at hK
 cbv
 refine poolK_in (fun b : Br => b.b.number) (fun _ => rfl) (fun i y hai hy hky => ?_) (fun hai => ?_) <;> dsimp only at *
 ·rw [origM_some hai hy] at hq
  obtain ⟨⟨nq1, cq1, sq1, frm1, to1, bq1, pq1, iq1, lq1⟩, st1, ⟨sa1, ha1, ca1⟩, ⟨sb1, hb1, cb1⟩, ⟨sc1, hc1, cc1⟩⟩ := y
  unfold pickO at hq
  dsimp only at hq
  have hi5 : idx < 0 ∨ 3 ≤ idx ∨ idx = 0 ∨ idx = 1 ∨ idx = 2 := by omega
  rcases hi5 with h5 | h5 | rfl | rfl | rfl
  ·rw [if_neg (by omega), if_neg (by omega), if_neg (by omega)] at hq
   subst hq
   cbv; repeat' ((first | refine .y fun h => ?_ | fail) <;> cbv)
   (refine .r9 (Gh.back0 1 [3, 4, 5, 6] PelA rfl hy) ?_; cbv; exact .inl (.g9 hK))
  ·rw [if_neg (by omega), if_neg (by omega), if_neg (by omega)] at hq
   subst hq
   cbv; repeat' ((first | refine .n fun h => ?_ | refine .y fun h => ?_ | fail) <;> cbv)
   (refine .r9 (Gh.back0 1 [3, 4, 5, 6] PelA rfl hy) ?_; cbv; exact .inl (.g9 hK))
  ·obtain rfl : q = (⟨sa1, ha1, ca1⟩, true) := hq
   cbv; repeat' ((first | refine .n fun h => ?_ | refine .o ?_ | fail) <;> cbv)
   (refine .r9 ((Gh.viewE 2 rfl).trans (Gh.back0 1 [3, 4, 5, 6] PelA rfl hy)) ?_; cbv; exact .inl (.g9 hK))
  ·obtain rfl : q = (⟨sb1, hb1, cb1⟩, true) := hq
   cbv; repeat' ((first | refine .n fun h => ?_ | refine .y fun h => ?_ | refine .o ?_ | fail) <;> cbv)
   (refine .r9 ((Gh.viewE 2 rfl).trans (Gh.back0 1 [3, 4, 5, 6] PelA rfl hy)) ?_; cbv; exact .inl (.g9 hK))
  ·obtain rfl : q = (⟨sc1, hc1, cc1⟩, true) := hq
   cbv; repeat' ((first | refine .n fun h => ?_ | refine .y fun h => ?_ | refine .o ?_ | fail) <;> cbv)
   (refine .r9 ((Gh.viewE 2 rfl).trans (Gh.back0 1 [3, 4, 5, 6] PelA rfl hy)) ?_; cbv; exact .inl (.g9 hK))
 ·rw [origM_none hai] at hq
  subst hq
  cbv
  (refine .r9 (Gh.refl _) ?_; cbv; exact .inl (.g9 hK))
theorem origM_chain {L : List Br} {s : ByteArray} {idx : Int} (h : ∀ b ∈ L, chOk b) : (origM L s idx).1.chain.length ≤ 4500 := by
 unfold origM
 split
 ·split
  ·next b hb =>
   have hc := h b (List.mem_of_getElem? hb)
   obtain ⟨_, _, ⟨_, _, _⟩, ⟨_, _, _⟩, ⟨_, _, _⟩⟩ := b
   unfold chOk at hc
   dsimp only at hc
   unfold pickO
   dsimp only
   split
   ·exact hc.1
   ·split
    ·exact hc.2.1
    ·split
     ·exact hc.2.2
     ·exact Nat.zero_le _
  ·exact Nat.zero_le _
 ·exact Nat.zero_le _
def ChainC : Ctr := spec (fun i : Rg × ByteArray × Int => [.ptr 0 0, .str i.2.1, .i i.2.2]) (fun i => RegH i.1) (fun i => ∀ b ∈ i.1.bills, chOk b) (fun i => .sl 4 (mapA EdA (origM i.1.bills i.2.1 i.2.2).1.chain)) fun i => RegH i.1
theorem chain_body (P : Program) (ho : FnOk P 101 OrigC) (hcl : FnOk P 102 (CloneC 4 48)) : BodyOk P x66 ChainC := by
 intro args H K hc; obtain ⟨⟨⟨carrier, L⟩, s, idx⟩, rfl, rfl, hp, hK⟩ := hc; refine ⟨nb9, ?_⟩; dsimp only at hp hK ⊢
 have hlen := origM_chain (L := L) (s := s) (idx := idx) hp
 obtain ⟨⟨⟨st, h, c⟩, b⟩, hq⟩ : ∃ q, q = origM L s idx := ⟨_, rfl⟩
 rw [← hq] at hK hlen
 dsimp only at hK hlen
 cbv
 (refine cs9 ho (⟨carrier, L⟩, s, idx) [0, 1] trivial ?_; try dsimp only)
 rw [← hq]
 cbv
 (refine c09 hcl _ ⟨by rw [mapA_len]; unfold maxLen; omega, by rw [mapA_len]; omega⟩ ?_; try dsimp only)
 cbv
 (refine .r9 (Gh.refl _) ?_; cbv; exact .inl (.f9 hK))
def holdM (L : List Br) (s : ByteArray) (idx : Int) : ByteArray × Bool :=
 if (origM L s idx).2 = false ∨ ¬ stateM L s = 0 ∨ (¬ (origM L s idx).1.state = 0 ∧ ¬ (origM L s idx).1.state = 3) then (⟨⟨[]⟩⟩, false) else ((origM L s idx).1.holder, true)
def SbA : ByteArray × Bool → AV
 | (s, b) => .tup [.str s, .bl b]
def HoldC : Ctr := spec (fun i : Rg × ByteArray × Int => [.ptr 0 0, .str i.2.1, .i i.2.2]) (fun i => RegH i.1) (fun _ => True) (fun i => SbA (holdM i.1.bills i.2.1 i.2.2)) fun i => RegH i.1
theorem holder_body (P : Program) (ho : FnOk P 101 OrigC) (hs : FnOk P 17 StateC) : BodyOk P x64 HoldC := by
 intro args H K hc; obtain ⟨⟨⟨carrier, L⟩, s, idx⟩, rfl, rfl, hp, hK⟩ := hc; refine ⟨nb9, ?_⟩; dsimp only at hp hK ⊢
 have hd : holdM L s idx = if (origM L s idx).2 = false ∨ ¬ stateM L s = 0 ∨ (¬ (origM L s idx).1.state = 0 ∧ ¬ (origM L s idx).1.state = 3) then (⟨⟨[]⟩⟩, false) else ((origM L s idx).1.holder, true) := rfl
 obtain ⟨⟨⟨st, hol, c⟩, b⟩, hq⟩ : ∃ q, q = origM L s idx := ⟨_, rfl⟩
 obtain ⟨v, hv⟩ : ∃ q, q = stateM L s := ⟨_, rfl⟩
 obtain ⟨d, hdd⟩ : ∃ q, q = holdM L s idx := ⟨_, rfl⟩
 rw [← hdd] at hK
 rw [← hq, ← hv, ← hdd] at hd
 dsimp only at hd
 cbv
 (refine cs9 ho (⟨carrier, L⟩, s, idx) [0, 1] trivial ?_; try dsimp only)
 rw [← hq]
 cases b with
 | false =>
  rw [if_pos (.inl rfl)] at hd
  subst hd
  cbv
  (refine .r9 (Gh.refl _) ?_; cbv; exact .inl (.f9 hK))
 | true =>
  cbv
  (refine cs9 hs (⟨carrier, L⟩, s) [0, 1] trivial ?_; try dsimp only)
  rw [← hv]
  cbv; repeat' ((first | refine .mk (fun h => ?_) fun h => ?_ | fail) <;> cbv)
  ·rw [if_neg (by rintro (h1 | h1 | h1); exact absurd h1 (by decide); omega; omega)] at hd
   subst hd
   (refine .r9 (Gh.refl _) ?_; cbv; exact .inl (.f9 hK))
  ·rw [if_neg (by rintro (h1 | h1 | h1); exact absurd h1 (by decide); omega; omega)] at hd
   subst hd
   (refine .r9 (Gh.refl _) ?_; cbv; exact .inl (.f9 hK))
  ·rw [if_pos (.inr (by omega))] at hd
   subst hd
   (refine .r9 (Gh.refl _) ?_; cbv; exact .inl (.f9 hK))
  ·rw [if_pos (.inr (by omega))] at hd
   subst hd
   (refine .r9 (Gh.refl _) ?_; cbv; exact .inl (.f9 hK))
def fullM (L : List Br) (s who : ByteArray) : Bool := match bAt L s with
 | some i => match L[i]? with
  | some b => decide (b.st = 0) && !some3 (-1) b (pFull who)
  | none => false
 | none => false
theorem fullM_some {L : List Br} {s who : ByteArray} {i : Nat} {y : Br} (h : bAt L s = some i) (hy : L[i]? = some y) : fullM L s who = (decide (y.st = 0) && !some3 (-1) y (pFull who)) := by unfold fullM; rw [h]; dsimp only; rw [hy]
theorem fullM_none {L : List Br} {s who : ByteArray} (h : bAt L s = none) : fullM L s who = false := by unfold fullM; rw [h]
def FullC : Ctr := spec (fun i : Rg × ByteArray × ByteArray => [.ptr 0 0, .str i.2.1, .str i.2.2]) (fun i => RegH i.1) (fun i => ∀ b ∈ i.1.bills, chOk b) (fun i => .bl (fullM i.1.bills i.2.1 i.2.2)) fun i => RegH i.1
theorem full_body (P : Program) (hs : FnOk P 36 (SomeW 37 pFull)) : BodyOk P x14 FullC := by
 intro args H K hc; obtain ⟨⟨⟨carrier, L⟩, s, who⟩, rfl, rfl, hp, hK⟩ := hc; refine ⟨nb9, ?_⟩; dsimp only at hp hK ⊢
 obtain ⟨q, hq⟩ : ∃ q, q = fullM L s who := ⟨_, rfl⟩
 rw [← hq] at hK
 cbv
 refine poolK_in (fun b : Br => b.b.number) (fun _ => rfl) (fun i y hai hy hky => ?_) (fun hai => ?_) <;> dsimp only at *
 ·rw [fullM_some hai hy] at hq
  have hch := hp y (List.mem_of_getElem? hy)
  obtain ⟨q3, hq3⟩ : ∃ q, q = some3 (-1) y (pFull who) := ⟨_, rfl⟩
  rw [← hq3] at hq
  obtain ⟨⟨nq1, cq1, sq1, frm1, to1, bq1, pq1, iq1, lq1⟩, st1, ⟨sa1, ha1, ca1⟩, ⟨sb1, hb1, cb1⟩, ⟨sc1, hc1, cc1⟩⟩ := y
  dsimp only at hq
  cbv; repeat' ((first | refine .mk (fun h => ?_) fun h => ?_ | fail) <;> cbv)
  ·(refine cs9 hs (⟨⟨nq1, cq1, sq1, frm1, to1, bq1, pq1, iq1, lq1⟩, st1, ⟨sa1, ha1, ca1⟩, ⟨sb1, hb1, cb1⟩, ⟨sc1, hc1, cc1⟩⟩, -1, who) [3, 4, 5, 6, 2] hch ?_; try dsimp only)
   rw [← hq3]
   cbv
   (refine .r9 (Gh.back0 1 [3, 4, 5, 6] PelA rfl hy) ?_; cbv; exact .inl (.f9 (K_bl hK (by rw [hq, decide_eq_true h]; rfl))))
  ·(refine .r9 (Gh.back0 1 [3, 4, 5, 6] PelA rfl hy) ?_; cbv; exact .inl (.f9 (K_bl hK (by rw [hq, decide_eq_false h]; rfl))))
 ·rw [fullM_none hai] at hq
  subst hq
  cbv
  (refine .r9 (Gh.refl _) ?_; cbv; exact .inl (.f9 hK))
structure Orn where
 bill : ByteArray
 index : Int
 state : Int
 holder : ByteArray
def OrnA : Orn → AV
 | ⟨b, i, s, h⟩ => .agg [.str b, .i i, .i s, .str h]
def orn3 (s : ByteArray) : Br → List Orn
 | ⟨_, _, ⟨sa, ha, _⟩, ⟨sb, hb, _⟩, ⟨sc, hc, _⟩⟩ => [⟨s, 0, sa, ha⟩, ⟨s, 1, sb, hb⟩, ⟨s, 2, sc, hc⟩]
def ornM (L : List Br) (s : ByteArray) : List Orn := match bAt L s with
 | some i => match L[i]? with
  | some b => orn3 s b
  | none => []
 | none => []
theorem ornM_some {L : List Br} {s : ByteArray} {i : Nat} {y : Br} (h : bAt L s = some i) (hy : L[i]? = some y) : ornM L s = orn3 s y := by unfold ornM; rw [h]; dsimp only; rw [hy]
theorem ornM_none {L : List Br} {s : ByteArray} (h : bAt L s = none) : ornM L s = [] := by unfold ornM; rw [h]
def OriginalsC : Ctr := spec (fun i : Rg × ByteArray => [.ptr 0 0, .str i.2]) (fun i => RegH i.1) (fun _ => True) (fun i => .sl 4 (mapA OrnA (ornM i.1.bills i.2))) fun i => RegH i.1
theorem originals_body (P : Program) : BodyOk P x61 OriginalsC := by
 intro args H K hc; obtain ⟨⟨⟨carrier, L⟩, s⟩, rfl, rfl, hp, hK⟩ := hc; refine ⟨nb9, ?_⟩; dsimp only at hp hK ⊢
 obtain ⟨q, hq⟩ : ∃ q, q = ornM L s := ⟨_, rfl⟩
 rw [← hq] at hK
 cbv
 refine poolK_in (fun b : Br => b.b.number) (fun _ => rfl) (fun i y hai hy hky => ?_) (fun hai => ?_) <;> dsimp only at *
 ·rw [ornM_some hai hy] at hq
  obtain ⟨⟨nq1, cq1, sq1, frm1, to1, bq1, pq1, iq1, lq1⟩, st1, ⟨sa1, ha1, ca1⟩, ⟨sb1, hb1, cb1⟩, ⟨sc1, hc1, cc1⟩⟩ := y
  obtain rfl : q = [⟨s, 0, sa1, ha1⟩, ⟨s, 1, sb1, hb1⟩, ⟨s, 2, sc1, hc1⟩] := hq
  cbv; repeat' ((first | refine .zl fun zs hzs hzl => ?_ | fail) <;> cbv)
  obtain rfl : zs = [] := hzs
  refine xloopG Gh.viewT ?_
  cbv
  refine xloopV [6] (fun p : { k : Nat // k ≤ 3 } => [(22, .i (nI p.1)), (6, .hd 6)]) (fun p => [.blk 79 [.str carrier, .ph 1], .pool 77 (mapA PelA L) [(i, .ptr 2 0)]] ++ renH [] 2 (EntC ⟨⟨nq1, cq1, sq1, frm1, to1, bq1, pq1, iq1, lq1⟩, st1, ⟨sa1, ha1, ca1⟩, ⟨sb1, hb1, cb1⟩, ⟨sc1, hc1, cc1⟩⟩) ++ [.row 123 4 (pick4 p.1 [] [.agg [.str s, .i 0, .i sa1, .str ha1]] [.agg [.str s, .i 0, .i sa1, .str ha1], .agg [.str s, .i 1, .i sb1, .str hb1]] [.agg [.str s, .i 0, .i sa1, .str ha1], .agg [.str s, .i 1, .i sb1, .str hb1], .agg [.str s, .i 2, .i sc1, .str hc1]])]) (fun p => lft 3 p.1) ⟨0, by decide⟩ ?_
  rintro ⟨k, hk⟩
  dsimp only at hk ⊢
  have hk4 : k = 0 ∨ k = 1 ∨ k = 2 ∨ k = 3 := by omega
  rcases hk4 with rfl | rfl | rfl | rfl
  ·cbv; repeat' ((first | refine .n fun h => ?_ | refine .y fun h => ?_ | refine .k fun z hz => ?_ | refine .o ?_ | refine .zl fun zs hzs hzl => ?_ | fail) <;> cbv)
   obtain rfl : zs = [.agg [.str s, .i 0, .i sa1, .str ha1]] := hzs
   obtain rfl : z = nI 1 := om9
   exact roundV ⟨1, by decide⟩ (lft_lt (by decide))
  ·cbv; repeat' ((first | refine .n fun h => ?_ | refine .y fun h => ?_ | refine .k fun z hz => ?_ | refine .o ?_ | refine .zl fun zs hzs hzl => ?_ | fail) <;> cbv)
   obtain rfl : zs = [.agg [.str s, .i 0, .i sa1, .str ha1], .agg [.str s, .i 1, .i sb1, .str hb1]] := hzs
   obtain rfl : z = nI 2 := om9
   exact roundV ⟨2, by decide⟩ (lft_lt (by decide))
  ·cbv; repeat' ((first | refine .y fun h => ?_ | refine .k fun z hz => ?_ | refine .o ?_ | refine .zl fun zs hzs hzl => ?_ | fail) <;> cbv)
   obtain rfl : zs = [.agg [.str s, .i 0, .i sa1, .str ha1], .agg [.str s, .i 1, .i sb1, .str hb1], .agg [.str s, .i 2, .i sc1, .str hc1]] := hzs
   obtain rfl : z = nI 3 := om9
   exact roundV ⟨3, by decide⟩ (lft_lt (by decide))
  ·cbv; repeat' ((first | refine .n fun h => ?_ | fail) <;> cbv)
   (refine .r9 ((Gh.plain 6 rfl).trans (Gh.back0 1 [2, 3, 4, 5] PelA rfl hy)) ?_; cbv; exact .inl (.g9 hK))
 ·rw [ornM_none hai] at hq
  subst hq
  cbv
  (refine .r9 (Gh.refl _) ?_; cbv; exact .inl (.g9 hK))
def idxP (p : ByteArray → Bool) (l : List ByteArray) : Int := match l.findIdx? p with
 | some i => Int.ofNat i
 | none => -1
def NoneTo (p : ByteArray → Bool) (l : List ByteArray) (k : Nat) : Prop := ∀ j y, j < k → l[j]? = some y → p y = false
theorem NoneTo.zero {p : ByteArray → Bool} {l : List ByteArray} : NoneTo p l 0 := fun j y h => absurd h (Nat.not_lt_zero j)
theorem NoneTo.succ {p : ByteArray → Bool} {l : List ByteArray} {k : Nat} {x : ByteArray} (h : NoneTo p l k) (hx : l[k]? = some x) (hp : p x = false) : NoneTo p l (k + 1) := fun j y hj hy => by
 rcases Nat.lt_or_ge j k with h1 | h1
 ·exact h j y h1 hy
 ·obtain rfl : j = k := by omega
  rw [hx] at hy
  cases hy
  exact hp
theorem idxP_at {p : ByteArray → Bool} {l : List ByteArray} {k : Nat} {x : ByteArray} (h : NoneTo p l k) (hx : l[k]? = some x) (hp : p x = true) : idxP p l = Int.ofNat k := by
 obtain ⟨hk, rfl⟩ := List.getElem?_eq_some_iff.1 hx
 have e : l.findIdx? p = some k := List.findIdx?_eq_some_iff_getElem.2 ⟨hk, hp, fun j hj => by rw [h j _ hj (List.getElem?_eq_getElem (by omega))]; decide⟩
 unfold idxP
 rw [e]
theorem idxP_none {p : ByteArray → Bool} {l : List ByteArray} (h : NoneTo p l l.length) : idxP p l = -1 := by
 have e : l.findIdx? p = none := List.findIdx?_eq_none_iff.2 fun x hx => by
  obtain ⟨j, hj, rfl⟩ := List.mem_iff_getElem.1 hx
  exact h j _ hj (List.getElem?_eq_getElem hj)
 unfold idxP
 rw [e]
theorem idxP_any (p : ByteArray → Bool) (l : List ByteArray) : decide (0 ≤ idxP p l) = l.any p := by
 unfold idxP
 cases e : l.findIdx? p with
 | none =>
  rw [List.findIdx?_eq_none_iff] at e
  have : l.any p = false := by
   rw [List.any_eq_false]
   intro x hx
   rw [e x hx]
   decide
  rw [this]
  rfl
 | some i =>
  rw [List.findIdx?_eq_some_iff_getElem] at e
  obtain ⟨hi, h1, _⟩ := e
  have : l.any p = true := List.any_eq_true.2 ⟨_, List.getElem_mem hi, h1⟩
  rw [this]
  exact decide_eq_true (Int.natCast_nonneg i)
def IndexC : Ctr := spec (fun i : List ByteArray × ByteArray => [.sl 1 (mapA .str i.1), .str i.2]) (fun _ => []) (fun i => i.1.length ≤ 5000) (fun i => .i (idxP (fun x => decide (i.2 = x)) i.1)) fun _ => []
theorem index_body (P : Program) : BodyOk P x138 IndexC := by
 intro args H K hc; obtain ⟨⟨l, s⟩, rfl, rfl, hp, hK⟩ := hc; refine ⟨nb9, ?_⟩; dsimp only at hp hK ⊢
 obtain ⟨p, hpp⟩ : ∃ p : ByteArray → Bool, p = fun x => decide (s = x) := ⟨_, rfl⟩
 rw [← hpp] at hK
 have hpx : ∀ x, p x = decide (s = x) := fun x => by rw [hpp]
 clear hpp
 cbv; repeat' ((first | refine .k fun z hz => ?_ | fail) <;> cbv)
 refine xloopV [] (fun q : { k : Nat // k ≤ l.length ∧ NoneTo p l k } => [(8, .i (nI q.1))]) (fun _ => []) (fun q => lft 5001 q.1) ⟨0, Nat.zero_le _, .zero⟩ ?_
 rintro ⟨k, hk, hn⟩
 dsimp only at hk hn ⊢
 cbv; repeat' ((first | refine .mk (fun h => ?_) fun h => ?_ | fail) <;> cbv)
 ·refine askEl_int om9 om9 fun i x hi hx => ?_
  obtain rfl : k = i := om9
  cbv; repeat' ((first | refine .mk (fun h => ?_) fun h => ?_ | refine .k fun z hz => ?_ | fail) <;> cbv)
  ·exact FinK.mk ⟨_, Gh.refl _, .inl (.v9 (K_i hK (by (rw [idxP_at hn hx ((hpx x).trans (decide_eq_true h))]))))⟩
  ·obtain rfl : z = nI (k + 1) := om9
   exact roundV ⟨k + 1, by exact om9, hn.succ hx ((hpx x).trans (decide_eq_false h))⟩ (lft_lt om9)
 ·obtain rfl : k = l.length := om9
  exact FinK.mk ⟨_, Gh.refl _, .inl (.v9 (K_i hK (by (rw [idxP_none hn]))))⟩
def ContainsC : Ctr := spec (fun i : List ByteArray × ByteArray => [.sl 1 (mapA .str i.1), .str i.2]) (fun _ => []) (fun i => i.1.length ≤ 5000) (fun i => .bl (i.1.any fun x => decide (i.2 = x))) fun _ => []
theorem contains_body (P : Program) (hi : FnOk P 138 IndexC) : BodyOk P x96 ContainsC := by
 intro args H K hc; obtain ⟨⟨l, s⟩, rfl, rfl, hp, hK⟩ := hc; refine ⟨nb9, ?_⟩; dsimp only at hp hK ⊢
 obtain ⟨p, hpp⟩ : ∃ p : ByteArray → Bool, p = fun x => decide (s = x) := ⟨_, rfl⟩
 rw [← hpp, ← idxP_any] at hK
 obtain ⟨e, he⟩ : ∃ e, e = idxP p l := ⟨_, rfl⟩
 rw [← he] at hK
 cbv
 (refine c09 hi (l, s) hp ?_; try dsimp only)
 rw [← hpp, ← he]
 cbv; repeat' ((first | refine .mk (fun h => ?_) fun h => ?_ | fail) <;> cbv)
 ·exact FinK.mk ⟨_, Gh.refl _, .inl (.v9 (K_bl hK (by (rw [decide_eq_true h]))))⟩
 ·exact FinK.mk ⟨_, Gh.refl _, .inl (.v9 (K_bl hK (by (rw [decide_eq_false (by omega)]))))⟩
def CloN (p : ByteArray → Bool) : Ctr := spec (fun s : ByteArray => [.str s]) (fun _ => []) (fun _ => True) (fun s => .bl (p s)) fun _ => []
def IdxFC (f : Nat) (p : ByteArray → Bool) : Ctr := spec (fun l : List ByteArray => [.sl 1 (mapA .str l), .clo f []]) (fun _ => []) (fun l => l.length ≤ 5000) (fun l => .i (idxP p l)) fun _ => []
theorem idxF_body (P : Program) (f : Nat) (p : ByteArray → Bool) (hm : MayCall P f) (hf : FnOk P f (CloN p)) : BodyOk P x85 (IdxFC f p) := by
 intro args H K hc; obtain ⟨l, rfl, rfl, hp, hK⟩ := hc; refine ⟨nb9, ?_⟩; dsimp only at hp hK ⊢
 cbv; repeat' ((first | refine .k fun z hz => ?_ | fail) <;> cbv)
 refine xloopV [] (fun q : { k : Nat // k ≤ l.length ∧ NoneTo p l k } => [(8, .i (nI q.1))]) (fun _ => []) (fun q => lft 5001 q.1) ⟨0, Nat.zero_le _, .zero⟩ ?_
 rintro ⟨k, hk, hn⟩
 dsimp only at hk hn ⊢
 cbv; repeat' ((first | refine .mk (fun h => ?_) fun h => ?_ | fail) <;> cbv)
 ·refine askEl_int om9 om9 fun i x hi hx => ?_
  obtain rfl : k = i := om9
  cbv; repeat' ((first | refine And.intro ?_ ?_ | fail) <;> cbv)
  ·exact hm
  ·obtain ⟨b, hb⟩ : ∃ b, b = p x := ⟨_, rfl⟩
   (refine c09 hf x trivial ?_; try dsimp only)
   rw [← hb]
   cases b with
   | true =>
    cbv
    exact FinK.mk ⟨_, Gh.refl _, .inl (.v9 (K_i hK (by (rw [idxP_at hn hx hb.symm]))))⟩
   | false =>
    cbv; repeat' ((first | refine .k fun z hz => ?_ | fail) <;> cbv)
    obtain rfl : z = nI (k + 1) := om9
    exact roundV ⟨k + 1, by exact om9, hn.succ hx hb.symm⟩ (lft_lt om9)
 ·obtain rfl : k = l.length := om9
  exact FinK.mk ⟨_, Gh.refl _, .inl (.v9 (K_i hK (by (rw [idxP_none hn]))))⟩
def ConFC (f : Nat) (p : ByteArray → Bool) : Ctr := spec (fun l : List ByteArray => [.sl 1 (mapA .str l), .clo f []]) (fun _ => []) (fun l => l.length ≤ 5000) (fun l => .bl (l.any p)) fun _ => []
theorem conF_body (P : Program) (f : Nat) (p : ByteArray → Bool) (hi : FnOk P 85 (IdxFC f p)) : BodyOk P x38 (ConFC f p) := by
 intro args H K hc; obtain ⟨l, rfl, rfl, hp, hK⟩ := hc; refine ⟨nb9, ?_⟩; dsimp only at hp hK ⊢
 rw [← idxP_any] at hK
 obtain ⟨e, he⟩ : ∃ e, e = idxP p l := ⟨_, rfl⟩
 rw [← he] at hK
 cbv
 (refine c09 hi l hp ?_; try dsimp only)
 rw [← he]
 cbv; repeat' ((first | refine .mk (fun h => ?_) fun h => ?_ | fail) <;> cbv)
 ·exact FinK.mk ⟨_, Gh.refl _, .inl (.v9 (K_bl hK (by (rw [decide_eq_true h]))))⟩
 ·exact FinK.mk ⟨_, Gh.refl _, .inl (.v9 (K_bl hK (by (rw [decide_eq_false (by omega)]))))⟩
theorem may1_body (P : Program) (hn : FnOk P 68 (StrC (fun _ => True) nameB)) : BodyOk P x118 (CloN fun s => !nameB s) := by
 intro args H K hc; obtain ⟨s, rfl, rfl, hp, hK⟩ := hc; refine ⟨nb9, ?_⟩; dsimp only at hp hK ⊢
 obtain ⟨b, hb⟩ : ∃ b, b = nameB s := ⟨_, rfl⟩
 rw [← hb] at hK
 cbv
 (refine c09 hn s trivial ?_; try dsimp only)
 rw [← hb]
 cases b with
 | true =>
  cbv
  exact FinK.mk ⟨_, Gh.refl _, .inl (.v9 (K_of hK (by rfl)))⟩
 | false =>
  cbv
  exact FinK.mk ⟨_, Gh.refl _, .inl (.v9 (K_of hK (by rfl)))⟩
def lays190_ren : Go.Shelf.Ren := ⟨fun | 190 => 51 | 125 => 94 | 258 => 93 | 128 => 136 | 129 => 137 | 302 => 127 | 303 => 128 | 304 => 129 | 305 => 130 | 306 => 131 | 307 => 132 | 308 => 133 | 309 => 134 | 310 => 135 | 333 => 144 | 329 => 145 | 330 => 146 | 334 => 147 | 335 => 148 | 336 => 149 | 344 => 156 | n => n, fun | 31 => 31 | 9 => 9 | 3 => 3 | 46 => 152 | 0 => 0 | 51 => 175 | 53 => 177 | 4 => 4 | 183 => 168 | 182 => 167 | 131 => 172 | 5 => 5 | 218 => 181 | 222 => 185 | 228 => 191 | 229 => 192 | n => n, fun | n => n⟩
theorem lays190 : Go.Proofs.Lays.n190 Tryz.prog lays190_ren := {
 mixed := by kernel_rfl
 f125 := Tryz.func94.trans (congrArg some (by kernel_rfl))
 f128 := Tryz.func136.trans (congrArg some (by kernel_rfl))
 f129 := Tryz.func137.trans (congrArg some (by kernel_rfl))
 f190 := Tryz.func51.trans (congrArg some (by kernel_rfl))
 f258 := Tryz.func93.trans (congrArg some (by kernel_rfl))
 f302 := Tryz.func127.trans (congrArg some (by kernel_rfl))
 f303 := Tryz.func128.trans (congrArg some (by kernel_rfl))
 f304 := Tryz.func129.trans (congrArg some (by kernel_rfl))
 f305 := Tryz.func130.trans (congrArg some (by kernel_rfl))
 f306 := Tryz.func131.trans (congrArg some (by kernel_rfl))
 f307 := Tryz.func132.trans (congrArg some (by kernel_rfl))
 f308 := Tryz.func133.trans (congrArg some (by kernel_rfl))
 f309 := Tryz.func134.trans (congrArg some (by kernel_rfl))
 f310 := Tryz.func135.trans (congrArg some (by kernel_rfl))
 f329 := Tryz.func145.trans (congrArg some (by kernel_rfl))
 f330 := Tryz.func146.trans (congrArg some (by kernel_rfl))
 f333 := Tryz.func144.trans (congrArg some (by kernel_rfl))
 f334 := Tryz.func147.trans (congrArg some (by kernel_rfl))
 f335 := Tryz.func148.trans (congrArg some (by kernel_rfl))
 f336 := Tryz.func149.trans (congrArg some (by kernel_rfl))
 f344 := Tryz.func156.trans (congrArg some (by kernel_rfl))
 t0 := Tryz.underlying0
 a0 := Tryz.isAgg0
 z0 := Tryz.sizeOf0
 v0 := Tryz.zeroValue0
 t3 := Tryz.underlying3
 a3 := Tryz.isAgg3
 z3 := Tryz.sizeOf3
 v3 := Tryz.zeroValue3
 t4 := Tryz.underlying4
 a4 := Tryz.isAgg4
 z4 := Tryz.sizeOf4
 v4 := Tryz.zeroValue4
 t5 := Tryz.underlying5
 a5 := Tryz.isAgg5
 z5 := Tryz.sizeOf5
 v5 := Tryz.zeroValue5
 t9 := Tryz.underlying9
 a9 := Tryz.isAgg9
 z9 := Tryz.sizeOf9
 v9 := Tryz.zeroValue9
 t31 := Tryz.underlying31
 a31 := Tryz.isAgg31
 z31 := Tryz.sizeOf31
 v31 := Tryz.zeroValue31
 t46 := Tryz.underlying152
 a46 := Tryz.isAgg152
 z46 := Tryz.sizeOf152
 v46 := Tryz.zeroValue152
 t51 := Tryz.underlying175
 a51 := Tryz.isAgg175
 z51 := Tryz.sizeOf175
 v51 := Tryz.zeroValue175
 t53 := Tryz.underlying177
 a53 := Tryz.isAgg177
 z53 := Tryz.sizeOf177
 v53 := Tryz.zeroValue177
 t131 := Tryz.underlying172
 a131 := Tryz.isAgg172
 z131 := Tryz.sizeOf172
 v131 := Tryz.zeroValue172
 t182 := Tryz.underlying167
 a182 := Tryz.isAgg167
 z182 := Tryz.sizeOf167
 v182 := Tryz.zeroValue167
 t183 := Tryz.underlying168
 a183 := Tryz.isAgg168
 z183 := Tryz.sizeOf168
 v183 := Tryz.zeroValue168
 t218 := Tryz.underlying181
 a218 := Tryz.isAgg181
 z218 := Tryz.sizeOf181
 v218 := Tryz.zeroValue181
 t222 := Tryz.underlying185
 a222 := Tryz.isAgg185
 z222 := Tryz.sizeOf185
 v222 := Tryz.zeroValue185
 t228 := Tryz.underlying191
 a228 := Tryz.isAgg191
 z228 := Tryz.sizeOf191
 v228 := Tryz.zeroValue191
 t229 := Tryz.underlying192
 a229 := Tryz.isAgg192
 z229 := Tryz.sizeOf192
 v229 := Tryz.zeroValue192 }
def toL (s : ByteArray) : List UInt8 := s.data.toList
def ofL (l : List UInt8) : ByteArray := ⟨l.toArray⟩
def sortB (L : List ByteArray) : List ByteArray := ((L.map toL).mergeSort fun x y => decide (x ≤ y)).map ofL
theorem ofL_toL (s : ByteArray) : ofL (toL s) = s := by
 obtain ⟨⟨l⟩⟩ := s
 rfl
theorem str_us {pub : Pub} {w : World} {r : Rho} : ∀ {L : List ByteArray} {us : List Value}, VRels pub w r ((mapA .str L).flatMap AV.cells) us → us = L.map .string
 | [], us, h => h.nil_inv
 | s :: L, us, h => by
  have h' : VRels pub w r (.str s :: (mapA .str L).flatMap AV.cells) us := h
  obtain ⟨us', rfl, h2⟩ := h'.str_inv
  rw [str_us h2]
  rfl
theorem us_str {pub : Pub} {w : World} {r : Rho} : ∀ (L : List ByteArray), VRels pub w r ((mapA .str L).flatMap AV.cells) (L.map .string)
 | [] => ⟨rfl, fun i x u hx _ => by cases hx⟩
 | s :: L => by
  have ih := us_str (pub := pub) (w := w) (r := r) L
  show VRels pub w r (.str s :: (mapA .str L).flatMap AV.cells) (.string s :: L.map .string)
  refine ⟨by rw [List.length_cons, List.length_cons, ih.len], fun i x u hx hu => ?_⟩
  cases i with
  | zero => cases hx; cases hu; exact .str s
  | succ i => exact ih.at_ i x u hx hu
structure SortOk (P : Program) (f : Nat) : Prop where
 out : ∀ (A : Option Addr) (L : List ByteArray) (c : Nat) (w : World) (pub : Pub), L.length ≤ 2000000 → Own w 9 1 A L.length c (L.map .string) → (∀ b ∈ fpo A, pub b = 0) → (∀ b, w.heap.size ≤ b → pub b = 0) →
  Calls P f #[.slice A L.length c] w fun e w' => e = .returned (.tuple #[]) ∧ Fr (fun b => b ∈ fpo A) pub w pub w' ∧ Own w' 9 1 A L.length c ((sortB L).map .string)
theorem sortB_len (L : List ByteArray) : (sortB L).length = L.length := by simp [sortB]
theorem sort_ok : SortOk Tryz.prog 51 := ⟨fun A L c w pub hp ho hpb hfresh => by
 rcases ho.cases_ with ⟨rfl, hl0, rfl, _⟩ | ⟨g, cur, rfl, hb, h1, h2, h3, h4⟩
 ·obtain rfl : L = [] := List.eq_nil_of_length_eq_zero hl0
  refine (Any.slices_Sort_string_none lays190 none 0 w).mono fun e w' h => ?_
  obtain ⟨rfl, rfl⟩ := h
  refine ⟨rfl, .refl _ _ _, ?_⟩
  rw [show sortB [] = [] by simp [sortB]]
  exact ho
 ·have hgp : pub g = 0 := hpb g (by simp)
  have hss : cur.toList.take (L.map toL).length = (L.map toL).map encStr := by
   rw [List.length_map, ← Nat.mul_one L.length, h4, List.map_map]
   refine List.map_congr_left fun s _ => ?_
   show Value.string s = Value.string (ofL (toL s))
   rw [ofL_toL]
  have hblk : g < w.heap.size := hb.lt
  have hlen : L.length = (L.map toL).length := by rw [List.length_map]
  rw [hlen]
  refine (Any.slices_Sort_string lays190 g 0 c (L.map toL) w (holds_of_block hb hss) hblk (by rw [List.length_map]; omega)).mono fun e w' h => ?_
  obtain ⟨rfl, n, os, rfl⟩ := h
  obtain ⟨ts, hts⟩ : ∃ ts, ts = (L.map toL).mergeSort fun x y => decide (x ≤ y) := ⟨_, rfl⟩
  have htl : ts.length = (L.map toL).length := by rw [hts]; simp
  have hso : sortB L = ts.map ofL := by rw [hts]; rfl
  rw [hso, ← hts]
  have hgb := grownBy_sorted (w := w) (g := g) (n := n) (os := os) ts.toArray
  have hh := heap_sorted (n := n) (os := os) ts.toArray hb
  obtain ⟨w', hw'⟩ : ∃ w', w' = Sort.grow (Sort.putRow encStr (Sort.ahead w n) g 0 ts.toArray) os := ⟨_, rfl⟩
  rw [← hw'] at hgb hh ⊢
  obtain ⟨g1, g2, g3, g4, g5⟩ := hgb
  have hkeep : ∀ b, b < w.heap.size → ¬ b = g → w'.heap[b]? = w.heap[b]? := fun b hb hn => g5 b hb fun e => hn (Option.some.inj e)
  have hcell : ∀ b i v, i < pub b → w.cell? ⟨b, i, none⟩ = some v → w'.cell? ⟨b, i, none⟩ = some v := fun b i v hi hv => by
   have hbs : b < w.heap.size := by
    rcases Nat.lt_or_ge b w.heap.size with h | h
    ·exact h
    ·rw [hfresh b h] at hi
     exact absurd hi (Nat.not_lt_zero _)
   have hbg : ¬ b = g := fun e => by
    subst e
    rw [hgp] at hi
    exact absurd hi (Nat.not_lt_zero _)
   have e := hkeep b hbs hbg
   unfold World.cell? at hv ⊢
   dsimp only at hv ⊢
   rw [e]
   exact hv
  refine ⟨rfl, ⟨g1, g2, g3, g4, fun b hb hn => ⟨hkeep b hb fun e => hn (by subst e; simp), rfl⟩, fun _ => Nat.le_refl _, hcell, fun b n hp hn => lenW_of (hkeep b (lenW_lt hn) fun e => by subst e; rw [hgp] at hp; exact absurd hp (Nat.lt_irrefl 0)) hn⟩, ?_⟩
  refine Own.of_blk (cur := Sort.putCells encStr 0 ts.toArray cur) hh (by rw [← hlen]; exact h1) h2 (by simp [Sort.putCells, h3]) ?_
  rw [Nat.mul_one, ← htl, take_putCells _ _ (by rw [htl, List.length_map, h3]; omega), List.map_map]
  rfl⟩
theorem callG_sort {P : Program} {f : Nat} (hs : SortOk P f) (k : Nat) (L : List ByteArray) {keep : List Nat} {st : St} {K : AV → St → Prop} (hk : st.H[k]? = some (.row 9 1 (mapA .str L))) (hl : L.length ≤ 2000000) (hkeep : (keep.all fun j => j != k) = true)
  (hK : K (.tup []) ⟨st.T, st.H.set k (.row 9 1 (mapA .str (sortB L)))⟩) : CallG P keep f [.hd k] st K := by
 refine ⟨fun C a w r pub vals h hv => ?_⟩
 obtain ⟨u, us', hvals, hu, hnil⟩ := hv.cons_inv
 have hn0 := hnil.nil_inv
 subst hn0
 obtain rfl : vals = #[u] := Array.toList_inj.1 (by simpa using hvals)
 have hr : r k = some u := by cases hu with | hd h _ => exact h
 obtain ⟨A, c, us, hrk, ho, hcs, hst, hpb⟩ := h.ent_row hk
 rw [hr] at hrk
 cases hrk
 have hus := str_us hcs
 subst hus
 rw [mapA_len] at ho hr ⊢
 refine (hs.out A L c w pub hl ho hpb h.mod.fresh).mono fun e w' hw => ?_
 obtain ⟨rfl, hf, ho'⟩ := hw
 have hE : ERel pub w' r (some (.slice A (mapA AV.str (sortB L)).length c)) (.row 9 1 (mapA .str (sortB L))) := by
  refine .row (us := (sortB L).map .string) (by rw [mapA_len, sortB_len]; exact ho') (us_str _) (fun x hx => ?_) hpb
  rw [mapA_eq] at hx
  obtain ⟨s, _, rfl⟩ := List.mem_map.1 hx
  exact ⟨rfl, rfl⟩
 rw [mapA_len, sortB_len] at hE
 refine ⟨_, _, _, r, pub, rfl, .tup rfl (fun i x v hx _ => by cases hx), hK, ⟨h.mod.set hr hf (fun b hb => hb) (fun b hb => h.mod.fresh b (Nat.le_trans hf.size hb)) (fun b i hi => ?_) hE, h.own, h.fr.trans hf (fun b hb => h.own k _ hr b hb), h.slots.ext hf.ext, h.defers, h.size, h.stab, ⟨h.low.1, by simpa using h.low.2⟩⟩, hf.ext, fun j hj => ⟨rfl, fun y hy b hb => ?_⟩⟩
 ·obtain ⟨v, hv⟩ := h.mod.there b i hi
  exact ⟨v, hf.ext.cell b i v hi hv⟩
 ·have hjk : j ≠ k := by
   have := List.all_eq_true.1 hkeep j hj
   simpa using this
  exact (hf.keep b (h.mod.foot_lt hy b hb) fun hbA => h.mod.disj j k y _ hjk hy hr b hb hbA).1
theorem sortB_perm {l1 l2 : List ByteArray} (h : l1.Perm l2) : sortB l1 = sortB l2 := by
 unfold sortB
 congr 1
 have ht : ∀ a b c : List UInt8, decide (a ≤ b) = true → decide (b ≤ c) = true → decide (a ≤ c) = true := fun a b c h1 h2 => decide_eq_true (List.le_trans (of_decide_eq_true h1) (of_decide_eq_true h2))
 have hs : ∀ a b : List UInt8, (decide (a ≤ b) || decide (b ≤ a)) = true := fun a b => by
  rcases List.le_total a b with h | h
  ·rw [decide_eq_true h]; rfl
  ·rw [decide_eq_true h]; exact Bool.or_true _
 refine List.Perm.eq_of_pairwise (le := fun a b => decide (a ≤ b) = true) (fun a b _ _ h1 h2 => List.le_antisymm (of_decide_eq_true h1) (of_decide_eq_true h2)) (List.pairwise_mergeSort ht hs _) (List.pairwise_mergeSort ht hs _) ?_
 exact (List.mergeSort_perm _ _).trans ((h.map toL).trans (List.mergeSort_perm _ _).symm)
def gN (p : Br → Bool) (b : Br) : Option ByteArray := bif p b then some b.b.number else none
def numsM (L : List Br) (p : Br → Bool) : List ByteArray := sortB (L.filterMap (gN p))
def seenN (L : List Br) (p : Br → Bool) (seen : List Nat) : List ByteArray := seen.filterMap fun i => L[i]?.bind (gN p)
theorem range_bind {α β : Type} (g : α → Option β) : ∀ L : List α, (List.range L.length).filterMap (fun i => L[i]?.bind g) = L.filterMap g
 | [] => rfl
 | x :: L => by
  rw [List.length_cons, List.range_succ_eq_map, List.filterMap_cons, List.filterMap_map]
  have ih := range_bind g L
  have e : ((fun i => (x :: L)[i]?.bind g) ∘ Nat.succ) = fun i => L[i]?.bind g := by funext i; rfl
  rw [e, ih, List.filterMap_cons]
  rfl
structure SeenOk (L : List Br) (seen : List Nat) : Prop where
 nd : seen.Nodup
 lt : ∀ i ∈ seen, i < L.length
theorem SeenOk.nil {L : List Br} : SeenOk L [] := ⟨.nil, fun i h => by cases h⟩
theorem SeenOk.snoc {L : List Br} {seen : List Nat} {i : Nat} {y : Br} (h : SeenOk L seen) (hy : L[i]? = some y) (hn : i ∉ seen) : SeenOk L (seen ++ [i]) := by
 refine ⟨List.nodup_append.2 ⟨h.nd, List.nodup_cons.2 ⟨by simp, .nil⟩, fun a ha b hb e => ?_⟩, fun j hj => ?_⟩
 ·obtain rfl := List.mem_singleton.1 hb
  subst e
  exact hn ha
 ·rcases List.mem_append.1 hj with h1 | h1
  ·exact h.lt j h1
  ·obtain rfl := List.mem_singleton.1 h1
   exact (List.getElem?_eq_some_iff.1 hy).1
theorem SeenOk.len {L : List Br} {seen : List Nat} (h : SeenOk L seen) : seen.length ≤ L.length := by
 have := h.nd.length_le_of_subset (l₂ := List.range L.length) fun i hi => List.mem_range.2 (h.lt i hi)
 rwa [List.length_range] at this
theorem seenN_len {L : List Br} {p : Br → Bool} {seen : List Nat} (h : SeenOk L seen) : (seenN L p seen).length ≤ L.length := Nat.le_trans (List.length_filterMap_le _ _) h.len
theorem seenN_all {L : List Br} {p : Br → Bool} {seen : List Nat} (h : SeenOk L seen) (hall : ∀ i, i < L.length → i ∈ seen) : sortB (seenN L p seen) = numsM L p := by
 have hp : seen.Perm (List.range L.length) := (List.perm_ext_iff_of_nodup h.nd List.nodup_range).2 fun i => ⟨fun hi => List.mem_range.2 (h.lt i hi), fun hi => hall i (List.mem_range.1 hi)⟩
 unfold numsM
 rw [← range_bind]
 exact sortB_perm (hp.filterMap _)
theorem seenN_yes {L : List Br} {p : Br → Bool} {seen : List Nat} {i : Nat} {y : Br} (hy : L[i]? = some y) (hp : p y = true) : seenN L p (seen ++ [i]) = seenN L p seen ++ [y.b.number] := by
 unfold seenN
 rw [List.filterMap_append]
 congr 1
 rw [List.filterMap_cons, hy]
 unfold gN
 rw [Option.bind_some, hp]
 rfl
theorem seenN_no {L : List Br} {p : Br → Bool} {seen : List Nat} {i : Nat} {y : Br} (hy : L[i]? = some y) (hp : p y = false) : seenN L p (seen ++ [i]) = seenN L p seen := by
 unfold seenN
 rw [List.filterMap_append, List.filterMap_cons, hy]
 unfold gN
 rw [Option.bind_some, hp]
 exact List.append_nil _
theorem entK_in2 {α : Type} {f : α → PEl} {L : List α} {since i : Nat} {seen s : List Nat} {x : AV} {y : α} {K : AV → AV → Prop} (e : s = seen ++ [i]) (hs : since = L.length) (hy : L[i]? = some y) (h : K (f y).1 x) : EntK (mapA f L) [(i, x)] since s K := by
 subst e
 exact entK_in hs hy h
def inB (b : Br) : Prop := chOk b ∧ okB b.b
def CloB (p : Br → Bool) : Ctr := spec (fun _ : Br => [.ptr 0 0]) EntC inB (fun y => .bl (p y)) EntC
def NumC (f : Nat) (p : Br → Bool) : Ctr := spec (fun _ : Rg => [.ptr 0 0, .clo f []]) RegH (fun R => R.bills.length ≤ 256 ∧ ∀ b ∈ R.bills, inB b) (fun R => .sl 1 (mapA .str (numsM R.bills p))) RegH
theorem numbers_body (P : Program) (f : Nat) (p : Br → Bool) (hm : MayCall P f) (hf : FnOk P f (CloB p)) (hs : SortOk P 51) : BodyOk P x46 (NumC f p) := by
 intro args H K hc; obtain ⟨⟨carrier, L⟩, rfl, rfl, hp, hK⟩ := hc; refine ⟨nb9, ?_⟩; dsimp only at hp hK ⊢
 obtain ⟨hp, hpb⟩ := hp
 cbv; repeat' ((first | refine .k fun z hz => ?_ | fail) <;> cbv)
 obtain ⟨n, hn⟩ : ∃ n : Nat, n = L.length := ⟨_, rfl⟩
 obtain rfl : z = nI n := om9
 refine xloopG (Gh.adopt 5 9 1 rfl) ?_
 cbv
 refine xloopV [3] (fun q : { q : List Nat × Nat // SeenOk L q.1 ∧ q.2 = q.1.length } => [(5, .hd 3)]) (fun q => [.blk 79 [.str carrier, .ph 1], .pool 77 (mapA PelA L) [], .iter (.ph 1) n q.1.1, .row 9 1 (mapA .str (seenN L p q.1.1))]) (fun q => lft 257 q.1.2) ⟨([], 0), .nil, rfl⟩ ?_
 rintro ⟨⟨seen, k⟩, hse, hk⟩
 dsimp only at hse hk ⊢
 have hsl := hse.len
 obtain ⟨rw_, hrw⟩ : ∃ l, l = seenN L p seen := ⟨_, rfl⟩
 have hrl : rw_.length ≤ L.length := by rw [hrw]; exact seenN_len hse
 rw [← hrw]
 cbv
 refine nxtK_in hn (fun i y hy hni => ?_) (fun hall => ?_) <;> dsimp only at *
 ·have hin := hpb y (List.mem_of_getElem? hy)
  have hse2 := hse.snoc hy hni
  obtain ⟨s2, hs2⟩ : ∃ s, s = seen ++ [i] := ⟨_, rfl⟩
  rw [← hs2] at hse2 ⊢
  obtain ⟨b, hb⟩ : ∃ b, b = p y := ⟨_, rfl⟩
  have hlt : k < 257 := by omega
  have hsk : s2.length = k + 1 := by rw [hs2, hk]; simp
  have hyes := seenN_yes (seen := seen) hy (p := p)
  have hno := seenN_no (seen := seen) hy (p := p)
  rw [← hs2, ← hrw, ← hb] at hyes hno
  obtain ⟨⟨nq1, cq1, sq1, frm1, to1, bq1, pq1, iq1, lq1⟩, st1, ⟨sa1, ha1, ca1⟩, ⟨sb1, hb1, cb1⟩, ⟨sc1, hc1, cc1⟩⟩ := y
  dsimp only at hyes hno
  cbv
  refine entK_in2 hs2 hn hy ?_
  cbv; repeat' ((first | refine And.intro ?_ ?_ | fail) <;> cbv)
  ·exact hm
  ·(refine cs9 hf ⟨⟨nq1, cq1, sq1, frm1, to1, bq1, pq1, iq1, lq1⟩, st1, ⟨sa1, ha1, ca1⟩, ⟨sb1, hb1, cb1⟩, ⟨sc1, hc1, cc1⟩⟩ [4, 5, 6, 7] hin ?_; try dsimp only)
   rw [← hb]
   cases b with
   | true =>
    have hyes := hyes rfl
    cbv; repeat' ((first | refine .zl fun zs hzs hzl => ?_ | fail) <;> cbv)
    obtain rfl : zs = mapA .str (seenN L p s2) := by (rw [hyes, mapA_app, mapA_one]; exact hzs)
    refine roundG (Gh.back0 1 [4, 5, 6, 7] PelA rfl hy) ?_
    cbv
    exact roundV ⟨(s2, k + 1), hse2, hsk.symm⟩ (lft_lt hlt)
   | false =>
    have hno := hno rfl
    rw [← hno]
    cbv
    refine roundG (Gh.back0 1 [4, 5, 6, 7] PelA rfl hy) ?_
    cbv
    exact roundV ⟨(s2, k + 1), hse2, hsk.symm⟩ (lft_lt hlt)
 ·have hsort := seenN_all (p := p) hse hall
  rw [← hrw] at hsort
  obtain ⟨l, hl⟩ : ∃ l, l = numsM L p := ⟨_, rfl⟩
  rw [← hl] at hsort hK
  cbv
  refine callG_sort hs 3 rw_ rfl (by omega) (by decide) ?_
  rw [hsort]
  cbv
  (refine .r9 (Gh.plain 3 rfl) ?_; cbv; exact .inl (.g9 hK))
def CloBW (p : ByteArray → Br → Bool) : Ctr := spec (fun _ : Br × ByteArray => [.ptr 0 0, .ptr 4 0]) (fun i => EntC i.1 ++ [.blk 9 [.str i.2]]) (fun i => inB i.1) (fun i => .bl (p i.2 i.1)) fun i => EntC i.1 ++ [.blk 9 [.str i.2]]
def RegW (i : Rg × ByteArray) : List Ent := RegH i.1 ++ [.blk 9 [.str i.2]]
def NumW (f : Nat) (p : ByteArray → Br → Bool) : Ctr := spec (fun _ : Rg × ByteArray => [.ptr 0 0, .clo f [.ptr 2 0]]) RegW (fun i => i.1.bills.length ≤ 256 ∧ ∀ b ∈ i.1.bills, inB b) (fun i => .sl 1 (mapA .str (numsM i.1.bills (p i.2)))) RegW
theorem numbersW_body (P : Program) (f : Nat) (p : ByteArray → Br → Bool) (hm : MayCall P f) (hf : FnOk P f (CloBW p)) (hs : SortOk P 51) : BodyOk P x46 (NumW f p) := by
 intro args H K hc; obtain ⟨⟨⟨carrier, L⟩, who⟩, rfl, rfl, hp, hK⟩ := hc; refine ⟨nb9, ?_⟩; dsimp only at hp hK ⊢
 obtain ⟨hp, hpb⟩ := hp
 cbv; repeat' ((first | refine .k fun z hz => ?_ | fail) <;> cbv)
 obtain ⟨n, hn⟩ : ∃ n : Nat, n = L.length := ⟨_, rfl⟩
 obtain rfl : z = nI n := om9
 refine xloopG (Gh.adopt 5 9 1 rfl) ?_
 cbv
 refine xloopV [4] (fun q : { q : List Nat × Nat // SeenOk L q.1 ∧ q.2 = q.1.length } => [(5, .hd 4)]) (fun q => [.blk 79 [.str carrier, .ph 1], .pool 77 (mapA PelA L) [], .blk 9 [.str who], .iter (.ph 1) n q.1.1, .row 9 1 (mapA .str (seenN L (p who) q.1.1))]) (fun q => lft 257 q.1.2) ⟨([], 0), .nil, rfl⟩ ?_
 rintro ⟨⟨seen, k⟩, hse, hk⟩
 dsimp only at hse hk ⊢
 have hsl := hse.len
 obtain ⟨rw_, hrw⟩ : ∃ l, l = seenN L (p who) seen := ⟨_, rfl⟩
 have hrl : rw_.length ≤ L.length := by rw [hrw]; exact seenN_len hse
 rw [← hrw]
 cbv
 refine nxtK_in hn (fun i y hy hni => ?_) (fun hall => ?_) <;> dsimp only at *
 ·have hin := hpb y (List.mem_of_getElem? hy)
  have hse2 := hse.snoc hy hni
  obtain ⟨s2, hs2⟩ : ∃ s, s = seen ++ [i] := ⟨_, rfl⟩
  rw [← hs2] at hse2 ⊢
  obtain ⟨b, hb⟩ : ∃ b, b = p who y := ⟨_, rfl⟩
  have hlt : k < 257 := by omega
  have hsk : s2.length = k + 1 := by rw [hs2, hk]; simp
  have hyes := seenN_yes (seen := seen) hy (p := p who)
  have hno := seenN_no (seen := seen) hy (p := p who)
  rw [← hs2, ← hrw, ← hb] at hyes hno
  obtain ⟨⟨nq1, cq1, sq1, frm1, to1, bq1, pq1, iq1, lq1⟩, st1, ⟨sa1, ha1, ca1⟩, ⟨sb1, hb1, cb1⟩, ⟨sc1, hc1, cc1⟩⟩ := y
  dsimp only at hyes hno
  cbv
  refine entK_in2 hs2 hn hy ?_
  cbv; repeat' ((first | refine And.intro ?_ ?_ | fail) <;> cbv)
  ·exact hm
  ·(refine cs9 hf (⟨⟨nq1, cq1, sq1, frm1, to1, bq1, pq1, iq1, lq1⟩, st1, ⟨sa1, ha1, ca1⟩, ⟨sb1, hb1, cb1⟩, ⟨sc1, hc1, cc1⟩⟩, who) [5, 6, 7, 8, 2] hin ?_; try dsimp only)
   rw [← hb]
   cases b with
   | true =>
    have hyes := hyes rfl
    cbv; repeat' ((first | refine .zl fun zs hzs hzl => ?_ | fail) <;> cbv)
    obtain rfl : zs = mapA .str (seenN L (p who) s2) := by (rw [hyes, mapA_app, mapA_one]; exact hzs)
    refine roundG (Gh.back0 1 [5, 6, 7, 8] PelA rfl hy) ?_
    cbv
    exact roundV ⟨(s2, k + 1), hse2, hsk.symm⟩ (lft_lt hlt)
   | false =>
    have hno := hno rfl
    rw [← hno]
    cbv
    refine roundG (Gh.back0 1 [5, 6, 7, 8] PelA rfl hy) ?_
    cbv
    exact roundV ⟨(s2, k + 1), hse2, hsk.symm⟩ (lft_lt hlt)
 ·have hsort := seenN_all (p := p who) hse hall
  rw [← hrw] at hsort
  obtain ⟨l, hl⟩ : ∃ l, l = numsM L (p who) := ⟨_, rfl⟩
  rw [← hl] at hsort hK
  cbv
  refine callG_sort hs 4 rw_ rfl (by omega) (by decide) ?_
  rw [hsort]
  cbv
  (refine .r9 (Gh.plain 4 rfl) ?_; cbv; exact .inl (.g9 hK))
theorem bills1_body (P : Program) : BodyOk P x47 (CloB fun _ => true) := by
 intro args H K hc; obtain ⟨y, rfl, rfl, hp, hK⟩ := hc; refine ⟨nb9, ?_⟩; dsimp only at hp hK ⊢
 obtain ⟨⟨nq1, cq1, sq1, frm1, to1, bq1, pq1, iq1, lq1⟩, st1, ⟨sa1, ha1, ca1⟩, ⟨sb1, hb1, cb1⟩, ⟨sc1, hc1, cc1⟩⟩ := y
 cbv
 (refine .r9 (Gh.refl _) ?_; cbv; exact .inl (.f9 hK))
def pOfB (who : ByteArray) (b : Br) : Bool := decide (b.st = 0) && some3 (-1) b (pOf who)
theorem of1_body (P : Program) (hs : FnOk P 36 (SomeW 100 pOf)) : BodyOk P x99 (CloBW pOfB) := by
 intro args H K hc; obtain ⟨⟨y, who⟩, rfl, rfl, hp, hK⟩ := hc; refine ⟨nb9, ?_⟩; dsimp only at hp hK ⊢
 unfold inB at hp
 obtain ⟨hp, hob⟩ := hp
 unfold pOfB at hK
 obtain ⟨q3, hq3⟩ : ∃ q, q = some3 (-1) y (pOf who) := ⟨_, rfl⟩
 rw [← hq3] at hK
 obtain ⟨⟨nq1, cq1, sq1, frm1, to1, bq1, pq1, iq1, lq1⟩, st1, ⟨sa1, ha1, ca1⟩, ⟨sb1, hb1, cb1⟩, ⟨sc1, hc1, cc1⟩⟩ := y
 dsimp only at hK
 cbv; repeat' ((first | refine .mk (fun h => ?_) fun h => ?_ | fail) <;> cbv)
 ·(refine cs9 hs (⟨⟨nq1, cq1, sq1, frm1, to1, bq1, pq1, iq1, lq1⟩, st1, ⟨sa1, ha1, ca1⟩, ⟨sb1, hb1, cb1⟩, ⟨sc1, hc1, cc1⟩⟩, -1, who) [0, 1, 2, 3, 4] hp ?_; try dsimp only)
  rw [← hq3]
  cbv
  (refine .r9 (Gh.refl _) ?_; cbv; exact .inl (.f9 (K_bl hK (by rw [decide_eq_true h]; rfl))))
 ·(refine .r9 (Gh.refl _) ?_; cbv; exact .inl (.f9 (K_bl hK (by rw [decide_eq_false h]; rfl))))
def pBox (box : ByteArray) (b : Br) : Bool := decide (b.st = 0) && b.b.boxes.any fun x => decide (box = x)
theorem box1_body (P : Program) (hc : FnOk P 96 ContainsC) : BodyOk P x95 (CloBW pBox) := by
 intro args H K hc; obtain ⟨⟨y, who⟩, rfl, rfl, hp, hK⟩ := hc; refine ⟨nb9, ?_⟩; dsimp only at hp hK ⊢
 unfold inB at hp
 obtain ⟨hp, hob⟩ := hp
 unfold okB at hob
 unfold pBox at hK
 obtain ⟨q3, hq3⟩ : ∃ q, q = y.b.boxes.any fun x => decide (who = x) := ⟨_, rfl⟩
 rw [← hq3] at hK
 obtain ⟨⟨nq1, cq1, sq1, frm1, to1, bq1, pq1, iq1, lq1⟩, st1, ⟨sa1, ha1, ca1⟩, ⟨sb1, hb1, cb1⟩, ⟨sc1, hc1, cc1⟩⟩ := y
 dsimp only at hK hob hq3
 cbv; repeat' ((first | refine .mk (fun h => ?_) fun h => ?_ | fail) <;> cbv)
 ·(refine c09 hc (bq1, who) (by dsimp only; omega) ?_; try dsimp only)
  rw [← hq3]
  cbv
  (refine .r9 (Gh.refl _) ?_; cbv; exact .inl (.f9 (K_bl hK (by rw [decide_eq_true h]; rfl))))
 ·(refine .r9 (Gh.refl _) ?_; cbv; exact .inl (.f9 (K_bl hK (by rw [decide_eq_false h]; rfl))))
def BillsC : Ctr := spec (fun _ : Rg => [.ptr 0 0]) RegH (fun R => R.bills.length ≤ 256 ∧ ∀ b ∈ R.bills, inB b) (fun R => .sl 1 (mapA .str (numsM R.bills fun _ => true))) RegH
theorem bills_body (P : Program) (hn : FnOk P 46 (NumC 47 fun _ => true)) : BodyOk P x21 BillsC := by
 intro args H K hc; obtain ⟨⟨carrier, L⟩, rfl, rfl, hp, hK⟩ := hc; refine ⟨nb9, ?_⟩; dsimp only at hp hK ⊢
 obtain ⟨l, hl⟩ : ∃ l, l = numsM L fun _ => true := ⟨_, rfl⟩
 rw [← hl] at hK
 cbv
 (refine cs9 hn (⟨carrier, L⟩ : Rg) [0, 1] hp ?_; try dsimp only)
 rw [← hl]
 cbv
 (refine .r9 (Gh.refl _) ?_; cbv; exact .inl (.f9 hK))
def OfC : Ctr := spec (fun i : Rg × ByteArray => [.ptr 0 0, .str i.2]) (fun i => RegH i.1) (fun i => i.1.bills.length ≤ 256 ∧ ∀ b ∈ i.1.bills, inB b) (fun i => .sl 1 (mapA .str (numsM i.1.bills (pOfB i.2)))) fun i => RegH i.1
theorem of_body (P : Program) (hn : FnOk P 46 (NumW 99 pOfB)) : BodyOk P x59 OfC := by
 intro args H K hc; obtain ⟨⟨⟨carrier, L⟩, who⟩, rfl, rfl, hp, hK⟩ := hc; refine ⟨nb9, ?_⟩; dsimp only at hp hK ⊢
 obtain ⟨l, hl⟩ : ∃ l, l = numsM L (pOfB who) := ⟨_, rfl⟩
 rw [← hl] at hK
 cbv
 (refine cs9 hn ((⟨carrier, L⟩ : Rg), who) [0, 1, 2] hp ?_; try dsimp only)
 rw [← hl]
 cbv
 (refine .r9 (Gh.refl _) ?_; cbv; exact .inl (.f9 hK))
def boxN (L : List Br) (box : ByteArray) : ByteArray × Bool := match numsM L (pBox box) with
 | [] => (⟨⟨[]⟩⟩, false)
 | n :: _ => (n, true)
def BoxC : Ctr := spec (fun i : Rg × ByteArray => [.ptr 0 0, .str i.2]) (fun i => RegH i.1) (fun i => i.1.bills.length ≤ 256 ∧ ∀ b ∈ i.1.bills, inB b) (fun i => SbA (boxN i.1.bills i.2)) fun i => RegH i.1
theorem box_body (P : Program) (hn : FnOk P 46 (NumW 95 pBox)) : BodyOk P x56 BoxC := by
 intro args H K hc; obtain ⟨⟨⟨carrier, L⟩, who⟩, rfl, rfl, hp, hK⟩ := hc; refine ⟨nb9, ?_⟩; dsimp only at hp hK ⊢
 have hd : boxN L who = match numsM L (pBox who) with
  | [] => (⟨⟨[]⟩⟩, false)
  | n :: _ => (n, true) := rfl
 obtain ⟨d, hdd⟩ : ∃ d, d = boxN L who := ⟨_, rfl⟩
 obtain ⟨l, hl⟩ : ∃ l, l = numsM L (pBox who) := ⟨_, rfl⟩
 rw [← hdd] at hK hd
 rw [← hl] at hd
 cbv
 (refine cs9 hn ((⟨carrier, L⟩ : Rg), who) [0, 1, 2] hp ?_; try dsimp only)
 rw [← hl]
 cases l with
 | nil =>
  cbv; repeat' ((first | refine .y fun h => ?_ | refine .k fun z hz => ?_ | fail) <;> cbv)
  obtain rfl := hd
  (refine .r9 (Gh.refl _) ?_; cbv; exact .inl (.f9 hK))
 | cons x l =>
  dsimp only at hd
  obtain rfl := hd
  cbv; repeat' ((first | refine .n fun h => ?_ | refine .k fun z hz => ?_ | fail) <;> cbv)
  refine askEl_some (f := AV.str) (L := x :: l) (i := 0) rfl ?_
  cbv
  (refine .r9 (Gh.refl _) ?_; cbv; exact .inl (.f9 hK))
def setF (s : ByteArray) : AV × AV := (.str s, .bl true)
theorem findA_set (s : ByteArray) : ∀ (L : List ByteArray) (i : Nat), findA (.str s) (mapA setF L) i = some ((atS id L s).map (· + i))
 | [], i => rfl
 | x :: L, i => by
  have e : mapA setF (x :: L) = (.str x, .bl true) :: mapA setF L := rfl
  rw [e]
  unfold findA atS
  rw [List.findIdx?_cons]
  by_cases h : x = s
  ·have h2 : keyIs (.str s) (.str x) = some true := congrArg some ((MapKept.bytes_beq _ _).2 h.symm)
   simp only [h2]
   simp [h]
  ·have h3 : ¬ s = x := fun e => h e.symm
   have h2 : keyIs (.str s) (.str x) = some false := congrArg some (Bool.eq_false_iff.2 fun hb => h3 ((MapKept.bytes_beq _ _).1 hb))
   simp only [h2, findA_set s L (i + 1), h, id, decide_false, Bool.false_eq_true, if_false, Option.map_map, atS]
   congr 1
   cases (L.findIdx? fun a => decide (a = s)) with
   | none => rfl
   | some n => simp; omega
theorem find_set {s : ByteArray} {L : List ByteArray} {K : Option (Nat × AV) → Prop} (hs : ∀ i, atS id L s = some i → K (some (i, .bl true))) (hn : atS id L s = none → K none) : FindK (.str s) (mapA setF L) K := by
 refine ⟨?_⟩
 have hf := findA_set s L 0
 cases h : atS id L s with
 | some i =>
  obtain ⟨y, hy, _⟩ := atS_some h
  exact .inl ⟨i, _, _, by rw [hf, h]; rfl, by rw [mapA_eq, List.getElem?_map, hy]; rfl, hs i h⟩
 | none => exact .inr ⟨by rw [hf, h]; rfl, hn h⟩
def hasB (L : List ByteArray) (s : ByteArray) : Bool := (atS id L s).isSome
def boxGo (ahead : List ByteArray) : List ByteArray → Bool
 | [] => true
 | b :: r => (markB b && !hasB ahead b) && boxGo (ahead ++ [b]) r
theorem boxGo_at {c : List ByteArray} {k : Nat} {b : ByteArray} (hb : c[k]? = some b) : boxGo (c.take k) (c.drop k) = ((markB b && !hasB (c.take k) b) && boxGo (c.take (k + 1)) (c.drop (k + 1))) := by
 obtain ⟨hk, rfl⟩ := List.getElem?_eq_some_iff.1 hb
 rw [List.drop_eq_getElem_cons hk, boxGo, List.take_succ_eq_append_getElem hk]
theorem boxGo_end {c : List ByteArray} {k : Nat} (hk : k = c.length) : boxGo (c.take k) (c.drop k) = true := by
 rw [List.drop_eq_nil_of_le (by omega), boxGo]
def mayB (carrier : ByteArray) : Bl → Bool
 | ⟨number, car, shipper, frm, to, boxes, parents, issued, _⟩ =>
  ((nameB number && nameB shipper) && (nameB frm && nameB to)) && ((decide (car = carrier) && dayB issued) && ((decide (1 ≤ boxes.length ∧ boxes.length ≤ 64 ∧ parents.length ≤ 64)) && (boxGo [] boxes && !(parents.any fun s => !nameB s))))
def MayC : Ctr := spec (fun i : Rg × Bl => [.ptr 0 0, BlA i.2]) (fun i => RegH i.1) (fun i => okB i.2) (fun i => .bl (mayB i.1.carrier i.2)) fun i => RegH i.1
theorem may_body (P : Program) (hn : FnOk P 68 (StrC (fun _ => True) nameB)) (hr : FnOk P 117 (StrC (fun _ => True) markB)) (hd : FnOk P 106 DayC) (hc : FnOk P 38 (ConFC 118 fun s => !nameB s)) : BodyOk P x72 MayC := by
 intro args H K hc; obtain ⟨⟨⟨carrier, L⟩, b⟩, rfl, rfl, hp, hK⟩ := hc; refine ⟨nb9, ?_⟩; dsimp only at hp hK ⊢
 unfold okB at hp
 obtain ⟨nq1, cq1, sq1, frm1, to1, bq1, pq1, iq1, lq1⟩ := b
 obtain ⟨q, hq⟩ : ∃ q, q = mayB carrier ⟨nq1, cq1, sq1, frm1, to1, bq1, pq1, iq1, lq1⟩ := ⟨_, rfl⟩
 rw [← hq] at hK
 unfold mayB at hq
 dsimp only at hq hp
 obtain ⟨n1, hn1⟩ : ∃ q, q = nameB nq1 := ⟨_, rfl⟩
 obtain ⟨n2, hn2⟩ : ∃ q, q = nameB sq1 := ⟨_, rfl⟩
 obtain ⟨n3, hn3⟩ : ∃ q, q = nameB frm1 := ⟨_, rfl⟩
 obtain ⟨n4, hn4⟩ : ∃ q, q = nameB to1 := ⟨_, rfl⟩
 obtain ⟨n5, hn5⟩ : ∃ q, q = dayB iq1 := ⟨_, rfl⟩
 obtain ⟨n6, hn6⟩ : ∃ q, q = (pq1.any fun s => !nameB s) := ⟨_, rfl⟩
 obtain ⟨n7, hn7⟩ : ∃ q, q = boxGo (bq1.take 0) (bq1.drop 0) := ⟨_, rfl⟩
 have hn7' : boxGo [] bq1 = n7 := hn7.symm
 rw [← hn1, ← hn2, ← hn3, ← hn4, ← hn5, ← hn6, hn7'] at hq
 clear hn7'
 cbv
 (refine c09 hn nq1 trivial ?_; try dsimp only)
 rw [← hn1]
 cases n1 with
 | false =>
  cbv
  (refine .r9 (Gh.refl _) ?_; cbv; exact .inl (.f9 (K_bl hK (by rw [hq]; rfl))))
 | true =>
 cbv
 (refine c09 hn sq1 trivial ?_; try dsimp only)
 rw [← hn2]
 cases n2 with
 | false =>
  cbv
  (refine .r9 (Gh.refl _) ?_; cbv; exact .inl (.f9 (K_bl hK (by rw [hq]; rfl))))
 | true =>
 cbv
 (refine c09 hn frm1 trivial ?_; try dsimp only)
 rw [← hn3]
 cases n3 with
 | false =>
  cbv
  (refine .r9 (Gh.refl _) ?_; cbv; exact .inl (.f9 (K_bl hK (by rw [hq]; rfl))))
 | true =>
 cbv
 (refine c09 hn to1 trivial ?_; try dsimp only)
 rw [← hn4]
 cases n4 with
 | false =>
  cbv
  (refine .r9 (Gh.refl _) ?_; cbv; exact .inl (.f9 (K_bl hK (by rw [hq]; rfl))))
 | true =>
 cbv; repeat' ((first | refine .mk (fun h => ?_) fun h => ?_ | fail) <;> cbv)
 rotate_left
 ·(refine .r9 (Gh.refl _) ?_; cbv; exact .inl (.f9 (K_bl hK (by rw [hq, decide_eq_false h]; rfl))))
 ·rw [decide_eq_true h] at hq
  (refine c09 hd iq1 trivial ?_; try dsimp only)
  rw [← hn5]
  cases n5 with
  | false =>
   cbv
   (refine .r9 (Gh.refl _) ?_; cbv; exact .inl (.f9 (K_bl hK (by rw [hq]; rfl))))
  | true =>
  cbv; repeat' ((first | refine .mk (fun h => ?_) fun h => ?_ | refine .k fun z hz => ?_ | fail) <;> cbv)
  ·(refine .r9 (Gh.refl _) ?_; cbv; exact .inl (.f9 (K_bl hK (by rw [hq, decide_eq_false om9]; rfl))))
  ·(refine .r9 (Gh.refl _) ?_; cbv; exact .inl (.f9 (K_bl hK (by rw [hq, decide_eq_false om9]; rfl))))
  ·(refine .r9 (Gh.refl _) ?_; cbv; exact .inl (.f9 (K_bl hK (by rw [hq, decide_eq_false om9]; rfl))))
  ·rw [decide_eq_true om9] at hq
   refine xloopV [] (fun q : { k : Nat // k ≤ bq1.length ∧ n7 = boxGo (bq1.take k) (bq1.drop k) } => [(66, .i (nI q.1))]) (fun q => [.blk 79 [.str carrier, .ph 1], .pool 77 (mapA PelA L) [], .blk 33 [.str nq1, .str cq1, .str sq1, .str frm1, .str to1, .sl 1 (mapA .str bq1), .sl 1 (mapA .str pq1), .i iq1, .bl lq1], .map 106 (mapA setF (bq1.take q.1))]) (fun q => lft 5001 q.1) ⟨0, Nat.zero_le _, hn7⟩ ?_
   rintro ⟨k, hk, hb7⟩
   dsimp only at hk hb7 ⊢
   cbv; repeat' ((first | refine .mk (fun h => ?_) fun h => ?_ | fail) <;> cbv)
   ·refine askEl_int om9 om9 fun i x hi hx => ?_
    obtain rfl : k = i := om9
    have hg := boxGo_at hx
    obtain ⟨m, hm⟩ : ∃ m, m = markB x := ⟨_, rfl⟩
    rw [← hm] at hg
    cbv
    (refine c09 hr x trivial ?_; try dsimp only)
    rw [← hm]
    cases m with
    | false =>
     rw [hb7, hg] at hq
     cbv
     (refine .r9 (Gh.refl _) ?_; cbv; exact .inl (.f9 (K_bl hK (by rw [hq]; rfl))))
    | true =>
     cbv
     refine find_set (fun j hj => ?_) (fun hj => ?_)
     ·have hh : hasB (bq1.take k) x = true := by unfold hasB; rw [hj]; rfl
      rw [hb7, hg, hh] at hq
      cbv
      (refine .r9 (Gh.refl _) ?_; cbv; exact .inl (.f9 (K_bl hK (by rw [hq]; rfl))))
     ·have hh : hasB (bq1.take k) x = false := by unfold hasB; rw [hj]; rfl
      rw [hh] at hg
      cbv
      refine find_set (fun j hj2 => ?_) (fun _ => ?_)
      ·rw [hj] at hj2
       cases hj2
      cbv; repeat' ((first | refine .k fun z hz => ?_ | refine .ms fun ms hms => ?_ | fail) <;> cbv)
      obtain rfl : ms = mapA setF (bq1.take (k + 1)) := by
       rw [take_some hx, mapA_app, mapA_one]
       exact hms
      obtain rfl : z = nI (k + 1) := om9
      exact roundV ⟨k + 1, by exact om9, hb7.trans hg⟩ (lft_lt om9)
   ·obtain rfl : k = bq1.length := om9
    rw [boxGo_end rfl] at hb7
    subst hb7
    (refine c09 hc pq1 om9 ?_; try dsimp only)
    rw [← hn6]
    cases n6 with
    | false =>
     cbv
     (refine .r9 (Gh.refl _) ?_; cbv; exact .inl (.f9 (K_bl hK (by rw [hq]; rfl))))
    | true =>
     cbv
     (refine .r9 (Gh.refl _) ?_; cbv; exact .inl (.f9 (K_bl hK (by rw [hq]; rfl))))
structure Iss where
 R : Rg
 b : Bl
 holder : ByteArray
def IssH (i : Iss) : List Ent := RegH i.R ++ [.blk 25 [.ptr 0 0], .blk 33 (BlL i.b), .blk 9 [.str i.holder]]
structure IssP (i : Iss) : Prop where
 few : i.R.bills.length ≤ 256
 all : ∀ b ∈ i.R.bills, inB b
 ok : okB i.b
def IssC (args : List AV) (p : Iss → Bool) : Ctr := spec (fun _ : Iss => args) IssH IssP (fun i => .bl (p i)) IssH
def i1 (i : Iss) : Bool := !mayB i.R.carrier i.b || !nameB i.holder
def i2 (i : Iss) : Bool := (bAt i.R.bills i.b.number).isSome
def iBox (i : Iss) (box : ByteArray) : Bool := (boxN i.R.bills box).2
def i3 (i : Iss) : Bool := i.b.boxes.any (iBox i)
def i4 (i : Iss) : Bool := decide (256 ≤ i.R.bills.length)
theorem iss1_body (P : Program) (hm : FnOk P 72 MayC) (hn : FnOk P 68 (StrC (fun _ => True) nameB)) : BodyOk P x71 (IssC [.ptr 2 0, .ptr 3 0, .ptr 4 0] i1) := by
 intro args H K hc; obtain ⟨⟨⟨carrier, L⟩, b, holder⟩, rfl, rfl, hp, hK⟩ := hc; refine ⟨nb9, ?_⟩; dsimp only at hp hK ⊢
 obtain ⟨_, _, hok⟩ := hp
 unfold i1 at hK
 dsimp only at hK hok
 obtain ⟨n1, hn1⟩ : ∃ q, q = mayB carrier b := ⟨_, rfl⟩
 obtain ⟨n2, hn2⟩ : ∃ q, q = nameB holder := ⟨_, rfl⟩
 rw [← hn1, ← hn2] at hK
 obtain ⟨nq1, cq1, sq1, frm1, to1, bq1, pq1, iq1, lq1⟩ := b
 cbv
 (refine cs9 hm ((⟨carrier, L⟩ : Rg), ⟨nq1, cq1, sq1, frm1, to1, bq1, pq1, iq1, lq1⟩) [0, 1] hok ?_; try dsimp only)
 rw [← hn1]
 cases n1 with
 | false =>
  cbv
  (refine .r9 (Gh.refl _) ?_; cbv; exact .inl (.f9 hK))
 | true =>
  cbv
  (refine c09 hn holder trivial ?_; try dsimp only)
  rw [← hn2]
  cases n2 with
  | false =>
   cbv
   (refine .r9 (Gh.refl _) ?_; cbv; exact .inl (.f9 hK))
  | true =>
   cbv
   (refine .r9 (Gh.refl _) ?_; cbv; exact .inl (.f9 hK))
theorem iss2_body (P : Program) : BodyOk P x73 (IssC [.ptr 2 0, .ptr 3 0] i2) := by
 intro args H K hc; obtain ⟨⟨⟨carrier, L⟩, b, holder⟩, rfl, rfl, hp, hK⟩ := hc; refine ⟨nb9, ?_⟩; dsimp only at hp hK ⊢
 unfold i2 at hK
 dsimp only at hK
 obtain ⟨n1, hn1⟩ : ∃ q, q = (bAt L b.number).isSome := ⟨_, rfl⟩
 rw [← hn1] at hK
 obtain ⟨nq1, cq1, sq1, frm1, to1, bq1, pq1, iq1, lq1⟩ := b
 cbv
 refine poolK_in (fun b : Br => b.b.number) (fun _ => rfl) (fun i y hai hy hky => ?_) (fun hai => ?_) <;> dsimp only at *
 ·have hn2 : n1 = true := by rw [hn1]; unfold bAt; rw [hai]; rfl
  obtain ⟨⟨nq2, cq2, sq2, frm2, to2, bq2, pq2, iq2, lq2⟩, st2, ⟨sa2, ha2, ca2⟩, ⟨sb2, hb2, cb2⟩, ⟨sc2, hc2, cc2⟩⟩ := y
  cbv
  (refine .r9 (Gh.back0 1 [5, 6, 7, 8] PelA rfl hy) ?_; cbv; exact .inl (.f9 (K_bl hK hn2.symm)))
 ·have hn2 : n1 = false := by rw [hn1]; unfold bAt; rw [hai]; rfl
  cbv
  (refine .r9 (Gh.refl _) ?_; cbv; exact .inl (.f9 (K_bl hK hn2.symm)))
theorem iss31_body (P : Program) (hb : FnOk P 56 BoxC) : BodyOk P x75 (spec (fun i : Iss × ByteArray => [.str i.2, .ptr 2 0]) (fun i => IssH i.1) (fun i => IssP i.1) (fun i => .bl (iBox i.1 i.2)) fun i => IssH i.1) := by
 intro args H K hc; obtain ⟨⟨⟨⟨carrier, L⟩, b, holder⟩, box⟩, rfl, rfl, hp, hK⟩ := hc; refine ⟨nb9, ?_⟩; dsimp only at hp hK ⊢
 obtain ⟨hfew, hall, hok⟩ := hp
 dsimp only at hfew hall
 unfold iBox at hK
 dsimp only at hK
 obtain ⟨⟨s, f⟩, hn1⟩ : ∃ q, q = boxN L box := ⟨_, rfl⟩
 rw [← hn1] at hK
 obtain ⟨nq1, cq1, sq1, frm1, to1, bq1, pq1, iq1, lq1⟩ := b
 cbv
 (refine cs9 hb ((⟨carrier, L⟩ : Rg), box) [0, 1] ⟨hfew, hall⟩ ?_; try dsimp only)
 rw [← hn1]
 cbv
 (refine .r9 (Gh.refl _) ?_; cbv; exact .inl (.f9 hK))
theorem iss4_body (P : Program) : BodyOk P x76 (IssC [.ptr 2 0] i4) := by
 intro args H K hc; obtain ⟨⟨⟨carrier, L⟩, b, holder⟩, rfl, rfl, hp, hK⟩ := hc; refine ⟨nb9, ?_⟩; dsimp only at hp hK ⊢
 unfold i4 at hK
 dsimp only at hK
 obtain ⟨n, hn⟩ : ∃ n : Nat, n = L.length := ⟨_, rfl⟩
 rw [← hn] at hK
 obtain ⟨nq1, cq1, sq1, frm1, to1, bq1, pq1, iq1, lq1⟩ := b
 cbv; repeat' ((first | refine .mk (fun h => ?_) fun h => ?_ | refine .k fun z hz => ?_ | fail) <;> cbv)
 ·(refine .r9 (Gh.refl _) ?_; cbv; exact .inl (.f9 (K_bl hK (decide_eq_true om9).symm)))
 ·(refine .r9 (Gh.refl _) ?_; cbv; exact .inl (.f9 (K_bl hK (decide_eq_false om9).symm)))
def BoxF : Ctr := spec (fun i : Iss × ByteArray => [.str i.2, .ptr 2 0]) (fun i => IssH i.1) (fun i => IssP i.1) (fun i => .bl (iBox i.1 i.2)) fun i => IssH i.1
def IdxIC : Ctr := spec (fun i : Iss => [.sl 1 (mapA .str i.b.boxes), .clo 75 [.ptr 2 0]]) IssH IssP (fun i => .i (idxP (iBox i) i.b.boxes)) IssH
theorem idxI_body (P : Program) (hm : MayCall P 75) (hf : FnOk P 75 BoxF) : BodyOk P x85 IdxIC := by
 intro args H K hc
 obtain ⟨i, rfl, rfl, hp, hK⟩ := hc
 obtain ⟨p, hpp⟩ : ∃ p, p = iBox i := ⟨_, rfl⟩
 have hok := hp.ok
 dsimp only at hK
 rw [← hpp] at hK
 obtain ⟨⟨carrier, L⟩, b, holder⟩ := i
 unfold okB at hok
 obtain ⟨nq1, cq1, sq1, frm1, to1, bq1, pq1, iq1, lq1⟩ := b
 refine ⟨nb9, ?_⟩
 dsimp only at hok hK ⊢
 cbv; repeat' ((first | refine .k fun z hz => ?_ | fail) <;> cbv)
 refine xloopV [] (fun q : { k : Nat // k ≤ bq1.length ∧ NoneTo p bq1 k } => [(8, .i (nI q.1))]) (fun _ => IssH ⟨⟨carrier, L⟩, ⟨nq1, cq1, sq1, frm1, to1, bq1, pq1, iq1, lq1⟩, holder⟩) (fun q => lft 5001 q.1) ⟨0, Nat.zero_le _, .zero⟩ ?_
 rintro ⟨k, hk, hn⟩
 dsimp only at hk hn ⊢
 cbv; repeat' ((first | refine .mk (fun h => ?_) fun h => ?_ | fail) <;> cbv)
 ·refine askEl_int om9 om9 fun j x hi hx => ?_
  obtain rfl : k = j := om9
  cbv; repeat' ((first | refine And.intro ?_ ?_ | fail) <;> cbv)
  ·exact hm
  ·obtain ⟨b, hb⟩ : ∃ b, b = p x := ⟨_, rfl⟩
   (refine cs9 hf ((⟨⟨carrier, L⟩, ⟨nq1, cq1, sq1, frm1, to1, bq1, pq1, iq1, lq1⟩, holder⟩ : Iss), x) [0, 1, 2, 3, 4] hp ?_; try dsimp only)
   rw [← hpp, ← hb]
   cases b with
   | true =>
    cbv
    (refine .r9 (Gh.refl _) ?_; cbv; exact .inl (.f9 (K_i hK (by rw [idxP_at hn hx hb.symm]))))
   | false =>
    cbv; repeat' ((first | refine .k fun z hz => ?_ | fail) <;> cbv)
    obtain rfl : z = nI (k + 1) := om9
    exact roundV ⟨k + 1, by exact om9, hn.succ hx hb.symm⟩ (lft_lt om9)
 ·obtain rfl : k = bq1.length := om9
  (refine .r9 (Gh.refl _) ?_; cbv; exact .inl (.f9 (K_i hK (by rw [idxP_none hn]))))
def ConIC : Ctr := spec (fun i : Iss => [.sl 1 (mapA .str i.b.boxes), .clo 75 [.ptr 2 0]]) IssH IssP (fun i => .bl (i3 i)) IssH
theorem conI_body (P : Program) (hi : FnOk P 85 IdxIC) : BodyOk P x38 ConIC := by
 intro args H K hc
 obtain ⟨i, rfl, rfl, hp, hK⟩ := hc
 unfold i3 at hK
 dsimp only at hK
 rw [← idxP_any] at hK
 obtain ⟨e, he⟩ : ∃ e, e = idxP (iBox i) i.b.boxes := ⟨_, rfl⟩
 rw [← he] at hK
 obtain ⟨⟨carrier, L⟩, b, holder⟩ := i
 obtain ⟨nq1, cq1, sq1, frm1, to1, bq1, pq1, iq1, lq1⟩ := b
 refine ⟨nb9, ?_⟩
 dsimp only at hK ⊢
 cbv
 (refine cs9 hi (⟨⟨carrier, L⟩, ⟨nq1, cq1, sq1, frm1, to1, bq1, pq1, iq1, lq1⟩, holder⟩ : Iss) [0, 1, 2, 3, 4] hp ?_; try dsimp only)
 rw [← he]
 cbv; repeat' ((first | refine .mk (fun h => ?_) fun h => ?_ | fail) <;> cbv)
 ·(refine .r9 (Gh.refl _) ?_; cbv; exact .inl (.f9 (K_bl hK (by rw [decide_eq_true h]))))
 ·(refine .r9 (Gh.refl _) ?_; cbv; exact .inl (.f9 (K_bl hK (by rw [decide_eq_false (by omega)]))))
theorem iss3_body (P : Program) (hc : FnOk P 38 ConIC) : BodyOk P x74 (IssC [.ptr 3 0, .ptr 2 0] i3) := by
 intro args H K hk
 obtain ⟨i, rfl, rfl, hp, hK⟩ := hk
 obtain ⟨q, hq⟩ : ∃ q, q = i3 i := ⟨_, rfl⟩
 dsimp only at hK
 rw [← hq] at hK
 obtain ⟨⟨carrier, L⟩, b, holder⟩ := i
 obtain ⟨nq1, cq1, sq1, frm1, to1, bq1, pq1, iq1, lq1⟩ := b
 refine ⟨nb9, ?_⟩
 dsimp only at hK ⊢
 cbv
 (refine cs9 hc (⟨⟨carrier, L⟩, ⟨nq1, cq1, sq1, frm1, to1, bq1, pq1, iq1, lq1⟩, holder⟩ : Iss) [0, 1, 2, 3, 4] hp ?_; try dsimp only)
 rw [← hq]
 cbv
 (refine .r9 (Gh.refl _) ?_; cbv; exact .inl (.f9 hK))
def issE (i : Iss) : Int := if i1 i then 1 else if i2 i then 5 else if i3 i then 9 else if i4 i then 7 else 0
def IssL : List AV := [.i 1, .clo 71 [.ptr 2 0, .ptr 3 0, .ptr 4 0], .i 5, .clo 73 [.ptr 2 0, .ptr 3 0], .i 9, .clo 74 [.ptr 3 0, .ptr 2 0], .i 7, .clo 76 [.ptr 2 0]]
def FirIH (i : Iss) : List Ent := IssH i ++ [.hrow 136 2 4 IssL]
def FirIC : Ctr := spec (fun _ : Iss => [.hd 5]) FirIH IssP (fun i => .i (issE i)) FirIH
structure IssF (P : Program) : Prop where
 m1 : MayCall P 71
 m2 : MayCall P 73
 m3 : MayCall P 74
 m4 : MayCall P 76
 f1 : FnOk P 71 (IssC [.ptr 2 0, .ptr 3 0, .ptr 4 0] i1)
 f2 : FnOk P 73 (IssC [.ptr 2 0, .ptr 3 0] i2)
 f3 : FnOk P 74 (IssC [.ptr 3 0, .ptr 2 0] i3)
 f4 : FnOk P 76 (IssC [.ptr 2 0] i4)
theorem firstI_body (P : Program) (F : IssF P) : BodyOk P x70 FirIC := by
 intro args H K hc
 obtain ⟨i, rfl, rfl, hp, hK⟩ := hc
 dsimp only at hK
 have he : issE i = if i1 i then 1 else if i2 i then 5 else if i3 i then 9 else if i4 i then 7 else 0 := rfl
 obtain ⟨e, hee⟩ : ∃ e, e = issE i := ⟨_, rfl⟩
 rw [← hee] at hK he
 obtain ⟨q1, hq1⟩ : ∃ q, q = i1 i := ⟨_, rfl⟩
 obtain ⟨q2, hq2⟩ : ∃ q, q = i2 i := ⟨_, rfl⟩
 obtain ⟨q3, hq3⟩ : ∃ q, q = i3 i := ⟨_, rfl⟩
 obtain ⟨q4, hq4⟩ : ∃ q, q = i4 i := ⟨_, rfl⟩
 rw [← hq1, ← hq2, ← hq3, ← hq4] at he
 obtain ⟨⟨carrier, L⟩, b, holder⟩ := i
 obtain ⟨nq1, cq1, sq1, frm1, to1, bq1, pq1, iq1, lq1⟩ := b
 refine ⟨nb9, ?_⟩
 dsimp only at hK ⊢
 cbv
 refine xloopV [] (fun p : { k : Nat // k ≤ 4 ∧ (1 ≤ k → q1 = false) ∧ (2 ≤ k → q2 = false) ∧ (3 ≤ k → q3 = false) ∧ (4 ≤ k → q4 = false) } => [(7, .i (nI p.1))]) (fun _ => FirIH ⟨⟨carrier, L⟩, ⟨nq1, cq1, sq1, frm1, to1, bq1, pq1, iq1, lq1⟩, holder⟩) (fun p => lft 4 p.1) ⟨0, by decide, fun h => absurd h (by decide), fun h => absurd h (by decide), fun h => absurd h (by decide), fun h => absurd h (by decide)⟩ ?_
 rintro ⟨k, hk, g1, g2, g3, g4⟩
 dsimp only at hk g1 g2 g3 g4 ⊢
 have hk4 : k = 0 ∨ k = 1 ∨ k = 2 ∨ k = 3 ∨ k = 4 := by omega
 rcases hk4 with rfl | rfl | rfl | rfl | rfl
 ·cbv; repeat' ((first | refine .y fun h => ?_ | refine .o ?_ | refine And.intro ?_ ?_ | fail) <;> cbv)
  ·exact F.m1
  ·have e0 : True := trivial
   (refine cs9 F.f1 (⟨⟨carrier, L⟩, ⟨nq1, cq1, sq1, frm1, to1, bq1, pq1, iq1, lq1⟩, holder⟩ : Iss) [0, 1, 2, 3, 4] hp ?_; try dsimp only)
   rw [← hq1]
   cases q1 with
   | true =>
    cbv
    (refine .r9 (Gh.refl _) ?_; cbv; exact .inl (.f9 (K_i hK (by rw [he]; rfl))))
   | false =>
    cbv; repeat' ((first | refine .k fun z hz => ?_ | fail) <;> cbv)
    obtain rfl : z = nI 1 := om9
    exact roundV ⟨1, by decide, fun _ => rfl, fun h => absurd h (by decide), fun h => absurd h (by decide), fun h => absurd h (by decide)⟩ (lft_lt (by decide))
 ·cbv; repeat' ((first | refine .y fun h => ?_ | refine .o ?_ | refine And.intro ?_ ?_ | fail) <;> cbv)
  ·exact F.m2
  ·have e0 : True := trivial
   have e1 := g1 (by decide)
   (refine cs9 F.f2 (⟨⟨carrier, L⟩, ⟨nq1, cq1, sq1, frm1, to1, bq1, pq1, iq1, lq1⟩, holder⟩ : Iss) [0, 1, 2, 3, 4] hp ?_; try dsimp only)
   rw [← hq2]
   cases q2 with
   | true =>
    cbv
    (refine .r9 (Gh.refl _) ?_; cbv; exact .inl (.f9 (K_i hK (by rw [he, e1]; rfl))))
   | false =>
    cbv; repeat' ((first | refine .k fun z hz => ?_ | fail) <;> cbv)
    obtain rfl : z = nI 2 := om9
    exact roundV ⟨2, by decide, fun _ => g1 (by decide), fun _ => rfl, fun h => absurd h (by decide), fun h => absurd h (by decide)⟩ (lft_lt (by decide))
 ·cbv; repeat' ((first | refine .y fun h => ?_ | refine .o ?_ | refine And.intro ?_ ?_ | fail) <;> cbv)
  ·exact F.m3
  ·have e0 : True := trivial
   have e1 := g1 (by decide)
   have e2 := g2 (by decide)
   (refine cs9 F.f3 (⟨⟨carrier, L⟩, ⟨nq1, cq1, sq1, frm1, to1, bq1, pq1, iq1, lq1⟩, holder⟩ : Iss) [0, 1, 2, 3, 4] hp ?_; try dsimp only)
   rw [← hq3]
   cases q3 with
   | true =>
    cbv
    (refine .r9 (Gh.refl _) ?_; cbv; exact .inl (.f9 (K_i hK (by rw [he, e1, e2]; rfl))))
   | false =>
    cbv; repeat' ((first | refine .k fun z hz => ?_ | fail) <;> cbv)
    obtain rfl : z = nI 3 := om9
    exact roundV ⟨3, by decide, fun _ => g1 (by decide), fun _ => g2 (by decide), fun _ => rfl, fun h => absurd h (by decide)⟩ (lft_lt (by decide))
 ·cbv; repeat' ((first | refine .y fun h => ?_ | refine .o ?_ | refine And.intro ?_ ?_ | fail) <;> cbv)
  ·exact F.m4
  ·have e0 : True := trivial
   have e1 := g1 (by decide)
   have e2 := g2 (by decide)
   have e3 := g3 (by decide)
   (refine cs9 F.f4 (⟨⟨carrier, L⟩, ⟨nq1, cq1, sq1, frm1, to1, bq1, pq1, iq1, lq1⟩, holder⟩ : Iss) [0, 1, 2, 3, 4] hp ?_; try dsimp only)
   rw [← hq4]
   cases q4 with
   | true =>
    cbv
    (refine .r9 (Gh.refl _) ?_; cbv; exact .inl (.f9 (K_i hK (by rw [he, e1, e2, e3]; rfl))))
   | false =>
    cbv; repeat' ((first | refine .k fun z hz => ?_ | fail) <;> cbv)
    obtain rfl : z = nI 4 := om9
    exact roundV ⟨4, by decide, fun _ => g1 (by decide), fun _ => g2 (by decide), fun _ => g3 (by decide), fun _ => rfl⟩ (lft_lt (by decide))
 ·have e1 := g1 (by decide)
  have e2 := g2 (by decide)
  have e3 := g3 (by decide)
  have e4 := g4 (by decide)
  cbv; repeat' ((first | refine .n fun h => ?_ | fail) <;> cbv)
  (refine .r9 (Gh.refl _) ?_; cbv; exact .inl (.f9 (K_i hK (by rw [he, e1, e2, e3, e4]; rfl))))
theorem finG {M : Nat} {res : List XRes} {K : AV → List Ent → Prop} {st st1 : St} (hg : Gh M st st1) (h : FinK M res K st1) : FinK M res K st := by
 obtain ⟨st', h1, h2⟩ := h
 exact ⟨⟨st', hg.trans h1, h2⟩⟩
theorem pupK_new2 {α : Type} {f : α → PEl} {L : List α} (key : α → ByteArray) (hf : ∀ a, (f a).1 = .str (key a)) {s : ByteArray} {outs : List (Nat × AV)} {v : AV} {K : List PEl → List (Nat × AV) → Prop} (ha : atS key L s = none) (h : ∀ es n, es = mapA f L ++ [(.str s, .any, [])] → n = L.length → K es ((n, v) :: outs)) : PupK (.str s) (mapA f L) outs v K :=
 pupK_new key hf ha (h _ _ rfl rfl)
theorem Gh.backN2 {α : Type} {M : Nat} {st : St} (k : Nat) (sel : List Nat) (f : α → PEl) {L L' : List α} (y : α) {es : List PEl} {n : Nat} {t : TypeId} {x : AV} (hes : es = mapA f L ++ [((f y).1, .any, [])]) (hn : n = L.length) (hL' : L' = L ++ [y]) (hk : st.H[k]? = some (.pool t es [(n, x)]) := by rfl)
  (hx : x = (f y).2.1.ren sel 0 := by rfl) (hH : sel.map (fun q => st.H[q]?) = (renH sel 0 (f y).2.2).map some := by rfl) (hnd : sel.Nodup := by decide) (hsel : sel.all (fun q => Nat.ble M q && q != k) = true := by decide) (hb : (f y).2.1.bnd sel.length = true := by rfl) (hbH : bndH sel.length (f y).2.2 = true := by rfl) (hpl : (f y).2.2.all plainE = true := by rfl) :
  Gh M st ⟨killTs st.T sel, dieH (killHs (st.H.set k (.pool t (mapA f L') [])) sel) sel⟩ := by
 subst hes hn hL'
 exact Gh.backN k sel f y hk rfl hx hH hnd hsel hb hbH hpl
def newM (b : Bl) (holder : ByteArray) : Br := ⟨b, 0, ⟨0, holder, []⟩, ⟨0, holder, []⟩, ⟨0, holder, []⟩⟩
def issM (i : Iss) : Rg := if issE i = 0 then ⟨i.R.carrier, i.R.bills ++ [newM i.b i.holder]⟩ else i.R
def IssueC : Ctr := spec (fun i : Iss => [.ptr 0 0, BlA i.b, .str i.holder]) (fun i => RegH i.R) IssP (fun i => .i (issE i)) fun i => RegH (issM i)
theorem issue_body (P : Program) (hf : FnOk P 70 FirIC) (hcp : FnOk P 35 CopyBC) : BodyOk P x32 IssueC := by
 intro args H K hc
 obtain ⟨i, rfl, rfl, hp, hK⟩ := hc
 dsimp only at hK
 have hok := hp.ok
 obtain ⟨e, he⟩ : ∃ e, e = issE i := ⟨_, rfl⟩
 obtain ⟨R', hR'⟩ : ∃ R', R' = issM i := ⟨_, rfl⟩
 rw [← he, ← hR'] at hK
 unfold issM at hR'
 rw [← he] at hR'
 have hi2 : e = 0 → i2 i = false := fun h => by
  rw [h] at he
  unfold issE at he
  cases h2 : i2 i with
  | false => rfl
  | true =>
   rw [h2] at he
   cases h1 : i1 i with
   | false => rw [h1] at he; simp at he
   | true => rw [h1] at he; simp at he
 obtain ⟨⟨carrier, L⟩, b, holder⟩ := i
 dsimp only at hR' hok
 obtain ⟨nq1, cq1, sq1, frm1, to1, bq1, pq1, iq1, lq1⟩ := b
 refine ⟨nb9, ?_⟩
 dsimp only at hK ⊢
 cbv
 (refine cs9 hf (⟨⟨carrier, L⟩, ⟨nq1, cq1, sq1, frm1, to1, bq1, pq1, iq1, lq1⟩, holder⟩ : Iss) [0, 1, 2, 3, 4, 5] hp ?_; try dsimp only)
 rw [← he]
 cbv; repeat' ((first | refine .mk (fun h => ?_) fun h => ?_ | fail) <;> cbv)
 ·rw [if_pos h] at hR'
  rw [h] at hK
  have hn2 := hi2 h
  unfold i2 at hn2
  dsimp only at hn2
  (refine c09 hcp ⟨nq1, cq1, sq1, frm1, to1, bq1, pq1, iq1, lq1⟩ hok ?_; try dsimp only)
  cbv
  refine xloopV [] (fun p : { k : Nat // k ≤ 3 } => [(27, .i (nI p.1))]) (fun p => [.blk 79 [.str carrier, .ph 1], .pool 77 (mapA PelA L) [], .blk 25 [.ptr 0 0], .blk 33 [.str nq1, .str cq1, .str sq1, .str frm1, .str to1, .sl 1 (mapA .str bq1), .sl 1 (mapA .str pq1), .i iq1, .bl lq1], .blk 9 [.str holder], .hrow 136 2 4 IssL, .blk 86 (pick4 p.1 [.str nq1, .str cq1, .str sq1, .str frm1, .str to1, .sl 1 (mapA .str bq1), .sl 1 (mapA .str pq1), .i iq1, .bl lq1, .i 0, .i 0, .str ⟨⟨[]⟩⟩, .v (.slice none 0 0), .i 0, .str ⟨⟨[]⟩⟩, .v (.slice none 0 0), .i 0, .str ⟨⟨[]⟩⟩, .v (.slice none 0 0)] [.str nq1, .str cq1, .str sq1, .str frm1, .str to1, .sl 1 (mapA .str bq1), .sl 1 (mapA .str pq1), .i iq1, .bl lq1, .i 0, .i 0, .str holder, .v (.slice none 0 0), .i 0, .str ⟨⟨[]⟩⟩, .v (.slice none 0 0), .i 0, .str ⟨⟨[]⟩⟩, .v (.slice none 0 0)] [.str nq1, .str cq1, .str sq1, .str frm1, .str to1, .sl 1 (mapA .str bq1), .sl 1 (mapA .str pq1), .i iq1, .bl lq1, .i 0, .i 0, .str holder, .v (.slice none 0 0), .i 0, .str holder, .v (.slice none 0 0), .i 0, .str ⟨⟨[]⟩⟩, .v (.slice none 0 0)] [.str nq1, .str cq1, .str sq1, .str frm1, .str to1, .sl 1 (mapA .str bq1), .sl 1 (mapA .str pq1), .i iq1, .bl lq1, .i 0, .i 0, .str holder, .v (.slice none 0 0), .i 0, .str holder, .v (.slice none 0 0), .i 0, .str holder, .v (.slice none 0 0)])]) (fun p => lft 3 p.1) ⟨0, by decide⟩ ?_
  rintro ⟨k, hk⟩
  dsimp only at hk ⊢
  have hk4 : k = 0 ∨ k = 1 ∨ k = 2 ∨ k = 3 := by omega
  rcases hk4 with rfl | rfl | rfl | rfl
  ·cbv; repeat' ((first | refine .n fun h => ?_ | refine .y fun h => ?_ | refine .k fun z hz => ?_ | refine .o ?_ | fail) <;> cbv)
   obtain rfl : z = nI 1 := om9
   exact roundV ⟨1, by decide⟩ (lft_lt (by decide))
  ·cbv; repeat' ((first | refine .n fun h => ?_ | refine .y fun h => ?_ | refine .k fun z hz => ?_ | refine .o ?_ | fail) <;> cbv)
   obtain rfl : z = nI 2 := om9
   exact roundV ⟨2, by decide⟩ (lft_lt (by decide))
  ·cbv; repeat' ((first | refine .y fun h => ?_ | refine .k fun z hz => ?_ | refine .o ?_ | fail) <;> cbv)
   obtain rfl : z = nI 3 := om9
   exact roundV ⟨3, by decide⟩ (lft_lt (by decide))
  ·cbv; repeat' ((first | refine .n fun h => ?_ | fail) <;> cbv)
   have hat : atS (fun b : Br => b.b.number) L nq1 = none := by
    cases hx : atS (fun b : Br => b.b.number) L nq1 with
    | none => rfl
    | some j =>
     unfold bAt at hn2
     rw [hx] at hn2
     cases hn2
   refine pupK_new2 (fun b : Br => b.b.number) (fun _ => rfl) hat (fun es n hes hn => ?_)
   cbv
   obtain ⟨L', hL'⟩ : ∃ L', L' = L ++ [(⟨⟨nq1, cq1, sq1, frm1, to1, bq1, pq1, iq1, lq1⟩, 0, ⟨0, holder, []⟩, ⟨0, holder, []⟩, ⟨0, holder, []⟩⟩ : Br)] := ⟨_, rfl⟩
   obtain rfl : R' = ⟨carrier, L'⟩ := by rw [hR', hL']; rfl
   refine finG (Gh.adoptC 6 12 131 4 rfl rfl) ?_
   cbv
   refine finG (Gh.adoptC 6 15 131 4 rfl rfl) ?_
   cbv
   refine finG (Gh.adoptC 6 18 131 4 rfl rfl) ?_
   cbv
   refine finG (Gh.publish 7 rfl) ?_
   cbv
   refine finG (Gh.publish 8 rfl) ?_
   cbv
   refine finG (Gh.publish 9 rfl) ?_
   cbv
   refine finG (Gh.backN2 1 [6, 7, 8, 9] PelA ⟨⟨nq1, cq1, sq1, frm1, to1, bq1, pq1, iq1, lq1⟩, 0, ⟨0, holder, []⟩, ⟨0, holder, []⟩, ⟨0, holder, []⟩⟩ hes hn hL') ?_
   cbv
   (refine .r9 (Gh.refl _) ?_; cbv; exact .inl (.f9 hK))
 ·rw [if_neg h] at hR'
  subst hR'
  (refine .r9 (Gh.refl _) ?_; cbv; exact .inl (.f9 hK))
set_option maxHeartbeats 4000000
def specN {ι κ : Type} (a : ι → List AV) (h : ι → List Ent) (p : ι → Prop) (q : ι → κ → Prop) (r : ι → κ → AV) (h' : ι → κ → List Ent) : Ctr := fun args H K => ∃ i, args = a i ∧ H = h i ∧ p i ∧ ∀ k, q i k → K (r i k) (h' i k)
theorem callG_specN {P : Program} {f : Nat} {ι κ : Type} {a : ι → List AV} {h : ι → List Ent} {p : ι → Prop} {q : ι → κ → Prop} {r : ι → κ → AV} {h' : ι → κ → List Ent} (hf : FnOk P f (specN a h p q r h')) (i : ι) (sel : List Nat) {keep : List Nat} {args : List AV} {st : St} {K : AV → St → Prop}
  (hp : p i) (ha : args = AV.renL sel st.H.length (a i)) (hlen : sel.length = (h i).length) (hnd : sel.Nodup) (hlt : (sel.all fun k => Nat.blt k st.H.length) = true) (hH : sel.map (fun k => st.H[k]?) = (renH sel st.H.length (h i)).map some)
  (hb : AV.bndL (h i).length (a i) = true) (hbH : bndH (h i).length (h i) = true) (hkeep : (keep.all fun k => !sel.contains k && Nat.blt k st.H.length) = true)
  (hK : ∀ k, q i k → K ((r i k).ren sel st.H.length) ⟨killTs st.T (rowIds sel (h i)), putE (killHs st.H (rowIds sel (h i))) sel (renH sel st.H.length (h' i k))⟩) : CallG P keep f args st K :=
 callG_of hf sel ha hlen hnd (fun k hk => by simpa [Nat.blt_eq] using List.all_eq_true.1 hlt k hk) hH hb hbH (fun k hk => by
  have := List.all_eq_true.1 hkeep k hk
  simp only [Bool.and_eq_true, Bool.not_eq_true', Nat.blt_eq] at this
  exact ⟨fun h => by rw [List.contains_eq_mem] at this; simp [h] at this, this.2⟩) ⟨i, rfl, rfl, hp, hK⟩
def NodupN (L : List Br) : Prop := (L.map fun b => b.b.number).Nodup
def seenB (L : List Br) (seen : List Nat) : List Br := seen.filterMap fun i => L[i]?
theorem seenB_snoc {L : List Br} {seen : List Nat} {i : Nat} {y : Br} (hy : L[i]? = some y) : seenB L (seen ++ [i]) = seenB L seen ++ [y] := by
 unfold seenB
 rw [List.filterMap_append, List.filterMap_cons, hy]
 rfl
theorem seenB_all {L : List Br} {seen : List Nat} (h : SeenOk L seen) (hall : ∀ i, i < L.length → i ∈ seen) : (seenB L seen).Perm L := by
 have hp : seen.Perm (List.range L.length) := (List.perm_ext_iff_of_nodup h.nd List.nodup_range).2 fun i => ⟨fun hi => List.mem_range.2 (h.lt i hi), fun hi => hall i (List.mem_range.1 hi)⟩
 have e := range_bind (some : Br → Option Br) L
 have e2 : (fun i : Nat => L[i]?.bind (some : Br → Option Br)) = fun i => L[i]? := by funext i; cases L[i]? <;> rfl
 rw [e2, List.filterMap_some] at e
 have h2 := hp.filterMap fun i => L[i]?
 rw [e] at h2
 exact h2
theorem nodup_inj2 {α : Type} {l : List α} (h : l.Nodup) {i j : Nat} {hi : i < l.length} {hj : j < l.length} (e : l[i] = l[j]) : i = j := by
 rcases Nat.lt_trichotomy i j with h1 | h1 | h1
 ·exact absurd e (List.pairwise_iff_getElem.1 h i j hi hj h1)
 ·exact h1
 ·exact absurd e.symm (List.pairwise_iff_getElem.1 h j i hj hi h1)
theorem seenB_new {L : List Br} {seen : List Nat} {i : Nat} {y : Br} (hn : NodupN L) (hy : L[i]? = some y) (hni : i ∉ seen) : atS (fun b : Br => b.b.number) (seenB L seen) y.b.number = none := by
 cases hx : atS (fun b : Br => b.b.number) (seenB L seen) y.b.number with
 | none => rfl
 | some j =>
  obtain ⟨z, hz, hk⟩ := atS_some hx
  have hm := List.mem_of_getElem? hz
  unfold seenB at hm
  obtain ⟨n, hns, hnz⟩ := List.mem_filterMap.1 hm
  exfalso
  unfold NodupN at hn
  obtain ⟨hi, rfl⟩ := List.getElem?_eq_some_iff.1 hy
  obtain ⟨hj, rfl⟩ := List.getElem?_eq_some_iff.1 hnz
  have e := nodup_inj2 (l := L.map fun b => b.b.number) (i := n) (j := i) (hi := by rw [List.length_map]; exact hj) (hj := by rw [List.length_map]; exact hi) hn (by rw [List.getElem_map, List.getElem_map]; exact hk)
  subst e
  exact hni hns
def RegH2 (R : Rg) (L' : List Br) : List Ent := RegH R ++ [.blk 79 [.str R.carrier, .ph 3], .pool 77 (mapA PelA L') []]
def CopyC : Ctr := specN (fun _ : Rg => [.ptr 0 0]) RegH (fun R => R.bills.length ≤ 256 ∧ (∀ b ∈ R.bills, inB b) ∧ NodupN R.bills) (fun R L' => L'.Perm R.bills) (fun _ _ => .ptr 2 0) RegH2
theorem copy_body (P : Program) (hnew : FnOk P 31 NewC) (hcp : FnOk P 35 CopyBC) (hcl : FnOk P 102 (CloneR 131 4 48)) : BodyOk P x88 CopyC := by
 intro args H K hc; obtain ⟨⟨carrier, L⟩, rfl, rfl, hp, hK⟩ := hc; refine ⟨nb9, ?_⟩; dsimp only at hp hK ⊢
 obtain ⟨hfew, hall, hnd⟩ := hp
 cbv
 (refine cn9 hnew carrier trivial ?_; try dsimp only)
 cbv; repeat' ((first | refine .k fun z hz => ?_ | fail) <;> cbv)
 obtain ⟨n, hn⟩ : ∃ n : Nat, n = L.length := ⟨_, rfl⟩
 obtain rfl : z = nI n := om9
 refine xloopV [] (fun q : { q : List Nat × Nat // SeenOk L q.1 ∧ q.2 = q.1.length } => []) (fun q => [.blk 79 [.str carrier, .ph 1], .pool 77 (mapA PelA L) [], .blk 79 [.str carrier, .ph 3], .pool 77 (mapA PelA (seenB L q.1.1)) [], .iter (.ph 1) n q.1.1]) (fun q => lft 257 q.1.2) ⟨([], 0), .nil, rfl⟩ ?_
 rintro ⟨⟨seen, k⟩, hse, hk⟩
 dsimp only at hse hk ⊢
 have hsl := hse.len
 obtain ⟨L1, hL1⟩ : ∃ l, l = seenB L seen := ⟨_, rfl⟩
 rw [← hL1]
 cbv
 refine nxtK_in hn (fun i y hy hni => ?_) (fun hall => ?_) <;> try dsimp only at *
 ·have hin := hall y (List.mem_of_getElem? hy)
  have hse2 := hse.snoc hy hni
  have hnew1 := seenB_new hnd hy hni
  have hsn := seenB_snoc (seen := seen) hy
  obtain ⟨s2, hs2⟩ : ∃ s, s = seen ++ [i] := ⟨_, rfl⟩
  rw [← hs2] at hse2 hsn ⊢
  rw [← hL1] at hnew1 hsn
  have hlt : k < 257 := by omega
  have hsk : s2.length = k + 1 := by rw [hs2, hk]; simp
  unfold inB okB chOk at hin
  obtain ⟨⟨nq1, cq1, sq1, frm1, to1, bq1, pq1, iq1, lq1⟩, st1, ⟨sa1, ha1, ca1⟩, ⟨sb1, hb1, cb1⟩, ⟨sc1, hc1, cc1⟩⟩ := y
  dsimp only at hin hnew1 hsn
  obtain ⟨⟨hl0, hl1, hl2⟩, hob⟩ := hin
  cbv
  refine entK_in2 hs2 hn hy ?_
  cbv
  (refine c09 hcp ⟨nq1, cq1, sq1, frm1, to1, bq1, pq1, iq1, lq1⟩ hob ?_; try dsimp only)
  cbv
  refine xloopG (Gh.viewE 9 rfl) ?_
  cbv
  refine xloopV [] (fun p : { k : Nat // k ≤ 3 } => [(38, .i (nI p.1))]) (fun p => [.blk 79 [.str carrier, .ph 1], .pool 77 (mapA PelA L) [(i, .ptr 5 0)], .blk 79 [.str carrier, .ph 3], .pool 77 (mapA PelA L1) [], .iter (.ph 1) n s2] ++ renH [] 5 (EntC ⟨⟨nq1, cq1, sq1, frm1, to1, bq1, pq1, iq1, lq1⟩, st1, ⟨sa1, ha1, ca1⟩, ⟨sb1, hb1, cb1⟩, ⟨sc1, hc1, cc1⟩⟩) ++ (pick4 p.1 [.blk 86 [.str nq1, .str cq1, .str sq1, .str frm1, .str to1, .sl 1 (mapA .str bq1), .sl 1 (mapA .str pq1), .i iq1, .bl lq1, .i st1, .i sa1, .str ha1, .sl 4 (mapA EdA ca1), .i sb1, .str hb1, .sl 4 (mapA EdA cb1), .i sc1, .str hc1, .sl 4 (mapA EdA cc1)]] [.blk 86 [.str nq1, .str cq1, .str sq1, .str frm1, .str to1, .sl 1 (mapA .str bq1), .sl 1 (mapA .str pq1), .i iq1, .bl lq1, .i st1, .i sa1, .str ha1, .hd 10, .i sb1, .str hb1, .sl 4 (mapA EdA cb1), .i sc1, .str hc1, .sl 4 (mapA EdA cc1)], .row 131 4 (mapA EdA ca1)] [.blk 86 [.str nq1, .str cq1, .str sq1, .str frm1, .str to1, .sl 1 (mapA .str bq1), .sl 1 (mapA .str pq1), .i iq1, .bl lq1, .i st1, .i sa1, .str ha1, .hd 10, .i sb1, .str hb1, .hd 11, .i sc1, .str hc1, .sl 4 (mapA EdA cc1)], .row 131 4 (mapA EdA ca1), .row 131 4 (mapA EdA cb1)] [.blk 86 [.str nq1, .str cq1, .str sq1, .str frm1, .str to1, .sl 1 (mapA .str bq1), .sl 1 (mapA .str pq1), .i iq1, .bl lq1, .i st1, .i sa1, .str ha1, .hd 10, .i sb1, .str hb1, .hd 11, .i sc1, .str hc1, .hd 12], .row 131 4 (mapA EdA ca1), .row 131 4 (mapA EdA cb1), .row 131 4 (mapA EdA cc1)])) (fun p => lft 3 p.1) ⟨0, by decide⟩ ?_
  rintro ⟨j, hj⟩
  dsimp only at hj ⊢
  have hk4 : j = 0 ∨ j = 1 ∨ j = 2 ∨ j = 3 := by omega
  rcases hk4 with rfl | rfl | rfl | rfl
  ·cbv; repeat' ((first | refine .n fun h => ?_ | refine .y fun h => ?_ | refine .o ?_ | fail) <;> cbv)
   (refine cn9 hcl _ ⟨by rw [mapA_len]; unfold maxLen; omega, by rw [mapA_len]; omega⟩ ?_; try dsimp only)
   cbv; repeat' ((first | refine .n fun h => ?_ | refine .k fun z hz => ?_ | refine .o ?_ | fail) <;> cbv)
   obtain rfl : z = nI 1 := om9
   exact roundV ⟨1, by decide⟩ (lft_lt (by decide))
  ·cbv; repeat' ((first | refine .n fun h => ?_ | refine .y fun h => ?_ | refine .o ?_ | fail) <;> cbv)
   (refine cn9 hcl _ ⟨by rw [mapA_len]; unfold maxLen; omega, by rw [mapA_len]; omega⟩ ?_; try dsimp only)
   cbv; repeat' ((first | refine .n fun h => ?_ | refine .y fun h => ?_ | refine .k fun z hz => ?_ | refine .o ?_ | fail) <;> cbv)
   obtain rfl : z = nI 2 := om9
   exact roundV ⟨2, by decide⟩ (lft_lt (by decide))
  ·cbv; repeat' ((first | refine .y fun h => ?_ | refine .o ?_ | fail) <;> cbv)
   (refine cn9 hcl _ ⟨by rw [mapA_len]; unfold maxLen; omega, by rw [mapA_len]; omega⟩ ?_; try dsimp only)
   cbv; repeat' ((first | refine .y fun h => ?_ | refine .k fun z hz => ?_ | refine .o ?_ | fail) <;> cbv)
   obtain rfl : z = nI 3 := om9
   exact roundV ⟨3, by decide⟩ (lft_lt (by decide))
  ·cbv; repeat' ((first | refine .n fun h => ?_ | fail) <;> cbv)
   refine pupK_new2 (fun b : Br => b.b.number) (fun _ => rfl) hnew1 (fun es n2 hes hn2 => ?_)
   cbv
   refine roundG (Gh.publish 10 rfl) ?_
   cbv
   refine roundG (Gh.publish 11 rfl) ?_
   cbv
   refine roundG (Gh.publish 12 rfl) ?_
   cbv
   refine roundG (Gh.back0 1 [5, 6, 7, 8] PelA rfl hy) ?_
   cbv
   refine roundG (Gh.backN2 3 [9, 10, 11, 12] PelA ⟨⟨nq1, cq1, sq1, frm1, to1, bq1, pq1, iq1, lq1⟩, st1, ⟨sa1, ha1, ca1⟩, ⟨sb1, hb1, cb1⟩, ⟨sc1, hc1, cc1⟩⟩ hes hn2 hsn) ?_
   cbv
   exact roundV ⟨(s2, k + 1), hse2, hsk.symm⟩ (lft_lt hlt)
 ·have hperm : L1.Perm L := by rw [hL1]; exact seenB_all hse ‹∀ i, i < L.length → i ∈ seen›
  cbv
  (refine .r9 (Gh.refl _) ?_; cbv; exact .inl (.f9 (hK L1 hperm)))
set_option maxHeartbeats 2000000
def RbL : Br → List AV
 | ⟨⟨number, carrier, shipper, frm, to, boxes, parents, issued, clean⟩, st, ⟨sa, ha, ca⟩, ⟨sb, hb, cb⟩, ⟨sc, hc, cc⟩⟩ =>
  [.str number, .str carrier, .str shipper, .str frm, .str to, .sl 1 (mapA .str boxes), .sl 1 (mapA .str parents), .i issued, .bl clean, .i st, .sl 3 [.agg [.i sa, .str ha, .sl 4 (mapA EdA ca)], .agg [.i sb, .str hb, .sl 4 (mapA EdA cb)], .agg [.i sc, .str hc, .sl 4 (mapA EdA cc)]]]
def RbA (b : Br) : AV := .agg (RbL b)
def RgA : Rg → AV
 | ⟨c, l⟩ => .agg [.str c, .sl 11 (mapA RbA l)]
structure At where
 kind : Int
 index : Int
 day : Int
 bill : ByteArray
 by_ : ByteArray
 to : ByteArray
 b : Bl
def AtL : At → List AV
 | ⟨kind, index, day, bill, by_, to, ⟨number, carrier, shipper, frm, to2, boxes, parents, issued, clean⟩⟩ => [.i kind, .i index, .i day, .str bill, .str by_, .str to, .str number, .str carrier, .str shipper, .str frm, .str to2, .sl 1 (mapA .str boxes), .sl 1 (mapA .str parents), .i issued, .bl clean]
def AtA (a : At) : AV := .agg (AtL a)
def idxG {α : Type} (p : α → Bool) (l : List α) : Int := match l.findIdx? p with
 | some i => Int.ofNat i
 | none => -1
def NoneG {α : Type} (p : α → Bool) (l : List α) (k : Nat) : Prop := ∀ j y, j < k → l[j]? = some y → p y = false
theorem NoneG.zero {α : Type} {p : α → Bool} {l : List α} : NoneG p l 0 := fun j y h => absurd h (Nat.not_lt_zero j)
theorem NoneG.succ {α : Type} {p : α → Bool} {l : List α} {k : Nat} {x : α} (h : NoneG p l k) (hx : l[k]? = some x) (hp : p x = false) : NoneG p l (k + 1) := fun j y hj hy => by
 rcases Nat.lt_or_ge j k with h1 | h1
 ·exact h j y h1 hy
 ·obtain rfl : j = k := by omega
  rw [hx] at hy
  cases hy
  exact hp
theorem idxG_at {α : Type} {p : α → Bool} {l : List α} {k : Nat} {x : α} (h : NoneG p l k) (hx : l[k]? = some x) (hp : p x = true) : idxG p l = Int.ofNat k := by
 obtain ⟨hk, rfl⟩ := List.getElem?_eq_some_iff.1 hx
 have e : l.findIdx? p = some k := List.findIdx?_eq_some_iff_getElem.2 ⟨hk, hp, fun j hj => by rw [h j _ hj (List.getElem?_eq_getElem (by omega))]; decide⟩
 unfold idxG
 rw [e]
theorem idxG_none {α : Type} {p : α → Bool} {l : List α} (h : NoneG p l l.length) : idxG p l = -1 := by
 have e : l.findIdx? p = none := List.findIdx?_eq_none_iff.2 fun x hx => by
  obtain ⟨j, hj, rfl⟩ := List.mem_iff_getElem.1 hx
  exact h j _ hj (List.getElem?_eq_getElem hj)
 unfold idxG
 rw [e]
theorem any_none {α : Type} {p : α → Bool} {l : List α} (h : NoneG p l l.length) : l.any p = false := by
 rw [List.any_eq_false]
 intro x hx
 obtain ⟨j, hj, rfl⟩ := List.mem_iff_getElem.1 hx
 rw [h j _ hj (List.getElem?_eq_getElem hj)]
 decide
theorem any_at {α : Type} {p : α → Bool} {l : List α} {k : Nat} {x : α} (hx : l[k]? = some x) (hp : p x = true) : l.any p = true := List.any_eq_true.2 ⟨x, List.mem_of_getElem? hx, hp⟩
theorem rday_body (P : Program) : BodyOk P x122 DayC := by
 intro args H K hc; obtain ⟨z, rfl, rfl, hp, hK⟩ := hc; refine ⟨nb9, ?_⟩; dsimp only at hp hK ⊢
 cbv; repeat' ((first | refine .mk (fun h => ?_) fun h => ?_ | fail) <;> cbv)
 all_goals exact FinK.mk ⟨_, Gh.refl _, .inl (.v9 (K_bl hK (by (unfold dayB; simp; omega))))⟩
def InC : Ctr := spec (fun i : List ByteArray × ByteArray => [.sl 1 (mapA .str i.1), .str i.2]) (fun _ => []) (fun i => i.1.length ≤ 5000) (fun i => .bl (i.1.any fun x => decide (i.2 = x))) fun _ => []
theorem in_body (P : Program) : BodyOk P x97 InC := by
 intro args H K hc; obtain ⟨⟨l, s⟩, rfl, rfl, hp, hK⟩ := hc; refine ⟨nb9, ?_⟩; dsimp only at hp hK ⊢
 obtain ⟨p, hpp⟩ : ∃ p : ByteArray → Bool, p = fun x => decide (s = x) := ⟨_, rfl⟩
 rw [← hpp] at hK
 have hpx : ∀ x, p x = decide (s = x) := fun x => by rw [hpp]
 clear hpp
 cbv
 refine xloopV [] (fun q : { k : Nat // k ≤ l.length ∧ NoneG p l k } => [(5, .i (nI q.1))]) (fun _ => []) (fun q => lft 5001 q.1) ⟨0, Nat.zero_le _, .zero⟩ ?_
 rintro ⟨k, hk, hn⟩
 dsimp only at hk hn ⊢
 cbv; repeat' ((first | refine .mk (fun h => ?_) fun h => ?_ | refine .k fun z hz => ?_ | fail) <;> cbv)
 ·refine askEl_int om9 om9 fun i x hi hx => ?_
  obtain rfl : k = i := om9
  cbv; repeat' ((first | refine .mk (fun h => ?_) fun h => ?_ | refine .k fun z hz => ?_ | fail) <;> cbv)
  ·exact FinK.mk ⟨_, Gh.refl _, .inl (.v9 (K_bl hK (by (rw [any_at hx ((hpx x).trans (decide_eq_true h.symm))]))))⟩
  ·obtain rfl : z = nI (k + 1) := om9
   exact roundV ⟨k + 1, by exact om9, hn.succ hx ((hpx x).trans (decide_eq_false fun e => h e.symm))⟩ (lft_lt om9)
 ·obtain rfl : k = l.length := om9
  exact FinK.mk ⟨_, Gh.refl _, .inl (.v9 (K_bl hK (by (rw [any_none hn]))))⟩
def NamesC : Ctr := spec (fun l : List ByteArray => [.sl 1 (mapA .str l)]) (fun _ => []) (fun l => l.length ≤ 5000 ∧ ∀ s ∈ l, s.size ≤ maxLen) (fun l => .bl (!(l.any fun s => !nameB s))) fun _ => []
theorem names_body (P : Program) (hnm : FnOk P 91 (StrC (fun s => s.size ≤ maxLen) nameB)) : BodyOk P x142 NamesC := by
 intro args H K hc; obtain ⟨l, rfl, rfl, hp, hK⟩ := hc; refine ⟨nb9, ?_⟩; dsimp only at hp hK ⊢
 obtain ⟨hp, hsz⟩ := hp
 obtain ⟨p, hpp⟩ : ∃ p : ByteArray → Bool, p = fun s => !nameB s := ⟨_, rfl⟩
 rw [← hpp] at hK
 have hpx : ∀ x, p x = !nameB x := fun x => by rw [hpp]
 clear hpp
 cbv
 refine xloopV [] (fun q : { k : Nat // k ≤ l.length ∧ NoneG p l k } => [(3, .i (nI q.1))]) (fun _ => []) (fun q => lft 5001 q.1) ⟨0, Nat.zero_le _, .zero⟩ ?_
 rintro ⟨k, hk, hn⟩
 dsimp only at hk hn ⊢
 cbv; repeat' ((first | refine .mk (fun h => ?_) fun h => ?_ | refine .k fun z hz => ?_ | fail) <;> cbv)
 ·refine askEl_int om9 om9 fun i x hi hx => ?_
  obtain rfl : k = i := om9
  have hx2 := hpx x
  obtain ⟨n, hn1⟩ : ∃ n, n = nameB x := ⟨_, rfl⟩
  rw [← hn1] at hx2
  cbv
  (refine c09 hnm x (hsz x (List.mem_of_getElem? hx)) ?_; try dsimp only)
  rw [← hn1]
  cases n with
  | false =>
   cbv
   exact FinK.mk ⟨_, Gh.refl _, .inl (.v9 (K_bl hK (by (rw [any_at hx hx2]; rfl))))⟩
  | true =>
   cbv; repeat' ((first | refine .k fun z hz => ?_ | fail) <;> cbv)
   obtain rfl : z = nI (k + 1) := om9
   exact roundV ⟨k + 1, by exact om9, hn.succ hx hx2⟩ (lft_lt om9)
 ·obtain rfl : k = l.length := om9
  exact FinK.mk ⟨_, Gh.refl _, .inl (.v9 (K_bl hK (by (rw [any_none hn]; rfl))))⟩
def FindC : Ctr := spec (fun i : Rg × ByteArray => [RgA i.1, .str i.2]) (fun _ => []) (fun i => i.1.bills.length ≤ 5000) (fun i => .i (idxG (fun b : Br => decide (b.b.number = i.2)) i.1.bills)) fun _ => []
theorem find_body (P : Program) : BodyOk P x52 FindC := by
 intro args H K hc; obtain ⟨⟨⟨carrier, L⟩, s⟩, rfl, rfl, hp, hK⟩ := hc; refine ⟨nb9, ?_⟩; dsimp only at hp hK ⊢
 obtain ⟨p, hpp⟩ : ∃ p : Br → Bool, p = fun b => decide (b.b.number = s) := ⟨_, rfl⟩
 rw [← hpp] at hK
 have hpx : ∀ x, p x = decide (x.b.number = s) := fun x => by rw [hpp]
 clear hpp
 cbv
 refine xloopV [] (fun q : { k : Nat // k ≤ L.length ∧ NoneG p L k } => [(5, .i (nI q.1))]) (fun _ => [.blk 28 [.str carrier, .sl 11 (mapA RbA L)]]) (fun q => lft 5001 q.1) ⟨0, Nat.zero_le _, .zero⟩ ?_
 rintro ⟨k, hk, hn⟩
 dsimp only at hk hn ⊢
 cbv; repeat' ((first | refine .mk (fun h => ?_) fun h => ?_ | refine .k fun z hz => ?_ | fail) <;> cbv)
 ·refine askEl_int om9 om9 fun i x hi hx => ?_
  obtain rfl : k = i := om9
  have hx2 := hpx x
  obtain ⟨⟨nq1, cq1, sq1, frm1, to1, bq1, pq1, iq1, lq1⟩, st1, ⟨sa1, ha1, ca1⟩, ⟨sb1, hb1, cb1⟩, ⟨sc1, hc1, cc1⟩⟩ := x
  dsimp only at hx2
  cbv; repeat' ((first | refine .mk (fun h => ?_) fun h => ?_ | refine .k fun z hz => ?_ | fail) <;> cbv)
  ·rw [decide_eq_true h] at hx2
   exact FinK.mk ⟨_, Gh.refl _, .inl (.v9 (K_i hK (by (rw [idxG_at hn hx hx2]))))⟩
  ·rw [decide_eq_false h] at hx2
   obtain rfl : z = nI (k + 1) := om9
   exact roundV ⟨k + 1, by exact om9, hn.succ hx hx2⟩ (lft_lt om9)
 ·obtain rfl : k = L.length := om9
  exact FinK.mk ⟨_, Gh.refl _, .inl (.v9 (K_i hK (by (rw [idxG_none hn]))))⟩
def RBoxC : Ctr := spec (fun i : Rg × ByteArray => [RgA i.1, .str i.2]) (fun _ => []) (fun i => i.1.bills.length ≤ 5000 ∧ ∀ b ∈ i.1.bills, okB b.b) (fun i => .i (idxG (pBox i.2) i.1.bills)) fun _ => []
theorem rbox_body (P : Program) (hin : FnOk P 97 InC) : BodyOk P x57 RBoxC := by
 intro args H K hc; obtain ⟨⟨⟨carrier, L⟩, s⟩, rfl, rfl, hp, hK⟩ := hc; refine ⟨nb9, ?_⟩; dsimp only at hp hK ⊢
 obtain ⟨hp, hob⟩ := hp
 obtain ⟨p, hpp⟩ : ∃ p : Br → Bool, p = pBox s := ⟨_, rfl⟩
 rw [← hpp] at hK
 have hpx : ∀ x, p x = (decide (x.st = 0) && x.b.boxes.any fun y => decide (s = y)) := fun x => by rw [hpp]; rfl
 clear hpp
 cbv
 refine xloopV [] (fun q : { k : Nat // k ≤ L.length ∧ NoneG p L k } => [(5, .i (nI q.1))]) (fun _ => [.blk 28 [.str carrier, .sl 11 (mapA RbA L)]]) (fun q => lft 5001 q.1) ⟨0, Nat.zero_le _, .zero⟩ ?_
 rintro ⟨k, hk, hn⟩
 dsimp only at hk hn ⊢
 cbv; repeat' ((first | refine .mk (fun h => ?_) fun h => ?_ | refine .k fun z hz => ?_ | fail) <;> cbv)
 ·refine askEl_int om9 om9 fun i x hi hx => ?_
  obtain rfl : k = i := om9
  have hx2 := hpx x
  have ho := hob x (List.mem_of_getElem? hx)
  obtain ⟨m, hm⟩ : ∃ m, m = x.b.boxes.any fun y => decide (s = y) := ⟨_, rfl⟩
  rw [← hm] at hx2
  unfold okB at ho
  obtain ⟨⟨nq1, cq1, sq1, frm1, to1, bq1, pq1, iq1, lq1⟩, st1, ⟨sa1, ha1, ca1⟩, ⟨sb1, hb1, cb1⟩, ⟨sc1, hc1, cc1⟩⟩ := x
  dsimp only at hx2 ho hm
  cbv; repeat' ((first | refine .e ?_ | refine .mk (fun h => ?_) fun h => ?_ | refine .k fun z hz => ?_ | fail) <;> cbv)
  ·rw [decide_eq_true h] at hx2
   (refine c09 hin (bq1, s) (by dsimp only; omega) ?_; try dsimp only)
   rw [← hm]
   cases m with
   | true =>
    cbv
    exact FinK.mk ⟨_, Gh.refl _, .inl (.v9 (K_i hK (by (rw [idxG_at hn hx hx2]))))⟩
   | false =>
    cbv; repeat' ((first | refine .k fun z hz => ?_ | fail) <;> cbv)
    obtain rfl : z = nI (k + 1) := om9
    exact roundV ⟨k + 1, by exact om9, hn.succ hx hx2⟩ (lft_lt om9)
  ·rw [decide_eq_false h] at hx2
   obtain rfl : z = nI (k + 1) := om9
   exact roundV ⟨k + 1, by exact om9, hn.succ hx hx2⟩ (lft_lt om9)
 ·obtain rfl : k = L.length := om9
  exact FinK.mk ⟨_, Gh.refl _, .inl (.v9 (K_i hK (by (rw [idxG_none hn]))))⟩
deriving instance DecidableEq for Edm
deriving instance DecidableEq for Bl
theorem take_eq_succ {α : Type} {a b : List α} {k : Nat} {x : α} (h : a.take k = b.take k) (ha : a[k]? = some x) (hb : b[k]? = some x) : a.take (k + 1) = b.take (k + 1) := by rw [take_some ha, take_some hb, h]
theorem take_eq_all {α : Type} {a b : List α} {k : Nat} (h : a.take k = b.take k) (ha : a.length ≤ k) (hb : b.length ≤ k) : a = b := by rwa [List.take_of_length_le ha, List.take_of_length_le hb] at h
theorem get_ne {α : Type} {a b : List α} {k : Nat} {x y : α} (ha : a[k]? = some x) (hb : b[k]? = some y) (hn : ¬ x = y) : ¬ a = b := fun e => by
 subst e
 rw [ha] at hb
 cases hb
 exact hn rfl
def SameC : Ctr := spec (fun i : List ByteArray × List ByteArray => [.sl 1 (mapA .str i.1), .sl 1 (mapA .str i.2)]) (fun _ => []) (fun i => i.1.length ≤ 5000 ∧ i.2.length ≤ 5000) (fun i => .bl (decide (i.1 = i.2))) fun _ => []
theorem same_body (P : Program) : BodyOk P x18 SameC := by
 intro args H K hc; obtain ⟨⟨a, b⟩, rfl, rfl, hp, hK⟩ := hc; refine ⟨nb9, ?_⟩; dsimp only at hp hK ⊢
 obtain ⟨hpa, hpb⟩ := hp
 obtain ⟨q, hq⟩ : ∃ q, q = decide (a = b) := ⟨_, rfl⟩
 rw [← hq] at hK
 cbv; repeat' ((first | refine .mk (fun h => ?_) fun h => ?_ | refine .k fun z hz => ?_ | fail) <;> cbv)
 ·have hl : a.length = b.length := om9
  refine xloopV [] (fun q : { k : Nat // k ≤ a.length ∧ a.take k = b.take k } => [(5, .i (nI q.1))]) (fun _ => []) (fun q => lft 5001 q.1) ⟨0, Nat.zero_le _, rfl⟩ ?_
  rintro ⟨k, hk, hn⟩
  dsimp only at hk hn ⊢
  cbv; repeat' ((first | refine .mk (fun h => ?_) fun h => ?_ | refine .k fun z hz => ?_ | fail) <;> cbv)
  ·refine askEl_int om9 om9 fun i x hi hx => ?_
   obtain rfl : k = i := om9
   cbv
   refine askEl_int om9 om9 fun j y hj hy => ?_
   obtain rfl : k = j := om9
   cbv; repeat' ((first | refine .mk (fun h => ?_) fun h => ?_ | refine .k fun z hz => ?_ | fail) <;> cbv)
   ·subst h
    obtain rfl : z = nI (k + 1) := om9
    exact roundV ⟨k + 1, by exact om9, take_eq_succ hn hx hy⟩ (lft_lt om9)
   ·exact FinK.mk ⟨_, Gh.refl _, .inl (.v9 (K_bl hK (by (rw [hq, decide_eq_false (get_ne hx hy h)]))))⟩
  ·exact FinK.mk ⟨_, Gh.refl _, .inl (.v9 (K_bl hK (by (rw [hq, decide_eq_true (take_eq_all hn om9 om9)]))))⟩
 ·exact FinK.mk ⟨_, Gh.refl _, .inl (.v9 (K_bl hK (by (rw [hq, decide_eq_false (fun e => by subst e; ((try simp only [vn] at *) <;> omega))]))))⟩
def ChainsC : Ctr := spec (fun i : List Edm × List Edm => [.sl 4 (mapA EdA i.1), .sl 4 (mapA EdA i.2)]) (fun _ => []) (fun i => i.1.length ≤ 5000 ∧ i.2.length ≤ 5000) (fun i => .bl (decide (i.1 = i.2))) fun _ => []
theorem chains_body (P : Program) : BodyOk P x65 ChainsC := by
 intro args H K hc; obtain ⟨⟨a, b⟩, rfl, rfl, hp, hK⟩ := hc; refine ⟨nb9, ?_⟩; dsimp only at hp hK ⊢
 obtain ⟨hpa, hpb⟩ := hp
 obtain ⟨q, hq⟩ : ∃ q, q = decide (a = b) := ⟨_, rfl⟩
 rw [← hq] at hK
 cbv; repeat' ((first | refine .mk (fun h => ?_) fun h => ?_ | refine .k fun z hz => ?_ | fail) <;> cbv)
 ·have hl : a.length = b.length := om9
  refine xloopV [] (fun q : { k : Nat // k ≤ a.length ∧ a.take k = b.take k } => [(5, .i (nI q.1))]) (fun _ => []) (fun q => lft 5001 q.1) ⟨0, Nat.zero_le _, rfl⟩ ?_
  rintro ⟨k, hk, hn⟩
  dsimp only at hk hn ⊢
  cbv; repeat' ((first | refine .mk (fun h => ?_) fun h => ?_ | refine .k fun z hz => ?_ | fail) <;> cbv)
  ·refine askEl_int om9 om9 fun i x hi hx => ?_
   obtain rfl : k = i := om9
   obtain ⟨f1, t1, k1, d1⟩ := x
   cbv
   refine askEl_int om9 om9 fun j y hj hy => ?_
   obtain rfl : k = j := om9
   obtain ⟨f2, t2, k2, d2⟩ := y
   cbv; repeat' ((first | refine .mk (fun h => ?_) fun h => ?_ | refine .k fun z hz => ?_ | fail) <;> cbv)
   ·obtain ⟨rfl, rfl, rfl, rfl, _⟩ := h
    obtain rfl : z = nI (k + 1) := om9
    exact roundV ⟨k + 1, by exact om9, take_eq_succ hn hx hy⟩ (lft_lt om9)
   ·exact FinK.mk ⟨_, Gh.refl _, .inl (.v9 (K_bl hK (by (rw [hq, decide_eq_false (get_ne hx hy fun e => h (by injection e with e1 e2 e3 e4; exact ⟨e1, e2, e3, e4, trivial⟩))]))))⟩
  ·exact FinK.mk ⟨_, Gh.refl _, .inl (.v9 (K_bl hK (by (rw [hq, decide_eq_true (take_eq_all hn om9 om9)]))))⟩
 ·exact FinK.mk ⟨_, Gh.refl _, .inl (.v9 (K_bl hK (by (rw [hq, decide_eq_false (fun e => by subst e; ((try simp only [vn] at *) <;> omega))]))))⟩
def Same23C : Ctr := spec (fun i : Bl × Bl => [BlA i.1, BlA i.2]) (fun _ => []) (fun i => okB i.1 ∧ okB i.2) (fun i => .bl (decide (i.1 = i.2))) fun _ => []
theorem same23_body (P : Program) (hs : FnOk P 18 SameC) : BodyOk P x62 Same23C := by
 intro args H K hc; obtain ⟨⟨a, b⟩, rfl, rfl, hp, hK⟩ := hc; refine ⟨nb9, ?_⟩; dsimp only at hp hK ⊢
 obtain ⟨⟨h1, h2⟩, ⟨h3, h4⟩⟩ := hp
 obtain ⟨q, hq⟩ : ∃ q, q = decide (a = b) := ⟨_, rfl⟩
 rw [← hq] at hK
 obtain ⟨nq1, cq1, sq1, frm1, to1, bq1, pq1, iq1, lq1⟩ := a
 obtain ⟨nq2, cq2, sq2, frm2, to2, bq2, pq2, iq2, lq2⟩ := b
 dsimp only at h1 h2 h3 h4
 obtain ⟨q1, hq1⟩ : ∃ q, q = decide (bq1 = bq2) := ⟨_, rfl⟩
 obtain ⟨q2, hq2⟩ : ∃ q, q = decide (pq1 = pq2) := ⟨_, rfl⟩
 cbv; repeat' ((first | refine .mk (fun h => ?_) fun h => ?_ | fail) <;> cbv)
 all_goals first
  | exact FinK.mk ⟨_, Gh.refl _, .inl (.v9 (K_bl hK (by (rw [hq, decide_eq_false]; rintro ⟨⟩; simp_all; done))))⟩
  | skip
 subst_vars
 (refine c09 hs (bq1, bq2) ⟨by dsimp only; omega, by dsimp only; omega⟩ ?_; try dsimp only)
 by_cases hb : bq1 = bq2
 rotate_left
 ·rw [decide_eq_false hb]
  cbv
  exact FinK.mk ⟨_, Gh.refl _, .inl (.v9 (K_bl hK (by (rw [decide_eq_false]; intro e; injection e; contradiction))))⟩
 rw [decide_eq_true hb]
 subst hb
 cbv
 (refine c09 hs (pq1, pq2) ⟨by dsimp only; omega, by dsimp only; omega⟩ ?_; try dsimp only)
 by_cases hb : pq1 = pq2
 rotate_left
 ·rw [decide_eq_false hb]
  cbv
  exact FinK.mk ⟨_, Gh.refl _, .inl (.v9 (K_bl hK (by (rw [decide_eq_false]; intro e; injection e; contradiction))))⟩
 rw [decide_eq_true hb]
 subst hb
 cbv; repeat' ((first | refine .mk (fun h => ?_) fun h => ?_ | fail) <;> cbv)
 ·subst_vars
  exact FinK.mk ⟨_, Gh.refl _, .inl (.v9 (K_bl hK (by (rw [decide_eq_true rfl]))))⟩
 ·exact FinK.mk ⟨_, Gh.refl _, .inl (.v9 (K_bl hK (by (rw [decide_eq_false]; intro e; injection e; contradiction))))⟩
 ·exact FinK.mk ⟨_, Gh.refl _, .inl (.v9 (K_bl hK (by (rw [decide_eq_false]; intro e; injection e; contradiction))))⟩
def RCopyC : Ctr := spec (fun b : Bl => [BlA b]) (fun _ => []) okB (fun b => BlA b) fun _ => []
theorem rcopy_body (P : Program) : BodyOk P x121 RCopyC := by
 intro args H K hc; obtain ⟨b, rfl, rfl, hp, hK⟩ := hc; refine ⟨nb9, ?_⟩; dsimp only at hp hK ⊢
 obtain ⟨h1, h2⟩ := hp
 obtain ⟨nq1, cq1, sq1, frm1, to1, bq1, pq1, iq1, lq1⟩ := b
 dsimp only at h1 h2
 cbv; repeat' ((first | refine .o ?_ | fail) <;> cbv)
 refine finG (Gh.plain 2 rfl) ?_
 cbv
 refine finG (Gh.plain 3 rfl) ?_
 cbv
 (refine .r9 (Gh.refl _) ?_; cbv; exact .inl (.f9 hK))
def onK (k : Int) : Br → Og
 | ⟨_, _, o0, o1, o2⟩ => if k = 0 then o0 else if k = 1 then o1 else o2
def UntilC : Ctr := spec (fun i : Br × Int => [RbA i.1, .i i.2]) (fun _ => []) (fun i => (i.2 = 0 ∨ i.2 = 1 ∨ i.2 = 2) ∧ chOk i.1) (fun i => .i (lastM (onK i.2 i.1) i.1.b.issued)) fun _ => []
theorem until_body (P : Program) : BodyOk P x123 UntilC := by
 intro args H K hc; obtain ⟨⟨y, k⟩, rfl, rfl, hp, hK⟩ := hc; refine ⟨nb9, ?_⟩; dsimp only at hp hK ⊢
 obtain ⟨hk, hc⟩ := hp
 obtain ⟨⟨nq1, cq1, sq1, frm1, to1, bq1, pq1, iq1, lq1⟩, st1, ⟨sa1, ha1, ca1⟩, ⟨sb1, hb1, cb1⟩, ⟨sc1, hc1, cc1⟩⟩ := y
 unfold chOk at hc
 dsimp only at hc hk
 obtain ⟨hl0, hl1, hl2⟩ := hc
 rcases hk with rfl | rfl | rfl
 ·have hd : lastM ⟨sa1, ha1, ca1⟩ iq1 = match ca1.getLast? with
   | some e => e.day
   | none => iq1 := rfl
  obtain ⟨q, hq⟩ : ∃ q, q = lastM ⟨sa1, ha1, ca1⟩ iq1 := ⟨_, rfl⟩
  have hK : K (.i q) [] := by rw [hq]; exact hK
  rw [← hq] at hd
  cbv; repeat' ((first | refine .mk (fun h => ?_) fun h => ?_ | refine .k fun z hz => ?_ | refine AskEl.i0 ?_ | fail) <;> cbv)
  ·refine askEl_int om9 om9 fun i l hi hl => ?_
   obtain ⟨f, t, k, d⟩ := l
   rw [last_at om9 hl] at hd
   cbv
   exact FinK.mk ⟨_, Gh.refl _, .inl (.v9 (K_i hK (by (rw [hd]))))⟩
  ·rw [last_nil om9] at hd
   exact FinK.mk ⟨_, Gh.refl _, .inl (.v9 (K_i hK (by (rw [hd]))))⟩
 ·have hd : lastM ⟨sb1, hb1, cb1⟩ iq1 = match cb1.getLast? with
   | some e => e.day
   | none => iq1 := rfl
  obtain ⟨q, hq⟩ : ∃ q, q = lastM ⟨sb1, hb1, cb1⟩ iq1 := ⟨_, rfl⟩
  have hK : K (.i q) [] := by rw [hq]; exact hK
  rw [← hq] at hd
  cbv; repeat' ((first | refine .mk (fun h => ?_) fun h => ?_ | refine .k fun z hz => ?_ | refine AskEl.i1 ?_ | fail) <;> cbv)
  ·refine askEl_int om9 om9 fun i l hi hl => ?_
   obtain ⟨f, t, k, d⟩ := l
   rw [last_at om9 hl] at hd
   cbv
   exact FinK.mk ⟨_, Gh.refl _, .inl (.v9 (K_i hK (by (rw [hd]))))⟩
  ·rw [last_nil om9] at hd
   exact FinK.mk ⟨_, Gh.refl _, .inl (.v9 (K_i hK (by (rw [hd]))))⟩
 ·have hd : lastM ⟨sc1, hc1, cc1⟩ iq1 = match cc1.getLast? with
   | some e => e.day
   | none => iq1 := rfl
  obtain ⟨q, hq⟩ : ∃ q, q = lastM ⟨sc1, hc1, cc1⟩ iq1 := ⟨_, rfl⟩
  have hK : K (.i q) [] := by rw [hq]; exact hK
  rw [← hq] at hd
  cbv; repeat' ((first | refine .mk (fun h => ?_) fun h => ?_ | refine .k fun z hz => ?_ | refine AskEl.i2 ?_ | fail) <;> cbv)
  ·refine askEl_int om9 om9 fun i l hi hl => ?_
   obtain ⟨f, t, k, d⟩ := l
   rw [last_at om9 hl] at hd
   cbv
   exact FinK.mk ⟨_, Gh.refl _, .inl (.v9 (K_i hK (by (rw [hd]))))⟩
  ·rw [last_nil om9] at hd
   exact FinK.mk ⟨_, Gh.refl _, .inl (.v9 (K_i hK (by (rw [hd]))))⟩
def WhichC : Ctr := spec (fun a : At => [AtA a]) (fun _ => []) (fun _ => True) (fun a => .sl 1 (if a.kind = 5 ∨ (a.kind = 1 ∧ a.index = -1) then [.i 0, .i 1, .i 2] else [.i a.index])) fun _ => []
theorem which_body (P : Program) : BodyOk P x83 WhichC := by
 intro args H K hc; obtain ⟨a, rfl, rfl, hp, hK⟩ := hc; refine ⟨nb9, ?_⟩; dsimp only at hp hK ⊢
 obtain ⟨kind, index, day, bill, by_, to, b⟩ := a
 obtain ⟨nq1, cq1, sq1, frm1, to1, bq1, pq1, iq1, lq1⟩ := b
 dsimp only at hK
 obtain ⟨l, hl⟩ : ∃ l : List AV, l = if kind = 5 ∨ (kind = 1 ∧ index = -1) then [.i 0, .i 1, .i 2] else [.i index] := ⟨_, rfl⟩
 rw [← hl] at hK
 cbv; repeat' ((first | refine .mk (fun h => ?_) fun h => ?_ | fail) <;> cbv)
 ·obtain rfl : l = [.i 0, .i 1, .i 2] := by rw [hl, if_pos (by omega)]
  (refine .r9 (Gh.plain 1 rfl) ?_; cbv; exact .inl (.g9 hK))
 ·obtain rfl : l = [.i 0, .i 1, .i 2] := by rw [hl, if_pos (by omega)]
  (refine .r9 (Gh.plain 1 rfl) ?_; cbv; exact .inl (.g9 hK))
 ·obtain rfl : l = [.i index] := by rw [hl, if_neg (by omega)]
  (refine .r9 (Gh.plain 1 rfl) ?_; cbv; exact .inl (.g9 hK))
 ·obtain rfl : l = [.i index] := by rw [hl, if_neg (by omega)]
  (refine .r9 (Gh.plain 1 rfl) ?_; cbv; exact .inl (.g9 hK))
set_option maxHeartbeats 4000000
def lessB (a b : ByteArray) : Bool := decide (toL a < toL b)
theorem lessB_eq (a b : ByteArray) : Op.bytesLess a.toList b.toList = lessB a b := by rw [bytesLess_eq, Lib.toList_data, Lib.toList_data]; rfl
def putM (l : List ByteArray) (s : ByteArray) : List ByteArray := l.takeWhile (fun x => lessB x s) ++ s :: l.dropWhile (fun x => lessB x s)
theorem while_at {α : Type} {p : α → Bool} : ∀ {l : List α} {k : Nat}, k ≤ l.length → NoneG (fun x => !p x) l k → (∀ x, l[k]? = some x → p x = false) → l.takeWhile p = l.take k ∧ l.dropWhile p = l.drop k
 | [], k, hk, _, _ => by
  obtain rfl : k = 0 := by simpa using hk
  exact ⟨rfl, rfl⟩
 | x :: l, 0, _, _, h => by
  have hx := h x rfl
  rw [List.takeWhile_cons, List.dropWhile_cons, hx]
  exact ⟨rfl, rfl⟩
 | x :: l, k + 1, hk, hn, h => by
  have hx : p x = true := by
   have h0 : (!p x) = false := hn 0 x (Nat.succ_pos k) rfl
   simpa using h0
  obtain ⟨h1, h2⟩ := while_at (p := p) (l := l) (k := k) (by simpa using hk) (fun j y hj hy => hn (j + 1) y (by omega) (by simpa using hy)) (fun y hy => h y (by simpa using hy))
  rw [List.takeWhile_cons, List.dropWhile_cons, hx, h1, h2]
  exact ⟨rfl, rfl⟩
theorem putM_at {l : List ByteArray} {s : ByteArray} {k : Nat} (hk : k ≤ l.length) (hn : NoneG (fun x => !lessB x s) l k) (h : ∀ x, l[k]? = some x → lessB x s = false) : putM l s = l.take k ++ s :: l.drop k := by
 obtain ⟨h1, h2⟩ := while_at (p := fun x => lessB x s) hk hn h
 unfold putM
 rw [h1, h2]
theorem put_zs {l a b q : List ByteArray} {s : ByteArray} {k : Nat} {zs1 zs : List AV} (h4 : zs = zs1 ++ mapA .str b) (h2 : b = List.drop ((some (Int.ofNat k)).getD 0).toNat (List.take ((none : Option Int).getD (l.length : Int)).toNat l)) (h3 : zs1 = mapA .str a ++ [.str s]) (h1 : a = List.drop ((none : Option Int).getD 0).toNat (List.take ((some (Int.ofNat k)).getD (l.length : Int)).toNat l)) (hq : q = l.take k ++ s :: l.drop k) : zs = mapA .str q := by
 have e1 : a = l.take k := by rw [h1]; simp
 have e2 : b = l.drop k := by rw [h2]; simp
 rw [h4, h3, e1, e2, hq, mapA_app]
 have e : mapA AV.str (s :: l.drop k) = .str s :: mapA .str (l.drop k) := rfl
 rw [e, List.append_assoc]
 rfl
def PutC : Ctr := spec (fun i : List ByteArray × ByteArray => [.sl 1 (mapA .str i.1), .str i.2]) (fun _ => []) (fun i => i.1.length ≤ 5000) (fun i => .sl 1 (mapA .str (putM i.1 i.2))) fun _ => []
theorem put_body (P : Program) : BodyOk P x98 PutC := by
 intro args H K hc; obtain ⟨⟨l, s⟩, rfl, rfl, hp, hK⟩ := hc; refine ⟨nb9, ?_⟩; dsimp only at hp hK ⊢
 obtain ⟨q, hq⟩ : ∃ q, q = putM l s := ⟨_, rfl⟩
 rw [← hq] at hK
 obtain ⟨p, hpp⟩ : ∃ p : ByteArray → Bool, p = fun x => !lessB x s := ⟨_, rfl⟩
 have hpx : ∀ x, p x = !Op.bytesLess x.toList s.toList := fun x => by rw [hpp, lessB_eq]
 cbv
 refine xloopV [] (fun q : { k : Nat // k ≤ l.length ∧ NoneG p l k } => [(5, .i (nI q.1))]) (fun _ => []) (fun q => lft 5001 q.1) ⟨0, Nat.zero_le _, .zero⟩ ?_
 rintro ⟨k, hk, hn⟩
 dsimp only at hk hn ⊢
 cbv; repeat' ((first | refine .mk (fun h => ?_) fun h => ?_ | refine .k fun z hz => ?_ | refine .o ?_ | refine .l fun ys hys hyl => ?_ | refine .zl fun zs hzs hzl => ?_ | refine And.intro ?_ ?_ | fail) <;> cbv)
 ·refine askEl_int om9 om9 fun i x hi hx => ?_
  obtain rfl : k = i := om9
  have hx2 := hpx x
  obtain ⟨m, hm⟩ : ∃ m, m = Op.bytesLess x.toList s.toList := ⟨_, rfl⟩
  rw [← hm] at hx2
  cbv; repeat' ((first | refine .mk (fun h => ?_) fun h => ?_ | refine .k fun z hz => ?_ | refine .o ?_ | refine .l fun ys hys hyl => ?_ | refine .zl fun zs hzs hzl => ?_ | refine And.intro ?_ ?_ | fail) <;> cbv)
  ·have hz9 : z = nI (k + 1) := om9
   subst hz9
   have hx3 : p x = false := by rw [hx2, hm, h]; rfl
   exact roundV ⟨k + 1, by exact om9, hn.succ hx hx3⟩ (lft_lt om9)
  all_goals
   have hput : q = l.take k ++ s :: l.drop k := by
    rw [hq]
    refine putM_at om9 (by rw [← hpp]; exact hn) fun y hy => ?_
    rw [hx] at hy
    cases hy
    rw [← lessB_eq]
    assumption
   obtain rfl : zs = mapA .str q := put_zs hzs hys (by assumption) (by assumption) hput
   (refine .r9 (Gh.plain 0 rfl) ?_; cbv; exact .inl (.g9 hK))
 all_goals
  have hput : q = l.take k ++ s :: l.drop k := by
   rw [hq]
   refine putM_at om9 (by rw [← hpp]; exact hn) fun y hy => ?_
   have := (List.getElem?_eq_some_iff.1 hy).1
   exfalso
   ((try simp only [vn] at *) <;> omega)
  obtain rfl : zs = mapA .str q := put_zs hzs hys (by assumption) (by assumption) hput
  (refine .r9 (Gh.plain 0 rfl) ?_; cbv; exact .inl (.g9 hK))
theorem putM_len (l : List ByteArray) (s : ByteArray) : (putM l s).length = l.length + 1 := by
 unfold putM
 have h := congrArg List.length (List.takeWhile_append_dropWhile (p := fun x => lessB x s) (l := l))
 rw [List.length_append] at h
 rw [List.length_append, List.length_cons]
 omega
def putAll (l : List ByteArray) : List ByteArray := l.foldl putM []
theorem putAll_len (l : List ByteArray) : (putAll l).length = l.length := by
 have h : ∀ (l a : List ByteArray), (l.foldl putM a).length = a.length + l.length := by
  intro l
  induction l with
  | nil => intro a; rfl
  | cons x l ih => intro a; rw [List.foldl_cons, ih, putM_len, List.length_cons]; omega
 have := h l []
 unfold putAll
 rw [this]
 exact Nat.zero_add _
theorem putAll_snoc (l : List ByteArray) (s : ByteArray) : putAll (l ++ [s]) = putM (putAll l) s := by unfold putAll; rw [List.foldl_append]; rfl
def preN (L : List Br) (p : Br → Bool) (k : Nat) : List ByteArray := putAll ((L.take k).filterMap (gN p))
theorem preN_yes {L : List Br} {p : Br → Bool} {k : Nat} {y : Br} (hy : L[k]? = some y) (hp : p y = true) : preN L p (k + 1) = putM (preN L p k) y.b.number := by
 unfold preN
 rw [take_some hy, List.filterMap_append, List.filterMap_cons]
 unfold gN
 rw [hp]
 exact putAll_snoc _ _
theorem preN_no {L : List Br} {p : Br → Bool} {k : Nat} {y : Br} (hy : L[k]? = some y) (hp : p y = false) : preN L p (k + 1) = preN L p k := by
 unfold preN
 rw [take_some hy, List.filterMap_append, List.filterMap_cons]
 unfold gN
 rw [hp]
 show putAll (_ ++ []) = _
 rw [List.append_nil]
theorem preN_len {L : List Br} {p : Br → Bool} {k : Nat} : (preN L p k).length ≤ L.length := by
 unfold preN
 rw [putAll_len]
 refine Nat.le_trans (List.length_filterMap_le _ _) ?_
 rw [List.length_take]
 omega
def ofM (L : List Br) (p : Br → Bool) : List ByteArray := putAll (L.filterMap (gN p))
theorem preN_all {L : List Br} {p : Br → Bool} {k : Nat} (hk : k = L.length) : preN L p k = ofM L p := by unfold preN ofM; rw [hk, List.take_length]
def RBillsC : Ctr := spec (fun R : Rg => [RgA R]) (fun _ => []) (fun R => R.bills.length ≤ 256) (fun R => .sl 1 (mapA .str (ofM R.bills fun _ => true))) fun _ => []
theorem rbills_body (P : Program) (hput : FnOk P 98 PutC) : BodyOk P x58 RBillsC := by
 intro args H K hc; obtain ⟨⟨carrier, L⟩, rfl, rfl, hp, hK⟩ := hc; refine ⟨nb9, ?_⟩; dsimp only at hp hK ⊢
 obtain ⟨p, hpp⟩ : ∃ p : Br → Bool, p = fun _ => true := ⟨_, rfl⟩
 rw [← hpp] at hK
 have hpx : ∀ x, p x = true := fun x => by rw [hpp]
 clear hpp
 cbv
 refine xloopG (Gh.plain 1 rfl) ?_
 cbv
 refine xloopV [] (fun q : { q : Nat × List ByteArray // q.1 ≤ L.length ∧ q.2 = preN L p q.1 } => [(4, .i (nI q.1.1)), (3, .sl 1 (mapA .str q.1.2))]) (fun _ => [.blk 28 [.str carrier, .sl 11 (mapA RbA L)]]) (fun q => lft 5001 q.1.1) ⟨(0, []), Nat.zero_le _, rfl⟩ ?_
 rintro ⟨⟨k, l⟩, hk, hl⟩
 dsimp only at hk hl ⊢
 have hll : l.length ≤ L.length := by rw [hl]; exact preN_len
 cbv; repeat' ((first | refine .mk (fun h => ?_) fun h => ?_ | refine .k fun z hz => ?_ | fail) <;> cbv)
 ·refine askEl_int om9 om9 fun i x hi hx => ?_
  obtain rfl : k = i := om9
  have hy := preN_yes hx (hpx x)
  rw [← hl] at hy
  obtain ⟨⟨nq1, cq1, sq1, frm1, to1, bq1, pq1, iq1, lq1⟩, st1, ⟨sa1, ha1, ca1⟩, ⟨sb1, hb1, cb1⟩, ⟨sc1, hc1, cc1⟩⟩ := x
  dsimp only at hy
  obtain ⟨m, hm⟩ : ∃ m, m = putM l nq1 := ⟨_, rfl⟩
  rw [← hm] at hy
  cbv
  (refine c09 hput (l, nq1) (by dsimp only; omega) ?_; try dsimp only)
  rw [← hm]
  cbv; repeat' ((first | refine .k fun z hz => ?_ | fail) <;> cbv)
  obtain rfl : z = nI (k + 1) := om9
  exact roundV ⟨(k + 1, m), by exact om9, hy.symm⟩ (lft_lt om9)
 ·have hl2 := hl.trans (preN_all om9)
  subst hl2
  (refine .r9 (Gh.refl _) ?_; cbv; exact .inl (.f9 hK))
def of3 (st : Int) (who : ByteArray) (s : Int) (h : ByteArray) : Bool := decide (st = 0) && (decide (s = 0) && decide (h = who))
theorem pOfB_eq (who : ByteArray) (b : Bl) (st sa sb sc : Int) (ha hb hc : ByteArray) (ca cb cc : List Edm) : pOfB who ⟨b, st, ⟨sa, ha, ca⟩, ⟨sb, hb, cb⟩, ⟨sc, hc, cc⟩⟩ = (of3 st who sc hc || (of3 st who sb hb || (of3 st who sa ha || false))) := by
 unfold pOfB some3 pOf hitB of3
 dsimp only
 cases decide (st = 0) <;> cases (decide (sa = 0) && decide (ha = who)) <;> cases (decide (sb = 0) && decide (hb = who)) <;> cases (decide (sc = 0) && decide (hc = who)) <;> rfl
def ROfC : Ctr := spec (fun i : Rg × ByteArray => [RgA i.1, .str i.2]) (fun _ => []) (fun i => i.1.bills.length ≤ 256) (fun i => .sl 1 (mapA .str (ofM i.1.bills (pOfB i.2)))) fun _ => []
theorem rof_body (P : Program) (hput : FnOk P 98 PutC) : BodyOk P x60 ROfC := by
 intro args H K hc; obtain ⟨⟨⟨carrier, L⟩, who⟩, rfl, rfl, hp, hK⟩ := hc; refine ⟨nb9, ?_⟩; dsimp only at hp hK ⊢
 obtain ⟨p, hpp⟩ : ∃ p : Br → Bool, p = pOfB who := ⟨_, rfl⟩
 rw [← hpp] at hK
 cbv
 refine xloopG (Gh.plain 1 rfl) ?_
 cbv
 refine xloopV [] (fun q : { q : Nat × List ByteArray // q.1 ≤ L.length ∧ q.2 = preN L p q.1 } => [(6, .i (nI q.1.1)), (5, .sl 1 (mapA .str q.1.2))]) (fun _ => [.blk 28 [.str carrier, .sl 11 (mapA RbA L)]]) (fun q => lft 5001 q.1.1) ⟨(0, []), Nat.zero_le _, rfl⟩ ?_
 rintro ⟨⟨k, l⟩, hk, hl⟩
 dsimp only at hk hl ⊢
 have hll : l.length ≤ L.length := by rw [hl]; exact preN_len
 cbv; repeat' ((first | refine .mk (fun h => ?_) fun h => ?_ | refine .k fun z hz => ?_ | fail) <;> cbv)
 ·refine askEl_int om9 om9 fun i x hi hx => ?_
  obtain rfl : k = i := om9
  have hy := preN_yes (p := p) hx
  have hno := preN_no (p := p) hx
  rw [← hl] at hy hno
  obtain ⟨⟨nq1, cq1, sq1, frm1, to1, bq1, pq1, iq1, lq1⟩, st1, ⟨sa1, ha1, ca1⟩, ⟨sb1, hb1, cb1⟩, ⟨sc1, hc1, cc1⟩⟩ := x
  dsimp only at hy
  rw [hpp, pOfB_eq, ← hpp] at hy hno
  obtain ⟨a0, ha0⟩ : ∃ a, a = of3 st1 who sa1 ha1 := ⟨_, rfl⟩
  obtain ⟨a1, ha1'⟩ : ∃ a, a = of3 st1 who sb1 hb1 := ⟨_, rfl⟩
  obtain ⟨a2, ha2⟩ : ∃ a, a = of3 st1 who sc1 hc1 := ⟨_, rfl⟩
  rw [← ha0, ← ha1', ← ha2] at hy hno
  unfold of3 at ha0 ha1' ha2
  obtain ⟨m, hm⟩ : ∃ m, m = putM l nq1 := ⟨_, rfl⟩
  rw [← hm] at hy
  cbv
  refine xloopV [] (fun q : { q : Nat × Bool // q.1 ≤ 3 ∧ q.2 = pick4 q.1 false (a0 || false) (a1 || (a0 || false)) (a2 || (a1 || (a0 || false))) } => [(9, .i (nI q.1.1)), (8, .bl q.1.2)]) (fun _ => [.blk 28 [.str carrier, .sl 11 (mapA RbA L)], .blk 56 (RbL ⟨⟨nq1, cq1, sq1, frm1, to1, bq1, pq1, iq1, lq1⟩, st1, ⟨sa1, ha1, ca1⟩, ⟨sb1, hb1, cb1⟩, ⟨sc1, hc1, cc1⟩⟩)]) (fun q => lft 3 q.1.1) ⟨(0, false), by decide, rfl⟩ ?_
  rintro ⟨⟨j, v⟩, hj, hv⟩
  dsimp only at hj hv ⊢
  have hk4 : j = 0 ∨ j = 1 ∨ j = 2 ∨ j = 3 := by omega
  rcases hk4 with rfl | rfl | rfl | rfl
  ·have hv0 : v = false := hv
   cbv; repeat' ((first | refine .y fun h => ?_ | refine .mk (fun h => ?_) fun h => ?_ | refine .k fun z hz => ?_ | refine AskEl.i0 ?_ | fail) <;> cbv)
   ·have e : a0 = true := by rw [ha0, decide_eq_true (by assumption : st1 = 0), decide_eq_true (by assumption : sa1 = 0), decide_eq_true (by assumption : ha1 = who)]; rfl
    obtain rfl : z = nI 1 := om9
    exact roundV ⟨(1, true), (by show 1 ≤ 3; decide), (by show true = (a0 || false); rw [e]; rfl)⟩ (lft_lt (by decide))
   ·have e : a0 = false := by rw [ha0, decide_eq_true (by assumption : st1 = 0), decide_eq_true (by assumption : sa1 = 0), decide_eq_false (by assumption : ¬ ha1 = who)]; rfl
    obtain rfl : z = nI 1 := om9
    exact roundV ⟨(1, v), (by show 1 ≤ 3; decide), (by show v = (a0 || false); rw [e, hv0]; rfl)⟩ (lft_lt (by decide))
   ·have e : a0 = false := by rw [ha0, decide_eq_true (by assumption : st1 = 0), decide_eq_false (by assumption : ¬ sa1 = 0)]; rfl
    obtain rfl : z = nI 1 := om9
    exact roundV ⟨(1, v), (by show 1 ≤ 3; decide), (by show v = (a0 || false); rw [e, hv0]; rfl)⟩ (lft_lt (by decide))
   ·have e : a0 = false := by rw [ha0, decide_eq_false (by assumption : ¬ st1 = 0)]; rfl
    obtain rfl : z = nI 1 := om9
    exact roundV ⟨(1, v), (by show 1 ≤ 3; decide), (by show v = (a0 || false); rw [e, hv0]; rfl)⟩ (lft_lt (by decide))
  ·have hv1 : v = (a0 || false) := hv
   cbv; repeat' ((first | refine .y fun h => ?_ | refine .mk (fun h => ?_) fun h => ?_ | refine .k fun z hz => ?_ | refine AskEl.i1 ?_ | fail) <;> cbv)
   ·have e : a1 = true := by rw [ha1', decide_eq_true (by assumption : st1 = 0), decide_eq_true (by assumption : sb1 = 0), decide_eq_true (by assumption : hb1 = who)]; rfl
    obtain rfl : z = nI 2 := om9
    exact roundV ⟨(2, true), (by show 2 ≤ 3; decide), (by show true = (a1 || (a0 || false)); rw [e]; rfl)⟩ (lft_lt (by decide))
   ·have e : a1 = false := by rw [ha1', decide_eq_true (by assumption : st1 = 0), decide_eq_true (by assumption : sb1 = 0), decide_eq_false (by assumption : ¬ hb1 = who)]; rfl
    obtain rfl : z = nI 2 := om9
    exact roundV ⟨(2, v), (by show 2 ≤ 3; decide), (by show v = (a1 || (a0 || false)); rw [e, hv1]; rfl)⟩ (lft_lt (by decide))
   ·have e : a1 = false := by rw [ha1', decide_eq_true (by assumption : st1 = 0), decide_eq_false (by assumption : ¬ sb1 = 0)]; rfl
    obtain rfl : z = nI 2 := om9
    exact roundV ⟨(2, v), (by show 2 ≤ 3; decide), (by show v = (a1 || (a0 || false)); rw [e, hv1]; rfl)⟩ (lft_lt (by decide))
   ·have e : a1 = false := by rw [ha1', decide_eq_false (by assumption : ¬ st1 = 0)]; rfl
    obtain rfl : z = nI 2 := om9
    exact roundV ⟨(2, v), (by show 2 ≤ 3; decide), (by show v = (a1 || (a0 || false)); rw [e, hv1]; rfl)⟩ (lft_lt (by decide))
  ·have hv2 : v = (a1 || (a0 || false)) := hv
   cbv; repeat' ((first | refine .y fun h => ?_ | refine .mk (fun h => ?_) fun h => ?_ | refine .k fun z hz => ?_ | refine AskEl.i2 ?_ | fail) <;> cbv)
   ·have e : a2 = true := by rw [ha2, decide_eq_true (by assumption : st1 = 0), decide_eq_true (by assumption : sc1 = 0), decide_eq_true (by assumption : hc1 = who)]; rfl
    obtain rfl : z = nI 3 := om9
    exact roundV ⟨(3, true), (by show 3 ≤ 3; decide), (by show true = (a2 || (a1 || (a0 || false))); rw [e]; rfl)⟩ (lft_lt (by decide))
   ·have e : a2 = false := by rw [ha2, decide_eq_true (by assumption : st1 = 0), decide_eq_true (by assumption : sc1 = 0), decide_eq_false (by assumption : ¬ hc1 = who)]; rfl
    obtain rfl : z = nI 3 := om9
    exact roundV ⟨(3, v), (by show 3 ≤ 3; decide), (by show v = (a2 || (a1 || (a0 || false))); rw [e, hv2]; rfl)⟩ (lft_lt (by decide))
   ·have e : a2 = false := by rw [ha2, decide_eq_true (by assumption : st1 = 0), decide_eq_false (by assumption : ¬ sc1 = 0)]; rfl
    obtain rfl : z = nI 3 := om9
    exact roundV ⟨(3, v), (by show 3 ≤ 3; decide), (by show v = (a2 || (a1 || (a0 || false))); rw [e, hv2]; rfl)⟩ (lft_lt (by decide))
   ·have e : a2 = false := by rw [ha2, decide_eq_false (by assumption : ¬ st1 = 0)]; rfl
    obtain rfl : z = nI 3 := om9
    exact roundV ⟨(3, v), (by show 3 ≤ 3; decide), (by show v = (a2 || (a1 || (a0 || false))); rw [e, hv2]; rfl)⟩ (lft_lt (by decide))
  ·have hv3 : v = (a2 || (a1 || (a0 || false))) := hv
   rw [← hv3] at hy hno
   cases v with
   | true =>
    have hy := hy rfl
    cbv; repeat' ((first | refine .n fun h => ?_ | fail) <;> cbv)
    (refine c09 hput (l, nq1) (by dsimp only; omega) ?_; try dsimp only)
    rw [← hm]
    cbv; repeat' ((first | refine .k fun z hz => ?_ | fail) <;> cbv)
    obtain rfl : z = nI (k + 1) := om9
    exact roundV ⟨(k + 1, m), by exact om9, hy.symm⟩ (lft_lt om9)
   | false =>
    have hno := hno rfl
    cbv; repeat' ((first | refine .n fun h => ?_ | refine .k fun z hz => ?_ | fail) <;> cbv)
    obtain rfl : z = nI (k + 1) := om9
    exact roundV ⟨(k + 1, l), by exact om9, hno.symm⟩ (lft_lt om9)
 ·have hl2 := hl.trans (preN_all om9)
  subst hl2
  (refine .r9 (Gh.refl _) ?_; cbv; exact .inl (.f9 hK))
def fu3 (who : ByteArray) (s : Int) (h : ByteArray) : Bool := decide (s = 0) && decide (h = who)
def fullB (who : ByteArray) : Br → Bool
 | ⟨_, st, ⟨sa, ha, _⟩, ⟨sb, hb, _⟩, ⟨sc, hc, _⟩⟩ => decide (st = 0) && (fu3 who sa ha && (fu3 who sb hb && fu3 who sc hc))
theorem fullB_eq (who : ByteArray) (b : Br) : fullB who b = (decide (b.st = 0) && !some3 (-1) b (pFull who)) := by
 obtain ⟨_, st, ⟨sa, ha, _⟩, ⟨sb, hb, _⟩, ⟨sc, hc, _⟩⟩ := b
 unfold fullB some3 pFull hitB fu3
 dsimp only
 cases decide (st = 0) <;> cases decide (sa = 0) <;> cases decide (ha = who) <;> cases decide (sb = 0) <;> cases decide (hb = who) <;> cases decide (sc = 0) <;> cases decide (hc = who) <;> rfl
theorem idxG_b (L : List Br) (s : ByteArray) : idxG (fun b : Br => decide (b.b.number = s)) L = match bAt L s with
 | some i => Int.ofNat i
 | none => -1 := rfl
def RFullC : Ctr := spec (fun i : Rg × ByteArray × ByteArray => [RgA i.1, .str i.2.1, .str i.2.2]) (fun _ => []) (fun i => i.1.bills.length ≤ 256) (fun i => .bl (fullM i.1.bills i.2.1 i.2.2)) fun _ => []
theorem rfull_body (P : Program) (hf : FnOk P 52 FindC) : BodyOk P x63 RFullC := by
 intro args H K hc; obtain ⟨⟨⟨carrier, L⟩, s, who⟩, rfl, rfl, hp, hK⟩ := hc; refine ⟨nb9, ?_⟩; dsimp only at hp hK ⊢
 obtain ⟨q, hq⟩ : ∃ q, q = fullM L s who := ⟨_, rfl⟩
 obtain ⟨e, he⟩ : ∃ e, e = idxG (fun b : Br => decide (b.b.number = s)) L := ⟨_, rfl⟩
 rw [← hq] at hK
 cbv
 (refine c09 hf ((⟨carrier, L⟩ : Rg), s) (by dsimp only; omega) ?_; try dsimp only)
 rw [← he]
 rw [idxG_b] at he
 cases hb : bAt L s with
 | none =>
  rw [hb] at he
  subst he
  rw [fullM_none hb] at hq
  subst hq
  cbv; repeat' ((first | refine .y fun h => ?_ | fail) <;> cbv)
  (refine .r9 (Gh.refl _) ?_; cbv; exact .inl (.f9 hK))
 | some i =>
  rw [hb] at he
  subst he
  obtain ⟨x, hx, _⟩ := atS_some hb
  rw [fullM_some hb hx, ← fullB_eq] at hq
  obtain ⟨⟨nq1, cq1, sq1, frm1, to1, bq1, pq1, iq1, lq1⟩, st1, ⟨sa1, ha1, ca1⟩, ⟨sb1, hb1, cb1⟩, ⟨sc1, hc1, cc1⟩⟩ := x
  obtain ⟨a0, ha0⟩ : ∃ a, a = fu3 who sa1 ha1 := ⟨_, rfl⟩
  obtain ⟨a1, ha1'⟩ : ∃ a, a = fu3 who sb1 hb1 := ⟨_, rfl⟩
  obtain ⟨a2, ha2⟩ : ∃ a, a = fu3 who sc1 hc1 := ⟨_, rfl⟩
  unfold fullB at hq
  dsimp only at hq
  rw [← ha0, ← ha1', ← ha2] at hq
  unfold fu3 at ha0 ha1' ha2
  cbv; repeat' ((first | refine .e ?_ | refine .n fun h => ?_ | refine .mk (fun h => ?_) fun h => ?_ | fail) <;> cbv)
  ·rw [decide_eq_true h] at hq
   have hii := (List.getElem?_eq_some_iff.1 hx).1
   refine xloopV [] (fun q : { k : Nat // k ≤ 3 ∧ (1 ≤ k → a0 = true) ∧ (2 ≤ k → a1 = true) ∧ (3 ≤ k → a2 = true) } => [(8, .i (nI q.1))]) (fun _ => [.blk 28 [.str carrier, .sl 11 (mapA RbA L)]]) (fun q => lft 3 q.1) ⟨0, by decide, fun h => absurd h (by decide), fun h => absurd h (by decide), fun h => absurd h (by decide)⟩ ?_
   rintro ⟨j, hj, g0, g1, g2⟩
   dsimp only at hj g0 g1 g2 ⊢
   have hk4 : j = 0 ∨ j = 1 ∨ j = 2 ∨ j = 3 := by omega
   rcases hk4 with rfl | rfl | rfl | rfl
   ·
    cbv; repeat' ((first | refine .e ?_ | refine .y fun h => ?_ | refine .mk (fun h => ?_) fun h => ?_ | refine .k fun z hz => ?_ | refine AskEl.i0 ?_ | fail) <;> cbv)
    ·have e : a0 = true := by rw [ha0, decide_eq_true (by assumption : sa1 = 0), decide_eq_true (by assumption : ha1 = who)]; rfl
     obtain rfl : z = nI 1 := om9
     exact roundV ⟨1, by decide, fun _ => e, fun h => absurd h (by decide), fun h => absurd h (by decide)⟩ (lft_lt (by decide))
    ·have e : a0 = false := by rw [ha0, decide_eq_true (by assumption : sa1 = 0), decide_eq_false (by assumption : ¬ ha1 = who)]; rfl
     (refine .r9 (Gh.refl _) ?_; cbv; exact .inl (.f9 (K_bl hK (by rw [hq, e]; rfl))))
    ·have e : a0 = false := by rw [ha0, decide_eq_false (by assumption : ¬ sa1 = 0)]; rfl
     (refine .r9 (Gh.refl _) ?_; cbv; exact .inl (.f9 (K_bl hK (by rw [hq, e]; rfl))))
   ·
    have e0 := g0 (by decide)
    cbv; repeat' ((first | refine .e ?_ | refine .y fun h => ?_ | refine .mk (fun h => ?_) fun h => ?_ | refine .k fun z hz => ?_ | refine AskEl.i1 ?_ | fail) <;> cbv)
    ·have e : a1 = true := by rw [ha1', decide_eq_true (by assumption : sb1 = 0), decide_eq_true (by assumption : hb1 = who)]; rfl
     obtain rfl : z = nI 2 := om9
     exact roundV ⟨2, by decide, fun _ => g0 (by decide), fun _ => e, fun h => absurd h (by decide)⟩ (lft_lt (by decide))
    ·have e : a1 = false := by rw [ha1', decide_eq_true (by assumption : sb1 = 0), decide_eq_false (by assumption : ¬ hb1 = who)]; rfl
     (refine .r9 (Gh.refl _) ?_; cbv; exact .inl (.f9 (K_bl hK (by rw [hq, e0, e]; rfl))))
    ·have e : a1 = false := by rw [ha1', decide_eq_false (by assumption : ¬ sb1 = 0)]; rfl
     (refine .r9 (Gh.refl _) ?_; cbv; exact .inl (.f9 (K_bl hK (by rw [hq, e0, e]; rfl))))
   ·
    have e0 := g0 (by decide)
    have e1 := g1 (by decide)
    cbv; repeat' ((first | refine .e ?_ | refine .y fun h => ?_ | refine .mk (fun h => ?_) fun h => ?_ | refine .k fun z hz => ?_ | refine AskEl.i2 ?_ | fail) <;> cbv)
    ·have e : a2 = true := by rw [ha2, decide_eq_true (by assumption : sc1 = 0), decide_eq_true (by assumption : hc1 = who)]; rfl
     obtain rfl : z = nI 3 := om9
     exact roundV ⟨3, by decide, fun _ => g0 (by decide), fun _ => g1 (by decide), fun _ => e⟩ (lft_lt (by decide))
    ·have e : a2 = false := by rw [ha2, decide_eq_true (by assumption : sc1 = 0), decide_eq_false (by assumption : ¬ hc1 = who)]; rfl
     (refine .r9 (Gh.refl _) ?_; cbv; exact .inl (.f9 (K_bl hK (by rw [hq, e0, e1, e]; rfl))))
    ·have e : a2 = false := by rw [ha2, decide_eq_false (by assumption : ¬ sc1 = 0)]; rfl
     (refine .r9 (Gh.refl _) ?_; cbv; exact .inl (.f9 (K_bl hK (by rw [hq, e0, e1, e]; rfl))))
   ·have e0 := g0 (by decide)
    have e1 := g1 (by decide)
    have e2 := g2 (by decide)
    cbv; repeat' ((first | refine .n fun h => ?_ | fail) <;> cbv)
    (refine .r9 (Gh.refl _) ?_; cbv; exact .inl (.f9 (K_bl hK (by rw [hq, e0, e1, e2]; rfl))))
  ·(refine .r9 (Gh.refl _) ?_; cbv; exact .inl (.f9 (K_bl hK (by rw [hq, decide_eq_false h]; rfl))))
structure SzB (b : Bl) : Prop where
 number : b.number.size ≤ maxLen
 shipper : b.shipper.size ≤ maxLen
 frm : b.frm.size ≤ maxLen
 to : b.to.size ≤ maxLen
 parents : ∀ s ∈ b.parents, s.size ≤ maxLen
theorem hasB_any (L : List ByteArray) (s : ByteArray) : (L.any fun x => decide (s = x)) = hasB L s := by
 unfold hasB atS
 have h : (L.findIdx? fun a => decide (id a = s)).isSome = L.any fun a => decide (id a = s) := by rw [List.findIdx?_isSome]
 rw [h]
 congr 1
 funext x
 exact decide_eq_decide.2 ⟨fun h => h.symm, fun h => h.symm⟩
def RMayC : Ctr := spec (fun i : ByteArray × Bl => [.str i.1, BlA i.2]) (fun _ => []) (fun i => okB i.2 ∧ SzB i.2) (fun i => .bl (mayB i.1 i.2)) fun _ => []
theorem rmay_body (P : Program) (hn : FnOk P 142 NamesC) (hd : FnOk P 122 DayC) (hr : FnOk P 143 (StrC (fun _ => True) markB)) (hin : FnOk P 97 InC) : BodyOk P x120 RMayC := by
 intro args H K hc; obtain ⟨⟨carrier, b⟩, rfl, rfl, hp, hK⟩ := hc; refine ⟨nb9, ?_⟩; dsimp only at hp hK ⊢
 obtain ⟨hp, hsz⟩ := hp
 unfold okB at hp
 obtain ⟨hs1, hs2, hs3, hs4, hs5⟩ := hsz
 obtain ⟨nq1, cq1, sq1, frm1, to1, bq1, pq1, iq1, lq1⟩ := b
 dsimp only at hp hs1 hs2 hs3 hs4 hs5
 obtain ⟨q, hq⟩ : ∃ q, q = mayB carrier ⟨nq1, cq1, sq1, frm1, to1, bq1, pq1, iq1, lq1⟩ := ⟨_, rfl⟩
 rw [← hq] at hK
 unfold mayB at hq
 dsimp only at hq
 obtain ⟨n1, hn1⟩ : ∃ q, q = !([nq1, sq1, frm1, to1].any fun s => !nameB s) := ⟨_, rfl⟩
 have hn1' : ((nameB nq1 && nameB sq1) && (nameB frm1 && nameB to1)) = n1 := by
  rw [hn1]
  simp only [List.any_cons, List.any_nil]
  cases nameB nq1 <;> cases nameB sq1 <;> cases nameB frm1 <;> cases nameB to1 <;> rfl
 obtain ⟨n5, hn5⟩ : ∃ q, q = dayB iq1 := ⟨_, rfl⟩
 obtain ⟨n6, hn6⟩ : ∃ q, q = !(pq1.any fun s => !nameB s) := ⟨_, rfl⟩
 obtain ⟨n7, hn7⟩ : ∃ q, q = boxGo (bq1.take 0) (bq1.drop 0) := ⟨_, rfl⟩
 have hn7' : boxGo [] bq1 = n7 := hn7.symm
 rw [hn1', ← hn5, ← hn6, hn7'] at hq
 clear hn7' hn1'
 cbv
 refine callG_publish 1 rfl ?_
 cbv
 (refine callG_spec0 hn [nq1, sq1, frm1, to1] ⟨Nat.le_add_left 4 4996, fun s hs => by
   rcases List.mem_cons.1 hs with rfl | hs
   ·exact hs1
   rcases List.mem_cons.1 hs with rfl | hs
   ·exact hs2
   rcases List.mem_cons.1 hs with rfl | hs
   ·exact hs3
   rcases List.mem_cons.1 hs with rfl | hs
   ·exact hs4
   cases hs⟩ rfl rfl rfl ?_; try dsimp only)
 rw [← hn1]
 cases n1 with
 | false =>
  cbv
  exact FinK.mk ⟨_, Gh.refl _, .inl (.v9 (K_bl hK (by (rw [hq]; rfl))))⟩
 | true =>
 cbv; repeat' ((first | refine .mk (fun h => ?_) fun h => ?_ | refine .k fun z hz => ?_ | fail) <;> cbv)
 rotate_right
 ·exact FinK.mk ⟨_, Gh.refl _, .inl (.v9 (K_bl hK (by (rw [hq, decide_eq_false (by assumption : ¬ cq1 = carrier)]; rfl))))⟩
 ·rw [decide_eq_true (by assumption : cq1 = carrier), decide_eq_false om9] at hq
  exact FinK.mk ⟨_, Gh.refl _, .inl (.v9 (K_bl hK (by (rw [hq]; cases n5 <;> rfl))))⟩
 ·rw [decide_eq_true (by assumption : cq1 = carrier), decide_eq_false om9] at hq
  exact FinK.mk ⟨_, Gh.refl _, .inl (.v9 (K_bl hK (by (rw [hq]; cases n5 <;> rfl))))⟩
 ·rw [decide_eq_true (by assumption : cq1 = carrier), decide_eq_false om9] at hq
  exact FinK.mk ⟨_, Gh.refl _, .inl (.v9 (K_bl hK (by (rw [hq]; cases n5 <;> rfl))))⟩
 ·rw [decide_eq_true (by assumption : cq1 = carrier), decide_eq_true om9] at hq
  (refine c09 hn pq1 ⟨by exact om9, hs5⟩ ?_; try dsimp only)
  rw [← hn6]
  cases n6 with
  | false =>
   cbv
   exact FinK.mk ⟨_, Gh.refl _, .inl (.v9 (K_bl hK (by (rw [hq]; cases n5 <;> cases n7 <;> rfl))))⟩
  | true =>
  cbv
  (refine c09 hd iq1 trivial ?_; try dsimp only)
  rw [← hn5]
  cases n5 with
  | false =>
   cbv
   exact FinK.mk ⟨_, Gh.refl _, .inl (.v9 (K_bl hK (by (rw [hq]; rfl))))⟩
  | true =>
  cbv
  refine xloopV [] (fun q : { k : Nat // k ≤ bq1.length ∧ n7 = boxGo (bq1.take k) (bq1.drop k) } => [(5, .i (nI q.1))]) (fun q => [.blk 33 [.str nq1, .str cq1, .str sq1, .str frm1, .str to1, .sl 1 (mapA .str bq1), .sl 1 (mapA .str pq1), .i iq1, .bl lq1], .tip 9 1 [.str nq1, .str sq1, .str frm1, .str to1]]) (fun q => lft 5001 q.1) ⟨0, Nat.zero_le _, hn7⟩ ?_
  rintro ⟨k, hk, hb7⟩
  dsimp only at hk hb7 ⊢
  cbv; repeat' ((first | refine .mk (fun h => ?_) fun h => ?_ | refine .k fun z hz => ?_ | fail) <;> cbv)
  ·refine askEl_int om9 om9 fun i x hi hx => ?_
   obtain rfl : k = i := om9
   have hg := boxGo_at hx
   obtain ⟨m, hm⟩ : ∃ m, m = markB x := ⟨_, rfl⟩
   obtain ⟨m2, hm2⟩ : ∃ m, m = hasB (bq1.take k) x := ⟨_, rfl⟩
   rw [← hm, ← hm2] at hg
   cbv
   (refine c09 hr x trivial ?_; try dsimp only)
   rw [← hm]
   cases m with
   | false =>
    rw [hb7, hg] at hq
    cbv
    exact FinK.mk ⟨_, Gh.refl _, .inl (.v9 (K_bl hK (by (rw [hq]; rfl))))⟩
   | true =>
    cbv; repeat' ((first | refine .e ?_ | refine .l fun ys hys hyl => ?_ | fail) <;> cbv)
    obtain rfl : ys = bq1.take k := by rw [hys]; simp
    (refine c09 hin (bq1.take k, x) (by dsimp only; rw [List.length_take]; omega) ?_; try dsimp only)
    rw [hasB_any, ← hm2]
    cases m2 with
    | true =>
     rw [hb7, hg] at hq
     cbv
     exact FinK.mk ⟨_, Gh.refl _, .inl (.v9 (K_bl hK (by (rw [hq]; rfl))))⟩
    | false =>
     cbv; repeat' ((first | refine .k fun z hz => ?_ | fail) <;> cbv)
     obtain rfl : z = nI (k + 1) := om9
     exact roundV ⟨k + 1, by exact om9, hb7.trans hg⟩ (lft_lt om9)
  ·obtain rfl : k = bq1.length := om9
   rw [boxGo_end rfl] at hb7
   subst hb7
   exact FinK.mk ⟨_, Gh.refl _, .inl (.v9 (K_bl hK (by (rw [hq]; rfl))))⟩
end Go.Proofs.YtagcjileaknjnaaGreatDoor
end
