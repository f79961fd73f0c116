/-
  Texts of this proof, joined: VG, VH, VI, VJ, Lst, Src, VS, VK, VL, VM, Name, X, RA, Y, RB, RC, RD, VN, RE, RF, RG.
-/
import Derived.Test.YtjhncfkohmhnnaaGreatDoorJ2
import Derived.IntWalk
import Derived.KernelRfl
set_option linter.unusedVariables false
set_option linter.unusedSimpArgs false
noncomputable section
namespace Go.Proofs.YtjhncfkohmhnnaaGreatDoor
open Go.RowKit
theorem nodup_inj {l : List Nat} (h : l.Nodup) {i j : Nat} {hi : i < l.length} {hj : j < l.length} (e : l[i] = l[j]) : i = j := by
 rcases Nat.lt_trichotomy i j with h1 | h1 | h1
 ·exact absurd e (List.pairwise_iff_getElem.1 h i j hi hj h1)
 ·exact h1
 ·exact absurd e.symm (List.pairwise_iff_getElem.1 h j i hj hi h1)
theorem rowIds_of {s : List Nat} {H0 : List Ent} {i : Nat} {e : Ent} (h : H0[i]? = some e) (ht : e.turns = true) (hi : i < s.length) : s[i] ∈ rowIds s H0 := by
 induction s generalizing i H0 with
 | nil => simp at hi
 | cons k s ih =>
  cases H0 with
  | nil => simp at h
  | cons d l =>
   cases i with
   | zero =>
    simp at h
    subst h
    simp [rowIds, ht]
   | succ i =>
    have := ih (i := i) (H0 := l) (by simpa using h) (by simpa using hi)
    unfold rowIds
    cases d.turns
    ·exact this
    ·exact List.mem_cons_of_mem _ this
theorem callG_of {P : Program} {f : Nat} {c : Ctr} (hf : FnOk P f c) (sel : List Nat) {args0 : List AV} {H0 : List Ent} {keep : List Nat} {args : List AV} {st : St} {K : AV → St → Prop}
  (ha : args = AV.renL sel st.H.length args0) (hlen : sel.length = H0.length) (hnd : sel.Nodup) (hlt : ∀ k ∈ sel, k < st.H.length) (hH : sel.map (fun k => st.H[k]?) = (renH sel st.H.length H0).map some)
  (hb : AV.bndL H0.length args0 = true) (hbH : bndH H0.length H0 = true) (hkeep : ∀ k ∈ keep, k ∉ sel ∧ k < st.H.length)
  (hc : c args0 H0 fun x H' => K (x.ren sel st.H.length) ⟨killTs st.T (rowIds sel H0), putE (killHs st.H (rowIds sel H0)) sel (renH sel st.H.length H')⟩) : CallG P keep f args st K := by
 refine ⟨fun C a w r pub vals h hv => ?_⟩
 let r0 : Rho := fun i => if i < sel.length then r (sigma sel st.H.length i) else none
 have hr0 : ∀ i y, r0 i = some y → i < sel.length ∧ r (sigma sel st.H.length i) = some y := fun i y hy => by
  by_cases hi : i < sel.length
  ·simp only [r0, if_pos hi] at hy; exact ⟨hi, hy⟩
  ·simp only [r0, if_neg hi] at hy; cases hy
 have hr0' : ∀ i, i < sel.length → r0 i = r (sigma sel st.H.length i) := fun i hi => if_pos hi
 have hsi : ∀ i (hi : i < sel.length), sigma sel st.H.length i = sel[i] := fun i hi => sigma_lt hi
 have hinj : ∀ i j, i < sel.length → j < sel.length → sigma sel st.H.length i = sigma sel st.H.length j → i = j := fun i j hi hj e => by
  rw [hsi i hi, hsi j hj] at e
  exact nodup_inj hnd e
 have hent : ∀ i e, H0[i]? = some e → st.H[sigma sel st.H.length i]? = some (e.ren sel st.H.length) := fun i e he => by
  have hi : i < sel.length := by rw [hlen]; exact (List.getElem?_eq_some_iff.1 he).1
  have h1 := congrArg (fun l => l[i]?) hH
  simp only [List.getElem?_map, renH_map, he, Option.map_some, List.getElem?_eq_getElem hi] at h1
  rw [hsi i hi]
  simpa using h1
 -- what the callee is handed
 have hm0 : Mod pub w r0 H0 := by
  refine ⟨fun i e he => ?_, fun i hi => if_neg (by omega), fun i j x y hij hx hy => ?_, h.mod.fresh, h.mod.there, h.mod.glob⟩
  ·have hi : i < sel.length := by rw [hlen]; exact (List.getElem?_eq_some_iff.1 he).1
   have he1 := h.mod.ent _ _ (hent i e he)
   have hbe := bndH_get hbH i e he
   rw [hr0' i hi]
   exact he1.unren hbe fun k y hkb hy => by rw [hr0' k (by omega)]; exact hy
  ·obtain ⟨hi, hx⟩ := hr0 i x hx
   obtain ⟨hj, hy⟩ := hr0 j y hy
   exact h.mod.disj _ _ x y (fun e => hij (hinj i j hi hj e)) hx hy
 have hv0 : VRels pub w r0 args0 vals.toList := by
  subst ha
  refine ⟨by have := hv.len; rw [AV.renL_map, List.length_map] at this; exact this, fun q x u hx hu => ?_⟩
  refine (hv.at_ q (x.ren sel st.H.length) u (by rw [AV.renL_map, List.getElem?_map, hx]; rfl) hu).unren x rfl fun k y hk hy => ?_
  have hkb : k < H0.length := AV.bnd_has _ (AV.bndL_mem hx hb) hk
  rw [hr0' k (by omega)]
  exact hy
 refine (hf args0 H0 _ hc w r0 pub vals hm0 hv0).mono fun e w' hpost => ?_
 obtain ⟨v, x, H', r1, pub', rfl, hK, hvx, hm1, hfr, hown, hstab, hlen'⟩ := hpost
 -- the handles behind the call
 let r' : Rho := fun k => match sel.idxOf? k with
  | some i => r1 i
  | none => if st.H.length ≤ k then r1 (sel.length + (k - st.H.length)) else r k
 have hr'sel : ∀ i (hi : i < sel.length), r' sel[i] = r1 i := fun i hi => by
  have : sel.idxOf? sel[i] = some i := by
   rw [List.idxOf?_eq_some_iff]
   exact ⟨hi, rfl, fun j hj => by
    intro e
    have := nodup_inj hnd e
    omega⟩
  simp only [r', this]
 have hidx : ∀ k, k ∉ sel → sel.idxOf? k = none := fun k hk => by rw [List.idxOf?_eq_none_iff]; exact hk
 have hr'new : ∀ k, st.H.length ≤ k → r' k = r1 (sel.length + (k - st.H.length)) := fun k hk => by
  have hkn : k ∉ sel := fun hk' => by have := hlt k hk'; omega
  simp only [r', hidx k hkn, if_pos hk]
 have hr'old : ∀ k, k ∉ sel → k < st.H.length → r' k = r k := fun k hk hkl => by
  simp only [r', hidx k hk, if_neg (by omega : ¬ st.H.length ≤ k)]
 have hsig : ∀ i, r' (sigma sel st.H.length i) = r1 i := fun i => by
  by_cases hi : i < sel.length
  ·rw [hsi i hi]; exact hr'sel i hi
  ·rw [sigma_ge (by omega), hr'new _ (by omega)]
   congr 1
   omega
 have hcase : ∀ k, (∃ i, sigma sel st.H.length i = k) ∨ (k ∉ sel ∧ k < st.H.length) := fun k => by
  by_cases hk : k ∈ sel
  ·obtain ⟨i, hi, rfl⟩ := List.getElem_of_mem hk
   exact .inl ⟨i, hsi i hi⟩
  ·by_cases hkl : k < st.H.length
   ·exact .inr ⟨hk, hkl⟩
   ·exact .inl ⟨sel.length + (k - st.H.length), by rw [sigma_ge (by omega)]; omega⟩
 have hsinj : ∀ i j, sigma sel st.H.length i = sigma sel st.H.length j → i = j := fun i j e => by
  by_cases hi : i < sel.length
  ·by_cases hj : j < sel.length
   ·exact hinj i j hi hj e
   ·rw [hsi i hi, sigma_ge (by omega)] at e
    have := hlt sel[i] (List.getElem_mem hi)
    omega
  ·by_cases hj : j < sel.length
   ·rw [hsi j hj, sigma_ge (by omega)] at e
    have := hlt sel[j] (List.getElem_mem hj)
    omega
   ·rw [sigma_ge (by omega), sigma_ge (by omega)] at e
    omega
 -- the other entries' blocks
 have hfoot : ∀ k y, k ∉ sel → r k = some y → ∀ b ∈ foot y, ¬ Foot r0 b := fun k y hk hy b hb' ⟨i, z, hz, hbz⟩ => by
  obtain ⟨hi, hz⟩ := hr0 i z hz
  rw [hsi i hi] at hz
  exact h.mod.disj k sel[i] y z (fun e => hk (by rw [e]; exact List.getElem_mem hi)) hy hz b hb' hbz
 have hkeepr : ∀ n y, without r (rowIds sel H0) n = some y → r' n = some y := fun n y hy => by
  unfold without at hy
  split at hy
  ·cases hy
  ·rename_i hnr
   by_cases hn : n ∈ sel
   ·obtain ⟨i, hi, rfl⟩ := List.getElem_of_mem hn
    rw [hr'sel i hi]
    refine hstab i y (by rw [hr0' i hi, hsi i hi]; exact hy) ?_
    -- a slice's handle is a row's
    have hi0 : i < H0.length := by omega
    have he := hm0.ent i _ (List.getElem?_eq_getElem hi0)
    rw [hr0' i hi, hsi i hi, hy] at he
    refine he.turns ?_
    cases ht : H0[i].turns with
    | false => rfl
    | true => exact absurd (rowIds_of (List.getElem?_eq_getElem hi0) ht hi) hnr
   ·have hnl : n < st.H.length := by
     rcases Nat.lt_or_ge n st.H.length with h1 | h1
     ·exact h1
     ·rw [h.mod.none_ n h1] at hy; cases hy
    rw [hr'old n hn hnl]
    exact hy
 have hsl : sel.length ≤ (renH sel st.H.length H').length := by rw [renH_map, List.length_map]; omega
 have hkl := killHs_len (rowIds sel H0) st.H
 have hnl : (putE (killHs st.H (rowIds sel H0)) sel (renH sel st.H.length H')).length = st.H.length + (H'.length - sel.length) := by
  rw [putE_len _ _ _ hsl, hkl, renH_map, List.length_map]
 have hownb : ∀ b, Foot r0 b → C.S b ∨ C.w.heap.size ≤ b := fun b ⟨i, z, hz, hbz⟩ => by
  obtain ⟨hi, hz⟩ := hr0 i z hz
  exact h.own _ z hz b hbz
 have hmod : Mod pub' w' r' (putE (killHs st.H (rowIds sel H0)) sel (renH sel st.H.length H')) := by
  refine ⟨fun k e he => ?_, fun k hk => ?_, fun i j x y hij hx hy => ?_, hm1.fresh, hm1.there, hm1.glob⟩
  ·rcases putE_get sel _ _ k e hnd (fun q hq => by rw [hkl]; exact hlt q hq) hsl he with ⟨i, hi, hL⟩ | ⟨hk, hkl2, he2⟩
   ·rw [hkl] at hi
    subst hi
    rw [hsig i]
    rw [renH_map, List.getElem?_map] at hL
    cases hq : H'[i]? with
    | none => rw [hq] at hL; cases hL
    | some e1 =>
     rw [hq] at hL
     cases hL
     have he1 := hm1.ent i e1 hq
     exact he1.ren fun m y hy => by rw [hsig m]; exact hy
   ·rw [hkl] at hkl2
    rw [hr'old k hk hkl2]
    obtain ⟨e0, h0, h1⟩ := killHs_get (pub := pub') (w := w') (hd := r k) (rowIds sel H0) st.H r k e he2
    have he0 := (h.mod.ent k e0 h0).frm (r' := r) hfr (fun y hy b hb => hfoot k y hk hy b hb) (fun _ _ h => h)
    exact (h1 he0).frm (S := fun _ => False) (Fr.refl _ _ _) (fun _ _ _ _ h => h) hkeepr
  ·rw [hnl] at hk
   rw [hr'new k (by omega)]
   exact hm1.none_ _ (by omega)
  ·-- apart
   have far : ∀ i k y z, r1 i = some y → k ∉ sel → k < st.H.length → r k = some z → ∀ b ∈ foot y, b ∉ foot z := fun i k y z hy hk hkl hz b hb' hbz => by
    rcases hown b ⟨i, y, hy, hb'⟩ with h1 | h1
    ·exact hfoot k z hk hz b hbz h1
    ·have := h.mod.foot_lt hz b hbz
     omega
   rcases hcase i with ⟨i0, rfl⟩ | ⟨hi1, hi2⟩
   ·rw [hsig i0] at hx
    rcases hcase j with ⟨j0, rfl⟩ | ⟨hj1, hj2⟩
    ·rw [hsig j0] at hy
     exact hm1.disj i0 j0 x y (fun e => hij (by rw [e])) hx hy
    ·rw [hr'old j hj1 hj2] at hy
     exact far i0 j x y hx hj1 hj2 hy
   ·rw [hr'old i hi1 hi2] at hx
    rcases hcase j with ⟨j0, rfl⟩ | ⟨hj1, hj2⟩
    ·rw [hsig j0] at hy
     exact fun b hb' hby => far j0 i y x hy hi1 hi2 hx b hby hb'
    ·rw [hr'old j hj1 hj2] at hy
     exact h.mod.disj i j x y hij hx hy
 refine ⟨v, _, _, r', pub', rfl, hvx.ren (fun k y hy => by rw [hsig k]; exact hy), hK, ⟨hmod, fun k y hy b hb' => ?_, h.fr.trans hfr (fun b hb' => hownb b hb'), fun n => ?_, h.defers, h.size, fun k y hy hs => ?_, ⟨h.low.1, by dsimp only; rw [hnl]; have := h.low.2; omega⟩⟩, hfr.ext, fun k hk => ?_⟩
 ·rcases hcase k with ⟨i0, rfl⟩ | ⟨hk1, hk2⟩
  ·rw [hsig i0] at hy
   rcases hown b ⟨i0, y, hy, hb'⟩ with h1 | h1
   ·exact hownb b h1
   ·right; have := h.fr.size; omega
  ·rw [hr'old k hk1 hk2] at hy
   exact h.own k y hy b hb'
 ·exact ((killTs_get (rowIds sel H0) st.T r (h.slots n)).ext hfr.ext).mono hkeepr
 ·have h1 := h.stab k y hy hs
  have hkl3 : k < st.H.length := by
   rcases Nat.lt_or_ge k st.H.length with h2 | h2
   ·exact h2
   ·rw [h.mod.none_ k h2] at h1; cases h1
  by_cases hk : k ∈ sel
  ·obtain ⟨i, hi, rfl⟩ := List.getElem_of_mem hk
   rw [hr'sel i hi]
   exact hstab i y (by rw [hr0' i hi, hsi i hi]; exact h1) hs
  ·rw [hr'old k hk hkl3]
   exact h1
 ·obtain ⟨hk1, hk2⟩ := hkeep k hk
  refine ⟨hr'old k hk1 hk2, fun y hy b hb' => (hfr.keep b (h.mod.foot_lt hy b hb') (hfoot k y hk1 hy b hb')).1⟩
mutual
theorem AV.ren_id {s : List Nat} {base : Nat} : ∀ (x : AV), x.bnd 0 = true → x.ren s base = x
 | .any, _ => by unfold AV.ren; rfl
 | .bl _, _ => by unfold AV.ren; rfl
 | .int _ _, _ => by unfold AV.ren; rfl
 | .str _, _ => by unfold AV.ren; rfl
 | .v _, _ => by unfold AV.ren; rfl
 | .sl _ _, _ => by unfold AV.ren; rfl
 | .rp _ _, _ => by unfold AV.ren; rfl
 | .ptr k _, h => by simp [AV.bnd] at h
 | .hd k, h => by simp [AV.bnd] at h
 | .ph k, h => by simp [AV.bnd] at h
 | .re k _ _ _, h => by simp [AV.bnd] at h
 | .agg l, h => by unfold AV.ren; rw [AV.renL_id l (by simpa [AV.bnd] using h)]
 | .tup l, h => by unfold AV.ren; rw [AV.renL_id l (by simpa [AV.bnd] using h)]
 | .clo f l, h => by unfold AV.ren; rw [AV.renL_id l (by simpa [AV.bnd] using h)]
theorem AV.renL_id {s : List Nat} {base : Nat} : ∀ (l : List AV), AV.bndL 0 l = true → AV.renL s base l = l
 | [], _ => by unfold AV.renL; rfl
 | x :: l, h => by
  simp only [AV.bndL, Bool.and_eq_true] at h
  unfold AV.renL
  rw [AV.ren_id x h.1, AV.renL_id l h.2]
end
theorem callG_pure {P : Program} {f : Nat} {c : Ctr} (hf : FnOk P f c) (hmono : ∀ args H (K K' : AV → List Ent → Prop), (∀ x H, K x H → K' x H) → c args H K → c args H K') {keep : List Nat} {args : List AV} {st : St} {K : AV → St → Prop} (hb : AV.bndL 0 args = true) (hk : ∀ k ∈ keep, k < st.H.length)
  (hc : c args [] fun x H' => H' = [] ∧ x.bnd 0 = true ∧ K x st) : CallG P keep f args st K := by
 refine callG_of hf [] (args0 := args) (H0 := []) (AV.renL_id args hb).symm rfl List.nodup_nil (by simp) rfl hb rfl (fun k hkk => ⟨by simp, hk k hkk⟩) (hmono _ _ _ _ (fun x H' h => ?_) hc)
 obtain ⟨rfl, hx, hK⟩ := h
 rw [AV.ren_id x hx]
 simpa [rowIds, killTs, killHs, putE, renH] using hK
theorem nat_cast_back (n : Nat) : (NatCast.natCast n : Int) = (n : Int) := rfl
def spec {ι : Type} (a : ι → List AV) (h : ι → List Ent) (p : ι → Prop) (r : ι → AV) (h' : ι → List Ent) : Ctr := fun args H K => ∃ i, args = a i ∧ H = h i ∧ p i ∧ K (r i) (h' i)
theorem spec_mono {ι : Type} {a : ι → List AV} {h : ι → List Ent} {p : ι → Prop} {r : ι → AV} {h' : ι → List Ent} : ∀ args H (K K' : AV → List Ent → Prop), (∀ x H, K x H → K' x H) → spec a h p r h' args H K → spec a h p r h' args H K' :=
 fun _ _ _ _ hk ⟨i, h1, h2, h3, h4⟩ => ⟨i, h1, h2, h3, hk _ _ h4⟩
theorem callG_spec0 {P : Program} {f : Nat} {ι : Type} {a : ι → List AV} {p : ι → Prop} {r : ι → AV} (hf : FnOk P f (spec a (fun _ => []) p r fun _ => [])) (i : ι) {keep : List Nat} {st : St} {K : AV → St → Prop} (hp : p i) (hb : AV.bndL 0 (a i) = true) (hr : (r i).bnd 0 = true) (hk : (keep.all fun k => Nat.blt k st.H.length) = true) (hK : K (r i) st) : CallG P keep f (a i) st K :=
 callG_pure hf spec_mono hb (fun k hkk => by have := List.all_eq_true.1 hk k hkk; simpa [Nat.blt_eq] using this) ⟨i, rfl, rfl, hp, rfl, hr, hK⟩
inductive Le1 : AV → AV → Prop
 | refl (x : AV) : Le1 x x
 | nil (sz : Nat) : Le1 (.v (.slice none 0 0)) (.sl sz [])
inductive LeL : List AV → List AV → Prop
 | nil : LeL [] []
 | cons {x y : AV} {l m : List AV} (h : Le1 x y) (hl : LeL l m) : LeL (x :: l) (y :: m)
inductive Le0 : AV → AV → Prop
 | one {x y : AV} (h : Le1 x y) : Le0 x y
 | agg {l m : List AV} (h : LeL l m) : Le0 (.agg l) (.agg m)
inductive LeL0 : List AV → List AV → Prop
 | nil : LeL0 [] []
 | cons {x y : AV} {l m : List AV} (h : Le0 x y) (hl : LeL0 l m) : LeL0 (x :: l) (y :: m)
inductive Le : AV → AV → Prop
 | one {x y : AV} (h : Le0 x y) : Le x y
 | tup {l m : List AV} (h : LeL0 l m) : Le (.tup l) (.tup m)
inductive LeE : Ent → Ent → Prop
 | refl (e : Ent) : LeE e e
 | blk {t : TypeId} {l m : List AV} (h : LeL l m) : LeE (.blk t l) (.blk t m)
 | row {t : TypeId} {sz : Nat} {l m : List AV} (h : LeL0 l m) : LeE (.row t sz l) (.row t sz m)
inductive LeH : List Ent → List Ent → Prop
 | nil : LeH [] []
 | cons {x y : Ent} {l m : List Ent} (h : LeE x y) (hl : LeH l m) : LeH (x :: l) (y :: m)
section
variable {pub : Pub} {w : World} {r : Rho}
theorem Le.refl (x : AV) : Le x x := .one (.one (.refl x))
theorem LeH.refl : ∀ l, LeH l l
 | [] => .nil
 | e :: l => .cons (.refl e) (LeH.refl l)
theorem Le1.to {x y : AV} (h : Le1 x y) {v : Value} (hv : VRel pub w r x v) : VRel pub w r y v := by
 cases h with
 | refl => exact hv
 | nil sz =>
  cases hv
  exact .sl (A := none) (c := 0) (xs := []) (Nat.le_refl _) (by unfold maxLen; omega) (fun _ => ⟨rfl, rfl⟩) (fun x hx => by cases hx) (fun _ _ => undef) (fun i x j u hx => by simp at hx) (fun i x j u hx => by simp at hx)
theorem LeL.to {l m : List AV} (h : LeL l m) : ∀ {us : List Value}, VRels pub w r l us → VRels pub w r m us := by
 induction h with
 | nil => exact fun h => h
 | cons h1 _ ih =>
  intro us hu
  obtain ⟨u, us', rfl, h2, h3⟩ := hu.cons_inv
  exact .cons (h1.to h2) (ih h3)
theorem Le0.to {x y : AV} (h : Le0 x y) {v : Value} (hv : VRel pub w r x v) : VRel pub w r y v := by
 cases h with
 | one h => exact h.to hv
 | agg h =>
  cases hv with
  | agg hl h1 =>
   have := h.to (us := _) ⟨(Array.length_toList).trans hl, fun i x u hx hu => h1 i x u hx (by simpa using hu)⟩
   exact .agg (by simpa using this.len) fun i x u hx hu => this.at_ i x u hx (by simpa using hu)
theorem LeL0.to {l m : List AV} (h : LeL0 l m) : ∀ {us : List Value}, VRels pub w r l us → VRels pub w r m us := by
 induction h with
 | nil => exact fun h => h
 | cons h1 _ ih =>
  intro us hu
  obtain ⟨u, us', rfl, h2, h3⟩ := hu.cons_inv
  exact .cons (h1.to h2) (ih h3)
theorem Le.to {x y : AV} (h : Le x y) {v : Value} (hv : VRel pub w r x v) : VRel pub w r y v := by
 cases h with
 | one h => exact h.to hv
 | tup h =>
  cases hv with
  | tup hl h1 =>
   have := h.to (us := _) ⟨(Array.length_toList).trans hl, fun i x u hx hu => h1 i x u hx (by simpa using hu)⟩
   exact .tup (by simpa using this.len) fun i x u hx hu => this.at_ i x u hx (by simpa using hu)
theorem LeL.refl : ∀ l, LeL l l
 | [] => .nil
 | x :: l => .cons (.refl x) (LeL.refl l)
theorem LeL.app {a b : List AV} (h : LeL a b) {c d : List AV} (k : LeL c d) : LeL (a ++ c) (b ++ d) := by
 induction h with
 | nil => exact k
 | cons h1 _ ih => exact .cons h1 ih
theorem LeL.len {a b : List AV} (h : LeL a b) : b.length = a.length := by
 induction h with
 | nil => rfl
 | cons _ _ ih => simp [ih]
theorem LeL.one {a b : List AV} (h : LeL a b) : a.all AV.one = true → b.all AV.one = true := by
 induction h with
 | nil => exact fun h => h
 | cons h1 _ ih =>
  intro h2
  simp only [List.all_cons, Bool.and_eq_true] at h2 ⊢
  exact ⟨by cases h1 with | refl => exact h2.1 | nil => rfl, ih h2.2⟩
theorem Le0.cells {x y : AV} (h : Le0 x y) : LeL x.cells y.cells := by
 cases h with
 | one h => cases h with
  | refl => exact LeL.refl _
  | nil sz => exact .cons (.nil sz) .nil
 | agg h => exact h
theorem LeL0.flat {a b : List AV} (h : LeL0 a b) : LeL (a.flatMap AV.cells) (b.flatMap AV.cells) := by
 induction h with
 | nil => exact .nil
 | cons h1 _ ih => simp only [List.flatMap_cons]; exact h1.cells.app ih
theorem LeL0.len {a b : List AV} (h : LeL0 a b) : b.length = a.length := by
 induction h with
 | nil => rfl
 | cons _ _ ih => simp [ih]
theorem LeL0.each {a b : List AV} (h : LeL0 a b) {sz : Nat} : (∀ x ∈ a, x.cells.length = sz ∧ x.cells.all AV.one = true) → ∀ x ∈ b, x.cells.length = sz ∧ x.cells.all AV.one = true := by
 induction h with
 | nil => exact fun h => h
 | cons h1 _ ih =>
  intro h2 y hy
  rcases List.mem_cons.1 hy with rfl | hy
  ·have := h2 _ (List.mem_cons_self ..)
   exact ⟨by rw [h1.cells.len]; exact this.1, h1.cells.one this.2⟩
  ·exact ih (fun x hx => h2 x (List.mem_cons_of_mem _ hx)) y hy
theorem LeE.to {x y : Ent} (h : LeE x y) {v : Option Value} (hv : ERel pub w r v x) : ERel pub w r v y := by
 cases h with
 | refl => exact hv
 | blk h => cases hv with | blk hb hc hp => exact .blk hb (h.to hc) hp
 | row h => cases hv with | row ho hc hs hp => rw [← h.len] at ho ⊢; exact .row ho (h.flat.to hc) (h.each hs) hp
theorem LeH.get {l m : List Ent} (h : LeH l m) : ∀ {i : Nat} {e : Ent}, m[i]? = some e → ∃ d, l[i]? = some d ∧ LeE d e := by
 induction h with
 | nil => intro i e h; simp at h
 | cons h1 _ ih =>
  intro i e he
  cases i with
  | zero => simp at he; subst he; exact ⟨_, rfl, h1⟩
  | succ i => simpa using ih (by simpa using he)
theorem LeH.len {l m : List Ent} (h : LeH l m) : m.length = l.length := by
 induction h with
 | nil => rfl
 | cons _ _ ih => simp [ih]
theorem Mod.le {H H2 : List Ent} (h : Mod pub w r H) (hl : LeH H H2) : Mod pub w r H2 := by
 refine ⟨fun i e he => ?_, fun i hi => h.none_ i (by rw [← hl.len]; exact hi), h.disj, h.fresh, h.there, h.glob⟩
 obtain ⟨d, hd, hde⟩ := hl.get he
 exact hde.to (h.ent i d hd)
end
def selOk (s : List Nat) : Nat → List Ent → Bool
 | _, [] => true
 | n, e :: H => ((match s[n]? with | some k => k == n | none => false) || e.turns) && selOk s (n + 1) H
theorem selOk_at {s : List Nat} : ∀ {n : Nat} {H : List Ent}, selOk s n H = true → ∀ (k : Nat) (e : Ent), H[k]? = some e → s[n + k]? = some (n + k) ∨ e.turns = true
 | n, [], h, k, e, he => by simp at he
 | n, d :: H, h, k, e, he => by
  unfold selOk at h
  simp only [Bool.and_eq_true] at h
  cases k with
  | zero =>
   simp at he
   subst he
   rw [Bool.or_eq_true] at h
   rcases h.1 with h1 | h1
   ·left
    split at h1
    ·rename_i q hq; simp at h1; subst h1; exact hq
    ·cases h1
   ·exact .inr h1
  | succ k =>
   have := selOk_at h.2 k e (by simpa using he)
   rw [show n + (k + 1) = n + 1 + k by omega]
   exact this
structure CutK (H : List Ent) (K : AV → List Ent → Prop) (x : AV) (H' : List Ent) : Prop where
 out : ∃ (s : List Nat) (x2 : AV) (H2 : List Ent) (x3 : AV) (H3 : List Ent), x = x2.ren s 0 ∧ s.map (fun k => H'[k]?) = (renH s 0 H2).map some ∧ s.Nodup ∧ selOk s 0 H = true ∧ H.length ≤ s.length ∧ x2.bnd H2.length = true ∧ bndH H2.length H2 = true ∧ Le x2 x3 ∧ LeH H2 H3 ∧ K x3 H3
theorem FnPost.cut {K : AV → List Ent → Prop} {H : List Ent} {w w' : World} {r : Rho} {pub : Pub} {e : Ending} (hm : Mod pub w r H) (h : FnPost (CutK H K) H w r pub e w') : FnPost K H w r pub e w' := by
 obtain ⟨v, x, H', r1, pub', rfl, ⟨⟨s, x2, H2, x3, H3, rfl, hH, hnd, htk, hM, hbx, hbH, hx3, hH3, hK⟩⟩, hvx, hm1, hfr, hown, hstab, hlen'⟩ := h
 have hlen : s.length = H2.length := by have := congrArg List.length hH; simpa [renH_map] using this
 have hsi : ∀ i (hi : i < s.length), sigma s 0 i = s[i] := fun i hi => sigma_lt hi
 let r0 : Rho := fun i => if i < s.length then r1 (sigma s 0 i) else none
 have hr0 : ∀ i y, r0 i = some y → i < s.length ∧ r1 (sigma s 0 i) = some y := fun i y hy => by
  by_cases hi : i < s.length
  ·simp only [r0, if_pos hi] at hy; exact ⟨hi, hy⟩
  ·simp only [r0, if_neg hi] at hy; cases hy
 have hr0' : ∀ i, i < s.length → r0 i = r1 (sigma s 0 i) := fun i hi => if_pos hi
 have hinj : ∀ i j, i < s.length → j < s.length → sigma s 0 i = sigma s 0 j → i = j := fun i j hi hj e => by
  rw [hsi i hi, hsi j hj] at e
  exact nodup_inj hnd e
 have hent : ∀ i e, H2[i]? = some e → H'[sigma s 0 i]? = some (e.ren s 0) := fun i e he => by
  have hi : i < s.length := by rw [hlen]; exact (List.getElem?_eq_some_iff.1 he).1
  have h1 := congrArg (fun l => l[i]?) hH
  simp only [List.getElem?_map, renH_map, he, Option.map_some, List.getElem?_eq_getElem hi] at h1
  rw [hsi i hi]
  simpa using h1
 have hm0 : Mod pub' w' r0 H2 := by
  refine ⟨fun i e he => ?_, fun i hi => if_neg (by omega), fun i j x y hij hx hy => ?_, hm1.fresh, hm1.there, hm1.glob⟩
  ·have hi : i < s.length := by rw [hlen]; exact (List.getElem?_eq_some_iff.1 he).1
   have he1 := hm1.ent _ _ (hent i e he)
   have hbe := bndH_get hbH i e he
   rw [hr0' i hi]
   exact he1.unren hbe fun k y hkb hy => by rw [hr0' k (by omega)]; exact hy
  ·obtain ⟨hi, hx⟩ := hr0 i x hx
   obtain ⟨hj, hy⟩ := hr0 j y hy
   exact hm1.disj _ _ x y (fun e => hij (hinj i j hi hj e)) hx hy
 refine ⟨v, x3, H3, r0, pub', rfl, hK, hx3.to (hvx.unren x2 rfl fun k y hk hy => ?_), hm0.le hH3, hfr, fun b ⟨k, y, hy, hb⟩ => hown b ⟨_, y, (hr0 k y hy).2, hb⟩, fun k y hy hs => ?_, by have := hH3.len; omega⟩
 ·have hkb := AV.bnd_has _ hbx hk
  rw [hr0' k (by omega)]
  exact hy
 ·have h1 := hstab k y hy hs
  have hk : k < H.length := by
   rcases Nat.lt_or_ge k H.length with h2 | h2
   ·exact h2
   ·rw [hm.none_ k h2] at hy; cases hy
  have he := List.getElem?_eq_getElem hk
  rcases selOk_at htk k _ he with h2 | h2
  ·rw [Nat.zero_add] at h2
   have hks := (List.getElem?_eq_some_iff.1 h2)
   obtain ⟨h3, h4⟩ := hks
   rw [hr0' k h3, hsi k h3, h4]
   exact h1
  ·exfalso
   have h3 := hm.ent k _ he
   rw [hy] at h3
   generalize H[k] = en at h2 h3
   cases h3 <;> first | (cases h2; done) | (cases hs; done)
theorem sigma_range {n k : Nat} (h : k < n) : sigma (List.range n) 0 k = k := by
 rw [sigma_lt (by rw [List.length_range]; exact h), List.getElem_range]
mutual
theorem AV.ren_range {n : Nat} : ∀ (x : AV), x.bnd n = true → x.ren (List.range n) 0 = x
 | .any, _ => by unfold AV.ren; rfl
 | .bl _, _ => by unfold AV.ren; rfl
 | .int _ _, _ => by unfold AV.ren; rfl
 | .str _, _ => by unfold AV.ren; rfl
 | .v _, _ => by unfold AV.ren; rfl
 | .sl _ _, _ => by unfold AV.ren; rfl
 | .rp _ _, _ => by unfold AV.ren; rfl
 | .ptr k o, h => by unfold AV.ren; rw [sigma_range (by simpa [AV.bnd] using h)]
 | .hd k, h => by unfold AV.ren; rw [sigma_range (by simpa [AV.bnd] using h)]
 | .ph k, h => by unfold AV.ren; rw [sigma_range (by simpa [AV.bnd] using h)]
 | .re k _ _ _, h => by unfold AV.ren; rw [sigma_range (by simpa [AV.bnd] using h)]
 | .agg l, h => by unfold AV.ren; rw [AV.renL_range l (by simpa [AV.bnd] using h)]
 | .tup l, h => by unfold AV.ren; rw [AV.renL_range l (by simpa [AV.bnd] using h)]
 | .clo f l, h => by unfold AV.ren; rw [AV.renL_range l (by simpa [AV.bnd] using h)]
theorem AV.renL_range {n : Nat} : ∀ (l : List AV), AV.bndL n l = true → AV.renL (List.range n) 0 l = l
 | [], _ => by unfold AV.renL; rfl
 | x :: l, h => by
  simp only [AV.bndL, Bool.and_eq_true] at h
  unfold AV.renL
  rw [AV.ren_range x h.1, AV.renL_range l h.2]
end
theorem renH_range {n : Nat} : ∀ (l : List Ent), bndH n l = true → renH (List.range n) 0 l = l
 | [], _ => by unfold renH; rfl
 | e :: l, h => by
  simp only [bndH, Bool.and_eq_true] at h
  unfold renH
  rw [renH_range l h.2]
  congr 1
  cases e with
  | blk t cs => show Ent.blk t (AV.renL (List.range n) 0 cs) = _; rw [AV.renL_range cs (by simpa [bndE] using h.1)]
  | hrow t sz m cs => show Ent.hrow t sz m (AV.renL (List.range n) 0 cs) = _; rw [AV.renL_range cs (by simpa [bndE] using h.1)]
  | iter x a b => show Ent.iter (AV.ren (List.range n) 0 x) a b = _; rw [AV.ren_range x (by simpa [bndE] using h.1)]
  | pool t es outs =>
   show Ent.pool t es (outs.map fun p => (p.1, AV.ren (List.range n) 0 p.2)) = _
   have h1 : AV.bndL n (outs.map fun (p : Nat × AV) => p.2) = true := h.1
   clear h
   congr 1
   induction outs with
   | nil => rfl
   | cons p outs ih =>
    simp only [List.map_cons, AV.bndL, Bool.and_eq_true] at h1 ⊢
    rw [ih h1.2, AV.ren_range p.2 h1.1]
  | _ => rfl
theorem CutK.pre {H : List Ent} {K : AV → List Ent → Prop} {x : AV} {H' : List Ent} (H2 : List Ent) {x3 : AV} {H3 : List Ent} (hH : H'.take H2.length = H2) (hM : H.length ≤ H2.length) (hb : x.bnd H2.length = true) (hbH : bndH H2.length H2 = true) (hx : Le x x3) (hl : LeH H2 H3) (hK : K x3 H3) : CutK H K x H' := by
 refine ⟨⟨List.range H2.length, x, H2, x3, H3, (AV.ren_range x hb).symm, ?_, List.nodup_range, ?_, by rw [List.length_range]; exact hM, hb, hbH, hx, hl, hK⟩⟩
 ·rw [renH_range _ hbH]
  refine List.ext_getElem? fun i => ?_
  rw [List.getElem?_map, List.getElem?_map]
  by_cases hi : i < H2.length
  ·rw [List.getElem?_range hi]
   have := congrArg (fun l => l[i]?) hH
   simp only [List.getElem?_take, if_pos hi] at this
   rw [List.getElem?_eq_getElem hi] at this ⊢
   simpa using this
  ·rw [List.getElem?_eq_none (by rw [List.length_range]; omega), List.getElem?_eq_none (by omega)]
   rfl
 ·have key : ∀ (n : Nat) (L : List Ent), n + L.length ≤ H2.length → selOk (List.range H2.length) n L = true := fun n L => by
   induction L generalizing n with
   | nil => intro _; rfl
   | cons e L ih =>
    intro hl
    simp only [List.length_cons] at hl
    unfold selOk
    rw [List.getElem?_range (by omega), ih (n + 1) (by omega)]
    simp
  exact key 0 H (by omega)
theorem CutK.val {K : AV → List Ent → Prop} {x : AV} {H' : List Ent} {x3 : AV} (hb : x.bnd 0 = true) (hx : Le x x3) (hK : K x3 []) : CutK [] K x H' := .pre [] (by simp) (Nat.le_refl _) hb rfl hx .nil hK
def BodyOk (P : Program) (x : XFn) (c : Ctr) : Prop := ∀ args H K, c args H K → args.length ≤ x.n ∧ XW P x.n H.length x.body (FinQ H.length x.res (CutK H K)) ⟨numT 0 args, H⟩
theorem body_ok {P : Program} {f : Nat} {x : XFn} {c : Ctr} (hx : cFn P f = some x) (h : BodyOk P x c) : FnOk P f c := fun args H K hc w r pub vals hm hv =>
 Calls.mono (fn_ok (fun args H K' => ∃ K, c args H K ∧ K' = CutK H K) hx (fun args H K' ⟨K, hc, e⟩ => by subst e; exact h args H K hc) args H _ ⟨K, hc, rfl⟩ w r pub vals hm hv) fun _ _ hp => FnPost.cut hm hp
def BodyOkS (P : Program) (x : XFn) (c : Ctr) : Prop := ∀ args H K, c args H K → args.length ≤ x.n ∧ SemW P x.n H.length x.body (FinQ H.length x.res (CutK H K)) ⟨numT 0 args, H⟩
theorem body_okS {P : Program} {f : Nat} {x : XFn} {c : Ctr} (hx : cFn P f = some x) (h : BodyOkS P x c) : FnOk P f c := fun args H K hc w r pub vals hm hv =>
 Calls.mono (fn_okS (fun args H K' => ∃ K, c args H K ∧ K' = CutK H K) hx (fun args H K' ⟨K, hc, e⟩ => by subst e; exact h args H K hc) args H _ ⟨K, hc, rfl⟩ w r pub vals hm hv) fun _ _ hp => FnPost.cut hm hp
abbrev mapA {α β : Type} (f : α → β) (l : List α) : List β := List.rec (motive := fun _ => List β) [] (fun a _ => List.cons (f a)) l
theorem mapA_eq {α β : Type} (f : α → β) (l : List α) : mapA f l = l.map f := by
 induction l with
 | nil => rfl
 | cons a l ih =>
  show f a :: mapA f l = f a :: l.map f
  rw [ih]
theorem mapA_len {α β : Type} (f : α → β) (l : List α) : (mapA f l).length = l.length := by rw [mapA_eq]; exact List.length_map f
theorem mapA_app {α β : Type} (f : α → β) (l m : List α) : mapA f (l ++ m) = mapA f l ++ mapA f m := by rw [mapA_eq, mapA_eq, mapA_eq]; exact List.map_append
theorem mapA_one {α β : Type} (f : α → β) (x : α) : mapA f [x] = [f x] := rfl
theorem mapA_nil {α β : Type} (f : α → β) : mapA f [] = [] := rfl
theorem callG_new {P : Program} {f : Nat} {ι : Type} {a : ι → List AV} {p : ι → Prop} {r : ι → AV} {h' : ι → List Ent} (hf : FnOk P f (spec a (fun _ => []) p r h')) (i : ι) {keep : List Nat} {st : St} {K : AV → St → Prop} (hp : p i) (hb : AV.bndL 0 (a i) = true) (hk : (keep.all fun k => Nat.blt k st.H.length) = true)
  (hK : K ((r i).ren [] st.H.length) ⟨st.T, st.H ++ renH [] st.H.length (h' i)⟩) : CallG P keep f (a i) st K := by
 refine callG_of hf [] (args0 := a i) (H0 := []) (AV.renL_id _ hb).symm rfl List.nodup_nil (by simp) rfl hb rfl (fun k hkk => ⟨by simp, by have := List.all_eq_true.1 hk k hkk; simpa [Nat.blt_eq] using this⟩) ⟨i, rfl, rfl, hp, ?_⟩
 simpa [rowIds, killTs, killHs, putE] using hK
theorem xloopT {P : Program} {N M : Nat} {c : XCode} {Q : XEx → St → Prop} {T : List (Nat × AV)} {H : List Ent} {ι : Type} (F : ι → List (Nat × AV)) (μ : ι → Ms) (i0 : ι) (hw : weakT T (F i0)) (hb : bndT H.length (F i0) = true) (hbH : bndH H.length H = true) (hM : M ≤ H.length)
  (hr : ∀ i, XW P N M c (XRound M (fun i => ⟨F i, H⟩) μ (μ i) Q) ⟨F i, H⟩) : XLoopG P N M c Q ⟨T, H⟩ :=
 xloop (fun i => ⟨F i, H⟩) μ i0 (Gh.weak hw (by simp) hb hbH hM) hr
theorem roundT {ι : Type} {M : Nat} {F : ι → List (Nat × AV)} {H : List Ent} {μ : ι → Ms} {n : Ms} {T : List (Nat × AV)} (j : ι) (hw : weakT T (F j)) (hb : bndT H.length (F j) = true) (hbH : bndH H.length H = true) (hM : M ≤ H.length) (hl : (μ j).val < n.val) : RoundK M (fun i => ⟨F i, H⟩) μ n ⟨T, H⟩ :=
 ⟨_, j, Gh.weak hw (by simp) hb hbH hM, rfl, hl⟩
abbrev nI (n : Nat) : Int := Int.ofNat n
theorem nI_eq (n : Nat) : nI n = (n : Int) := rfl
theorem nI_succ (n : Nat) : nI (n + 1) = nI n + 1 := rfl
theorem mapA_get {α β : Type} (f : α → β) (l : List α) {i : Nat} (h : i < l.length) : (mapA f l)[i]? = some (f l[i]) := by
 rw [mapA_eq, List.getElem?_map, List.getElem?_eq_getElem h]; rfl
theorem mapA_set {α β : Type} (f : α → β) (l : List α) {i : Nat} (h : i < l.length) {x : β} (hx : x = f l[i]) : (mapA f l).set i x = mapA f l := by
 subst hx; rw [mapA_eq]; exact List.ext_getElem? fun j => by
  rw [List.getElem?_set]
  split
  ·rename_i e; subst e
   rw [List.getElem?_map, List.getElem?_eq_getElem h, List.length_map, if_pos h]; rfl
  ·rfl
abbrev lft (n i : Nat) : Ms := ⟨n, i⟩
theorem lft_lt {n i : Nat} (h : i < n) : (lft n (i + 1)).val < (lft n i).val := by unfold Ms.val; dsimp only; omega
theorem num_lt {n m : Nat} (h : n < m) : (lft n 0).val < (lft m 0).val := by unfold Ms.val; dsimp only; omega
theorem round_ok {ι : Type} {M : Nat} {F : ι → St} {μ : ι → Ms} {n : Ms} {st : St} (j : ι) (hg : Gh M st (F j)) (hl : (μ j).val < n.val) : RoundK M F μ n st := ⟨_, j, hg, rfl, hl⟩
theorem upd_step {α : Type} (f : α → α) (L a : List α) {i : Nat} (hi : i < L.length) (ha : (L.take i).map f ++ L.drop i = a) : a.length = L.length ∧ a[i]? = some L[i] ∧ (L.take (i + 1)).map f ++ L.drop (i + 1) = a.set i (f L[i]) := by
 subst ha
 have hl : ((L.take i).map f).length = i := by rw [List.length_map, List.length_take]; omega
 refine ⟨by rw [List.length_append, hl, List.length_drop]; omega, by rw [List.getElem?_append_right (by omega), hl, List.getElem?_drop, Nat.sub_self, Nat.add_zero, List.getElem?_eq_getElem hi], ?_⟩
 rw [List.take_succ_eq_append_getElem hi, List.map_append, List.append_assoc, List.set_append, if_neg (by omega), hl, Nat.sub_self]
 congr 1
 rw [List.drop_eq_getElem_cons hi]
 rfl
theorem mapA_set_ {α β : Type} (f : α → β) (l : List α) (i : Nat) (y : α) : (mapA f l).set i (f y) = mapA f (l.set i y) := by rw [mapA_eq, mapA_eq, List.map_set]
theorem jump_ok {ι : Type} {M : Nat} {F : ι → St} {st : St} (j : ι) (hg : Gh M st (F j)) : JumpK M F st := ⟨_, j, hg, rfl⟩
theorem callG_spec {P : Program} {f : Nat} {ι : Type} {a : ι → List AV} {h : ι → List Ent} {p : ι → Prop} {r : ι → AV} {h' : ι → List Ent} (hf : FnOk P f (spec a h p r h')) (i : ι) (sel : List Nat) {keep : List Nat} {args : List AV} {st : St} {K : AV → St → Prop}
  (hp : p i) (ha : args = AV.renL sel st.H.length (a i)) (hlen : sel.length = (h i).length) (hnd : sel.Nodup) (hlt : (sel.all fun k => Nat.blt k st.H.length) = true) (hH : sel.map (fun k => st.H[k]?) = (renH sel st.H.length (h i)).map some)
  (hb : AV.bndL (h i).length (a i) = true) (hbH : bndH (h i).length (h i) = true) (hkeep : (keep.all fun k => !sel.contains k && Nat.blt k st.H.length) = true)
  (hK : K ((r i).ren sel st.H.length) ⟨killTs st.T (rowIds sel (h i)), putE (killHs st.H (rowIds sel (h i))) sel (renH sel st.H.length (h' i))⟩) : CallG P keep f args st K :=
 callG_of hf sel ha hlen hnd (fun k hk => by simpa [Nat.blt_eq] using List.all_eq_true.1 hlt k hk) hH hb hbH (fun k hk => by
  have := List.all_eq_true.1 hkeep k hk
  simp only [Bool.and_eq_true, Bool.not_eq_true', Nat.blt_eq] at this
  exact ⟨fun h => by rw [List.contains_eq_mem] at this; simp [h] at this, this.2⟩) ⟨i, rfl, rfl, hp, hK⟩
theorem callG_publish {P : Program} {f : Nat} {keep : List Nat} {args : List AV} {st : St} {K : AV → St → Prop} (k : Nat) {t sz : Nat} {xs : List AV} (hk : isRowE st.H[k]? = some (t, sz, xs))
  (h : CallG P keep f (args.map (St.view ⟨st.T, st.H.set k (.tip t sz xs)⟩)) ⟨st.T, st.H.set k (.tip t sz xs)⟩ K) : CallG P keep f args st K := by
 refine ⟨fun C a w r pub vals hh hv => ?_⟩
 have hk' : st.H[k]? = some (.row t sz xs) := by
  unfold isRowE at hk
  split at hk
  ·rename_i e he; cases hk; exact he
  ·cases hk
 obtain ⟨pub', h1, he⟩ := hh.publish hk'
 have hv1 : VRels pub' w r (args.map (St.view ⟨st.T, st.H.set k (.tip t sz xs)⟩)) vals.toList := ⟨by rw [List.length_map]; exact hv.len, fun i x u hx hu => by
  rw [List.getElem?_map] at hx
  cases hq : args[i]? with
  | none => rw [hq] at hx; cases hx
  | some q => rw [hq] at hx; cases hx; exact h1.view ((hv.at_ i q u hq hu).ext he)⟩
 refine (h.out C a w r pub' vals h1 hv1).mono fun e w' ⟨v, x, st', r', pub2, e1, e2, e3, e4, e5, e6⟩ => ⟨v, x, st', r', pub2, e1, e2, e3, e4, he.trans e5, e6⟩
def roCell (st : St) (x : Nat → Value) (j : Nat) (c : AV) : AV := match st.view1 c with
 | .ptr .. => .v (x j)
 | .hd _ => .v (x j)
 | .ph _ => .v (x j)
 | .re .. => .v (x j)
 | .clo .. => .v (x j)
 | y => y
def roCells (st : St) (x : Nat → Value) : Nat → List AV → List AV
 | _, [] => []
 | j, c :: l => roCell st x j c :: roCells st x (j + 1) l
def isScal : AV → Bool
 | .bl _ => true
 | .int _ _ => true
 | .str _ => true
 | .v _ => true
 | _ => false
theorem isScal_rel {pub pub' : Pub} {w w' : World} {r r' : Rho} {x : AV} {v : Value} (hs : isScal x = true) (h : VRel pub w r x v) : VRel pub' w' r' x v := by
 cases h with
 | bl b => exact .bl b
 | int k n => exact .int k n
 | str s => exact .str s
 | v => exact .v _ (by assumption)
 | _ => cases hs
theorem roCells_get (st : St) (x : Nat → Value) : ∀ (l : List AV) (j i : Nat), (roCells st x j l)[i]? = (l[i]?).map (roCell st x (j + i))
 | [], j, i => by simp [roCells]
 | c :: l, j, 0 => by simp [roCells]
 | c :: l, j, i + 1 => by simp [roCells, roCells_get st x l (j + 1) i]; rw [show j + 1 + i = j + (i + 1) by omega]
theorem roCells_len (st : St) (x : Nat → Value) : ∀ (l : List AV) (j : Nat), (roCells st x j l).length = l.length
 | [], j => rfl
 | c :: l, j => by simp [roCells, roCells_len st x l (j + 1)]
theorem callG_ro {P : Program} {f : Nat} {ι : Type} {a : ι → List AV} {p : ι → Prop} {r : ι → AV} (hf : FnOk P f (spec a (fun _ => []) p r fun _ => [])) (k : Nat) {keep : List Nat} {rest : List AV} {st : St} {K : AV → St → Prop} (i : (Nat → Value) → ι) {t : TypeId} {cs : List AV}
  (hk : st.H[k]? = some (.blk t cs)) (hcs : cs.all AV.one = true) (hbr : AV.bndL 0 rest = true) (_hkeep : (keep.all fun k => Nat.blt k st.H.length) = true) (hres : ∀ x, isScal (r (i x)) = true)
  (h : ∀ x : Nat → Value, (∀ j, (x j).oneCell' = true) → a (i x) = .rp (roCells st x 0 cs) 0 :: rest ∧ p (i x) ∧ K (r (i x)) st) : CallG P keep f (.ptr k 0 :: rest) st K := by
 refine ⟨fun C act w rh pub vals hh hv => ?_⟩
 obtain ⟨b, arr, hr, hb, hc, hp⟩ := hh.ent_blk hk
 obtain ⟨v0, vs, hvals, hv0, hvs⟩ := hv.cons_inv
 have hv0' : v0 = .pointer (some ⟨b, 0, none⟩) := by
  cases hv0 with
  | ptr off h1 => rw [hr] at h1; simp only [Option.some.injEq, Value.pointer.injEq, Addr.mk.injEq, and_true] at h1; subst h1; rfl
 subst hv0'
 let x : Nat → Value := fun j => if (arr.toList.getD j undef).oneCell' = true then arr.toList.getD j undef else .bool true
 have hx : ∀ j, (x j).oneCell' = true := fun j => by
  dsimp only [x]
  split
  ·assumption
  ·rfl
 obtain ⟨ha, hpi, hKi⟩ := h x hx
 let pub0 : Pub := fun q => if q = b then cs.length else pub q
 have hal : arr.size = cs.length := by have := hc.len; simpa using this
 have hcell : ∀ q, w.cell? ⟨b, q, none⟩ = arr[q]? := fun q => hb.all q
 have hblt : b < w.heap.size := hb.lt
 have ext0 : Ext pub w pub0 w := ⟨fun q => by dsimp only [pub0]; split; (· rename_i e; subst e; omega); exact Nat.le_refl _, fun _ _ _ _ h => h, fun _ _ _ h => h⟩
 have rel0 : ∀ (c : AV) (u : Value) (j : Nat), AV.one c = true → cs[j]? = some c → arr.toList[j]? = some u → VRel pub w rh c u → VRel pub0 w rho0 (roCell st x j c) u := fun c u j h1 hcj huj hcu => by
  have hone := hcu.one_ h1
  have hxj : x j = u := by
   dsimp only [x]
   rw [List.getD_eq_getElem?_getD, huj]
   exact if_pos hone
  have hvw := hh.view1 hcu
  unfold roCell
  generalize st.view1 c = c' at hvw
  cases hvw with
  | any => exact .any _
  | bl => exact .bl _
  | int => exact .int _ _
  | str => exact .str _
  | v _ h => exact .v _ h
  | agg hl hq => cases hone
  | tup hl hq => cases hone
  | ptr off h => rw [hxj]; exact .v _ rfl
  | hd h hh1 => rw [hxj]; exact .v _ hone
  | ph h h0 hh1 => rw [hxj]; exact .v _ hone
  | sl hc1 hm1 hn1 hs1 g hr1 hg1 => exact (VRel.sl (r := rho0) hc1 hm1 hn1 hs1 g hr1 hg1).ext ext0
  | rp j ho g hr1 hg1 => exact (VRel.rp (r := rho0) j ho g hr1 hg1).ext ext0
  | re sz i j h => rw [hxj]; exact .v _ rfl
  | clo f hl h => rw [hxj]; exact .v _ hone
 have hroOne : (roCells st x 0 cs).all AV.one = true := by
  rw [List.all_eq_true]
  intro y hy
  obtain ⟨j, hj⟩ := List.getElem?_of_mem hy
  rw [roCells_get] at hj
  cases hq : cs[j]? with
  | none => rw [hq] at hj; cases hj
  | some c =>
   rw [hq] at hj
   have hc1 := (List.all_eq_true.1 hcs) c (List.mem_of_getElem? hq)
   obtain ⟨u, hu, hcu⟩ := hc.get hq
   have := rel0 c u j hc1 hq hu hcu
   simp only [Option.map_some, Option.some.injEq, Nat.zero_add] at hj
   rw [← hj]
   have hvw := hh.view1 hcu
   unfold roCell
   have hv1 : (st.view1 c).one = true := by
    unfold St.view1
    split
    ·split <;> rfl
    ·exact hc1
   revert hv1
   cases st.view1 c <;> intro hv1 <;> first | rfl | exact hv1
 have hrp : VRel pub0 w rho0 (.rp (roCells st x 0 cs) 0) (.pointer (some ⟨b, 0, none⟩)) := by
  refine .rp (o := 0) 0 hroOne (fun j => arr.toList.getD j undef) (fun j u hj => ?_) (fun j u hj => ?_)
  ·rw [roCells_get] at hj
   cases hq : cs[j]? with
   | none => rw [hq] at hj; cases hj
   | some c =>
    rw [hq] at hj
    simp only [Option.map_some, Option.some.injEq, Nat.zero_add] at hj
    subst hj
    obtain ⟨u, hu, hcu⟩ := hc.get hq
    have := rel0 c u j ((List.all_eq_true.1 hcs) c (List.mem_of_getElem? hq)) hq hu hcu
    rw [List.getD_eq_getElem?_getD, hu]
    exact this
  ·have hj1 := (List.getElem?_eq_some_iff.1 hj).1
   rw [roCells_len] at hj1
   refine ⟨by dsimp only [pub0]; rw [if_pos rfl]; omega, ?_⟩
   rw [Nat.zero_add, hcell, List.getD_eq_getElem?_getD, Array.getElem?_toList, Array.getElem?_eq_getElem (by omega)]
   rfl
 have hvs0 : VRels pub0 w rho0 (a (i x)) vals.toList := by
  rw [ha, hvals]
  refine .cons hrp ?_
  have h1 : VRels pub w rho0 rest vs := hvs.congr (fun n hn => by have := AV.bndL_has _ hbr hn; omega)
  exact h1.ext ext0
 have hm0 : Mod pub0 w rho0 [] := by
  refine ⟨fun k e he => by simp at he, fun _ _ => rfl, fun _ _ _ _ _ h => (by cases h), fun q hq => ?_, fun q j hj => ?_, ?_⟩
  ·dsimp only [pub0]
   rw [if_neg (by rintro rfl; omega)]
   exact hh.mod.fresh q hq
  ·dsimp only [pub0] at hj
   split at hj
   ·rename_i e; subst e
    exact ⟨arr[j]'(by omega), by rw [hcell]; exact Array.getElem?_eq_getElem _⟩
   ·exact hh.mod.there q j hj
  ·exact hh.mod.glob.ext ext0
 refine (hf (a (i x)) [] (fun y H' => y = r (i x) ∧ H' = []) ⟨i x, rfl, rfl, hpi, rfl, rfl⟩ w rho0 pub0 vals hm0 hvs0).mono fun e w' hpost => ?_
 obtain ⟨v, y, H', r1, pub1, rfl, ⟨rfl, rfl⟩, hvy, hm1, hfr, _, _, _⟩ := hpost
 have hnf : ∀ q, ¬ Foot rho0 q := fun q ⟨_, _, hh1, _⟩ => by cases hh1
 let pub2 : Pub := fun q => if q = b then pub b else pub1 q
 have hkeepw : ∀ q, q < w.heap.size → w'.heap[q]? = w.heap[q]? ∧ pub2 q = pub q := fun q hq => by
  obtain ⟨h1, h2⟩ := hfr.keep q hq (hnf q)
  refine ⟨h1, ?_⟩
  dsimp only [pub2]
  split
  ·rename_i e; rw [e]
  ·rename_i e; rw [h2]; dsimp only [pub0]; rw [if_neg e]
 have hfr2 : Fr (fun _ => False) pub w pub2 w' := by
  refine ⟨hfr.os, hfr.tape, hfr.output, hfr.size, fun q hq _ => hkeepw q hq, fun q => ?_, fun q j u hj hu => ?_, fun q n _ hn => lenW_of (hkeepw q (lenW_lt hn)).1 hn⟩
  ·rcases Nat.lt_or_ge q w.heap.size with h1 | h1
   ·rw [(hkeepw q h1).2]; exact Nat.le_refl _
   ·rw [hh.mod.fresh q h1]; exact Nat.zero_le _
  ·have hq := World.block_lt_of_cell? w _ hu
   rw [World.cell?_of_block (w := w) (a := ⟨q, j, none⟩) (hkeepw q hq).1]
   exact hu
 have hmod2 : Mod pub2 w' rh st.H := hh.mod.frm hfr2 (fun _ _ _ _ _ h => h) (fun q hq => by
   dsimp only [pub2]
   rw [if_neg (by rintro rfl; have := hfr.size; omega)]
   exact hm1.fresh q hq) (fun q j hj => by
   dsimp only [pub2] at hj
   split at hj
   ·rename_i e; subst e
    obtain ⟨u, hu⟩ := hh.mod.there q j hj
    exact ⟨u, hfr2.ext.cell q j u hj hu⟩
   ·exact hm1.there q j hj)
 refine ⟨v, _, st, rh, pub2, rfl, isScal_rel (hres x) hvy, hKi, ⟨hmod2, hh.own, hh.fr.trans hfr2 (fun _ h => h.elim), hh.slots.ext hfr2.ext, hh.defers, hh.size, hh.stab, hh.low⟩, hfr2.ext, fun q hq => ⟨rfl, fun y hy b' hb' => (hkeepw b' (hh.mod.foot_lt hy b' hb')).1⟩⟩
theorem rho_none {pub : Pub} {w : World} {r : Rho} (h : Mod pub w r []) : r = rho0 := funext fun k => h.none_ k (Nat.zero_le _)
theorem fn_pure {P : Program} {f : Nat} {ι : Type} {a : ι → List AV} {p : ι → Prop} {r : ι → AV}
  (h : ∀ i, p i → ∀ (pub : Pub) (w : World) (vals : Array Value), VRels pub w rho0 (a i) vals.toList → Calls P f vals w fun e w' => w' = w ∧ ∃ v, e = .returned v ∧ VRel pub w rho0 (r i) v) :
  FnOk P f (spec a (fun _ => []) p r fun _ => []) := by
 intro args H K ⟨i, ha, hH, hp, hK⟩ w rh pub vals hm hv
 subst ha
 subst hH
 have := rho_none hm
 subst this
 refine (h i hp pub w vals hv).mono fun e w' ⟨hw, v, he, hr⟩ => ?_
 subst hw
 exact ⟨v, r i, [], rho0, pub, he, hK, hr, hm, Fr.refl _ _ _, fun b hb => .inl hb, fun _ _ h _ => h, Nat.le_refl _⟩
theorem VRels.str_inv {pub : Pub} {w : World} {r : Rho} {s : ByteArray} {l : List AV} {us : List Value} (h : VRels pub w r (.str s :: l) us) : ∃ us', us = .string s :: us' ∧ VRels pub w r l us' := by
 obtain ⟨u, us', rfl, h1, h2⟩ := h.cons_inv
 cases h1
 exact ⟨us', rfl, h2⟩
theorem VRels.int_inv {pub : Pub} {w : World} {r : Rho} {k : IntKind} {n : Int} {l : List AV} {us : List Value} (h : VRels pub w r (.int k n :: l) us) : ∃ us', us = .int k n :: us' ∧ VRels pub w r l us' := by
 obtain ⟨u, us', rfl, h1, h2⟩ := h.cons_inv
 cases h1
 exact ⟨us', rfl, h2⟩
theorem fn_weak {P : Program} {f : Nat} {c c' : Ctr} (h : FnOk P f c) (hc : ∀ args H K, c' args H K → c args H K) : FnOk P f c' := fun args H K hh => h args H K (hc args H K hh)
theorem fn_strB {P : Program} {f : Nat} {p : ByteArray → Prop} {g : ByteArray → Bool} (h : ∀ s w, p s → Calls P f #[.string s] w fun e w' => e = .returned (.bool (g s)) ∧ w = w') :
  FnOk P f (spec (fun s : ByteArray => [.str s]) (fun _ => []) p (fun s => .bl (g s)) fun _ => []) := fn_pure fun s hp pub w vals hv => by
 obtain ⟨us, h1, h2⟩ := hv.str_inv
 have h3 := h2.nil_inv
 subst h3
 have h4 : vals = #[.string s] := Array.toList_inj.1 (by simpa using h1)
 subst h4
 exact (h s w hp).mono fun e w' ⟨h1, h2⟩ => ⟨h2.symm, _, h1, .bl _⟩
theorem Gh.adoptC {M : Nat} {st : St} (k j t sz : Nat) {t0 : TypeId} {cs : List AV} (hk : st.H[k]? = some (.blk t0 cs)) (hj : cs[j]? = some (.v (.slice none 0 0))) :
  Gh M st ⟨st.T, (st.H ++ [Ent.row t sz []]).set k (.blk t0 (cs.set j (.hd st.H.length)))⟩ := fun C a w r pub _ h => by
 have hkl := (List.getElem?_eq_some_iff.1 hk).1
 have hd := h.room 1
 have hq : (st.H ++ List.replicate 1 Ent.dead)[st.H.length]? = some .dead := by simp
 have h1 := hd.adopt hq t sz
 have hset : (st.H ++ List.replicate 1 Ent.dead).set st.H.length (.row t sz []) = st.H ++ [.row t sz []] := by simp
 dsimp only at h1
 rw [hset] at h1
 have hk1 : (st.H ++ [Ent.row t sz []])[k]? = some (.blk t0 cs) := by rw [List.getElem?_append_left hkl]; exact hk
 obtain ⟨b, arr, hr, hb, hc, hp⟩ := h1.ent_blk hk1
 have he : ERel pub w (rset r st.H.length (.slice none 0 0)) (some (.pointer (some ⟨b, 0, none⟩))) (.blk t0 (cs.set j (.hd st.H.length))) := by
  refine .blk hb ⟨by rw [List.length_set]; exact hc.len, fun i x u hx hu => ?_⟩ hp
  rw [List.getElem?_set] at hx
  split at hx
  ·rename_i e
   subst e
   have := hc.at_ j _ u hj hu
   cases this
   split at hx
   ·cases hx; exact .hd (rset_self _ _ _) rfl
   ·cases hx
  ·exact hc.at_ i x u hx hu
 exact ⟨_, pub, h1.mod.set hr (Fr.refl (fun _ => False) _ _) (fun b hb => hb.elim) h1.mod.fresh h1.mod.there he, h1.own, h1.fr, h1.slots, h1.defers, h1.size, h1.stab, by simpa using h1.low⟩
structure Lst {α : Type} (f : α → List Value) (k : Nat) (w : World) (A : Option Addr) (n : Nat) (l : List α) : Prop where
  len : l.length = n
  cells : ∀ (i : Nat) (hi : i < l.length) (j : Nat) (u : Value), (f l[i])[j]? = some u → ∃ b o, A = some ⟨b, o, none⟩ ∧ w.cell? ⟨b, o + i * k + j, none⟩ = some u
section
variable {α : Type} {f : α → List Value} {k : Nat} {w w' : World} {A : Option Addr} {n : Nat} {l : List α}
theorem Lst.below (h : Lst f k w A n l) (hb : Below w.heap.size w w') : Lst f k w' A n l :=
  ⟨h.len, fun i hi j u hu => by
    obtain ⟨b, o, hA, hc⟩ := h.cells i hi j u hu
    exact ⟨b, o, hA, hb.cell (p := ⟨b, o + i * k + j, none⟩) (World.block_lt_of_cell? w _ hc) ▸ hc⟩⟩
theorem Lst.elem (h : Lst f k w A n l) (i : Nat) (hi : i < l.length) (u0 : Value) (h0 : (f l[i])[0]? = some u0) :
    ∃ b o, A = some ⟨b, o, none⟩ ∧ b < w.heap.size ∧ ∀ j u, (f l[i])[j]? = some u → w.cell? ⟨b, o + i * k + j, none⟩ = some u := by
  obtain ⟨b, o, rfl, c0⟩ := h.cells i hi 0 _ h0
  refine ⟨b, o, rfl, World.block_lt_of_cell? w _ c0, fun j u hu => ?_⟩
  obtain ⟨b', o', he, hc⟩ := h.cells i hi j u hu
  simp only [Option.some.injEq, Addr.mk.injEq, and_true] at he
  obtain ⟨rfl, rfl⟩ := he
  exact hc
theorem Rd.lst (hf : ∀ x, (f x).length = k) {c : Nat} (hl : l.length = n) (h : Rd w k A n c (l.flatMap f)) : Lst f k w A n l :=
  ⟨hl, fun i hi j u hu => by
    have hj : j < k := by rw [← hf l[i]]; exact (List.getElem?_eq_some_iff.1 hu).1
    obtain ⟨b, o, hA, hc⟩ := h.get (i * k + j) u (by rw [flat_get f k hf l i j hi hj]; exact hu)
    exact ⟨b, o, hA, by rw [Nat.add_assoc]; exact hc⟩⟩
end
theorem Own.apart {w : World} {e e' : TypeId} {k k' : Nat} {A A' : Option Addr} {n c n' c' : Nat} {xs xs' : List Value} (h : Own w e k A n c xs) (h' : Own w e' k' A' n' c' xs') (ht : e ≠ e') : ∀ b ∈ fpo A, b ∉ fpo A' := by
  intro b hb
  rcases h.cases_ with ⟨rfl, _⟩ | ⟨g, cur, rfl, hg, _⟩
  · simp at hb
  · simp at hb
    subst hb
    exact h'.ne_ hg ht
structure Src (w : World) (size : Nat) (A : Option Addr) (n c : Nat) (xs : List Value) : Prop where
  len : xs.length = n * size
  cap : n ≤ c
  max : c ≤ maxLen
  nil_ : A = none → n = 0 ∧ c = 0
  get : ∀ j u, xs[j]? = some u → ∃ b o, A = some ⟨b, o, none⟩ ∧ w.cell? ⟨b, o + j, none⟩ = some u
theorem Rd.src {w : World} {size : Nat} {A : Option Addr} {n c : Nat} {xs : List Value} (h : Rd w size A n c xs) : Src w size A n c xs := ⟨h.len, h.cap, h.max, h.nil_, h.get⟩
theorem Src.below {w w' : World} {size : Nat} {A : Option Addr} {n c : Nat} {xs : List Value} (h : Src w size A n c xs) (hb : Below w.heap.size w w') : Src w' size A n c xs :=
  ⟨h.len, h.cap, h.max, h.nil_, fun j u hu => by
    obtain ⟨b, o, hA, hc⟩ := h.get j u hu
    exact ⟨b, o, hA, hb.cell (p := ⟨b, o + j, none⟩) (World.block_lt_of_cell? w _ hc) ▸ hc⟩⟩
theorem Src.alloc {w : World} {size : Nat} {A : Option Addr} {n c : Nat} {xs : List Value} (h : Src w size A n c xs) (o : Obj) : Src (w.alloc o) size A n c xs := h.below ((Below.refl _ _).alloc (Nat.le_refl _) _)
theorem Lst.src {α : Type} {f : α → List Value} {k : Nat} (hk : 0 < k) (hf : ∀ x, (f x).length = k) {w : World} {A : Option Addr} {n c : Nat} {l : List α} (h : Lst f k w A n l) (h1 : n ≤ c) (h2 : c ≤ maxLen) (h3 : A = none → n = 0 ∧ c = 0) : Src w k A n c (l.flatMap f) :=
  ⟨by rw [flat_len f k hf, h.len], h1, h2, h3, fun j u hu => by
    have hj : j < l.length * k := by rw [← flat_len f k hf l]; exact (List.getElem?_eq_some_iff.1 hu).1
    have hi : j / k < l.length := Nat.div_lt_of_lt_mul (by rw [Nat.mul_comm]; exact hj)
    have e : j / k * k + j % k = j := by rw [Nat.mul_comm]; exact Nat.div_add_mod j k
    have h4 := flat_get f k hf l (j / k) (j % k) hi (Nat.mod_lt _ hk)
    rw [e, hu] at h4
    obtain ⟨b, o, hA, hc⟩ := h.cells (j / k) hi (j % k) u h4.symm
    exact ⟨b, o, hA, by rw [Nat.add_assoc, e] at hc; exact hc⟩⟩
section
variable {P : Program} (w : World)
theorem run_appS (t ty e : TypeId) (i : TypeInfo) (z : Value) (size bytes : Nat) (ht : P.underlying t = some (.slice e)) (hi : P.info? e = some i) (hz : i.zero = some z)
    (hsize : i.size = size) (hby : i.bytes = bytes) (hzs : z.cells.size = size) (hsz : 0 < size)
    {A A' : Option Addr} {n c m c' : Nat} {xs news : List Value} (hown : Own w e size A n c xs) (hr : Src w size A' m c' news) (h1 : ∀ u ∈ news, u.oneCell' = true)
    (h63 : n + m ≤ maxLen) (hbytes : (n + m) * bytes ≤ 140737488355328) :
    ∃ A2 c2 w', (Builtin.append_ #[t, t] ty #[.slice A n c, .slice A' m c']).run P w = .ok (.slice A2 (n + m) c2) w' ∧ Own w' e size A2 (n + m) c2 (xs ++ news) ∧
      Frm (fpo A) w w' ∧ (∀ b ∈ fpo A2, b ∈ fpo A ∨ b = w.heap.size) := by
  rcases A' with _ | ad
  · obtain ⟨rfl, rfl⟩ := hr.nil_ rfl
    have hn : news = [] := List.eq_nil_of_length_eq_zero (by simpa using hr.len)
    subst hn
    exact ⟨A, c, w, run_append_owned_none (P := P) w 0 t ty e i size ht hi _ n xs hown, by simpa using hown, Frm.refl _ _, fun b hb => .inl hb⟩
  · have hcells : ∀ j u, news[j]? = some u → w.cell? (ad.add j) = some u := by
      intro j u hu
      obtain ⟨b, o, he, hc⟩ := hr.get j u hu
      simp only [Option.some.injEq] at he
      subst he
      rw [Addr.add_lit]
      exact hc
    obtain ⟨v', w', hrun, h2, h3, _, h5⟩ := run_append_own_at (P := P) w 0 t ty e i z size bytes ht hi hz hsize hby hzs hsz (.slice A n c) n xs hown ad m c' news hr.len hcells h1 h63 hbytes (Nat.zero_le _)
    have hfr : Frm (fpo A) w w' := by
      refine ⟨h3.os, h3.tape, h3.output, h3.size, fun k hk hn => h3.block k hk ?_⟩
      rcases A with _ | a
      · simp [Value.ownBlock]
      · simpa [Value.ownBlock] using hn
    have hv : ∃ A2 c2, v' = .slice A2 (n + m) c2 := by
      rcases h2.2 with ⟨rfl, h0⟩ | ⟨g, cap, cur, rfl, _⟩
      · exact ⟨none, 0, by rw [h0]⟩
      · exact ⟨_, _, rfl⟩
    obtain ⟨A2, c2, rfl⟩ := hv
    refine ⟨A2, c2, w', hrun, h2, hfr, fun b hb => ?_⟩
    rcases A2 with _ | a2
    · simp at hb
    · simp at hb
      subst hb
      rcases h5 with h5 | h5
      · left
        rcases A with _ | a
        · simp [Value.ownBlock] at h5
        · simp [Value.ownBlock] at h5
          simp [h5]
      · right
        simpa [Value.ownBlock] using h5
theorem wp_appS {o : Oper} {a : Act} {K : Act → World → Prop} {Q : Exit → Act → World → Prop} (s x : Operand) (t : TypeId)
    (ho : o.op = .call { callee := .builtin .append, args := #[s, x], argTypes := #[t, t] })
    (e : TypeId) (i : TypeInfo) (z : Value) (size bytes : Nat) (ht : P.underlying t = some (.slice e)) (hi : P.info? e = some i) (hz : i.zero = some z)
    (hsize : i.size = size) (hby : i.bytes = bytes) (hzs : z.cells.size = size) (hsz : 0 < size)
    {A A' : Option Addr} {n c m c' : Nat} {xs news : List Value} (hs : a.eval s = .slice A n c) (hx : a.eval x = .slice A' m c') (hown : Own w e size A n c xs) (hr : Src w size A' m c' news) (h1 : ∀ u ∈ news, u.oneCell' = true)
    (N : Nat) (hN : n + m = N) (ys : List Value) (hys : xs ++ news = ys) (h63 : N ≤ maxLen) (hbytes : N * bytes ≤ 140737488355328)
    (h : ∀ A2 c2 w', Own w' e size A2 N c2 ys → Frm (fpo A) w w' → (∀ b ∈ fpo A2, b ∈ fpo A ∨ b = w.heap.size) → K (a.put o.dst (.slice A2 N c2)) w') : o.wp P a w K Q := by
  subst hN hys
  obtain ⟨A2, c2, w', hrun, h2, h3, h4⟩ := run_appS (P := P) w t o.type e i z size bytes ht hi hz hsize hby hzs hsz hown hr h1 h63 hbytes
  unfold Oper.wp execOp
  simp only [ho, resolve, invoke, builtin, Sem.run_bind, Sem.run_pure, Result.andThen_ok, List.map_toArray, List.map_cons, List.map_nil, hs, hx, hrun]
  exact h A2 c2 w' h2 h3 h4
theorem wpList_appS {ops : Array Oper} {rest : List Oper} {o : Oper} {a : Act} {Q : Exit → Act → World → Prop} (hgd : o.guard = none) (s x : Operand) (t : TypeId)
    (ho : o.op = .call { callee := .builtin .append, args := #[s, x], argTypes := #[t, t] })
    (e : TypeId) (i : TypeInfo) (z : Value) (size bytes : Nat) (ht : P.underlying t = some (.slice e)) (hi : P.info? e = some i) (hz : i.zero = some z)
    (hsize : i.size = size) (hby : i.bytes = bytes) (hzs : z.cells.size = size) (hsz : 0 < size)
    {A A' : Option Addr} {n c m c' : Nat} {xs news : List Value} (hs : a.eval s = .slice A n c) (hx : a.eval x = .slice A' m c') (hown : Own w e size A n c xs) (hr : Src w size A' m c' news) (h1 : ∀ u ∈ news, u.oneCell' = true)
    (N : Nat) (hN : n + m = N) (ys : List Value) (hys : xs ++ news = ys) (h63 : N ≤ maxLen) (hbytes : N * bytes ≤ 140737488355328)
    (h : ∀ A2 c2 w', Own w' e size A2 N c2 ys → Frm (fpo A) w w' → (∀ b ∈ fpo A2, b ∈ fpo A ∨ b = w.heap.size) → wpList P ops Q rest (a.put o.dst (.slice A2 N c2)) w') : wpList P ops Q (o :: rest) a w :=
  wpList_plain hgd fun _ hK => wp_appS w s x t ho e i z size bytes ht hi hz hsize hby hzs hsz hs hx hown hr h1 N hN ys hys h63 hbytes fun A2 c2 w' h2 h3 h4 => hK _ _ (h A2 c2 w' h2 h3 h4)
end
def AddPost (pub : Pub) (w : World) (x : AV) (e : Ending) (w' : World) : Prop :=
 ∃ v pub', e = .returned v ∧ Below w.heap.size w w' ∧ (∀ b, b < w.heap.size → pub' b = pub b) ∧ (∀ b, w'.heap.size ≤ b → pub' b = 0) ∧
  (∀ b i, w.heap.size ≤ b → i < pub' b → ∃ u, w'.cell? ⟨b, i, none⟩ = some u) ∧ VRel pub' w' rho0 x v
theorem fn_add {P : Program} {f : Nat} {ι : Type} {a : ι → List AV} {p : ι → Prop} {r : ι → AV}
  (h : ∀ i, p i → ∀ (pub : Pub) (w : World) (vals : Array Value), (∀ b, w.heap.size ≤ b → pub b = 0) → GlobOk pub w → VRels pub w rho0 (a i) vals.toList → Calls P f vals w (AddPost pub w (r i))) :
  FnOk P f (spec a (fun _ => []) p r fun _ => []) := by
 intro args H K ⟨i, ha, hH, hp, hK⟩ w rh pub vals hm hv
 subst ha
 subst hH
 have := rho_none hm
 subst this
 refine (h i hp pub w vals hm.fresh hm.glob hv).mono fun e w' ⟨v, pub', he, hb, h1, h2, h3, hr⟩ => ?_
 have hc : ∀ b i, b < w.heap.size → w'.cell? ⟨b, i, none⟩ = w.cell? ⟨b, i, none⟩ := fun b i hlt => World.cell?_of_block (hb.block b hlt)
 have hlt : ∀ b i, i < pub b → b < w.heap.size := fun b i hi => by
  rcases Nat.lt_or_ge b w.heap.size with h4 | h4
  ·exact h4
  ·rw [hm.fresh b h4] at hi; omega
 have hle : ∀ b, pub b ≤ pub' b := fun b => by
  rcases Nat.lt_or_ge b w.heap.size with h4 | h4
  ·rw [h1 b h4]; exact Nat.le_refl _
  ·rw [hm.fresh b h4]; exact Nat.zero_le _
 have hcl : ∀ b j u, j < pub b → w.cell? ⟨b, j, none⟩ = some u → w'.cell? ⟨b, j, none⟩ = some u := fun b j u hj hu => by rw [hc b j (hlt b j hj)]; exact hu
 have hln : ∀ b n, 0 < pub b → lenW w b = some n → lenW w' b = some n := fun b n _ hn => lenW_of (hb.block b (lenW_lt hn)) hn
 refine ⟨v, r i, [], rho0, pub', he, hK, hr, ⟨fun k e he => (by simp at he), fun _ _ => rfl, (fun _ _ _ _ _ h => by cases h), h2, fun b j hj => ?_, hm.glob.ext ⟨hle, hcl, hln⟩⟩, ⟨hb.os, hb.tape, hb.output, hb.size, fun b hlt _ => ⟨hb.block b hlt, h1 b hlt⟩, ⟨hle, hcl, hln⟩⟩, fun b hb => .inl hb, fun _ _ h _ => h, Nat.le_refl _⟩
 ·rcases Nat.lt_or_ge b w.heap.size with h4 | h4
  ·rw [h1 b h4] at hj
   obtain ⟨u, hu⟩ := hm.there b j hj
   exact ⟨u, by rw [hc b j h4]; exact hu⟩
  ·exact h3 b j h4 hj
theorem AddPost.plain {pub : Pub} {w w' : World} {x : AV} {v : Value} {e : Ending} (he : e = .returned v) (hb : Below w.heap.size w w') (hf : ∀ b, w.heap.size ≤ b → pub b = 0) (hr : VRel pub w' rho0 x v) : AddPost pub w x e w' :=
 ⟨v, pub, he, hb, fun _ _ => rfl, fun b h => hf b (Nat.le_trans hb.size h), fun b i h hi => (by rw [hf b h] at hi; omega), hr⟩
theorem VRel.sl_inv {pub : Pub} {w : World} {r : Rho} {sz : Nat} {xs : List AV} {v : Value} (h : VRel pub w r (.sl sz xs) v) :
  ∃ A c, v = .slice A xs.length c ∧ xs.length ≤ c ∧ c ≤ maxLen ∧ (A = none → xs = [] ∧ c = 0) ∧
   ∀ (i : Nat) (x : AV) (j : Nat) (u : AV), xs[i]? = some x → x.cells[j]? = some u → ∃ b o g, A = some ⟨b, o, none⟩ ∧ VRel pub w rho0 u g ∧ o + i * sz + j < pub b ∧ w.cell? ⟨b, o + i * sz + j, none⟩ = some g := by
 cases h with
 | sl hc hm hn hs g hr hg =>
  refine ⟨_, _, rfl, hc, hm, hn, fun i x j u hx hu => ?_⟩
  obtain ⟨b, o, hA, hlt, hcell⟩ := hg i x j u hx hu
  exact ⟨b, o, _, hA, hr i x j u hx hu, hlt, hcell⟩
def FlatE {α : Type} (f : α → List Value) (F : α → AV) : Prop :=
 ∀ (x : α) (j : Nat) (u : Value), (f x)[j]? = some u → ∃ a, (F x).cells[j]? = some a ∧ ∀ (pub : Pub) (w : World) (r : Rho) (v : Value), VRel pub w r a v → v = u
theorem VRel.lst {α : Type} {f : α → List Value} {F : α → AV} (hF : FlatE f F) {k : Nat} {pub : Pub} {w : World} {r : Rho} {l : List α} {v : Value} (h : VRel pub w r (.sl k (mapA F l)) v) :
  ∃ A c, v = .slice A l.length c ∧ l.length ≤ c ∧ c ≤ maxLen ∧ (A = none → l.length = 0 ∧ c = 0) ∧ Lst f k w A l.length l := by
 obtain ⟨A, c, hv, h1, h2, h3, h4⟩ := h.sl_inv
 have hl : (mapA F l).length = l.length := mapA_len F l
 rw [hl] at hv h1
 refine ⟨A, c, hv, h1, h2, fun hA => ⟨?_, (h3 hA).2⟩, rfl, fun i hi j u hu => ?_⟩
 ·have := (h3 hA).1
  rw [← hl, this]; rfl
 ·obtain ⟨a, ha, hva⟩ := hF _ _ _ hu
  obtain ⟨b, o, g, hA, hg, hlt, hcell⟩ := h4 i _ j a (mapA_get F l hi) ha
  rw [hva _ _ _ _ hg] at hcell
  exact ⟨b, o, hA, hcell⟩
theorem AskEl.i0 {u : AV} {l : List AV} {K : Nat → AV → Prop} (k : K 0 u) : AskEl (u :: l) 0 K := ⟨0, u, rfl, rfl, k⟩
theorem AskEl.i1 {a u : AV} {l : List AV} {K : Nat → AV → Prop} (k : K 1 u) : AskEl (a :: u :: l) 1 K := ⟨1, u, rfl, rfl, k⟩
theorem AskEl.i2 {a b u : AV} {l : List AV} {K : Nat → AV → Prop} (k : K 2 u) : AskEl (a :: b :: u :: l) 2 K := ⟨2, u, rfl, rfl, k⟩
theorem AskIdx.i0 {u : AV} {l : List AV} {K : Nat → Prop} (k : K 0) : AskIdx (u :: l) 0 K := ⟨0, rfl, Nat.succ_pos _, k⟩
theorem AskIdx.i1 {a u : AV} {l : List AV} {K : Nat → Prop} (k : K 1) : AskIdx (a :: u :: l) 1 K := ⟨1, rfl, Nat.succ_lt_succ (Nat.succ_pos _), k⟩
theorem AskIdx.i2 {a b u : AV} {l : List AV} {K : Nat → Prop} (k : K 2) : AskIdx (a :: b :: u :: l) 2 K := ⟨2, rfl, Nat.succ_lt_succ (Nat.succ_lt_succ (Nat.succ_pos _)), k⟩
def stepD (s : XStep) : List Nat := match s.d with
 | some d => [d]
 | none => []
def XPlan.wr : XPlan → List Nat
 | .nil => []
 | .take _ s p => stepD s ++ p.wr
 | .eff _ _ _ s p => stepD s ++ p.wr
 | .fork p q => p.wr ++ q.wr
 | .phase _ p => p.wr
 | .more _ p => p.wr
def wrL : List XStep → List Nat
 | [] => []
 | s :: l => stepD s ++ wrL l
def XCode.wr : XCode → List Nat
 | .reg l => wrL l
 | .dreg p _ _ => p.wr
 | .seq a b => a.wr ++ b.wr
 | .cond _ a b => a.wr ++ b.wr
 | .block _ a => a.wr
 | .loop a => a.wr
 | .scope a => a.wr
 | _ => []
def hasAny : List Nat → AV → Bool
 | [], _ => false
 | h :: l, x => x.has h || hasAny l x
def keepT (hs : List Nat) : List Nat → List (Nat × AV) → List (Nat × AV)
 | _, [] => []
 | ws, (n, x) :: T => if ws.contains n = true then keepT hs ws T else if hasAny hs x = true then keepT hs (n :: ws) T else (n, x) :: keepT hs (n :: ws) T
def weakG (T T' : List (Nat × AV)) : Prop := ∀ m, tget T' m = .any ∨ tget T' m = tget T m
theorem keepT_get (hs : List Nat) : ∀ (T : List (Nat × AV)) (ws : List Nat) (m : Nat), tget (keepT hs ws T) m = .any ∨ (m ∉ ws ∧ tget (keepT hs ws T) m = tget T m)
 | [], ws, m => .inl rfl
 | (n, x) :: T, ws, m => by
  unfold keepT
  split
  ·rename_i h
   rw [List.contains_eq_mem] at h
   simp only [decide_eq_true_eq] at h
   rcases keepT_get hs T ws m with h1 | ⟨h1, h2⟩
   ·exact .inl h1
   ·refine .inr ⟨h1, h2.trans ?_⟩
    show _ = if n = m then x else tget T m
    rw [if_neg (by rintro rfl; exact h1 h)]
  ·rename_i h
   rw [List.contains_eq_mem] at h
   simp only [decide_eq_true_eq] at h
   split
   ·rcases keepT_get hs T (n :: ws) m with h1 | ⟨h1, h2⟩
    ·exact .inl h1
    ·simp only [List.mem_cons, not_or] at h1
     refine .inr ⟨h1.2, h2.trans ?_⟩
     show _ = if n = m then x else tget T m
     rw [if_neg (fun e => h1.1 e.symm)]
   ·show (if n = m then x else tget (keepT hs (n :: ws) T) m) = .any ∨ m ∉ ws ∧ (if n = m then x else tget (keepT hs (n :: ws) T) m) = if n = m then x else tget T m
    by_cases e : n = m
    ·subst e
     rw [if_pos rfl, if_pos rfl]
     exact .inr ⟨h, rfl⟩
    ·rw [if_neg e, if_neg e]
     rcases keepT_get hs T (n :: ws) m with h1 | ⟨h1, h2⟩
     ·exact .inl h1
     ·simp only [List.mem_cons, not_or] at h1
      exact .inr ⟨h1.2, h2⟩
theorem weakG_app {T F G : List (Nat × AV)} (h : weakT T F) (hg : weakG T G) : weakG T (F ++ G) := by
 induction F with
 | nil => exact hg
 | cons p F ih =>
  obtain ⟨n, x⟩ := p
  intro m
  show (if n = m then x else tget (F ++ G) m) = .any ∨ (if n = m then x else tget (F ++ G) m) = tget T m
  split
  ·rename_i e
   subst e
   rcases h.1 with h1 | h1
   ·exact .inr h1.symm
   ·exact .inl h1
  ·exact ih h.2 m
theorem Gh.weakG {M : Nat} {st st' : St} (hT : weakG st.T st'.T) (hH : st.H.take st'.H.length = st'.H) (hb : bndT st'.H.length st'.T = true) (hbH : bndH st'.H.length st'.H = true) (hM : M ≤ st'.H.length) : Gh M st st' := fun C a w r pub hCm h => by
 obtain ⟨r', pub', h1⟩ := Gh.weak (M := M) (st := ⟨[], st.H⟩) (st' := ⟨[], st'.H⟩) trivial hH rfl hbH hM C a w r pub hCm ⟨h.mod, h.own, h.fr, fun n => .any _, h.defers, h.size, h.stab, h.low⟩
 have hget : ∀ k e, st'.H[k]? = some e → st.H[k]? = some e := fun k e he => by
  have hk := (List.getElem?_eq_some_iff.1 he).1
  rw [← hH, List.getElem?_take, if_pos hk] at he
  exact he
 let r2 : Rho := fun k => if k < st'.H.length then r k else none
 have hr2 : ∀ k, k < st'.H.length → r2 k = r k := fun k hk => if_pos hk
 have hsome : ∀ k y, r2 k = some y → r k = some y := fun k y hy => by
  by_cases hk : k < st'.H.length
  ·rw [hr2 k hk] at hy; exact hy
  ·simp only [r2, if_neg hk] at hy; cases hy
 refine ⟨r2, pub, ⟨fun k e he => ?_, fun k hk => if_neg (by omega), fun i j x y hij hx hy => h.mod.disj i j x y hij (hsome _ _ hx) (hsome _ _ hy), h.mod.fresh, h.mod.there, h.mod.glob⟩, fun k x hx => h.own k x (hsome _ _ hx), h.fr, fun m => ?_, h.defers, h.size, fun k y hy hs => ?_, ⟨h.low.1, by omega⟩⟩
 ·have hk := (List.getElem?_eq_some_iff.1 he).1
  have h0 := h.mod.ent k e (hget k e he)
  have hbe := bndH_get hbH k e he
  rw [hr2 k hk]
  exact h0.congr hbe hr2
 ·rcases hT m with e | e
  ·rw [e]; exact .any _
  ·have hbm := bndT_get hb m
   rw [e] at hbm ⊢
   exact (h.slots m).congr fun n hn => hr2 n (AV.bnd_has _ hbm hn)
 ·have hk : k < st'.H.length := by
   rcases Nat.lt_or_ge k C.m with h1 | h1
   ·omega
   ·rw [h.low.1 k h1] at hy; cases hy
  rw [hr2 k hk]
  exact h.stab k y hy hs
theorem CutK.sel {H : List Ent} {K : AV → List Ent → Prop} {x : AV} {H' : List Ent} (s : List Nat) (H2 : List Ent) (x2 : AV) {x3 : AV} {H3 : List Ent} (hx : x = x2.ren s 0) (hH : s.map (fun k => H'[k]?) = (renH s 0 H2).map some) (hnd : s.Nodup) (hs : selOk s 0 H = true) (hl : H.length ≤ s.length)
  (hb : x2.bnd H2.length = true) (hbH : bndH H2.length H2 = true) (h1 : Le x2 x3) (h2 : LeH H2 H3) (hK : K x3 H3) : CutK H K x H' := ⟨s, x2, H2, x3, H3, hx, hH, hnd, hs, hl, hb, hbH, h1, h2, hK⟩
theorem callG_le {P : Program} {keep : List Nat} {f : Nat} {args : List AV} (args2 : List AV) {st : St} {K : AV → St → Prop} (h : LeL0 args args2) (hc : CallG P keep f args2 st K) : CallG P keep f args st K :=
 ⟨fun C a w r pub vals hh hv => hc.out C a w r pub vals hh (h.to hv)⟩
theorem xloopK {P : Program} {N M : Nat} {c : XCode} {Q : XEx → St → Prop} {T : List (Nat × AV)} {H : List Ent} {ι : Type} (hs : List Nat) (F : ι → List (Nat × AV)) (G : ι → List Ent) (μ : ι → Ms) (i0 : ι)
  (hw : weakT T (F i0)) (hH : H.take (G i0).length = G i0) (hb : bndT (G i0).length (F i0 ++ keepT hs c.wr T) = true) (hbH : bndH (G i0).length (G i0) = true) (hM : M ≤ (G i0).length)
  (hr : ∀ i, XW P N M c (XRound M (fun i => ⟨F i ++ keepT hs c.wr T, G i⟩) μ (μ i) Q) ⟨F i ++ keepT hs c.wr T, G i⟩) : XLoopG P N M c Q ⟨T, H⟩ :=
 xloop (fun i => ⟨F i ++ keepT hs c.wr T, G i⟩) μ i0 (Gh.weakG (weakG_app hw fun m => by rcases keepT_get hs T c.wr m with h | h; (· exact .inl h); exact .inr h.2) hH hb hbH hM) hr
theorem xloopG {P : Program} {N M : Nat} {c : XCode} {Q : XEx → St → Prop} {st st1 : St} (hg : Gh M st st1) (h : XLoopG P N M c Q st1) : XLoopG P N M c Q st :=
 ⟨fun code C a w r pub hc hN hM hh => by
  obtain ⟨r1, p1, h1⟩ := hg C a w r pub hM hh
  exact h.out code C a w r1 p1 hc hN hM h1⟩
theorem roundW {ι : Type} {M : Nat} {F : ι → St} {μ : ι → Ms} {n : Ms} {st : St} (j : ι) (hw : weakT st.T (F j).T) (hH : st.H.take (F j).H.length = (F j).H) (hb : bndT (F j).H.length (F j).T = true) (hbH : bndH (F j).H.length (F j).H = true) (hM : M ≤ (F j).H.length) (hl : (μ j).val < n.val) : RoundK M F μ n st :=
 ⟨_, j, Gh.weak hw hH hb hbH hM, rfl, hl⟩
theorem roundG {ι : Type} {M : Nat} {F : ι → St} {μ : ι → Ms} {n : Ms} {st st1 : St} (hg : Gh M st st1) (h : RoundK M F μ n st1) : RoundK M F μ n st := by
 obtain ⟨⟨st', j, h1, h2, h3⟩⟩ := h
 exact ⟨st', j, hg.trans h1, h2, h3⟩
theorem AppK.mk' {xs ys : List AV} {bytes : Nat} {K : List AV → Prop} (owed : xs.length + ys.length ≤ maxLen ∧ (xs.length + ys.length) * bytes ≤ 140737488355328) (rest : ∀ zs, zs = xs ++ ys → zs.length = xs.length + ys.length → K zs) : AppK xs ys bytes K :=
 ⟨owed, fun zs h => rest zs h (by rw [h, List.length_append])⟩
theorem sliK_mapA {α : Type} {f : α → AV} {L : List α} {lo hi : Option Int} {K : List AV → Prop} (owed : 0 ≤ lo.getD 0 ∧ lo.getD 0 ≤ hi.getD L.length ∧ hi.getD L.length ≤ L.length)
  (rest : ∀ L', L' = (L.take (hi.getD L.length).toNat).drop (lo.getD 0).toNat → (L'.length : Int) = hi.getD L.length - lo.getD 0 → K (mapA f L')) : SliK (mapA f L) lo hi K := by
 refine ⟨by rw [mapA_len]; exact owed, fun ys hys => ?_⟩
 rw [mapA_len, mapA_eq, ← List.map_take, ← List.map_drop, ← mapA_eq] at hys
 subst hys
 refine rest _ rfl ?_
 rw [List.length_drop, List.length_take]
 omega
theorem appK_mapA {α : Type} {f : α → AV} {L L2 : List α} {bytes : Nat} {K : List AV → Prop} (owed : L.length + L2.length ≤ maxLen ∧ (L.length + L2.length) * bytes ≤ 140737488355328)
  (rest : ∀ L', L' = L ++ L2 → L'.length = L.length + L2.length → K (mapA f L')) : AppK (mapA f L) (mapA f L2) bytes K :=
 ⟨by rw [mapA_len, mapA_len]; exact owed, fun zs h => by rw [h, ← mapA_app]; exact rest _ rfl List.length_append⟩
theorem appK_nilA {α : Type} {f : α → AV} {L2 : List α} {bytes : Nat} {K : List AV → Prop} (owed : L2.length ≤ maxLen ∧ L2.length * bytes ≤ 140737488355328)
  (rest : K (mapA f L2)) : AppK [] (mapA f L2) bytes K :=
 ⟨by rw [mapA_len, List.length_nil, Nat.zero_add]; exact owed, fun zs h => by rw [h, List.nil_append]; exact rest⟩
theorem RemK.pos {m n : Int} {K : Int → Prop} (hm : 0 ≤ m) (hn : 0 < n) (rest : ∀ z, z = m.tmod n → 0 ≤ z → z < n → K z) : RemK m n K :=
 ⟨by omega, fun z hz => rest z hz (by rw [hz]; exact Int.tmod_nonneg _ hm) (by rw [hz]; exact Int.tmod_lt_of_pos _ hn)⟩
theorem QuoK.pos {m n : Int} {K : Int → Prop} (hm : 0 ≤ m) (hn : 0 < n) (hM : m ≤ 9223372036854775807) (rest : ∀ z, z = m.tdiv n → 0 ≤ z → z ≤ m → K z) : QuoK .i64 m n K := by
 have h0 : 0 ≤ m.tdiv n := Int.tdiv_nonneg hm (by omega)
 have h1 : m.tdiv n ≤ m := Int.tdiv_le_self _ hm
 exact ⟨⟨by omega, IntWalk.i64_in _ (by omega)⟩, fun z hz => rest z hz (by omega) (by omega)⟩
theorem BytK.of {xs : List AV} {K : ByteArray → Prop} (ns : List Int) (h : bytesA xs = some ns) (hk : ∀ s, s = strOf ns → s.size = ns.length → K s) : BytK 1 xs K :=
 ⟨ns, rfl, h, fun s hs => hk s hs (by rw [hs]; simp [strOf, ByteArray.size])⟩
theorem CatK.mk' {s t : ByteArray} {K : ByteArray → Prop} (owed : s.size + t.size ≤ maxLen) (rest : ∀ u, u = s ++ t → u.size = s.size + t.size → K u) : CatK s t K :=
 ⟨owed, fun u hu => rest u hu (by rw [hu, ByteArray.size_append])⟩
theorem askEl_mapA {α : Type} {f : α → AV} {L : List α} {i : Nat} {K : Nat → AV → Prop} (h : i < L.length) (hk : K i (f L[i])) : AskEl (mapA f L) (nI i) K :=
 ⟨i, _, rfl, mapA_get f L h, hk⟩
theorem askEl_some {α : Type} {f : α → AV} {L : List α} {i : Nat} {l : α} {K : Nat → AV → Prop} (h : L[i]? = some l) (hk : K i (f l)) : AskEl (mapA f L) (nI i) K :=
 ⟨i, _, rfl, by rw [mapA_eq, List.getElem?_map, h]; rfl, hk⟩
theorem askIdx_some {α : Type} {f : α → AV} {L : List α} {i : Nat} {l : α} {K : Nat → Prop} (h : L[i]? = some l) (hk : K i) : AskIdx (mapA f L) (nI i) K :=
 ⟨i, rfl, by rw [mapA_len]; exact (List.getElem?_eq_some_iff.1 h).1, hk⟩
theorem take_some {α : Type} {L : List α} {i : Nat} {l : α} (h : L[i]? = some l) : L.take (i + 1) = L.take i ++ [l] := by
 obtain ⟨hi, rfl⟩ := List.getElem?_eq_some_iff.1 h
 exact List.take_succ_eq_append_getElem hi
theorem mem_some {α : Type} {L : List α} {i : Nat} {l : α} (h : L[i]? = some l) : l ∈ L := List.mem_of_getElem? h
theorem some_at {α : Type} {L : List α} {i : Nat} (h : i < L.length) : ∃ l, L[i]? = some l := ⟨_, List.getElem?_eq_getElem h⟩
theorem askIdx_mapA {α : Type} {f : α → AV} {L : List α} {i : Nat} {K : Nat → Prop} (h : i < L.length) (hk : K i) : AskIdx (mapA f L) (nI i) K :=
 ⟨i, rfl, by rw [mapA_len]; exact h, hk⟩
theorem askByte_nI {s : ByteArray} {i : Nat} {K : Int → Prop} (h : i < s.size) (hk : ∀ z : Int, z = (s.data[i]'h).toNat → K z) : AskByte s (nI i) K :=
 ⟨i, rfl, h, fun c hc z hz => hk z (by rw [Array.getElem?_eq_getElem h] at hc; cases hc; exact hz)⟩
theorem Gh.freeze {M : Nat} {st : St} (k : Nat) {t sz : Nat} {xs : List AV} (hk : st.H[k]? = some (.tip t sz xs)) : Gh M st ⟨tkill k (.sl sz xs) st.T, st.H.map (Ent.kill k (.sl sz xs))⟩ := fun C a w r pub _ h => by
 have hy : ∀ z, r k = some z → VRel pub w r (.sl sz xs) z := fun z hz => by
  obtain ⟨A, d, c, x, us, hr, _⟩ := h.ent_tip hk
  rw [hr] at hz
  cases hz
  have h1 := h.view1 (x := .hd k) (.hd hr rfl)
  simp only [St.view1, hk] at h1
  exact h1
 refine ⟨r, pub, ⟨fun j e he => ?_, fun j hj => h.mod.none_ j (by simpa using hj), h.mod.disj, h.mod.fresh, h.mod.there, h.mod.glob⟩, h.own, h.fr, h.slots.kill (fun _ _ => rfl) hy, h.defers, h.size, h.stab, by simpa using h.low⟩
 rw [List.getElem?_map] at he
 cases hj : st.H[j]? with
 | none => rw [hj] at he; cases he
 | some e0 =>
  rw [hj] at he
  cases he
  exact (h.mod.ent j e0 hj).kill (Fr.refl (fun _ => False) _ _) (fun _ _ _ _ h => h) (fun _ _ => rfl) hy
theorem Gh.cast {M : Nat} {T : List (Nat × AV)} {H : List Ent} (H2 : List Ent) (h : H = H2) : Gh M ⟨T, H⟩ ⟨T, H2⟩ := by subst h; exact Gh.refl _
theorem Gh.le {M : Nat} {st : St} (H2 : List Ent) (hl : LeH st.H H2) : Gh M st ⟨st.T, H2⟩ := fun C a w r pub _ h =>
 ⟨r, pub, h.mod.le hl, h.own, h.fr, h.slots, h.defers, h.size, h.stab, h.low.1, by rw [hl.len]; exact h.low.2⟩
theorem Gh.plain {M : Nat} {st : St} (k : Nat) {t sz : Nat} {xs : List AV} (hk : isRowE st.H[k]? = some (t, sz, xs)) : Gh M st ⟨tkill k (.sl sz xs) st.T, (st.H.set k (.tip t sz xs)).map (Ent.kill k (.sl sz xs))⟩ :=
 (Gh.publish k hk).trans (Gh.freeze (st := ⟨st.T, st.H.set k (.tip t sz xs)⟩) (t := t) k (by
  have hl : k < st.H.length := by
   unfold isRowE at hk
   split at hk
   ·rename_i he; exact (List.getElem?_eq_some_iff.1 he).1
   ·cases hk
  exact List.getElem?_set_self hl))
theorem vn : (∀ n : Nat, (NatCast.natCast n : Int) = (n : Int)) ∧ (∀ {α β : Type} (f : α → β) (l : List α), (mapA f l).length = l.length) ∧ (∀ n : Nat, nI n = (n : Int)) ∧ (∀ {α : Type}, ([] : List α).length = 0) ∧
  (∀ {α : Type} (a : α) (l : List α), (a :: l).length = l.length + 1) ∧ (∀ {α : Type} (a b : α), (some a).getD b = a) ∧ (∀ {α : Type} (b : α), (none : Option α).getD b = b) :=
 ⟨fun _ => rfl, fun f l => mapA_len f l, fun _ => rfl, rfl, fun _ _ => rfl, fun _ _ => rfl, fun _ => rfl⟩
section
variable {a b : Unit → Prop} {x1 x2 : Int} {K : Int → Prop}
theorem BrEq.n (k : x1 ≠ x2 → b ()) (d : x1 ≠ x2 := by (try simp only [vn] at *) <;> omega) : BrEq x1 x2 a b := ⟨fun h => absurd h d, k⟩
theorem BrEq.y (k : x1 = x2 → a ()) (d : x1 = x2 := by (try simp only [vn] at *) <;> omega) : BrEq x1 x2 a b := ⟨k, fun h => absurd d h⟩
theorem BrLt.n (k : x2 ≤ x1 → b ()) (d : x2 ≤ x1 := by (try simp only [vn] at *) <;> omega) : BrLt x1 x2 a b := ⟨fun h => absurd h (by omega), k⟩
theorem BrLt.y (k : x1 < x2 → a ()) (d : x1 < x2 := by (try simp only [vn] at *) <;> omega) : BrLt x1 x2 a b := ⟨k, fun h => absurd h (by omega)⟩
theorem BrLe.n (k : x2 < x1 → b ()) (d : x2 < x1 := by (try simp only [vn] at *) <;> omega) : BrLe x1 x2 a b := ⟨fun h => absurd h (by omega), k⟩
theorem BrLe.y (k : x1 ≤ x2 → a ()) (d : x1 ≤ x2 := by (try simp only [vn] at *) <;> omega) : BrLe x1 x2 a b := ⟨k, fun h => absurd h (by omega)⟩
theorem BrB.n {s t : Bool} (k : s ≠ t → b ()) (d : s ≠ t := by decide) : BrB s t a b := ⟨fun h => absurd h d, k⟩
theorem BrB.y {s t : Bool} (k : s = t → a ()) (d : s = t := by decide) : BrB s t a b := ⟨k, fun h => absurd d h⟩
theorem LenL.k {xs : List AV} (k : ∀ z : Int, z = (xs.length : Int) → K z) : LenL xs K := ⟨k⟩
theorem LenM.k {xs : List (AV × AV)} (k : ∀ z : Int, z = (xs.length : Int) → K z) : LenM xs K := ⟨k⟩
theorem LenS.k {s : ByteArray} (k : ∀ z : Int, z = (s.size : Int) → K z) : LenS s K := ⟨k⟩
theorem AddK.k (k : ∀ z, z = x1 + x2 → K z) (d : -9223372036854775808 ≤ x1 + x2 ∧ x1 + x2 ≤ 9223372036854775807 := by (try simp only [vn] at *) <;> omega) : AddK .i64 x1 x2 K := ⟨fun z hz => k z (hz.trans (IntWalk.i64_in _ d))⟩
theorem AddK.w {i : IntKind} (k : ∀ z, z = i.wrap (x1 + x2) → K z) : AddK i x1 x2 K := ⟨k⟩
theorem MulK.w {i : IntKind} (k : ∀ z, z = i.wrap (x1 * x2) → K z) : MulK i x1 x2 K := ⟨k⟩
theorem SubK.w {i : IntKind} (k : ∀ z, z = i.wrap (x1 - x2) → K z) : SubK i x1 x2 K := ⟨k⟩
theorem NegK.w {i : IntKind} (k : ∀ z, z = i.wrap (-x1) → K z) : NegK i x1 K := ⟨k⟩
theorem MulK.k (k : ∀ z, z = x1 * x2 → K z) (d : -9223372036854775808 ≤ x1 * x2 ∧ x1 * x2 ≤ 9223372036854775807 := by (try simp only [vn] at *) <;> omega) : MulK .i64 x1 x2 K := ⟨fun z hz => k z (hz.trans (IntWalk.i64_in _ d))⟩
theorem SubK.k (k : ∀ z, z = x1 - x2 → K z) (d : -9223372036854775808 ≤ x1 - x2 ∧ x1 - x2 ≤ 9223372036854775807 := by (try simp only [vn] at *) <;> omega) : SubK .i64 x1 x2 K := ⟨fun z hz => k z (hz.trans (IntWalk.i64_in _ d))⟩
theorem NegK.k (k : ∀ z, z = -x1 → K z) (d : -9223372036854775808 ≤ -x1 ∧ -x1 ≤ 9223372036854775807 := by (try simp only [vn] at *) <;> omega) : NegK .i64 x1 K := ⟨fun z hz => k z (hz.trans (IntWalk.i64_in _ d))⟩
theorem CvK.o {K : Prop} (k : K) (d : -9223372036854775808 ≤ x1 ∧ x1 ≤ 9223372036854775807 := by (try simp only [vn] at *) <;> omega) : CvK .i64 x1 K := ⟨IntWalk.i64_in _ d, k⟩
theorem MinK.k (k : ∀ z, z = min x1 x2 → K z) : MinK x1 x2 K := ⟨k⟩
theorem MaxK.k (k : ∀ z, z = max x1 x2 → K z) : MaxK x1 x2 K := ⟨k⟩
theorem WCvK.k {i : IntKind} (k : ∀ z, z = i.wrap x1 → K z) : WCvK i x1 K := ⟨k⟩
theorem WAddK.k {i : IntKind} (k : ∀ z, z = i.wrap (x1 + x2) → K z) : WAddK i x1 x2 K := ⟨k⟩
theorem WSubK.k {i : IntKind} (k : ∀ z, z = i.wrap (x1 - x2) → K z) : WSubK i x1 x2 K := ⟨k⟩
theorem WMulK.k {i : IntKind} (k : ∀ z, z = i.wrap (x1 * x2) → K z) : WMulK i x1 x2 K := ⟨k⟩
theorem RemK.q (k : ∀ z, z = x1.tmod x2 → 0 ≤ z → z < x2 → K z) (d : 0 ≤ x1 ∧ 0 < x2 := by (try simp only [vn] at *) <;> omega) : RemK x1 x2 K := .pos d.1 d.2 k
theorem QuoK.q (k : ∀ z, z = x1.tdiv x2 → 0 ≤ z → z ≤ x1 → K z) (d : 0 ≤ x1 ∧ 0 < x2 ∧ x1 ≤ 9223372036854775807 := by (try simp only [vn] at *) <;> omega) : QuoK .i64 x1 x2 K := .pos d.1 d.2.1 d.2.2 k
theorem AppN.o {ys : List AV} {bytes : Nat} {K : Unit → Prop} (k : K ()) (d : ys.length ≤ maxLen ∧ ys.length * bytes ≤ 140737488355328 := by (try simp only [vn] at *) <;> (try unfold maxLen) <;> omega) : AppN ys bytes K := ⟨d, k⟩
theorem AppK.o {α : Type} {f : α → AV} {L2 : List α} {bytes : Nat} {K : List AV → Prop} (k : K (mapA f L2)) (d : L2.length ≤ maxLen ∧ L2.length * bytes ≤ 140737488355328 := by (try simp only [vn] at *) <;> (try unfold maxLen) <;> omega) : AppK [] (mapA f L2) bytes K := appK_nilA d k
theorem AppK.l {α : Type} {f : α → AV} {L L2 : List α} {bytes : Nat} {K : List AV → Prop} (k : ∀ L', L' = L ++ L2 → L'.length = L.length + L2.length → K (mapA f L')) (d : L.length + L2.length ≤ maxLen ∧ (L.length + L2.length) * bytes ≤ 140737488355328 := by (try simp only [vn] at *) <;> (try unfold maxLen) <;> omega) : AppK (mapA f L) (mapA f L2) bytes K := appK_mapA d k
theorem AppK.zl {xs ys : List AV} {bytes : Nat} {K : List AV → Prop} (k : ∀ zs, zs = xs ++ ys → zs.length = xs.length + ys.length → K zs) (d : xs.length + ys.length ≤ maxLen ∧ (xs.length + ys.length) * bytes ≤ 140737488355328 := by (try simp only [vn] at *) <;> (try unfold maxLen) <;> omega) : AppK xs ys bytes K := .mk' d k
theorem CatK.u {s t : ByteArray} {K : ByteArray → Prop} (k : ∀ u, u = s ++ t → u.size = s.size + t.size → K u) (d : s.size + t.size ≤ maxLen := by (try simp only [vn] at *) <;> (try unfold maxLen) <;> omega) : CatK s t K := .mk' d k
theorem SetK.z {xs : List AV} {i : Nat} {x2 : AV} {K : List AV → Prop} (k : ∀ zs, zs = xs.set i x2 → K zs) : SetK xs i x2 K := ⟨k⟩
theorem SetM.ms {es : List (AV × AV)} {i : Nat} {e : AV × AV} {K : List (AV × AV) → Prop} (k : ∀ ms, ms = es.set i e → K ms) : SetM es i e K := ⟨k⟩
theorem AppM.ms {es : List (AV × AV)} {e : AV × AV} {K : List (AV × AV) → Prop} (k : ∀ ms, ms = es ++ [e] → K ms) : AppM es e K := ⟨k⟩
theorem DelM.ms {es : List (AV × AV)} {i : Nat} {K : List (AV × AV) → Prop} (k : ∀ ms, ms = es.eraseIdx i → K ms) : DelM es i K := ⟨k⟩
theorem SliK.l {α : Type} {f : α → AV} {L : List α} {lo hi : Option Int} {K : List AV → Prop} (k : ∀ L', L' = (L.take (hi.getD L.length).toNat).drop (lo.getD 0).toNat → (L'.length : Int) = hi.getD L.length - lo.getD 0 → K (mapA f L'))
  (d : 0 ≤ lo.getD 0 ∧ lo.getD 0 ≤ hi.getD L.length ∧ hi.getD L.length ≤ L.length := by (try dsimp only [Option.getD]); (try simp only [vn] at *) <;> omega) : SliK (mapA f L) lo hi K := sliK_mapA d k
theorem SliT.l {α : Type} {f : α → AV} {L : List α} {lo : Option Int} {K1 K2 : List AV → Prop} (k : ∀ L', L' = (L.take ((none : Option Int).getD L.length).toNat).drop (lo.getD 0).toNat → (L'.length : Int) = (none : Option Int).getD L.length - lo.getD 0 → K1 (mapA f L'))
  (d : 0 ≤ lo.getD 0 ∧ lo.getD 0 ≤ (none : Option Int).getD L.length ∧ (none : Option Int).getD L.length ≤ L.length := by (try dsimp only [Option.getD]); (try simp only [vn] at *) <;> omega) : SliT (mapA f L) lo K1 K2 := ⟨.inl (SliK.l k d)⟩
theorem SliT.t {α : Type} {f : α → AV} {L : List α} {lo : Option Int} {K1 K2 : List AV → Prop} (k : ∀ L', L' = L.drop (lo.getD 0).toNat → K2 (mapA f L'))
  (d : 0 ≤ lo.getD 0 ∧ lo.getD 0 ≤ L.length := by (try dsimp only [Option.getD]); (try simp only [vn] at *) <;> omega) : SliT (mapA f L) lo K1 K2 :=
 ⟨.inr ⟨d.1, by rw [mapA_len]; exact d.2, fun ys hys => by rw [hys, mapA_eq, ← List.map_drop, ← mapA_eq]; exact k _ rfl⟩⟩
theorem SliK.z {xs : List AV} {lo hi : Option Int} {K : List AV → Prop} (k : ∀ ys, ys = (xs.take (hi.getD xs.length).toNat).drop (lo.getD 0).toNat → K ys)
  (d : 0 ≤ lo.getD 0 ∧ lo.getD 0 ≤ hi.getD xs.length ∧ hi.getD xs.length ≤ xs.length := by (try dsimp only [Option.getD]); (try simp only [vn] at *) <;> omega) : SliK xs lo hi K := ⟨d, k⟩
theorem SlsK.u {s : ByteArray} {lo hi : Option Int} {K : ByteArray → Prop} (k : ∀ u, u = s.extract (lo.getD 0).toNat (hi.getD s.size).toNat → (u.size : Int) = hi.getD s.size - lo.getD 0 → K u)
  (d : 0 ≤ lo.getD 0 ∧ lo.getD 0 ≤ hi.getD s.size ∧ hi.getD s.size ≤ s.size := by (try dsimp only [Option.getD]); (try simp only [vn] at *) <;> omega) : SlsK s lo hi K :=
 ⟨d, fun u hu => k u hu (by rw [hu, ByteArray.size_extract]; omega)⟩
theorem BytK.s {xs : List AV} {K : ByteArray → Prop} {ns : List Int} (k : ∀ s, s = strOf ns → s.size = ns.length → K s) (d : bytesA xs = some ns := by rfl) : BytK 1 xs K := .of ns d k
theorem AskEl.e {α : Type} {f : α → AV} {L : List α} {i : Nat} {l : α} {K : Nat → AV → Prop} (k : K i (f l)) (h : L[i]? = some l := by assumption) : AskEl (mapA f L) (nI i) K := askEl_some h k
theorem AskIdx.e {α : Type} {f : α → AV} {L : List α} {i : Nat} {l : α} {K : Nat → Prop} (k : K i) (h : L[i]? = some l := by assumption) : AskIdx (mapA f L) (nI i) K := askIdx_some h k
end
theorem askEl_int {α : Type} {f : α → AV} {L : List α} {z : Int} {K : Nat → AV → Prop} (h0 : 0 ≤ z) (h1 : z < L.length) (k : ∀ i l, z = nI i → L[i]? = some l → K i (f l)) : AskEl (mapA f L) z K := by
 obtain ⟨i, rfl⟩ := Int.eq_ofNat_of_zero_le h0
 obtain ⟨l, hl⟩ := some_at (L := L) (i := i) (by omega)
 exact askEl_some hl (k i l rfl hl)
theorem roundV {ι : Type} {M : Nat} {F : ι → St} {μ : ι → Ms} {n : Ms} {st : St} (j : ι) (hl : (μ j).val < n.val) (hw : weakT st.T (F j).T := by repeat' (first | exact trivial | refine ⟨.inl rfl, ?_⟩ | refine ⟨.inr rfl, ?_⟩))
  (hH : st.H.take (F j).H.length = (F j).H := by rfl) (hb : bndT (F j).H.length (F j).T = true := by rfl) (hbH : bndH (F j).H.length (F j).H = true := by rfl) (hM : M ≤ (F j).H.length := by exact Nat.le_of_ble_eq_true rfl) : RoundK M F μ n st :=
 roundW j hw hH hb hbH hM hl
theorem xloopV {P : Program} {N M : Nat} {c : XCode} {Q : XEx → St → Prop} {T : List (Nat × AV)} {H : List Ent} {ι : Type} (hs : List Nat) (F : ι → List (Nat × AV)) (G : ι → List Ent) (μ : ι → Ms) (i0 : ι)
  (hr : ∀ i, XW P N M c (XRound M (fun i => ⟨F i ++ keepT hs c.wr T, G i⟩) μ (μ i) Q) ⟨F i ++ keepT hs c.wr T, G i⟩)
  (hw : weakT T (F i0) := by repeat' (first | exact trivial | refine ⟨.inl rfl, ?_⟩ | refine ⟨.inr rfl, ?_⟩)) (hH : H.take (G i0).length = G i0 := by rfl) (hb : bndT (G i0).length (F i0 ++ keepT hs c.wr T) = true := by rfl) (hbH : bndH (G i0).length (G i0) = true := by rfl) (hM : M ≤ (G i0).length := by exact Nat.le_of_ble_eq_true rfl) : XLoopG P N M c Q ⟨T, H⟩ :=
 xloopK hs F G μ i0 hw hH hb hbH hM hr
theorem finV {P : Prop} (h : P) : P := h
theorem om9 {p : Prop} (h : p := by (try simp only [vn] at *) <;> omega) : p := h
theorem le9 {p : Prop} (h : p := by repeat' (first | exact LeL.nil | exact LeL0.nil | exact LeH.nil | exact LeE.refl _ | exact Le.refl _ | exact Le0.one (.refl _) | exact Le0.one (.nil _) | exact Le1.refl _ | exact Le1.nil _ | refine LeH.cons ?_ ?_ | refine LeE.row ?_ | refine LeE.blk ?_ | refine LeL0.cons ?_ ?_ | refine LeL.cons ?_ ?_ | refine Le0.agg ?_ | refine Le.tup ?_ | exact Le.one (.one (.nil _)) | refine Le.one (.agg ?_))) : p := h
theorem nb9 {a b : Nat} (h : Nat.ble a b = true := by rfl) : a ≤ b := Nat.le_of_ble_eq_true h
theorem FinK.r9 {M : Nat} {res : List XRes} {K : AV → List Ent → Prop} {st st' : St} (g : Gh M st st') (h : resW st' res fun l => K (tupAV l) st'.H ∨ K (viewR st' (tupAV l)) st'.H) : FinK M res K st := ⟨_, g, h⟩
theorem CutK.f9 {H : List Ent} {K : AV → List Ent → Prop} {x : AV} {H' H2 : List Ent} (hK : K x H2) (hH : H'.take H2.length = H2 := by rfl) (hM : H.length ≤ H2.length := by exact Nat.le_of_ble_eq_true rfl) (hb : x.bnd H2.length = true := by rfl) (hbH : bndH H2.length H2 = true := by rfl) : CutK H K x H' := .pre H2 hH hM hb hbH (Le.refl _) (LeH.refl _) hK
theorem CutK.g9 {H : List Ent} {K : AV → List Ent → Prop} {x x3 : AV} {H' H2 : List Ent} (hK : K x3 H2) (hH : H'.take H2.length = H2 := by rfl) (hM : H.length ≤ H2.length := by exact Nat.le_of_ble_eq_true rfl) (hb : x.bnd H2.length = true := by rfl) (hbH : bndH H2.length H2 = true := by rfl) (hx : Le x x3 := by repeat' (first | exact LeL.nil | exact LeL0.nil | exact LeH.nil | exact LeE.refl _ | exact Le.refl _ | exact Le0.one (.refl _) | exact Le0.one (.nil _) | exact Le1.refl _ | exact Le1.nil _ | refine LeH.cons ?_ ?_ | refine LeE.row ?_ | refine LeE.blk ?_ | refine LeL0.cons ?_ ?_ | refine LeL.cons ?_ ?_ | refine Le0.agg ?_ | refine Le.tup ?_ | exact Le.one (.one (.nil _)) | refine Le.one (.agg ?_))) : CutK H K x H' := .pre H2 hH hM hb hbH hx (LeH.refl _) hK
theorem CutK.v9 {K : AV → List Ent → Prop} {x : AV} {H' : List Ent} (hK : K x []) (hb : x.bnd 0 = true := by rfl) : CutK [] K x H' := .val hb (Le.refl _) hK
theorem c09 {P : Program} {f : Nat} {ι : Type} {a : ι → List AV} {p : ι → Prop} {r : ι → AV} (hf : FnOk P f (spec a (fun _ => []) p r fun _ => [])) (i : ι) {keep : List Nat} {st : St} {K : AV → St → Prop} (hp : p i) (hK : K (r i) st) (hb : AV.bndL 0 (a i) = true := by rfl) (hr : (r i).bnd 0 = true := by rfl) (hk : (keep.all fun k => Nat.blt k st.H.length) = true := by rfl) : CallG P keep f (a i) st K := callG_spec0 hf i hp hb hr hk hK
theorem cn9 {P : Program} {f : Nat} {ι : Type} {a : ι → List AV} {p : ι → Prop} {r : ι → AV} {h' : ι → List Ent} (hf : FnOk P f (spec a (fun _ => []) p r h')) (i : ι) {keep : List Nat} {st : St} {K : AV → St → Prop} (hp : p i) (hK : K ((r i).ren [] st.H.length) ⟨st.T, st.H ++ renH [] st.H.length (h' i)⟩) (hb : AV.bndL 0 (a i) = true := by rfl) (hk : (keep.all fun k => Nat.blt k st.H.length) = true := by rfl) : CallG P keep f (a i) st K := callG_new hf i hp hb hk hK
theorem cs9 {P : Program} {f : Nat} {ι : Type} {a : ι → List AV} {h : ι → List Ent} {p : ι → Prop} {r : ι → AV} {h' : ι → List Ent} (hf : FnOk P f (spec a h p r h')) (i : ι) (sel : List Nat) {keep : List Nat} {args : List AV} {st : St} {K : AV → St → Prop} (hp : p i) (hK : K ((r i).ren sel st.H.length) ⟨killTs st.T (rowIds sel (h i)), putE (killHs st.H (rowIds sel (h i))) sel (renH sel st.H.length (h' i))⟩)
 (ha : args = AV.renL sel st.H.length (a i) := by rfl) (hlen : sel.length = (h i).length := by rfl) (hnd : sel.Nodup := by decide) (hlt : (sel.all fun k => Nat.blt k st.H.length) = true := by rfl) (hH : sel.map (fun k => st.H[k]?) = (renH sel st.H.length (h i)).map some := by rfl) (hb : AV.bndL (h i).length (a i) = true := by rfl) (hbH : bndH (h i).length (h i) = true := by rfl) (hkeep : (keep.all fun k => !sel.contains k && Nat.blt k st.H.length) = true := by rfl) : CallG P keep f args st K := callG_spec hf i sel hp ha hlen hnd hlt hH hb hbH hkeep hK
def renT (s : List Nat) : List (Nat × AV) → List (Nat × AV)
 | [] => []
 | (n, x) :: l => (n, x.ren s 0) :: renT s l
theorem tget_renT (s : List Nat) (n : Nat) : ∀ T : List (Nat × AV), tget (renT s T) n = (tget T n).ren s 0
 | [] => by unfold renT tget AV.ren; rfl
 | (m, x) :: T => by
  show (if m = n then x.ren s 0 else tget (renT s T) n) = (if m = n then x else tget T n).ren s 0
  split
  ·rfl
  ·exact tget_renT s n T
theorem bndT_tget {n : Nat} (m : Nat) : ∀ T : List (Nat × AV), bndT n T = true → (tget T m).bnd n = true
 | [], _ => by unfold tget AV.bnd; rfl
 | (k, x) :: T, h => by
  simp only [bndT, Bool.and_eq_true] at h
  show (if k = m then x else tget T m).bnd n = true
  split
  ·exact h.1
  ·exact bndT_tget m T h.2
theorem Gh.sel {st st' : St} (s : List Nat) (hw : weakT st.T (renT s st'.T)) (hH : s.map (fun k => st.H[k]?) = (renH s 0 st'.H).map some) (hnd : s.Nodup) (hbT : bndT st'.H.length st'.T = true) (hbH : bndH st'.H.length st'.H = true) : Gh 0 st st' := fun C a w r pub hCm h => by
 have hlen : s.length = st'.H.length := by have := congrArg List.length hH; simpa [renH_map] using this
 have hsi : ∀ i (hi : i < s.length), sigma s 0 i = s[i] := fun i hi => sigma_lt hi
 let r0 : Rho := fun i => if i < s.length then r (sigma s 0 i) else none
 have hr0 : ∀ i y, r0 i = some y → i < s.length ∧ r (sigma s 0 i) = some y := fun i y hy => by
  by_cases hi : i < s.length
  ·simp only [r0, if_pos hi] at hy; exact ⟨hi, hy⟩
  ·simp only [r0, if_neg hi] at hy; cases hy
 have hr0' : ∀ i, i < s.length → r0 i = r (sigma s 0 i) := fun i hi => if_pos hi
 have hinj : ∀ i j, i < s.length → j < s.length → sigma s 0 i = sigma s 0 j → i = j := fun i j hi hj e => by
  rw [hsi i hi, hsi j hj] at e
  exact nodup_inj hnd e
 have hent : ∀ i e, st'.H[i]? = some e → st.H[sigma s 0 i]? = some (e.ren s 0) := fun i e he => by
  have hi : i < s.length := by rw [hlen]; exact (List.getElem?_eq_some_iff.1 he).1
  have h1 := congrArg (fun l => l[i]?) hH
  simp only [List.getElem?_map, renH_map, he, Option.map_some, List.getElem?_eq_getElem hi] at h1
  rw [hsi i hi]
  simpa using h1
 refine ⟨r0, pub, ⟨fun i e he => ?_, fun i hi => if_neg (by omega), fun i j x y hij hx hy => ?_, h.mod.fresh, h.mod.there, h.mod.glob⟩, fun k x hx => h.own _ x (hr0 k x hx).2, h.fr, fun m => ?_, h.defers, h.size, fun k y hy _ => ?_, h.low.1, by omega⟩
 ·have hi : i < s.length := by rw [hlen]; exact (List.getElem?_eq_some_iff.1 he).1
  have he1 := h.mod.ent _ _ (hent i e he)
  have hbe := bndH_get hbH i e he
  rw [hr0' i hi]
  exact he1.unren hbe fun k y hkb hy => by rw [hr0' k (by omega)]; exact hy
 ·obtain ⟨hi, hx⟩ := hr0 i x hx
  obtain ⟨hj, hy⟩ := hr0 j y hy
  exact h.mod.disj _ _ x y (fun e => hij (hinj i j hi hj e)) hx hy
 ·rcases weakT_get hw m with h1 | h1
  ·rw [tget_renT] at h1
   have : tget st'.T m = .any := by
    cases hx : tget st'.T m <;> rw [hx] at h1 <;> unfold AV.ren at h1 <;> first | rfl | cases h1
   rw [this]
   exact .any _
  ·have h2 := h.slots m
   rw [← h1, tget_renT] at h2
   refine h2.unren _ rfl fun k y hk hy => ?_
   have hkb := AV.bnd_has _ (bndT_tget m _ hbT) hk
   rw [hr0' k (by omega)]
   exact hy
 ·rw [h.low.1 k (by omega)] at hy
  cases hy
theorem roundS {ι : Type} {F : ι → St} {μ : ι → Ms} {n : Ms} {st : St} (s : List Nat) (j : ι) (hl : (μ j).val < n.val) (hw : weakT st.T (renT s (F j).T) := by repeat' (first | exact trivial | refine ⟨.inl rfl, ?_⟩ | refine ⟨.inr rfl, ?_⟩))
  (hH : s.map (fun k => st.H[k]?) = (renH s 0 (F j).H).map some := by rfl) (hnd : s.Nodup := by decide) (hbT : bndT (F j).H.length (F j).T = true := by rfl) (hbH : bndH (F j).H.length (F j).H = true := by rfl) : RoundK 0 F μ n st :=
 ⟨_, j, Gh.sel s hw hH hnd hbT hbH, rfl, hl⟩
def dieH : List Ent → List Nat → List Ent
 | H, [] => H
 | H, q :: s => dieH (H.set q .dead) s
theorem dieH_len : ∀ (s : List Nat) (H : List Ent), (dieH H s).length = H.length
 | [], H => rfl
 | q :: s, H => by unfold dieH; rw [dieH_len s, List.length_set]
theorem dieH_get : ∀ (s : List Nat) (H : List Ent) (n : Nat) (e : Ent), (dieH H s)[n]? = some e → (n ∈ s ∧ e = .dead) ∨ (n ∉ s ∧ H[n]? = some e)
 | [], H, n, e, h => .inr ⟨by simp, h⟩
 | q :: s, H, n, e, h => by
  unfold dieH at h
  rcases dieH_get s _ n e h with ⟨h1, h2⟩ | ⟨h1, h2⟩
  ·exact .inl ⟨List.mem_cons_of_mem _ h1, h2⟩
  ·by_cases hq : q = n
   ·subst hq
    have hl := (List.getElem?_eq_some_iff.1 h2).1
    rw [List.length_set] at hl
    rw [List.getElem?_set_self hl] at h2
    cases h2
    exact .inl ⟨List.mem_cons_self .., rfl⟩
   ·rw [List.getElem?_set_ne hq] at h2
    refine .inr ⟨fun hm => ?_, h2⟩
    rcases List.mem_cons.1 hm with hm | hm
    ·exact hq hm.symm
    ·exact h1 hm
theorem flat_nodup {α : Type} (f : α → List Nat) : ∀ (l : List α), (∀ (i : Nat) (x : α), l[i]? = some x → (f x).Nodup) → (∀ (i j : Nat) (x y : α), i ≠ j → l[i]? = some x → l[j]? = some y → ∀ b ∈ f x, b ∉ f y) → (l.flatMap f).Nodup
 | [], _, _ => by simp
 | z :: l, h1, h2 => by
  rw [List.flatMap_cons, List.nodup_append]
  refine ⟨h1 0 z rfl, flat_nodup f l (fun i x hx => h1 (i + 1) x (by simpa using hx)) (fun i j x y hij hx hy => h2 (i + 1) (j + 1) x y (by omega) (by simpa using hx) (by simpa using hy)), fun b hb c hc e => ?_⟩
  subst e
  obtain ⟨u, hu, hb'⟩ := List.mem_flatMap.1 hc
  obtain ⟨q, hq⟩ := List.getElem?_of_mem hu
  exact h2 0 (q + 1) z u (by omega) rfl (by simpa using hq) b hb hb'
theorem foot1_nodup (v : Value) : (foot1 v).Nodup := by
 cases v with
 | pointer A => cases A <;> simp [foot1]
 | slice A _ _ => cases A <;> simp [foot1]
 | map b => cases b <;> simp [foot1]
 | _ => simp [foot1]
def plainE : Ent → Bool
 | .dead => false
 | .pool .. => false
 | _ => true
theorem ERel.plain_ {pub : Pub} {w : World} {r : Rho} {h : Option Value} {e : Ent} (he : ERel pub w r h e) (hp : plainE e = true) : ∃ y, h = some y ∧ isTup y = false := by
 cases he <;> first | exact ⟨_, rfl, rfl⟩ | cases hp
theorem Gh.putIn {M : Nat} {st : St} (k p : Nat) (sel : List Nat) (hd : AV) (l : List Ent) {t : TypeId} {es : List PEl} {outs : List (Nat × AV)} {i : Nat} {x key : AV} (hk : st.H[k]? = some (.pool t es outs)) (ho : outs[p]? = some (i, x)) (hu : ∀ y, (i, y) ∉ outs.eraseIdx p)
  (hke : (es[i]?).map (·.1) = some key) (hx : x = hd.ren sel 0) (hH : sel.map (fun q => st.H[q]?) = (renH sel 0 l).map some) (hnd : sel.Nodup) (hsel : sel.all (fun q => Nat.ble M q && q != k) = true) (hb : hd.bnd sel.length = true) (hbH : bndH sel.length l = true) (hpl : l.all plainE = true) :
  Gh M st ⟨killTs st.T sel, dieH (killHs (st.H.set k (.pool t (es.set i (key, hd, l)) (outs.eraseIdx p))) sel) sel⟩ := fun C a w r pub hCm h => by
 have hlen : sel.length = l.length := by have := congrArg List.length hH; simpa [renH_map] using this
 have hkl : k < st.H.length := (List.getElem?_eq_some_iff.1 hk).1
 have hksel : k ∉ sel := fun hm => by have := List.all_eq_true.1 hsel k hm; simp at this
 obtain ⟨b, ms, inner, hrk, R⟩ := h.ent_pool hk
 have hom : (i, x) ∈ outs := List.mem_of_getElem? ho
 obtain ⟨hi0, hix⟩ := R.hout i x hom
 have hil : i < es.length := by rw [← R.hn]; exact (List.getElem?_eq_some_iff.1 hi0).1
 obtain ⟨mi, hmi⟩ : ∃ m, ms[i]? = some m := ⟨_, Array.getElem?_eq_getElem (by rw [R.hl]; exact hil)⟩
 have hsi : ∀ j (hj : j < sel.length), sigma sel 0 j = sel[j] := fun j hj => sigma_lt hj
 have hent : ∀ j d, l[j]? = some d → ∃ (hj : j < sel.length), st.H[sel[j]]? = some (d.ren sel 0) := fun j d hd0 => by
  have hj : j < sel.length := by rw [hlen]; exact (List.getElem?_eq_some_iff.1 hd0).1
  have h1 := congrArg (fun l => l[j]?) hH
  simp only [List.getElem?_map, renH_map, hd0, Option.map_some, List.getElem?_eq_getElem hj] at h1
  exact ⟨hj, by simpa using h1⟩
 have hval : ∀ j (hj : j < sel.length), ∃ y, r sel[j] = some y ∧ isTup y = false := fun j hj => by
  have hjl : j < l.length := by omega
  obtain ⟨_, h1⟩ := hent j _ (List.getElem?_eq_getElem hjl)
  have h2 := h.mod.ent _ _ h1
  refine h2.plain_ ?_
  have := List.all_eq_true.1 hpl _ (List.getElem_mem hjl)
  revert this
  cases l[j] <;> exact fun h => h
 obtain ⟨vs, hvs⟩ : ∃ vs : List Value, vs = sel.map fun q => (r q).getD undef := ⟨_, rfl⟩
 have hvl : vs.length = sel.length := by rw [hvs, List.length_map]
 have hvg : ∀ j (hj : j < sel.length), vs[j]? = r sel[j] := fun j hj => by
  obtain ⟨y, hy, _⟩ := hval j hj
  rw [hvs, List.getElem?_map, List.getElem?_eq_getElem hj, Option.map_some, hy]
  rfl
 have hvt : ∀ v ∈ vs, ∃ j, ∃ (hj : j < sel.length), r sel[j] = some v ∧ isTup v = false := fun v hv => by
  obtain ⟨j, hj⟩ := List.getElem?_of_mem hv
  have hjl : j < sel.length := by rw [← hvl]; exact (List.getElem?_eq_some_iff.1 hj).1
  obtain ⟨y, hy, ht⟩ := hval j hjl
  rw [hvg j hjl, hy] at hj
  cases hj
  exact ⟨j, hjl, hy, ht⟩
 have hvt2 : ∀ v ∈ vs, isTup v = false := fun v hv => by obtain ⟨_, _, _, h⟩ := hvt v hv; exact h
 have hunr : ∀ q y, q < sel.length → r (sigma sel 0 q) = some y → rhoL vs q = some y := fun q y hq hy => by
  rw [hsi q hq] at hy
  exact (hvg q hq).trans hy
 have hfo : ∀ n, n ∈ foot (superH b (inner.set i vs)) → n ∈ foot (superH b inner) ∨ ∃ j, ∃ (hj : j < sel.length), ∃ y, r sel[j] = some y ∧ n ∈ foot y := fun n hn => by
  rcases foot_super_mem.1 hn with h1 | ⟨j, us, v, h1, h2, h3⟩
  ·exact .inl (foot_super_mem.2 (.inl h1))
  ·by_cases e : i = j
   ·subst e
    rw [List.getElem?_set_self (by rw [R.hn]; exact hil)] at h1
    cases h1
    obtain ⟨j, hj, h4, h5⟩ := hvt v h2
    exact .inr ⟨j, hj, v, h4, by rw [foot_one h5]; exact h3⟩
   ·rw [List.getElem?_set_ne e] at h1
    exact .inl (foot_super_mem.2 (.inr ⟨j, us, v, h1, h2, h3⟩))
 have hP : ERel pub w r (some (superH b (inner.set i vs))) (.pool t (es.set i (key, hd, l)) (outs.eraseIdx p)) := by
  have hmem : ∀ {j : Nat} {y : AV}, (j, y) ∈ outs.eraseIdx p → (j, y) ∈ outs := fun hm => List.mem_of_mem_eraseIdx hm
  have hne : ∀ {j : Nat} {y : AV}, (j, y) ∈ outs.eraseIdx p → i ≠ j := fun {j y} hm e => by subst e; exact hu y hm
  have hback : ∀ {j : Nat}, i ≠ j → (∀ y, (j, y) ∉ outs.eraseIdx p) → ∀ y, (j, y) ∉ outs := fun {j} hij hn y hy => by
   obtain ⟨q, hq⟩ := List.getElem?_of_mem hy
   have hqp : q ≠ p := by rintro rfl; rw [ho] at hq; cases hq; exact hij rfl
   refine hn y ?_
   rcases Nat.lt_or_ge q p with h1 | h1
   ·exact List.mem_of_getElem? (i := q) (by rw [List.getElem?_eraseIdx, if_pos h1]; exact hq)
   ·exact List.mem_of_getElem? (i := q - 1) (by rw [List.getElem?_eraseIdx, if_neg (by omega)]; rw [show q - 1 + 1 = q by omega]; exact hq)
  have hndo := R.hnd
  rw [foot_super, List.nodup_cons] at hndo
  refine .pool R.hb (by rw [List.length_set]; exact R.hl) (by rw [List.length_set, List.length_set]; exact R.hn) R.hborn ?_ (fun j y hy => ?_) (fun j e us m hno he hus hm => ?_) (fun j e us q d hno he hus hd0 => ?_) ?_ R.hp
  ·have : (es.set i (key, hd, l)).map (·.1) = es.map (·.1) := by
    rw [List.map_set]
    have h1 : (es.map (·.1))[i]? = some key := by rw [List.getElem?_map]; exact hke
    exact List.ext_getElem? fun q => by
     rw [List.getElem?_set]
     split
     ·rename_i e; subst e; rw [List.length_map, if_pos hil, h1]
     ·rfl
   rw [this]
   exact R.hk
  ·have hij := hne hy
   rw [List.getElem?_set_ne hij]
   exact R.hout j y (hmem hy)
  ·by_cases hij : i = j
   ·subst hij
    rw [List.getElem?_set_self hil] at he
    rw [List.getElem?_set_self (by rw [R.hn]; exact hil)] at hus
    cases he
    cases hus
    rw [hmi] at hm
    cases hm
    refine ⟨by rw [hvl, hlen], hvt2, ?_⟩
    refine (hix mi hmi).unren hd hx fun q y hq hy => hunr q y (AV.bnd_has _ hb hq) hy
   ·rw [List.getElem?_set_ne hij] at he hus
    exact R.hin j e us m (hback hij hno) he hus hm
  ·by_cases hij : i = j
   ·subst hij
    rw [List.getElem?_set_self hil] at he
    rw [List.getElem?_set_self (by rw [R.hn]; exact hil)] at hus
    cases he
    cases hus
    obtain ⟨hql, h1⟩ := hent q d hd0
    have h2 := h.mod.ent _ _ h1
    rw [hvg q hql]
    exact h2.unren (bndH_get hbH q d hd0) fun q y hq hy => hunr q y hq hy
   ·rw [List.getElem?_set_ne hij] at he hus
    exact R.hie j e us q d (hback hij hno) he hus hd0
  ·have hself : ∀ (j : Nat) (us : List Value), (inner.set i vs)[j]? = some us → (i = j ∧ us = vs) ∨ (i ≠ j ∧ inner[j]? = some us) := fun j us hus => by
    by_cases hij : i = j
    ·subst hij
     rw [List.getElem?_set_self (by rw [R.hn]; exact hil)] at hus
     cases hus
     exact .inl ⟨rfl, rfl⟩
    ·rw [List.getElem?_set_ne hij] at hus
     exact .inr ⟨hij, hus⟩
   have hfar : ∀ n, n ∈ vs.flatMap foot1 → n ∉ foot (superH b inner) := fun n hn hn2 => by
    obtain ⟨v, hv, h1⟩ := List.mem_flatMap.1 hn
    obtain ⟨j, hj, h2, h3⟩ := hvt v hv
    exact h.mod.disj k sel[j] _ _ (fun e => hksel (by rw [e]; exact List.getElem_mem hj)) hrk h2 n hn2 (by rw [foot_one h3]; exact h1)
   have hin2 : ∀ (j : Nat) (us : List Value) (n : Nat), inner[j]? = some us → n ∈ us.flatMap foot1 → n ∈ foot (superH b inner) := fun j us n hus hn => by
    obtain ⟨v, hv, h1⟩ := List.mem_flatMap.1 hn
    exact foot_super_mem.2 (.inr ⟨j, us, v, hus, hv, h1⟩)
   rw [foot_super, List.nodup_cons]
   refine ⟨fun hm => ?_, flat_nodup _ _ (fun j us hus => ?_) (fun j j' us us' hjj hus hus' n hn hn' => ?_)⟩
   ·obtain ⟨us, hus, h1⟩ := List.mem_flatMap.1 hm
    obtain ⟨j, hj⟩ := List.getElem?_of_mem hus
    rcases hself j us hj with ⟨_, rfl⟩ | ⟨_, h2⟩
    ·exact hfar b h1 (foot_super_mem.2 (.inl rfl))
    ·exact hndo.1 (List.mem_flatMap.2 ⟨us, List.mem_of_getElem? h2, h1⟩)
   ·rcases hself j us hus with ⟨_, rfl⟩ | ⟨_, h2⟩
    ·refine flat_nodup _ _ (fun q v _ => foot1_nodup v) (fun q q' v v' hqq hv hv' n hn hn' => ?_)
     have hql : q < sel.length := by rw [← hvl]; exact (List.getElem?_eq_some_iff.1 hv).1
     have hql' : q' < sel.length := by rw [← hvl]; exact (List.getElem?_eq_some_iff.1 hv').1
     have ht := hvt2 v (List.mem_of_getElem? hv)
     have ht' := hvt2 v' (List.mem_of_getElem? hv')
     rw [hvg q hql] at hv
     rw [hvg q' hql'] at hv'
     exact h.mod.disj sel[q] sel[q'] v v' (fun e => hqq (nodup_inj hnd e)) hv hv' n (by rw [foot_one ht]; exact hn) (by rw [foot_one ht']; exact hn')
    ·have : (us.flatMap foot1).Sublist (inner.flatMap fun vs => vs.flatMap foot1) := List.sublist_flatten_of_mem (List.mem_map.2 ⟨us, List.mem_of_getElem? h2, rfl⟩)
     exact this.nodup hndo.2
   ·rcases hself j us hus with ⟨e1, rfl⟩ | ⟨e1, h2⟩
    ·rcases hself j' us' hus' with ⟨e2, rfl⟩ | ⟨e2, h2'⟩
     ·omega
     ·exact hfar n hn (hin2 j' us' n h2' hn')
    ·rcases hself j' us' hus' with ⟨e2, rfl⟩ | ⟨e2, h2'⟩
     ·exact hfar n hn' (hin2 j us n h2 hn)
     ·exact flat_disj _ _ hndo.2 j j' us us' hjj h2 h2' n hn hn'
 let r' : Rho := fun q => if q = k then some (superH b (inner.set i vs)) else without r sel q
 have rk : r' k = some (superH b (inner.set i vs)) := if_pos rfl
 have rw_ : ∀ q, q ≠ k → r' q = without r sel q := fun q hq => if_neg hq
 have rold : ∀ q, q ≠ k → q ∉ sel → r' q = r q := fun q h1 h2 => by rw [rw_ q h1]; simp [without, h2]
 have rsel : ∀ q, q ∈ sel → r' q = none := fun q hq => by rw [rw_ q (by rintro rfl; exact hksel hq)]; simp [without, hq]
 have hwk : without r sel k = some (superH b inner) := by simp [without, hksel, hrk]
 obtain ⟨a1, q1, q2⟩ := superH_zero b inner
 obtain ⟨a2, q3, q4⟩ := superH_zero b (inner.set i vs)
 have hsub : ∀ z v, VRel pub w (without r sel) z v → VRel pub w r' z v := fun z v hv => hv.super (by rw [hwk, q1]) (by rw [rk, q3]) (q4.trans q2.symm) (fun q y hq hy => by rw [rw_ q hq]; exact hy)
 have hsome : ∀ q y, r' q = some y → (q = k ∧ y = superH b (inner.set i vs)) ∨ (q ≠ k ∧ q ∉ sel ∧ r q = some y) := fun q y hy => by
  by_cases h1 : q = k
  ·subst h1; rw [rk] at hy; cases hy; exact .inl ⟨rfl, rfl⟩
  ·by_cases h2 : q ∈ sel
   ·rw [rsel q h2] at hy; cases hy
   ·rw [rold q h1 h2] at hy; exact .inr ⟨h1, h2, hy⟩
 have hkill := killHs_len sel (st.H.set k (.pool t (es.set i (key, hd, l)) (outs.eraseIdx p)))
 refine ⟨r', pub, ⟨⟨fun q e he => ?_, fun q hq => ?_, fun p' q y z hpq hy hz n hn hn2 => ?_, h.mod.fresh, h.mod.there, h.mod.glob⟩, fun q y hy n hn => ?_, h.fr, fun n => hsub _ _ (killTs_get sel st.T r (h.slots n)), h.defers, h.size, fun q y hy hs => ?_, ⟨h.low.1, ?_⟩⟩⟩
 ·rcases dieH_get sel _ q e he with ⟨hq, rfl⟩ | ⟨hq, he⟩
  ·rw [rsel q hq]; exact .dead
  ·by_cases h1 : q = k
   ·subst h1
    obtain ⟨e0, h2, h3⟩ := killHs_get (pub := pub) (w := w) (hd := some (superH b (inner.set i vs))) sel _ r q e he
    rw [List.getElem?_set_self hkl] at h2
    cases h2
    rw [rk]
    exact (h3 hP).sub hsub
   ·obtain ⟨e0, h2, h3⟩ := killHs_get (pub := pub) (w := w) (hd := r q) sel _ r q e he
    rw [List.getElem?_set_ne (Ne.symm h1)] at h2
    rw [rold q h1 hq]
    exact (h3 (h.mod.ent q e0 h2)).sub hsub
 ·rw [dieH_len, hkill, List.length_set] at hq
  rw [rw_ q (by omega)]
  unfold without
  split
  ·rfl
  ·exact h.mod.none_ q hq
 ·rcases hsome p' y hy with ⟨rfl, rfl⟩ | ⟨h1, h2, h3⟩
  ·rcases hsome q z hz with ⟨rfl, rfl⟩ | ⟨h4, h5, h6⟩
   ·exact hpq rfl
   ·rcases hfo n hn with h7 | ⟨j, hj, y, h7, h8⟩
    ·exact h.mod.disj _ _ _ _ hpq hrk h6 n h7 hn2
    ·exact h.mod.disj _ _ _ _ (fun e => h5 (by rw [← e]; exact List.getElem_mem hj)) h7 h6 n h8 hn2
  ·rcases hsome q z hz with ⟨rfl, rfl⟩ | ⟨h4, h5, h6⟩
   ·rcases hfo n hn2 with h7 | ⟨j, hj, y, h7, h8⟩
    ·exact h.mod.disj _ _ _ _ (Ne.symm hpq) hrk h3 n h7 hn
    ·exact h.mod.disj _ _ _ _ (fun e => h2 (by rw [← e]; exact List.getElem_mem hj)) h7 h3 n h8 hn
   ·exact h.mod.disj _ _ _ _ hpq h3 h6 n hn hn2
 ·rcases hsome q y hy with ⟨rfl, rfl⟩ | ⟨h1, h2, h3⟩
  ·rcases hfo n hn with h7 | ⟨j, hj, y, h7, h8⟩
   ·exact h.own _ _ hrk n h7
   ·exact h.own _ _ h7 n h8
  ·exact h.own q y h3 n hn
 ·have h1 := h.stab q y hy hs
  have hqm : q < C.m := by
   rcases Nat.lt_or_ge q C.m with h2 | h2
   ·exact h2
   ·rw [h.low.1 q h2] at hy; cases hy
  have hqk : q ≠ k := by
   rintro rfl
   rw [hrk] at h1
   cases h1
   cases hs
  have hqs : q ∉ sel := fun hm => by
   have := List.all_eq_true.1 hsel q hm
   simp only [Bool.and_eq_true, Nat.ble_eq] at this
   omega
  rw [rold q hqk hqs]
  exact h1
 ·have := h.low.2
  dsimp only
  rw [dieH_len, hkill, List.length_set]
  exact this
def letB (n : Int) : Bool := decide (97 ≤ n) && decide (n ≤ 122)
def digB (n : Int) : Bool := decide (48 ≤ n) && decide (n ≤ 57)
def chB (c : UInt8) : Bool := letB c.toNat || digB c.toNat || decide ((c.toNat : Int) = 45)
def nameB (s : ByteArray) : Bool := decide (1 ≤ s.size) && decide (s.size ≤ 16) && s.data.toList.all chB
def firstAll (s : ByteArray) (k : Nat) : Prop := ∀ j (h : j < s.size), j < k → chB s[j] = true
theorem firstAll_zero (s : ByteArray) : firstAll s 0 := fun _ _ h => absurd h (by omega)
theorem firstAll_succ {s : ByteArray} {k : Nat} (hk : k < s.size) (h : firstAll s k) (hc : chB s[k] = true) : firstAll s (k + 1) := fun j hj hjk => by
  by_cases e : j = k
  · subst e; exact hc
  · exact h j hj (by omega)
theorem nameB_all {s : ByteArray} (h : firstAll s s.size) : nameB s = (decide (1 ≤ s.size) && decide (s.size ≤ 16)) := by
  have : s.data.toList.all chB = true := by
    rw [List.all_eq_true]
    intro c hc
    obtain ⟨j, hj, rfl⟩ := List.getElem_of_mem hc
    exact h j (by simpa using hj) (by simpa using hj)
  simp [nameB, this]
theorem nameB_not {s : ByteArray} {k : Nat} (hk : k < s.size) (h : chB s[k] = false) : nameB s = false := by
  have : s.data.toList.all chB = false := by
    rw [← Bool.not_eq_true, List.all_eq_true]
    intro hh
    have := hh (s[k]) (by exact List.getElem_mem (l := s.data.toList) (by simpa using hk))
    rw [h] at this
    cases this
  simp [nameB, this]
theorem ch_ways (c : UInt8) : (letB c.toNat = true ∧ chB c = true) ∨ (letB c.toNat = false ∧ digB c.toNat = true ∧ chB c = true) ∨ (letB c.toNat = false ∧ digB c.toNat = false ∧ (c.toNat : Int) = 45 ∧ chB c = true) ∨ (letB c.toNat = false ∧ digB c.toNat = false ∧ (c.toNat : Int) ≠ 45 ∧ chB c = false) := by
  unfold chB
  cases letB c.toNat <;> cases digB c.toNat <;> by_cases h : (c.toNat : Int) = 45 <;> simp [h]
def zs (d : Nat) (o : XOp) : XStep := ⟨some d, none, o⟩
def zm (d a : Nat) : XStep := ⟨some d, none, .mov (.t a)⟩
def zf (d f a : Nat) : XStep := ⟨some d, none, .fad f (.t a)⟩
def zl (d a : Nat) : XStep := ⟨some d, none, .ld false 1 (.t a)⟩
def zg (d g : Nat) (b : Bool) (o : XOp) : XStep := ⟨some d, some (g, b), o⟩
def zh (d g : Nat) (b : Bool) (a : Nat) : XStep := ⟨some d, some (g, b), .mov (.t a)⟩
def zn (o : XOp) : XStep := ⟨none, none, o⟩
def yl (d a : Nat) : XStep := zs d (.lenl (.t a))
def yz (d a : Nat) : XStep := zs d (.lens (.t a))
def yi (d n a b : Nat) : XStep := zs d (.iad n (.t a) (.t b))
def yt (d n a : Nat) : XStep := zs d (.ld true n (.t a))
def yc (d : Nat) (o : BinOp) (a b : Nat) : XStep := zs d (.cmp o (.t a) (.t b))
def yk (d : Nat) (o : BinOp) (a : Nat) (n : Int) : XStep := zs d (.cmp o (.t a) (.c (.int .i64 n)))
def yn (d : Nat) (n : Int) : XStep := zs d (.mov (.c (.int .i64 n)))
def yb (d : Nat) (b : Bool) : XStep := zs d (.mov (.c (.bl b)))
def yp (d a : Nat) : XStep := zs d (.ari .add .i64 (.t a) (.c (.int .i64 1)))
def ya (d : Nat) (o : BinOp) (k : IntKind) (a b : Nat) : XStep := zs d (.ari o k (.t a) (.t b))
def yq (d a : Nat) (b : Bool) (c : Nat) : XStep := zs d (.pick (.t a) (.c (.bl b)) (.t c))
def yr (d a c : Nat) (b : Bool) : XStep := zs d (.pick (.t a) (.t c) (.c (.bl b)))
def yx (d a n : Nat) : XStep := zs d (.ext (.t a) n)
def yo (d a : Nat) : XStep := zs d (.not (.t a))
def ys (n a b : Nat) : XStep := zn (.st n (.t a) (.t b))
def gl (d g : Nat) (b : Bool) (a : Nat) : XStep := zg d g b (.ld false 1 (.t a))
def gf (d g : Nat) (b : Bool) (f a : Nat) : XStep := zg d g b (.fad f (.t a))
def ge (d g : Nat) (b : Bool) (a : Nat) : XStep := zg d g b (.lenl (.t a))
def gz (d g : Nat) (b : Bool) (a : Nat) : XStep := zg d g b (.lens (.t a))
def gc (d g : Nat) (b : Bool) (o : BinOp) (a c : Nat) : XStep := zg d g b (.cmp o (.t a) (.t c))
def gk (d g : Nat) (b : Bool) (o : BinOp) (a : Nat) (n : Int) : XStep := zg d g b (.cmp o (.t a) (.c (.int .i64 n)))
def ga (d g : Nat) (b : Bool) (o : BinOp) (k : IntKind) (a c : Nat) : XStep := zg d g b (.ari o k (.t a) (.t c))
def go (d g : Nat) (b : Bool) (a : Nat) : XStep := zg d g b (.not (.t a))
def gi (d g : Nat) (b : Bool) (n a c : Nat) : XStep := zg d g b (.iad n (.t a) (.t c))
def zr (l : List XStep) (c : XCode) : XCode := .seq (.reg l) c
def x3 : XFn := ⟨279, zr [yb 2 false] (.seq (zr [zs 32 (.call 4 []), yo 33 32, zm 34 33, zh 35 34 false 0, ge 36 34 false 35, gk 37 34 false .gtr 36 10, yq 38 34 true 37] (.cond (.t 38) (zr [zs 39 (.call 4 []), zm 2 39] .ret) .skip)) (zr [zs 40 (.call 5 [.c (.str ⟨#[108, 105, 110, 101]⟩)]), zm 3 40] (zr [zs 4 (.mov (.c (.v (.slice none 0 0))))] (.seq (zr [yn 41 0] (.block 0 (.loop (zr [yk 42 .lss 41 4] (.seq (.cond (.t 42) .skip (.exit 0)) (.seq (.block 1 (zr [zm 43 41, zm 5 43] (zr [zm 45 5, yp 46 45, zs 47 (.call 6 [.c (.str ⟨#[97, 98, 99, 100]⟩), .t 46]), zm 44 47, yx 48 44 0, yx 49 44 1, zm 6 48, zm 7 49] (.seq (zr [zm 50 7, yk 51 .neq 50 0] (.cond (.t 51) (zr [yb 2 false] .ret) .skip)) (.reg [zm 52 4, zm 53 6, zs 54 (.bsl 9 1 1 [.str ⟨#[]⟩] [(0, .t 53)]), zs 55 (.app 26 26 9 1 16 (.t 52) (.t 54)), zm 4 55]))))) (.reg [yp 56 41, zm 41 56]))))))) (.seq (zr [zm 57 3, zs 58 (.cmn false (.t 57)), zm 59 58, zh 60 59 false 3, zh 61 59 false 4, zg 62 59 false (.bld [.str ⟨#[]⟩, .str ⟨#[]⟩, .str ⟨#[]⟩, .str ⟨#[]⟩, .str ⟨#[]⟩, .v (.slice none 0 0), .v (.slice none 0 0), .int .i64 0, .bl false] [(0, (1, .c (.str ⟨#[98]⟩))), (1, (1, .c (.str ⟨#[108, 105, 110, 101]⟩))), (2, (1, .c (.str ⟨#[115]⟩))), (3, (1, .c (.str ⟨#[114, 105, 103, 97]⟩))), (4, (1, .c (.str ⟨#[111, 115, 108, 111]⟩))), (5, (1, .t 61))]), zg 63 59 false (.call 7 [.t 60, .t 62, .c (.str ⟨#[115]⟩)]), gk 64 59 false .neq 63 0, yq 65 59 true 64] (.cond (.t 65) (zr [yb 2 false] .ret) .skip)) (zr [zs 66 (.mkm 33), zm 8 66] (.seq (zr [zm 67 0, yl 68 67, yn 69 0] (.block 2 (.loop (zr [yc 70 .lss 69 68] (.seq (.cond (.t 70) .skip (.exit 2)) (.seq (.block 3 (zr [zm 71 69, yi 72 4 67 69, yt 73 4 72, zs 10 (.alloc 35 [.int .u8 0, .int .u8 0, .int .u8 0, .int .u8 0]), zm 9 71, ys 4 10 73] (zr [zm 74 3, zf 75 2 10, zl 76 75, zs 77 (.call 9 [.t 76]), zs 78 (.call 8 [.t 74, .t 77]), zm 11 78] (.seq (zr [zm 79 11, yl 80 79, yk 81 .eql 80 0] (.cond (.t 81) (.reg [zm 82 3, zs 83 (.call 10 [.t 82]), zm 11 83]) .skip)) (zr [zm 84 11, zf 85 1 10, zl 86 85, zs 87 (.cvi .i64 (.t 86)), zm 88 11, yl 89 88, ya 90 .rem .i64 87 89, yi 91 1 84 90, zl 92 91, zm 12 92] (zr [zm 94 3, zm 95 12, zs 96 (.call 11 [.t 94, .t 95]), zm 93 96, yx 97 93 0, yx 98 93 1, zs 13 (.alloc 32 [.str ⟨#[]⟩, .str ⟨#[]⟩, .str ⟨#[]⟩, .str ⟨#[]⟩, .str ⟨#[]⟩, .v (.slice none 0 0), .v (.slice none 0 0), .int .i64 0, .bl false]), ys 9 13 97, zm 14 98] (zr [zm 99 9, zs 100 (.ari .add .i64 (.c (.int .i64 97)) (.t 99)), zs 101 (.cvi .u8 (.t 100)), zs 102 (.bsl 5 1 1 [.int .u8 0] [(0, .t 101)]), zs 103 (.b2s (.t 102)), zs 104 (.ari .add .i64 (.c (.str ⟨#[110]⟩)) (.t 103)), zm 15 104] (zr [zf 105 0 10, zl 106 105, zs 107 (.ari .rem .u8 (.t 106) (.c (.int .u8 5)))] (.block 4 (zr [zs 135 (.cmp .eql (.t 107) (.c (.int .u8 0))), zm 134 135] (.cond (.t 134) (.dreg (.take 0 (zm 136 3) (.take 1 (zm 137 12) (.take 2 (zf 138 2 10) (.take 3 (zl 139 138) (.take 5 (zf 141 3 10) (.take 6 (zl 142 141) (.take 8 (zm 144 9) (.eff 4 0 true (zs 140 (.call 9 [.t 139])) (.eff 7 0 false (zs 143 (.call 9 [.t 142])) (.eff 9 0 false (zs 145 (.call 12 [.t 136, .t 137, .c (.int .i64 (-1)), .t 140, .t 143, .t 144])) (.phase [3, 6] .nil))))))))))) 0 [10]) (zr [zs 147 (.cmp .eql (.t 107) (.c (.int .u8 1))), zm 146 147] (.cond (.t 146) (zr [zf 148 5 13, zl 149 148, yl 150 149, zs 151 (.ari .quo .i64 (.t 150) (.c (.int .i64 2))), zm 16 151] (.dreg (.take 0 (zm 152 3) (.take 1 (zm 153 12) (.take 2 (zf 154 2 10) (.take 3 (zl 155 154) (.take 5 (zf 157 5 13) (.take 6 (zl 158 157) (.take 7 (zm 159 16) (.take 8 (zs 160 (.sli 1 (.t 158) (some (.t 159)) none)) (.take 9 (zf 161 5 13) (.take 10 (zl 162 161) (.take 11 (zm 163 16) (.take 12 (zs 164 (.sli 1 (.t 162) none (some (.t 163)))) (.take 14 (zm 166 15) (.take 15 (zm 167 15) (.take 16 (zs 168 (.ari .add .i64 (.t 167) (.c (.str ⟨#[120]⟩)))) (.take 18 (zm 170 9) (.fork (.eff 4 0 true (zs 156 (.call 9 [.t 155])) (.fork (.eff 13 0 true (zs 165 (.bsl 26 1 2 [.v (.slice none 0 0)] [(0, .t 160), (1, .t 164)])) (.eff 17 1 true (zs 169 (.bsl 9 1 2 [.str ⟨#[]⟩] [(0, .t 166), (1, .t 168)])) (.eff 19 2 false (zs 171 (.call 13 [.t 152, .t 153, .t 156, .t 165, .t 169, .t 170])) (.phase [3, 6, 10] .nil)))) (.eff 17 1 true (zs 169 (.bsl 9 1 2 [.str ⟨#[]⟩] [(0, .t 166), (1, .t 168)])) (.eff 13 0 true (zs 165 (.bsl 26 1 2 [.v (.slice none 0 0)] [(0, .t 160), (1, .t 164)])) (.eff 19 2 false (zs 171 (.call 13 [.t 152, .t 153, .t 156, .t 165, .t 169, .t 170])) (.phase [3, 6, 10] .nil)))))) (.fork (.eff 13 0 true (zs 165 (.bsl 26 1 2 [.v (.slice none 0 0)] [(0, .t 160), (1, .t 164)])) (.fork (.eff 4 0 true (zs 156 (.call 9 [.t 155])) (.eff 17 1 true (zs 169 (.bsl 9 1 2 [.str ⟨#[]⟩] [(0, .t 166), (1, .t 168)])) (.eff 19 2 false (zs 171 (.call 13 [.t 152, .t 153, .t 156, .t 165, .t 169, .t 170])) (.phase [3, 6, 10] .nil)))) (.eff 17 1 true (zs 169 (.bsl 9 1 2 [.str ⟨#[]⟩] [(0, .t 166), (1, .t 168)])) (.eff 4 0 true (zs 156 (.call 9 [.t 155])) (.eff 19 2 false (zs 171 (.call 13 [.t 152, .t 153, .t 156, .t 165, .t 169, .t 170])) (.phase [3, 6, 10] .nil)))))) (.eff 17 1 true (zs 169 (.bsl 9 1 2 [.str ⟨#[]⟩] [(0, .t 166), (1, .t 168)])) (.fork (.eff 4 0 true (zs 156 (.call 9 [.t 155])) (.eff 13 0 true (zs 165 (.bsl 26 1 2 [.v (.slice none 0 0)] [(0, .t 160), (1, .t 164)])) (.eff 19 2 false (zs 171 (.call 13 [.t 152, .t 153, .t 156, .t 165, .t 169, .t 170])) (.phase [3, 6, 10] .nil)))) (.eff 13 0 true (zs 165 (.bsl 26 1 2 [.v (.slice none 0 0)] [(0, .t 160), (1, .t 164)])) (.eff 4 0 true (zs 156 (.call 9 [.t 155])) (.eff 19 2 false (zs 171 (.call 13 [.t 152, .t 153, .t 156, .t 165, .t 169, .t 170])) (.phase [3, 6, 10] .nil)))))))))))))))))))))))) 2 [10, 13])) (zr [zs 173 (.cmp .eql (.t 107) (.c (.int .u8 2))), zm 172 173] (.cond (.t 172) (.reg [zm 174 3, zm 175 11, zf 176 2 10, zl 177 176, zs 178 (.call 9 [.t 177]), zm 179 15, zm 180 9, zs 181 (.call 14 [.t 174, .t 175, .t 178, .t 179, .t 180])]) (zr [zs 183 (.cmp .eql (.t 107) (.c (.int .u8 3))), zm 182 183] (.cond (.t 182) (.reg [zm 184 3, zm 185 12, zf 186 2 10, zl 187 186, zs 188 (.call 9 [.t 187]), zm 189 15, zm 190 9, zs 191 (.call 15 [.t 184, .t 185, .t 188, .t 189, .c (.str ⟨#[119]⟩), .c (.str ⟨#[107, 105, 101, 108]⟩), .t 190])]) (zr [zm 109 3, zm 110 12, zf 111 2 10, zl 112 111, zs 113 (.call 9 [.t 112]), zm 114 9, zs 115 (.call 16 [.t 109, .t 110, .c (.int .i64 0), .t 113, .t 114]), zm 108 115, yx 116 108 0, yx 117 108 1, zm 17 116, zm 18 117] (zr [zm 118 17, yl 119 118, yn 120 0] (.block 5 (.loop (zr [yc 121 .lss 120 119] (.seq (.cond (.t 121) .skip (.exit 5)) (.seq (.block 6 (zr [yi 122 1 118 120, zl 123 122, zm 20 123] (.seq (zr [zm 124 18, yk 125 .neq 124 0, zm 126 125, zh 127 126 false 8, zh 128 126 false 20, zg 129 126 false (.lkp none false (.bl false) (.t 127) (.t 128)), yq 130 126 true 129] (.cond (.t 130) (zr [yb 2 false] .ret) .skip)) (.reg [zm 131 8, zm 132 20, zn (.upd none (.t 131) (.t 132) (.c (.bl true)))])))) (.reg [yp 133 120, zm 120 133]))))))))))))))))))))))))) (.reg [yp 192 69, zm 69 192]))))))) (.seq (zr [zm 193 4, yl 194 193, yn 195 0] (.block 7 (.loop (zr [yc 196 .lss 195 194] (.seq (.cond (.t 196) .skip (.exit 7)) (.seq (.block 8 (zr [yi 197 1 193 195, zl 198 197, zm 22 198] (zr [yn 23 0] (.seq (zr [zm 199 3, zs 200 (.call 10 [.t 199]), yl 201 200, yn 202 0] (.block 9 (.loop (zr [yc 203 .lss 202 201] (.seq (.cond (.t 203) .skip (.exit 9)) (.seq (.block 10 (zr [yi 204 1 200 202, zl 205 204, zm 25 205] (zr [zm 207 3, zm 208 25, zs 209 (.call 11 [.t 207, .t 208]), zm 206 209, yx 210 206 0, yx 211 206 1, zs 26 (.alloc 32 [.str ⟨#[]⟩, .str ⟨#[]⟩, .str ⟨#[]⟩, .str ⟨#[]⟩, .str ⟨#[]⟩, .v (.slice none 0 0), .v (.slice none 0 0), .int .i64 0, .bl false]), ys 9 26 210, zm 27 211] (zr [zf 212 5 26, zl 213 212, yl 214 213, yn 215 0] (.block 11 (.loop (zr [yc 216 .lss 215 214] (.seq (.cond (.t 216) .skip (.exit 11)) (.seq (.block 12 (zr [yi 217 1 213 215, zl 218 217, zm 29 218] (zr [zm 219 22, zm 220 29, yc 221 .eql 219 220, zm 222 221, zh 223 222 true 3, zh 224 222 true 25, zg 225 222 true (.call 17 [.t 223, .t 224]), gk 226 222 true .eql 225 0, yr 227 222 226 false] (.cond (.t 227) (.reg [zm 228 23, yp 229 228, zm 23 229]) .skip)))) (.reg [yp 230 215, zm 215 230])))))))))) (.reg [yp 231 202, zm 202 231]))))))) (zr [zm 233 3, zm 234 22, zs 235 (.call 18 [.t 233, .t 234]), zm 232 235, yx 236 232 0, yx 237 232 1, zm 30 236, zm 31 237] (.seq (.dreg (.take 0 (zm 238 8) (.take 1 (zm 239 22) (.take 2 (zs 240 (.lkp none false (.bl false) (.t 238) (.t 239))) (.take 3 (zm 241 240) (.take 4 (zh 242 241 true 23) (.take 5 (gk 243 241 true .neq 242 0) (.take 6 (zh 244 241 true 243) (.take 7 (zh 245 244 false 31) (.take 8 (zg 246 241 true (.pick (.t 244) (.c (.bl true)) (.t 245))) (.take 9 (yr 247 241 246 false) (.take 10 (zm 248 247) (.take 11 (zh 249 248 false 8) (.take 12 (zh 250 248 false 22) (.take 13 (zg 251 248 false (.lkp none false (.bl false) (.t 249) (.t 250))) (.take 14 (go 252 248 false 251) (.take 15 (zh 253 248 false 252) (.take 16 (zh 254 253 true 23) (.take 17 (gk 255 253 true .neq 254 1) (.take 18 (zh 256 253 true 255) (.take 19 (zh 257 256 false 31) (.take 20 (go 258 256 false 257) (.take 21 (zg 259 253 true (.pick (.t 256) (.c (.bl true)) (.t 258))) (.take 22 (zh 260 253 true 259) (.take 23 (zh 261 260 false 3) (.take 24 (zh 262 260 false 30) (.eff 25 0 false (zg 263 260 false (.call 17 [.t 261, .t 262])) (.phase [2, 13, 37] (.take 26 (gk 264 260 false .neq 263 0) (.take 27 (zg 265 253 true (.pick (.t 260) (.c (.bl true)) (.t 264))) (.take 28 (zg 266 248 false (.pick (.t 253) (.t 265) (.c (.bl false)))) (.take 29 (yq 267 248 true 266) (.take 30 (zm 268 267) (.take 31 (zh 269 268 false 3) (.take 32 (zh 270 268 false 22) (.take 35 (zh 273 268 false 8) (.take 36 (zh 274 268 false 22) (.take 37 (zg 275 268 false (.lkp none false (.bl false) (.t 273) (.t 274))) (.eff 33 0 true (zg 271 268 false (.bsl 9 1 1 [.str ⟨#[]⟩] [(0, .t 270)])) (.eff 34 1 true (zg 272 268 false (.call 19 [.t 269, .t 271])) (.take 38 (zg 276 268 false (.cmb .eql (.t 272) (.t 275))) (.take 39 (yq 277 268 true 276) .nil))))))))))))))))))))))))))))))))))))))))) 1 [8]) (.cond (.t 277) (zr [yb 2 false] .ret) .skip))))))) (.reg [yp 278 195, zm 195 278]))))))) (zr [yb 2 true] .ret))))))))), [.tmp 2]⟩
def x4 : XFn := ⟨33, zr [yb 0 false] (zr [zs 4 (.bsl 2 1 3 [.int .i64 0] [(0, .c (.int .i64 1)), (1, .c (.int .i64 1)), (2, .c (.int .i64 1))]), zs 5 (.call 20 [.c (.int .i64 10), .t 4]), zm 3 5, yx 6 3 0, yx 7 3 1, zm 1 6, zm 2 7] (zr [zm 8 2, yk 9 .eql 8 0, zm 10 9, zh 11 10 true 1, ge 12 10 true 11, gk 13 10 true .eql 12 3, yr 14 10 13 false, zm 15 14, zh 16 15 true 1, zg 17 15 true (.iad 1 (.t 16) (.c (.int .i64 0))), gl 18 15 true 17, gk 19 15 true .eql 18 4, yr 20 15 19 false, zm 21 20, zh 22 21 true 1, zg 23 21 true (.iad 1 (.t 22) (.c (.int .i64 1))), gl 24 21 true 23, gk 25 21 true .eql 24 3, yr 26 21 25 false, zm 27 26, zh 28 27 true 1, zg 29 27 true (.iad 1 (.t 28) (.c (.int .i64 2))), gl 30 27 true 29, gk 31 27 true .eql 30 3, yr 32 27 31 false, zm 0 32] .ret)), [.tmp 0]⟩
def x5 : XFn := ⟨7, zr [zs 2 (.mov (.c (.v (.pointer none))))] (zr [zm 3 0, zs 4 (.mkp 57), zs 5 (.bld [.str ⟨#[]⟩, .v (.map none)] [(0, (1, .t 3)), (1, (1, .t 4))]), zs 6 (.box 59 (.t 5)), zm 2 6] .ret), [.tmp 2]⟩
def x6 : XFn := ⟨35, zr [zs 4 (.mov (.c (.str ⟨#[]⟩))), yn 5 0] (.seq (zr [zm 8 0, yz 9 8, yk 10 .neq 9 4] (.cond (.t 10) (zr [zs 4 (.mov (.c (.str ⟨#[]⟩))), yn 5 1] .ret) .skip)) (.seq (zr [yn 11 0] (.block 0 (.loop (zr [yk 12 .lss 11 4] (.seq (.cond (.t 12) .skip (.exit 0)) (.seq (.block 1 (zr [zm 13 11, zm 6 13] (zr [zm 14 0, zm 15 6, zs 16 (.idx (.t 14) (.t 15)), zs 17 (.call 21 [.t 16]), yo 18 17] (.cond (.t 18) (zr [zs 4 (.mov (.c (.str ⟨#[]⟩))), yn 5 1] .ret) .skip)))) (.reg [yp 19 11, zm 11 19]))))))) (.seq (zr [zm 20 1, yk 21 .lss 20 0, zm 22 21, zh 23 22 false 1, gk 24 22 false .gtr 23 999999, yq 25 22 true 24] (.cond (.t 25) (zr [zs 4 (.mov (.c (.str ⟨#[]⟩))), yn 5 3] .ret) .skip)) (zr [zm 26 0, zm 27 1, zs 28 (.call 22 [.t 27, .c (.int .i64 6)]), ya 29 .add .i64 26 28, zm 7 29] (zr [zm 30 7, zm 31 7, zs 32 (.call 23 [.t 31]), zs 33 (.call 22 [.t 32, .c (.int .i64 2)]), ya 34 .add .i64 30 33, zm 4 34, yn 5 0] .ret))))), [.tmp 4, .tmp 5]⟩
def x7 : XFn := ⟨45, zr [zs 3 (.box 24 (.t 0)), zs 4 (.box 32 (.t 1)), zs 5 (.box 9 (.t 2)), yn 6 0] (zr [zs 10 (.mkf 25 [.t 3, .t 4, .t 5]), zs 11 (.bld [.int .i64 0, .v .nilFunc] [(0, (1, .c (.int .i64 1))), (1, (1, .t 10))]), zs 12 (.mkf 28 [.t 3, .t 4]), zs 13 (.bld [.int .i64 0, .v .nilFunc] [(0, (1, .c (.int .i64 5))), (1, (1, .t 12))]), zs 14 (.mkf 29 [.t 4, .t 3]), zs 15 (.bld [.int .i64 0, .v .nilFunc] [(0, (1, .c (.int .i64 9))), (1, (1, .t 14))]), zs 16 (.mkf 32 [.t 3]), zs 17 (.bld [.int .i64 0, .v .nilFunc] [(0, (1, .c (.int .i64 7))), (1, (1, .t 16))]), zs 18 (.bsl 66 2 4 [.int .i64 0, .v .nilFunc] [(0, .t 11), (1, .t 13), (2, .t 15), (3, .t 17)]), zs 19 (.call 24 [.t 18]), zm 7 19] (.seq (zr [zm 20 7, yk 21 .neq 20 0] (.cond (.t 21) (zr [zm 22 7, zm 6 22] .ret) .skip)) (zr [yt 23 9 4, zs 24 (.call 33 [.t 23]), zs 25 (.bld [.str ⟨#[]⟩, .str ⟨#[]⟩, .str ⟨#[]⟩, .str ⟨#[]⟩, .str ⟨#[]⟩, .v (.slice none 0 0), .v (.slice none 0 0), .int .i64 0, .bl false, .int .i64 0, .int .i64 0, .str ⟨#[]⟩, .v (.slice none 0 0), .int .i64 0, .str ⟨#[]⟩, .v (.slice none 0 0), .int .i64 0, .str ⟨#[]⟩, .v (.slice none 0 0)] [(0, (9, .t 24)), (9, (1, .c (.int .i64 0)))]), zs 26 (.box 75 (.t 25)), zm 8 26] (.seq (zr [yn 27 0] (.block 0 (.loop (zr [yk 28 .lss 27 3] (.seq (.cond (.t 28) .skip (.exit 0)) (.seq (.block 1 (zr [zm 29 27, zm 9 29] (.dreg (.take 0 (zm 30 8) (.take 1 (zm 31 9) (.take 2 (zl 32 5) (.take 3 (zs 33 (.bld [.int .i64 0, .str ⟨#[]⟩, .v (.slice none 0 0)] [(0, (1, .c (.int .i64 0))), (1, (1, .t 32))])) (.take 4 (zs 34 (.nck (.t 30))) (.take 5 (zf 35 10 34) (.take 6 (zs 36 (.aia 3 3 (.t 35) (.t 31))) (.eff 7 0 false (ys 3 36 33) (.phase [2] .nil))))))))) 0 [5]))) (.reg [yp 37 27, zm 27 37]))))))) (.seq (.dreg (.take 0 (zl 38 3) (.take 1 (zs 39 (.nck (.t 38))) (.take 2 (zf 40 1 39) (.take 3 (zl 41 40) (.take 4 (zf 42 0 4) (.take 5 (zl 43 42) (.take 6 (zm 44 8) (.eff 7 0 false (zn (.pup none (.t 41) (.t 43) (.t 44))) (.phase [0, 3, 5] .nil))))))))) 0 [3, 4]) (zr [yn 6 0] .ret)))))), [.tmp 6]⟩
def x8 : XFn := ⟨8, zr [zs 3 (.box 9 (.t 1)), zs 4 (.mov (.c (.v (.slice none 0 0))))] (zr [zm 5 0, zs 6 (.mkf 35 [.t 3]), zs 7 (.call 34 [.t 5, .t 6]), zm 4 7] .ret), [.tmp 4]⟩
def x9 : XFn := ⟨8, zr [zs 2 (.mov (.c (.str ⟨#[]⟩)))] (zr [zs 3 (.bsl 9 1 3 [.str ⟨#[]⟩] [(0, .c (.str ⟨#[115]⟩)), (1, .c (.str ⟨#[98, 97, 110, 107]⟩)), (2, .c (.str ⟨#[121]⟩))]), zm 4 0, zs 5 (.ari .rem .u8 (.t 4) (.c (.int .u8 3))), yi 6 1 3 5, zl 7 6, zm 2 7] .ret), [.tmp 2]⟩
def x10 : XFn := ⟨5, zr [zs 2 (.mov (.c (.v (.slice none 0 0))))] (zr [zm 3 0, zs 4 (.call 34 [.t 3, .c (.clo 38 [])]), zm 2 4] .ret), [.tmp 2]⟩
def x11 : XFn := ⟨21, zr [zs 4 (.alloc 32 [.str ⟨#[]⟩, .str ⟨#[]⟩, .str ⟨#[]⟩, .str ⟨#[]⟩, .str ⟨#[]⟩, .v (.slice none 0 0), .v (.slice none 0 0), .int .i64 0, .bl false]), yb 5 false] (zr [zm 7 0, zs 8 (.nck (.t 7)), zf 9 1 8, zl 10 9, zm 11 1, zs 12 (.plk none false (.v (.pointer none)) (.t 10) (.t 11)), zm 6 12] (.seq (zr [zm 13 6, zs 14 (.cmn false (.t 13))] (.cond (.t 14) (zr [zs 15 (.bld [.str ⟨#[]⟩, .str ⟨#[]⟩, .str ⟨#[]⟩, .str ⟨#[]⟩, .str ⟨#[]⟩, .v (.slice none 0 0), .v (.slice none 0 0), .int .i64 0, .bl false] []), ys 9 4 15, yb 5 false] .ret) .skip)) (zr [zm 16 6, zs 17 (.nck (.t 16)), zf 18 0 17, yt 19 9 18, zs 20 (.call 33 [.t 19]), ys 9 4 20, yb 5 true] .ret))), [.cell 4 true 9, .tmp 5]⟩
def x12 : XFn := ⟨82, zr [yn 12 0] (zr [zm 18 0, zm 19 1, zm 20 2, zm 21 3, zm 22 5, zm 23 4, zs 24 (.call 27 [.t 23]), yo 25 24, zm 26 25, zh 27 26 false 4, zh 28 26 false 3, gc 29 26 false .eql 27 28, yq 30 26 true 29, zs 31 (.bld [.str ⟨#[]⟩, .int .i64 0, .int .i64 0, .str ⟨#[]⟩, .int .i64 0, .int .i64 0, .bl false, .bl false] [(0, (1, .t 19)), (1, (1, .t 20)), (2, (1, .c (.int .i64 (-1)))), (3, (1, .t 21)), (4, (1, .c (.int .i64 0))), (5, (1, .t 22)), (6, (1, .c (.bl true))), (7, (1, .t 30))]), zs 32 (.call 39 [.t 18, .t 31]), zm 13 32] (.seq (zr [zm 33 13, yk 34 .neq 33 0] (.cond (.t 34) (zr [zm 35 13, zm 12 35] .ret) .skip)) (zr [zm 36 0, zs 37 (.nck (.t 36)), zf 38 1 37, zl 39 38, zm 40 1, zs 41 (.plk none false (.v (.pointer none)) (.t 39) (.t 40)), zm 14 41] (.seq (zr [yn 42 0] (.block 0 (.loop (zr [yk 43 .lss 42 3] (.seq (.cond (.t 43) .skip (.exit 0)) (.seq (.block 1 (zr [zm 44 42, zm 15 44] (zr [zm 45 2, yk 46 .eql 45 (-1), zm 47 46, zh 48 47 false 2, zh 49 47 false 15, gc 50 47 false .eql 48 49, yq 51 47 true 50] (.cond (.t 51) (zr [zm 52 14, zm 53 15, zs 54 (.nck (.t 52)), zf 55 10 54, zs 56 (.aia 3 3 (.t 55) (.t 53)), zm 16 56] (zr [zm 57 3, zm 58 4, zm 59 5, zs 60 (.bld [.str ⟨#[]⟩, .str ⟨#[]⟩, .int .i64 0, .int .i64 0] [(0, (1, .t 57)), (1, (1, .t 58)), (2, (1, .c (.int .i64 0))), (3, (1, .t 59))]), zs 17 (.alloc 85 [.str ⟨#[]⟩, .str ⟨#[]⟩, .int .i64 0, .int .i64 0]), ys 4 17 60] (.seq (.dreg (.take 0 (zm 61 16) (.take 1 (zm 62 16) (.take 2 (zs 63 (.nck (.t 62))) (.take 3 (zf 64 2 63) (.take 4 (zl 65 64) (.take 5 (yt 66 4 17) (.eff 6 0 true (zs 67 (.bsl 85 4 1 [.str ⟨#[]⟩, .str ⟨#[]⟩, .int .i64 0, .int .i64 0] [(0, .t 66)])) (.eff 7 1 false (zs 68 (.app 70 70 85 4 48 (.t 65) (.t 67))) (.take 8 (zs 69 (.nck (.t 61))) (.take 9 (zf 70 2 69) (.eff 10 2 false (ys 1 70 68) (.phase [4, 5] .nil)))))))))))) 2 [16, 17]) (.dreg (.take 0 (zm 71 16) (.take 1 (zm 72 16) (.take 2 (zs 73 (.nck (.t 72))) (.take 3 (zf 74 1 73) (.take 4 (zl 75 74) (.take 5 (yt 76 4 17) (.eff 6 0 true (zs 77 (.bsl 85 4 1 [.str ⟨#[]⟩, .str ⟨#[]⟩, .int .i64 0, .int .i64 0] [(0, .t 76)])) (.eff 7 1 false (zs 78 (.call 40 [.t 75, .t 77])) (.take 8 (zs 79 (.nck (.t 71))) (.take 9 (zf 80 1 79) (.eff 10 1 false (ys 1 80 78) (.phase [4, 5] .nil)))))))))))) 1 [16, 17])))) .skip)))) (.reg [yp 81 42, zm 42 81]))))))) (zr [yn 12 0] .ret))))), [.tmp 12]⟩
def x13 : XFn := ⟨85, zr [yn 12 0] (zr [zm 19 0, zm 20 1, zs 21 (.call 11 [.t 19, .t 20]), zm 18 21, yx 22 18 0, yx 23 18 1, zs 13 (.alloc 32 [.str ⟨#[]⟩, .str ⟨#[]⟩, .str ⟨#[]⟩, .str ⟨#[]⟩, .str ⟨#[]⟩, .v (.slice none 0 0), .v (.slice none 0 0), .int .i64 0, .bl false]), ys 9 13 22, zm 14 23] (.seq (zr [zm 24 14, yo 25 24] (.cond (.t 25) (zr [yn 12 4] .ret) .skip)) (.seq (zr [zm 26 3, yl 27 26, yk 28 .lss 27 2, zm 29 28, zh 30 29 false 3, ge 31 29 false 30, gk 32 29 false .gtr 31 64, yq 33 29 true 32, zm 34 33, zh 35 34 false 4, ge 36 34 false 35, zh 37 34 false 3, ge 38 34 false 37, gc 39 34 false .neq 36 38, yq 40 34 true 39] (.cond (.t 40) (zr [yn 12 1] .ret) .skip)) (.seq (zr [zm 41 4, zs 42 (.call 30 [.t 41, .c (.clo 41 [])]), zm 43 42, zh 44 43 false 4, zg 45 43 false (.call 42 [.t 44]), yq 46 43 true 45, zm 47 46, gf 48 47 false 5 13, gl 49 47 false 48, zh 50 47 false 3, zg 51 47 false (.call 43 [.t 49, .t 50]), go 52 47 false 51, yq 53 47 true 52] (.cond (.t 53) (zr [yn 12 1] .ret) .skip)) (zr [zm 54 1, zm 55 2, zm 56 5, zs 57 (.call 44 [.t 54, .t 55, .t 56]), zs 58 (.bsl 90 1 1 [.v .nilFunc] [(0, .t 57)]), zm 15 58] (.seq (zr [zm 59 3, yl 60 59, yn 61 0] (.block 0 (.loop (zr [yc 62 .lss 61 60] (.seq (.cond (.t 62) .skip (.exit 0)) (.seq (.block 1 (zr [zm 63 61, yi 64 1 59 61, zl 65 64, zm 16 63, zm 17 65] (.dreg (.take 0 (zm 66 15) (.take 1 (yt 67 9 13) (.take 2 (zm 68 4) (.take 3 (zm 69 16) (.take 4 (yi 70 1 68 69) (.take 5 (zl 71 70) (.take 6 (zm 72 5) (.take 7 (zm 73 17) (.take 8 (zm 74 1) (.take 11 (zm 77 2) (.eff 9 0 true (zs 75 (.bsl 9 1 1 [.str ⟨#[]⟩] [(0, .t 74)])) (.eff 10 1 false (zs 76 (.call 46 [.t 67, .t 71, .t 72, .t 73, .t 75])) (.eff 12 1 false (zs 78 (.call 45 [.t 76, .t 77])) (.eff 13 1 false (zs 79 (.bsl 90 1 1 [.v .nilFunc] [(0, .t 78)])) (.eff 14 2 false (zs 80 (.app 92 92 90 1 8 (.t 66) (.t 79))) (.phase [1, 5] (.take 15 (zm 15 80) .nil))))))))))))))))) 3 [13, 4]))) (.reg [yp 81 61, zm 61 81]))))))) (zr [zm 82 0, zm 83 15, zs 84 (.call 47 [.t 82, .t 83]), zm 12 84] .ret))))))), [.tmp 12]⟩
def x14 : XFn := ⟨119, zr [yn 10 0] (.seq (zr [zm 20 1, yl 21 20, yk 22 .lss 21 2, zm 23 22, zh 24 23 false 1, ge 25 23 false 24, gk 26 23 false .gtr 25 64, yq 27 23 true 26, zm 28 27, zh 29 28 false 1, zg 30 28 false (.call 42 [.t 29]), yq 31 28 true 30] (.cond (.t 31) (zr [yn 10 1] .ret) .skip)) (zr [zs 11 (.mov (.c (.v (.slice none 0 0))))] (.seq (zr [zm 32 1, yl 33 32, yn 34 0] (.block 0 (.loop (zr [yc 35 .lss 34 33] (.seq (.cond (.t 35) .skip (.exit 0)) (.seq (.block 1 (zr [yi 36 1 32 34, zl 37 36, zm 13 37] (zr [zm 39 0, zm 40 13, zs 41 (.call 11 [.t 39, .t 40]), zm 38 41, yx 42 38 0, yx 43 38 1, zs 14 (.alloc 32 [.str ⟨#[]⟩, .str ⟨#[]⟩, .str ⟨#[]⟩, .str ⟨#[]⟩, .str ⟨#[]⟩, .v (.slice none 0 0), .v (.slice none 0 0), .int .i64 0, .bl false]), ys 9 14 42, zm 15 43] (.seq (zr [zm 44 15, yo 45 44] (.cond (.t 45) (zr [yn 10 4] .ret) .skip)) (.reg [zm 46 11, yt 47 9 14, zs 48 (.bsl 32 9 1 [.str ⟨#[]⟩, .str ⟨#[]⟩, .str ⟨#[]⟩, .str ⟨#[]⟩, .str ⟨#[]⟩, .v (.slice none 0 0), .v (.slice none 0 0), .int .i64 0, .bl false] [(0, .t 47)]), zs 49 (.app 96 96 32 9 144 (.t 46) (.t 48)), zm 11 49]))))) (.reg [yp 50 34, zm 34 50]))))))) (zr [zs 16 (.mov (.c (.v (.slice none 0 0))))] (zr [zs 17 (.mov (.c (.v (.slice none 0 0))))] (.seq (zr [zm 51 11, yl 52 51, yn 53 0] (.block 2 (.loop (zr [yc 54 .lss 53 52] (.seq (.cond (.t 54) .skip (.exit 2)) (.seq (.block 3 (zr [yi 55 9 51 53, yt 56 9 55, zs 19 (.alloc 32 [.str ⟨#[]⟩, .str ⟨#[]⟩, .str ⟨#[]⟩, .str ⟨#[]⟩, .str ⟨#[]⟩, .v (.slice none 0 0), .v (.slice none 0 0), .int .i64 0, .bl false]), ys 9 19 56] (.seq (.seq (.dreg (.take 0 (zf 57 2 19) (.take 1 (zl 58 57) (.take 2 (zm 59 11) (.take 3 (zs 60 (.iad 9 (.t 59) (.c (.int .i64 0)))) (.take 4 (zf 61 2 60) (.take 5 (zl 62 61) (.take 6 (yc 63 .neq 58 62) (.take 7 (zm 64 63) (.take 8 (gf 65 64 false 3 19) (.take 9 (gl 66 64 false 65) (.take 10 (zh 67 64 false 11) (.take 11 (zg 68 64 false (.iad 9 (.t 67) (.c (.int .i64 0)))) (.take 12 (gf 69 64 false 3 68) (.take 13 (gl 70 64 false 69) (.take 14 (gc 71 64 false .neq 66 70) (.take 15 (yq 72 64 true 71) (.take 16 (zm 73 72) (.take 17 (gf 74 73 false 4 19) (.take 18 (gl 75 73 false 74) (.take 19 (zh 76 73 false 11) (.take 20 (zg 77 73 false (.iad 9 (.t 76) (.c (.int .i64 0)))) (.take 21 (gf 78 73 false 4 77) (.take 22 (gl 79 73 false 78) (.take 23 (gc 80 73 false .neq 75 79) (.take 24 (yq 81 73 true 80) (.take 25 (zm 82 81) (.take 26 (gf 83 82 false 8 19) (.take 27 (gl 84 82 false 83) (.take 28 (zh 85 82 false 11) (.take 29 (zg 86 82 false (.iad 9 (.t 85) (.c (.int .i64 0)))) (.take 30 (gf 87 82 false 8 86) (.take 31 (gl 88 82 false 87) (.take 32 (zg 89 82 false (.cmb .neq (.t 84) (.t 88))) (.take 33 (yq 90 82 true 89) .nil)))))))))))))))))))))))))))))))))) 0 [19, 11]) (.cond (.t 90) (zr [yn 10 12] .ret) .skip)) (zr [zm 91 16, zf 92 5 19, zl 93 92, zs 94 (.app 26 26 9 1 16 (.t 91) (.t 93)), zm 16 94] (.reg [zm 95 17, zf 96 0 19, zl 97 96, zm 98 2, zm 99 4, zs 100 (.call 44 [.t 97, .t 98, .t 99]), zs 101 (.bsl 90 1 1 [.v .nilFunc] [(0, .t 100)]), zs 102 (.app 92 92 90 1 8 (.t 95) (.t 101)), zm 17 102]))))) (.reg [yp 103 53, zm 53 103]))))))) (zr [zm 104 0, zm 105 17, zm 106 11, zs 107 (.iad 9 (.t 106) (.c (.int .i64 0))), yt 108 9 107, zm 109 3, zm 110 4, zm 111 16, zm 112 1, zs 113 (.call 46 [.t 108, .t 109, .t 110, .t 111, .t 112]), zm 114 2, zs 115 (.call 45 [.t 113, .t 114]), zs 116 (.bsl 90 1 1 [.v .nilFunc] [(0, .t 115)]), zs 117 (.app 92 92 90 1 8 (.t 105) (.t 116)), zs 118 (.call 47 [.t 104, .t 117]), zm 10 118] .ret))))))), [.tmp 10]⟩
def x15 : XFn := ⟨48, zr [yn 14 0] (zr [zm 19 0, zm 20 1, zs 21 (.call 11 [.t 19, .t 20]), zm 18 21, yx 22 18 0, yx 23 18 1, zs 15 (.alloc 32 [.str ⟨#[]⟩, .str ⟨#[]⟩, .str ⟨#[]⟩, .str ⟨#[]⟩, .str ⟨#[]⟩, .v (.slice none 0 0), .v (.slice none 0 0), .int .i64 0, .bl false]), ys 9 15 22, zm 16 23] (.seq (zr [zm 24 16, yo 25 24] (.cond (.t 25) (zr [yn 14 4] .ret) .skip)) (zr [yt 26 9 15, zm 27 3, zm 28 6, zf 29 5 15, zl 30 29, zm 31 1, zs 32 (.bsl 9 1 1 [.str ⟨#[]⟩] [(0, .t 31)]), zs 33 (.call 46 [.t 26, .t 27, .t 28, .t 30, .t 32]), zs 17 (.alloc 32 [.str ⟨#[]⟩, .str ⟨#[]⟩, .str ⟨#[]⟩, .str ⟨#[]⟩, .str ⟨#[]⟩, .v (.slice none 0 0), .v (.slice none 0 0), .int .i64 0, .bl false]), ys 9 17 33] (zr [zm 34 4, zm 35 5, zf 36 2 17, ys 1 36 34, zf 37 3 17, ys 1 37 35] (.seq (.dreg (.take 0 (zm 38 0) (.take 1 (zm 39 1) (.take 2 (zm 40 2) (.take 3 (zm 41 6) (.take 5 (yt 43 9 17) (.take 6 (zm 44 2) (.eff 4 0 true (zs 42 (.call 44 [.t 39, .t 40, .t 41])) (.eff 7 0 false (zs 45 (.call 45 [.t 43, .t 44])) (.eff 8 0 false (zs 46 (.bsl 90 1 2 [.v .nilFunc] [(0, .t 42), (1, .t 45)])) (.eff 9 1 false (zs 47 (.call 47 [.t 38, .t 46])) (.phase [5] (.take 10 (zm 14 47) .nil)))))))))))) 1 [17]) .ret))))), [.tmp 14]⟩
def x16 : XFn := ⟨44, zr [zs 10 (.mov (.c (.v (.slice none 0 0)))), yn 11 0] (zr [zm 14 0, zm 15 1, zm 16 2, zm 17 3, zm 18 4, zs 19 (.bld [.str ⟨#[]⟩, .int .i64 0, .int .i64 0, .str ⟨#[]⟩, .int .i64 0, .int .i64 0, .bl false, .bl false] [(0, (1, .t 15)), (1, (1, .t 16)), (3, (1, .t 17)), (4, (1, .c (.int .i64 0))), (5, (1, .t 18)), (6, (1, .c (.bl true)))]), zs 20 (.call 39 [.t 14, .t 19]), zm 12 20] (.seq (zr [zm 21 12, yk 22 .neq 21 0] (.cond (.t 22) (zr [zm 23 12, zs 10 (.mov (.c (.v (.slice none 0 0)))), zm 11 23] .ret) .skip)) (zr [zm 24 0, zs 25 (.nck (.t 24)), zf 26 1 25, zl 27 26, zm 28 1, zs 29 (.plk none false (.v (.pointer none)) (.t 27) (.t 28)), zm 13 29] (zr [zm 30 13, zs 31 (.call 48 [.t 30, .c (.int .i64 1)])] (zr [zm 32 13, zm 33 2, zs 34 (.nck (.t 32)), zf 35 10 34, zs 36 (.aia 3 3 (.t 35) (.t 33)), zf 37 0 36, zn (.st 1 (.t 37) (.c (.int .i64 1)))] (zr [zm 38 13, zs 39 (.nck (.t 38)), zf 40 0 39, zf 41 5 40, zl 42 41, zs 43 (.call 49 [.t 42]), zm 10 43, yn 11 0] .ret)))))), [.tmp 10, .tmp 11]⟩
def x17 : XFn := ⟨18, zr [yn 4 0] (zr [zm 6 0, zs 7 (.nck (.t 6)), zf 8 1 7, zl 9 8, zm 10 1, zs 11 (.plk none false (.v (.pointer none)) (.t 9) (.t 10)), zm 5 11] (.seq (zr [zm 12 5, zs 13 (.cmn false (.t 12))] (.cond (.t 13) (zr [yn 4 (-1)] .ret) .skip)) (zr [zm 14 5, zs 15 (.nck (.t 14)), zf 16 9 15, zl 17 16, zm 4 17] .ret))), [.tmp 4]⟩
def x18 : XFn := ⟨16, zr [zs 3 (.box 9 (.t 1)), zs 4 (.mov (.c (.str ⟨#[]⟩))), yb 5 false] (zr [zm 7 0, zs 8 (.mkf 50 [.t 3]), zs 9 (.call 34 [.t 7, .t 8]), zm 6 9] (.seq (zr [zm 10 6, yl 11 10, yk 12 .eql 11 0] (.cond (.t 12) (zr [zs 4 (.mov (.c (.str ⟨#[]⟩))), yb 5 false] .ret) .skip)) (zr [zm 13 6, zs 14 (.iad 1 (.t 13) (.c (.int .i64 0))), zl 15 14, zm 4 15, yb 5 true] .ret))), [.tmp 4, .tmp 5]⟩
def x19 : XFn := ⟨9, zr [zs 2 (.box 24 (.t 0)), yb 4 false] (zr [zm 5 1, zs 6 (.mkf 52 [.t 2]), zs 7 (.call 30 [.t 5, .t 6]), yo 8 7, zm 4 8] .ret), [.tmp 4]⟩
def x20 : XFn := ⟨113, zr [zs 4 (.mov (.c (.v (.slice none 0 0)))), yn 5 0] (.seq (zr [zm 22 0, zm 23 1, zs 24 (.call 53 [.t 22, .t 23]), zm 6 24] (zr [zm 25 6, yk 26 .neq 25 0] (.cond (.t 26) (zr [zm 27 6, zs 4 (.mov (.c (.v (.slice none 0 0)))), zm 5 27] .ret) .skip))) (zr [zm 28 1, yl 29 28, zs 30 (.mks 2 1 8 [.int .i64 0] (.t 29) (.t 29)), zm 7 30] (.seq (zr [zm 31 0, yk 32 .eql 31 0] (.cond (.t 32) (zr [zm 33 7, zm 4 33, yn 5 0] .ret) .skip)) (zr [zs 8 (.mov (.c (.int .u64 0)))] (.seq (zr [zm 34 1, yl 35 34, yn 36 0] (.block 0 (.loop (zr [yc 37 .lss 36 35] (.seq (.cond (.t 37) .skip (.exit 0)) (.seq (.block 1 (zr [yi 38 1 34 36, zl 39 38, zm 10 39] (.reg [zm 40 8, zm 41 10, zs 42 (.cvi .u64 (.t 41)), ya 43 .add .u64 40 42, zm 8 43]))) (.reg [yp 44 36, zm 36 44]))))))) (zr [zm 45 1, yl 46 45, zs 47 (.mks 101 1 8 [.int .u64 0] (.t 46) (.t 46)), zs 11 (.alloc 102 [.v (.slice none 0 0)]), ys 1 11 47] (zr [zm 48 1, yl 49 48, zs 50 (.mks 3 1 8 [.int .i64 0] (.t 49) (.t 49)), zm 12 50] (zr [zm 51 0, zm 13 51] (.seq (zr [zm 52 1, yl 53 52, yn 54 0] (.block 2 (.loop (zr [yc 55 .lss 54 53] (.seq (.cond (.t 55) .skip (.exit 2)) (.seq (.block 3 (zr [zm 56 54, yi 57 1 52 54, zl 58 57, zm 14 56, zm 15 58] (zr [zm 60 0, zs 61 (.cvi .u64 (.t 60)), zm 62 15, zs 63 (.cvi .u64 (.t 62)), zs 64 (.call 54 [.t 61, .t 63]), zm 59 64, yx 65 59 0, yx 66 59 1, zm 16 65, zm 17 66] (zr [zm 68 16, zm 69 17, zm 70 8, zs 71 (.call 55 [.t 68, .t 69, .t 70]), zm 67 71, yx 72 67 0, yx 73 67 1, zm 18 72, zm 19 73] (.seq (.dreg (.take 0 (zm 74 7) (.take 1 (zm 75 14) (.take 2 (zl 76 11) (.take 3 (zm 77 14) (.take 4 (zm 78 12) (.take 5 (zm 79 14) (.take 6 (zm 80 18) (.take 7 (zs 81 (.cvi .i64 (.t 80))) (.take 8 (zm 82 19) (.take 9 (zm 83 14) (.take 10 (yi 84 1 74 75) (.eff 11 0 true (ys 1 84 81) (.take 12 (yi 85 1 76 77) (.eff 13 0 false (ys 1 85 82) (.take 14 (yi 86 1 78 79) (.eff 15 0 false (ys 1 86 83) (.phase [2] .nil))))))))))))))))) 0 [11]) (.reg [zm 87 13, zm 88 7, zm 89 14, yi 90 1 88 89, zl 91 90, ya 92 .sub .i64 87 91, zm 13 92])))))) (.reg [yp 93 54, zm 54 93]))))))) (zr [zm 94 12, zs 95 (.mkf 57 [.t 11]), zs 96 (.call 56 [.t 94, .t 95])] (.seq (zr [zm 97 12, zm 98 13, zs 99 (.sli 1 (.t 97) none (some (.t 98))), yl 100 99, yn 101 0] (.block 4 (.loop (zr [yc 102 .lss 101 100] (.seq (.cond (.t 102) .skip (.exit 4)) (.seq (.block 5 (zr [yi 103 1 99 101, zl 104 103, zm 21 104] (.reg [zm 105 7, zm 106 21, yi 107 1 105 106, zl 108 107, yp 109 108, yi 110 1 105 106, ys 1 110 109]))) (.reg [yp 111 101, zm 101 111]))))))) (zr [zm 112 7, zm 4 112, yn 5 0] .ret)))))))))))), [.tmp 4, .tmp 5]⟩
def x21 : XFn := ⟨9, zr [yb 2 false] (zr [zm 3 0, zs 4 (.cmp .geq (.t 3) (.c (.int .u8 97))), zm 5 4, zh 6 5 true 0, zg 7 5 true (.cmp .leq (.t 6) (.c (.int .u8 122))), yr 8 5 7 false, zm 2 8] .ret), [.tmp 2]⟩
def x22 : XFn := ⟨15, zr [zs 4 (.mov (.c (.str ⟨#[]⟩)))] (zr [zm 6 0, zs 7 (.call 59 [.t 6]), zm 5 7] (.seq (.block 0 (.loop (.seq (zr [zm 8 5, yz 9 8, zm 10 1, yc 11 .lss 9 10] (.cond (.t 11) .skip (.exit 0))) (.block 1 (.reg [zm 12 5, zs 13 (.ari .add .i64 (.c (.str ⟨#[48]⟩)) (.t 12)), zm 5 13]))))) (zr [zm 14 5, zm 4 14] .ret))), [.tmp 4]⟩
def x23 : XFn := ⟨50, zr [yn 2 0] (.seq (zr [zm 6 0, yz 7 6, yk 8 .lss 7 10] (.cond (.t 8) (zr [yn 2 (-1)] .ret) .skip)) (zr [yn 3 0] (.seq (zr [yn 9 0] (.block 0 (.loop (zr [yk 10 .lss 9 10] (.seq (.cond (.t 10) .skip (.exit 0)) (.seq (.block 1 (zr [zm 11 9, zm 4 11] (zr [yn 5 0] (.seq (.block 2 (zr [zm 13 4, yk 14 .lss 13 4, zm 15 14, zh 16 15 true 0, zh 17 15 true 4, zg 18 15 true (.idx (.t 16) (.t 17)), zg 19 15 true (.call 21 [.t 18]), yr 20 15 19 false, zm 12 20] (.cond (.t 12) (.reg [zm 21 0, zm 22 4, zs 23 (.idx (.t 21) (.t 22)), zs 24 (.ari .sub .u8 (.t 23) (.c (.int .u8 97))), zs 25 (.cvi .i64 (.t 24)), yp 26 25, zm 5 26]) (zr [zm 28 4, yk 29 .geq 28 4, zm 30 29, zh 31 30 true 0, zh 32 30 true 4, zg 33 30 true (.idx (.t 31) (.t 32)), zg 34 30 true (.call 60 [.t 33]), yr 35 30 34 false, zm 27 35] (.cond (.t 27) (.reg [zm 36 0, zm 37 4, zs 38 (.idx (.t 36) (.t 37)), zs 39 (.ari .sub .u8 (.t 38) (.c (.int .u8 48))), zs 40 (.cvi .i64 (.t 39)), zm 5 40]) (zr [yn 2 (-1)] .ret)))))) (.reg [zm 41 3, zm 42 5, zm 43 4, yp 44 43, ya 45 .mul .i64 42 44, ya 46 .add .i64 41 45, zm 3 46]))))) (.reg [yp 47 9, zm 9 47]))))))) (zr [zm 48 3, zs 49 (.ari .rem .i64 (.t 48) (.c (.int .i64 97))), zm 2 49] .ret)))), [.tmp 2]⟩
def x24 : XFn := ⟨17, zr [yn 2 0] (.seq (zr [zm 5 0, yl 6 5, yn 7 0] (.block 0 (.loop (zr [yc 8 .lss 7 6] (.seq (.cond (.t 8) .skip (.exit 0)) (.seq (.block 1 (zr [yi 9 2 5 7, yt 10 2 9, zs 4 (.alloc 66 [.int .i64 0, .v .nilFunc]), ys 2 4 10] (zr [zf 11 1 4, zl 12 11, zs 13 (.cav (.t 12) [])] (.cond (.t 13) (zr [zf 14 0 4, zl 15 14, zm 2 15] .ret) .skip)))) (.reg [yp 16 7, zm 7 16]))))))) (zr [yn 2 0] .ret)), [.tmp 2]⟩
def x25 : XFn := ⟨13, zr [yb 3 false] (zr [zl 4 0, yt 5 9 1, zs 6 (.call 26 [.t 4, .t 5]), yo 7 6, zm 8 7, gl 9 8 false 2, zg 10 8 false (.call 27 [.t 9]), go 11 8 false 10, yq 12 8 true 11, zm 3 12] .ret), [.tmp 3]⟩
def x26 : XFn := ⟨85, zr [zs 3 (.box 32 (.t 1)), yb 4 false] (.seq (zr [zf 8 0 3, zl 9 8, zs 10 (.call 27 [.t 9]), yo 11 10, zm 12 11, gf 13 12 false 2 3, gl 14 12 false 13, zg 15 12 false (.call 27 [.t 14]), go 16 12 false 15, yq 17 12 true 16, zm 18 17, gf 19 18 false 3 3, gl 20 18 false 19, zg 21 18 false (.call 27 [.t 20]), go 22 18 false 21, yq 23 18 true 22, zm 24 23, gf 25 24 false 4 3, gl 26 24 false 25, zg 27 24 false (.call 27 [.t 26]), go 28 24 false 27, yq 29 24 true 28] (.cond (.t 29) (zr [yb 4 false] .ret) .skip)) (.seq (.seq (.dreg (.take 0 (zf 30 1 3) (.take 1 (zl 31 30) (.take 2 (zm 32 0) (.take 3 (zs 33 (.nck (.t 32))) (.take 4 (zf 34 0 33) (.take 5 (zl 35 34) (.take 6 (yc 36 .neq 31 35) (.take 7 (zm 37 36) (.take 8 (gf 38 37 false 7 3) (.take 9 (gl 39 37 false 38) (.eff 10 0 false (zg 40 37 false (.call 61 [.t 39])) (.phase [1, 5, 9] (.take 11 (go 41 37 false 40) (.take 12 (yq 42 37 true 41) .nil)))))))))))))) 0 [3, 0]) (.cond (.t 42) (zr [yb 4 false] .ret) .skip)) (.seq (zr [zf 43 5 3, zl 44 43, yl 45 44, yk 46 .lss 45 1, zm 47 46, gf 48 47 false 5 3, gl 49 47 false 48, ge 50 47 false 49, gk 51 47 false .gtr 50 64, yq 52 47 true 51, zm 53 52, gf 54 53 false 6 3, gl 55 53 false 54, ge 56 53 false 55, gk 57 53 false .gtr 56 64, yq 58 53 true 57] (.cond (.t 58) (zr [yb 4 false] .ret) .skip)) (zr [zf 59 5 3, zl 60 59, yl 61 60, zs 62 (.mkr 33 (.t 61)), zm 5 62] (.seq (zr [zf 63 5 3, zl 64 63, yl 65 64, yn 66 0] (.block 0 (.loop (zr [yc 67 .lss 66 65] (.seq (.cond (.t 67) .skip (.exit 0)) (.seq (.block 1 (zr [yi 68 1 64 66, zl 69 68, zm 7 69] (.seq (zr [zm 70 7, zs 71 (.call 62 [.t 70]), yo 72 71, zm 73 72, zh 74 73 false 5, zh 75 73 false 7, zg 76 73 false (.lkp none false (.bl false) (.t 74) (.t 75)), yq 77 73 true 76] (.cond (.t 77) (zr [yb 4 false] .ret) .skip)) (.reg [zm 78 5, zm 79 7, zn (.upd none (.t 78) (.t 79) (.c (.bl true)))])))) (.reg [yp 80 66, zm 66 80]))))))) (zr [zf 81 6 3, zl 82 81, zs 83 (.call 30 [.t 82, .c (.clo 63 [])]), yo 84 83, zm 4 84] .ret)))))), [.tmp 4]⟩
def x27 : XFn := ⟨36, zr [yb 2 false] (.seq (zr [zm 4 0, yz 5 4, yk 6 .lss 5 1, zm 7 6, zh 8 7 false 0, gz 9 7 false 8, gk 10 7 false .gtr 9 16, yq 11 7 true 10] (.cond (.t 11) (zr [yb 2 false] .ret) .skip)) (.seq (zr [zm 12 0, yz 13 12, yn 14 0] (.block 0 (.loop (zr [yc 15 .lss 14 13] (.seq (.cond (.t 15) .skip (.exit 0)) (.seq (.block 1 (zr [zm 16 14, zm 3 16] (zr [zm 17 0, zm 18 3, zs 19 (.idx (.t 17) (.t 18)), zs 20 (.call 21 [.t 19]), yo 21 20, zm 22 21, zh 23 22 true 0, zh 24 22 true 3, zg 25 22 true (.idx (.t 23) (.t 24)), zg 26 22 true (.call 60 [.t 25]), go 27 22 true 26, yr 28 22 27 false, zm 29 28, zh 30 29 true 0, zh 31 29 true 3, zg 32 29 true (.idx (.t 30) (.t 31)), zg 33 29 true (.cmp .neq (.t 32) (.c (.int .u8 45))), yr 34 29 33 false] (.cond (.t 34) (zr [yb 2 false] .ret) .skip)))) (.reg [yp 35 14, zm 14 35]))))))) (zr [yb 2 true] .ret))), [.tmp 2]⟩
def x28 : XFn := ⟨11, zr [yb 2 false] (.seq (.dreg (.take 0 (zl 3 0) (.take 1 (zs 4 (.nck (.t 3))) (.take 2 (zf 5 1 4) (.take 3 (zl 6 5) (.take 4 (zf 7 0 1) (.take 5 (zl 8 7) (.eff 6 0 false (zs 9 (.plk none false (.v (.pointer none)) (.t 6) (.t 8))) (.phase [0, 3, 5] (.take 7 (zs 10 (.cmn true (.t 9))) (.take 8 (zm 2 10) .nil)))))))))) 0 [0, 1]) .ret), [.tmp 2]⟩
def x29 : XFn := ⟨7, zr [yb 2 false] (zr [zf 3 5 0, zl 4 3, zs 5 (.mkf 31 [.t 1]), zs 6 (.call 30 [.t 4, .t 5]), zm 2 6] .ret), [.tmp 2]⟩
def x30 : XFn := ⟨9, zr [yb 4 false] (zr [zm 5 0, zm 6 1, zs 7 (.call 64 [.t 5, .t 6]), yk 8 .geq 7 0, zm 4 8] .ret), [.tmp 4]⟩
def x31 : XFn := ⟨13, zr [yb 3 false] (zr [zl 7 1, zm 8 0, zs 9 (.call 18 [.t 7, .t 8]), zm 6 9, yx 10 6 0, yx 11 6 1, zm 4 10, zm 5 11] (zr [zm 12 5, zm 3 12] .ret)), [.tmp 3]⟩
def x32 : XFn := ⟨8, zr [yb 1 false] (zr [zl 2 0, zs 3 (.nck (.t 2)), zf 4 1 3, zl 5 4, zs 6 (.lenm (.t 5)), yk 7 .geq 6 256, zm 1 7] .ret), [.tmp 1]⟩
def x33 : XFn := ⟨12, zr [zs 1 (.box 32 (.t 0)), zs 2 (.alloc 32 [.str ⟨#[]⟩, .str ⟨#[]⟩, .str ⟨#[]⟩, .str ⟨#[]⟩, .str ⟨#[]⟩, .v (.slice none 0 0), .v (.slice none 0 0), .int .i64 0, .bl false])] (zr [zf 3 5 1, zl 4 3, zs 5 (.call 49 [.t 4]), zf 6 5 1, ys 1 6 5] (zr [zf 7 6 1, zl 8 7, zs 9 (.call 49 [.t 8]), zf 10 6 1, ys 1 10 9] (zr [yt 11 9 1, ys 9 2 11] .ret))), [.cell 2 true 9]⟩
def x34 : XFn := ⟨28, zr [zs 4 (.mov (.c (.v (.slice none 0 0))))] (zr [zs 5 (.mov (.c (.v (.slice none 0 0))))] (.seq (zr [zm 8 0, zs 9 (.nck (.t 8)), zf 10 1 9, zl 11 10, zs 12 (.rng (.t 11))] (.block 0 (.loop (zr [zs 13 (.nxt (.t 12)), yx 14 13 0] (.seq (.cond (.t 14) .skip (.exit 0)) (.block 1 (zr [zs 15 (.ent (.t 12)), yx 16 15 0, yx 17 15 1, zm 6 16, zm 7 17] (zr [zm 18 1, zm 19 7, zs 20 (.cav (.t 18) [.t 19])] (.cond (.t 20) (.reg [zm 21 5, zm 22 6, zs 23 (.bsl 9 1 1 [.str ⟨#[]⟩] [(0, .t 22)]), zs 24 (.app 26 26 9 1 16 (.t 21) (.t 23)), zm 5 24]) .skip))))))))) (zr [zm 25 5, zs 26 (.call 65 [.t 25])] (zr [zm 27 5, zm 4 27] .ret)))), [.tmp 4]⟩
def x35 : XFn := ⟨14, zr [yb 3 false] (zr [zm 4 0, zs 5 (.nck (.t 4)), zf 6 9 5, zl 7 6, yk 8 .eql 7 0, zm 9 8, zh 10 9 true 0, zg 11 9 true (.mkf 37 [.t 1]), zg 12 9 true (.call 36 [.t 10, .c (.int .i64 (-1)), .t 11]), yr 13 9 12 false, zm 3 13] .ret), [.tmp 3]⟩
def x36 : XFn := ⟨30, zr [yb 6 false] (.seq (zr [zm 9 0, zs 10 (.nck (.t 9)), zf 11 10 10, yt 12 9 11, yn 13 0] (.block 0 (.loop (zr [yk 14 .lss 13 3] (.seq (.cond (.t 14) .skip (.exit 0)) (.seq (.block 1 (zr [zm 15 13, zs 16 (.aix true 3 3 (.t 12) (.t 13)), zs 8 (.alloc 72 [.int .i64 0, .str ⟨#[]⟩, .v (.slice none 0 0)]), zm 7 15, ys 3 8 16] (zr [zm 17 1, yk 18 .eql 17 (-1), zm 19 18, zh 20 19 false 1, zh 21 19 false 7, gc 22 19 false .eql 20 21, yq 23 19 true 22, zm 24 23, zh 25 24 true 2, zg 26 24 true (.ld true 3 (.t 8)), zg 27 24 true (.cav (.t 25) [.t 26]), yr 28 24 27 false] (.cond (.t 28) (zr [yb 6 true] .ret) .skip)))) (.reg [yp 29 13, zm 13 29]))))))) (zr [yb 6 false] .ret)), [.tmp 6]⟩
def x37 : XFn := ⟨13, zr [zs 2 (.box 72 (.t 0)), yb 3 false] (zr [zf 4 0 2, zl 5 4, yk 6 .eql 5 0, zm 7 6, gf 8 7 true 1 2, gl 9 7 true 8, gl 10 7 true 1, gc 11 7 true .eql 9 10, yr 12 7 11 false, zm 3 12] .ret), [.tmp 3]⟩
def x38 : XFn := ⟨3, zr [yb 2 false] (zr [yb 2 true] .ret), [.tmp 2]⟩
def x39 : XFn := ⟨27, zr [zs 3 (.box 82 (.t 1)), yn 4 0] (.seq (.dreg (.take 0 (zm 6 0) (.take 1 (zs 7 (.nck (.t 6))) (.take 2 (zf 8 1 7) (.take 3 (zl 9 8) (.take 4 (zf 10 0 3) (.take 5 (zl 11 10) (.fork (.eff 6 0 true (zs 12 (.plk none false (.v (.pointer none)) (.t 9) (.t 11))) (.eff 7 0 true (zs 5 (.alloc 67 [.v (.pointer none)])) (.eff 8 1 false (ys 1 5 12) (.phase [3, 5] .nil)))) (.eff 7 0 true (zs 5 (.alloc 67 [.v (.pointer none)])) (.eff 6 0 false (zs 12 (.plk none false (.v (.pointer none)) (.t 9) (.t 11))) (.eff 8 1 false (ys 1 5 12) (.phase [3, 5] .nil))))))))))) 1 [0, 3]) (zr [zs 13 (.mkf 66 [.t 5]), zs 14 (.bld [.int .i64 0, .v .nilFunc] [(0, (1, .c (.int .i64 4))), (1, (1, .t 13))]), zs 15 (.mkf 67 [.t 3]), zs 16 (.bld [.int .i64 0, .v .nilFunc] [(0, (1, .c (.int .i64 3))), (1, (1, .t 15))]), zs 17 (.mkf 68 [.t 3]), zs 18 (.bld [.int .i64 0, .v .nilFunc] [(0, (1, .c (.int .i64 1))), (1, (1, .t 17))]), zs 19 (.mkf 69 [.t 5, .t 3]), zs 20 (.bld [.int .i64 0, .v .nilFunc] [(0, (1, .c (.int .i64 9))), (1, (1, .t 19))]), zs 21 (.mkf 71 [.t 5, .t 3]), zs 22 (.bld [.int .i64 0, .v .nilFunc] [(0, (1, .c (.int .i64 8))), (1, (1, .t 21))]), zs 23 (.mkf 73 [.t 3, .t 5]), zs 24 (.bld [.int .i64 0, .v .nilFunc] [(0, (1, .c (.int .i64 6))), (1, (1, .t 23))]), zs 25 (.bsl 66 2 6 [.int .i64 0, .v .nilFunc] [(0, .t 14), (1, .t 16), (2, .t 18), (3, .t 20), (4, .t 22), (5, .t 24)]), zs 26 (.call 24 [.t 25]), zm 4 26] .ret)), [.tmp 4]⟩
def x40 : XFn := ⟨16, zr [zs 4 (.mov (.c (.str ⟨#[]⟩)))] (zr [zm 9 0, zm 10 1, zs 11 (.call 76 [.t 9, .t 10]), zm 8 11, yx 12 8 0, yx 13 8 1, yx 14 8 2, zm 5 12, zm 6 13, zm 7 14] (zr [zm 15 5, zm 4 15] .ret)), [.tmp 4]⟩
def x41 : XFn := ⟨6, zr [yb 2 false] (zr [zm 3 0, zs 4 (.call 27 [.t 3]), yo 5 4, zm 2 5] .ret), [.tmp 2]⟩
def x42 : XFn := ⟨21, zr [yb 2 false] (zr [zm 6 0, yl 7 6, zs 8 (.mkr 33 (.t 7)), zm 3 8] (.seq (zr [zm 9 0, yl 10 9, yn 11 0] (.block 0 (.loop (zr [yc 12 .lss 11 10] (.seq (.cond (.t 12) .skip (.exit 0)) (.seq (.block 1 (zr [yi 13 1 9 11, zl 14 13, zm 5 14] (.seq (zr [zm 15 3, zm 16 5, zs 17 (.lkp none false (.bl false) (.t 15) (.t 16))] (.cond (.t 17) (zr [yb 2 true] .ret) .skip)) (.reg [zm 18 3, zm 19 5, zn (.upd none (.t 18) (.t 19) (.c (.bl true)))])))) (.reg [yp 20 11, zm 11 20]))))))) (zr [yb 2 false] .ret))), [.tmp 2]⟩
def x43 : XFn := ⟨50, zr [yb 4 false] (zr [zm 12 0, yl 13 12, zs 14 (.mkr 33 (.t 13)), zm 5 14] (.seq (zr [zm 15 0, yl 16 15, yn 17 0] (.block 0 (.loop (zr [yc 18 .lss 17 16] (.seq (.cond (.t 18) .skip (.exit 0)) (.seq (.block 1 (zr [yi 19 1 15 17, zl 20 19, zm 7 20] (.reg [zm 21 5, zm 22 7, zn (.upd none (.t 21) (.t 22) (.c (.bl true)))]))) (.reg [yp 23 17, zm 17 23]))))))) (.seq (zr [zm 24 1, yl 25 24, yn 26 0] (.block 2 (.loop (zr [yc 27 .lss 26 25] (.seq (.cond (.t 27) .skip (.exit 2)) (.seq (.block 3 (zr [yi 28 1 24 26, zl 29 28, zm 9 29] (.seq (zr [zm 30 9, yl 31 30, yk 32 .eql 31 0] (.cond (.t 32) (zr [yb 4 false] .ret) .skip)) (zr [zm 33 9, yl 34 33, yn 35 0] (.block 4 (.loop (zr [yc 36 .lss 35 34] (.seq (.cond (.t 36) .skip (.exit 4)) (.seq (.block 5 (zr [yi 37 1 33 35, zl 38 37, zm 11 38] (.seq (zr [zm 39 5, zm 40 11, zs 41 (.lkp none false (.bl false) (.t 39) (.t 40)), yo 42 41] (.cond (.t 42) (zr [yb 4 false] .ret) .skip)) (.reg [zm 43 5, zm 44 11, zn (.del none (.t 43) (.t 44))])))) (.reg [yp 45 35, zm 35 45])))))))))) (.reg [yp 46 26, zm 26 46]))))))) (zr [zm 47 5, zs 48 (.lenm (.t 47)), yk 49 .eql 48 0, zm 4 49] .ret)))), [.tmp 4]⟩
def x44 : XFn := ⟨8, zr [zs 3 (.box 9 (.t 0)), zs 4 (.box 9 (.t 1)), zs 5 (.box 3 (.t 2)), zs 6 (.mov (.c (.v .nilFunc)))] (zr [zs 7 (.mkf 77 [.t 3, .t 4, .t 5]), zm 6 7] .ret), [.tmp 6]⟩
def x45 : XFn := ⟨6, zr [zs 2 (.box 32 (.t 0)), zs 3 (.box 9 (.t 1)), zs 4 (.mov (.c (.v .nilFunc)))] (zr [zs 5 (.mkf 79 [.t 2, .t 3]), zm 4 5] .ret), [.tmp 4]⟩
def x46 : XFn := ⟨26, zr [zs 5 (.box 32 (.t 0)), zs 10 (.alloc 32 [.str ⟨#[]⟩, .str ⟨#[]⟩, .str ⟨#[]⟩, .str ⟨#[]⟩, .str ⟨#[]⟩, .v (.slice none 0 0), .v (.slice none 0 0), .int .i64 0, .bl false])] (zr [zm 11 1, zf 12 1 5, zl 13 12, zf 14 2 5, zl 15 14, zf 16 3 5, zl 17 16, zf 18 4 5, zl 19 18, zf 20 8 5, zl 21 20, zm 22 2, zm 23 3, zm 24 4, zs 25 (.bld [.str ⟨#[]⟩, .str ⟨#[]⟩, .str ⟨#[]⟩, .str ⟨#[]⟩, .str ⟨#[]⟩, .v (.slice none 0 0), .v (.slice none 0 0), .int .i64 0, .bl false] [(0, (1, .t 11)), (1, (1, .t 13)), (2, (1, .t 15)), (3, (1, .t 17)), (4, (1, .t 19)), (8, (1, .t 21)), (7, (1, .t 22)), (5, (1, .t 23)), (6, (1, .t 24))]), ys 9 10 25] .ret), [.cell 10 true 9]⟩
def x47 : XFn := ⟨40, zr [yn 4 0] (zr [zm 12 0, zs 13 (.call 80 [.t 12]), zm 5 13] (.seq (zr [zm 14 1, yl 15 14, yn 16 0] (.block 0 (.loop (zr [yc 17 .lss 16 15] (.seq (.cond (.t 17) .skip (.exit 0)) (.seq (.block 1 (zr [yi 18 1 14 16, zl 19 18, zm 7 19] (zr [zm 20 7, zm 21 5, zs 22 (.cav (.t 20) [.t 21]), zm 8 22] (zr [zm 23 8, yk 24 .neq 23 0] (.cond (.t 24) (zr [zm 25 8, zm 4 25] .ret) .skip))))) (.reg [yp 26 16, zm 16 26]))))))) (.seq (zr [zm 27 1, yl 28 27, yn 29 0] (.block 2 (.loop (zr [yc 30 .lss 29 28] (.seq (.cond (.t 30) .skip (.exit 2)) (.seq (.block 3 (zr [yi 31 1 27 29, zl 32 31, zm 10 32] (zr [zm 33 10, zm 34 0, zs 35 (.cav (.t 33) [.t 34]), zm 11 35] (zr [zm 36 11, yk 37 .neq 36 0] (.cond (.t 37) (zr [zm 38 11, zm 4 38] .ret) .skip))))) (.reg [yp 39 29, zm 29 39]))))))) (zr [yn 4 0] .ret)))), [.tmp 4]⟩
def x48 : XFn := ⟨19, zr [zm 5 0, zm 6 1, zs 7 (.nck (.t 5)), zf 8 9 7, ys 1 8 6] (zr [yn 9 0] (.block 0 (.loop (zr [yk 10 .lss 9 3] (.seq (.cond (.t 10) .skip (.exit 0)) (.seq (.block 1 (zr [zm 11 9, zm 4 11] (.reg [zm 12 0, zm 13 4, zs 14 (.nck (.t 12)), zf 15 10 14, zs 16 (.aia 3 3 (.t 15) (.t 13)), zf 17 0 16, zn (.st 1 (.t 17) (.c (.int .i64 2)))]))) (.reg [yp 18 9, zm 9 18]))))))), []⟩
def x49 : XFn := ⟨8, zr [zs 2 (.mov (.c (.v (.slice none 0 0))))] (.seq (zr [zm 3 0, zs 4 (.nils false (.t 3))] (.cond (.t 4) (zr [zs 2 (.mov (.c (.v (.slice none 0 0))))] .ret) .skip)) (zr [zs 5 (.bsl 9 1 0 [.str ⟨#[]⟩] []), zm 6 0, zs 7 (.app 26 26 9 1 16 (.t 5) (.t 6)), zm 2 7] .ret)), [.tmp 2]⟩
def x50 : XFn := ⟨18, zr [yb 3 false] (.seq (.dreg (.take 0 (zm 4 0) (.take 1 (zs 5 (.nck (.t 4))) (.take 2 (zf 6 9 5) (.take 3 (zl 7 6) (.take 4 (yk 8 .eql 7 0) (.take 5 (zm 9 8) (.take 6 (zh 10 9 true 0) (.take 7 (zg 11 9 true (.nck (.t 10))) (.take 8 (gf 12 9 true 0 11) (.take 9 (gf 13 9 true 5 12) (.take 10 (gl 14 9 true 13) (.take 11 (gl 15 9 true 1) (.eff 12 0 false (zg 16 9 true (.call 51 [.t 14, .t 15])) (.phase [3, 10, 11] (.take 13 (yr 17 9 16 false) (.take 14 (zm 3 17) .nil)))))))))))))))) 0 [0, 1]) .ret), [.tmp 3]⟩
def x51 : XFn := ⟨9, zr [yb 4 false] (zr [zm 5 0, zm 6 1, zs 7 (.call 81 [.t 5, .t 6]), yk 8 .geq 7 0, zm 4 8] .ret), [.tmp 4]⟩
def x52 : XFn := ⟨14, zr [yb 3 false] (zr [zl 7 1, zm 8 0, zs 9 (.call 18 [.t 7, .t 8]), zm 6 9, yx 10 6 0, yx 11 6 1, zm 4 10, zm 5 11] (zr [zm 12 5, yo 13 12, zm 3 13] .ret)), [.tmp 3]⟩
def x53 : XFn := ⟨37, zr [yn 4 0] (.seq (zr [zm 6 0, yk 7 .lss 6 0, zm 8 7, zh 9 8 false 1, ge 10 8 false 9, gk 11 8 false .eql 10 0, yq 12 8 true 11, zm 13 12, zh 14 13 false 1, zg 15 13 false (.call 82 [.t 14, .c (.clo 83 [])]), yq 16 13 true 15] (.cond (.t 16) (zr [yn 4 1] .ret) .skip)) (zr [zs 5 (.mov (.c (.clo 84 [])))] (.seq (zr [zm 17 5, zm 18 0, zs 19 (.cav (.t 17) [.t 18]), zm 20 19, zh 21 20 false 1, ge 22 20 false 21, gk 23 20 false .gtr 22 4096, yq 24 20 true 23, zm 25 24, zh 26 25 false 1, zh 27 25 false 5, zg 28 25 false (.call 82 [.t 26, .t 27]), yq 29 25 true 28] (.cond (.t 29) (zr [yn 4 3] .ret) .skip)) (.seq (zr [zm 30 0, yk 31 .gtr 30 0, zm 32 31, zh 33 32 true 1, zg 34 32 true (.call 82 [.t 33, .c (.clo 85 [])]), go 35 32 true 34, yr 36 32 35 false] (.cond (.t 36) (zr [yn 4 4] .ret) .skip)) (zr [yn 4 0] .ret))))), [.tmp 4]⟩
def x54 : XFn := ⟨51, zr [zs 4 (.mov (.c (.int .u64 0))), zs 5 (.mov (.c (.int .u64 0)))] (zr [zm 14 0, zs 15 (.ari .and .u64 (.t 14) (.c (.int .u64 4294967295))), zm 6 15] (zr [zm 16 0, zs 17 (.shf .shr .u64 (.t 16) (.c (.int .u64 32))), zm 7 17] (zr [zm 18 1, zs 19 (.ari .and .u64 (.t 18) (.c (.int .u64 4294967295))), zm 8 19] (zr [zm 20 1, zs 21 (.shf .shr .u64 (.t 20) (.c (.int .u64 32))), zm 9 21] (zr [zm 22 6, zm 23 8, ya 24 .mul .u64 22 23, zm 10 24] (zr [zm 25 7, zm 26 8, ya 27 .mul .u64 25 26, zm 28 10, zs 29 (.shf .shr .u64 (.t 28) (.c (.int .u64 32))), ya 30 .add .u64 27 29, zm 11 30] (zr [zm 31 11, zs 32 (.ari .and .u64 (.t 31) (.c (.int .u64 4294967295))), zm 12 32] (zr [zm 33 11, zs 34 (.shf .shr .u64 (.t 33) (.c (.int .u64 32))), zm 13 34] (zr [zm 35 12, zm 36 6, zm 37 9, ya 38 .mul .u64 36 37, ya 39 .add .u64 35 38, zm 12 39] (zr [zm 40 7, zm 41 9, ya 42 .mul .u64 40 41, zm 43 13, ya 44 .add .u64 42 43, zm 45 12, zs 46 (.shf .shr .u64 (.t 45) (.c (.int .u64 32))), ya 47 .add .u64 44 46, zm 4 47] (zr [zm 48 0, zm 49 1, ya 50 .mul .u64 48 49, zm 5 50] .ret))))))))))), [.tmp 4, .tmp 5]⟩
def x55 : XFn := ⟨135, zr [zs 6 (.mov (.c (.int .u64 0))), zs 7 (.mov (.c (.int .u64 0)))] (.seq (zr [zm 19 2, zs 20 (.cmp .eql (.t 19) (.c (.int .u64 0)))] (.cond (.t 20) (.reg [zs 21 (.bad), zn (.bad)]) .skip)) (.seq (zr [zm 22 2, zm 23 0, yc 24 .leq 22 23] (.cond (.t 24) (.reg [zs 25 (.bad), zn (.bad)]) .skip)) (.seq (zr [zm 26 0, zs 27 (.cmp .eql (.t 26) (.c (.int .u64 0)))] (.cond (.t 27) (.seq (.dreg (.take 0 (zm 28 1) (.take 1 (zm 29 2) (.take 2 (ya 30 .quo .u64 28 29) (.take 3 (zm 31 1) (.take 4 (zm 32 2) (.take 5 (ya 33 .rem .u64 31 32) (.take 6 (zm 6 30) (.take 7 (zm 7 33) .nil)))))))) 0 []) .ret) .skip)) (zr [zm 34 2, zs 35 (.call 86 [.t 34]), zs 36 (.cvi .u64 (.t 35)), zm 8 36] (zr [zm 37 2, zm 38 8, zs 39 (.shf .shl .u64 (.t 37) (.t 38)), zm 2 39] (zr [zm 40 2, zs 41 (.shf .shr .u64 (.t 40) (.c (.int .u64 32))), zm 9 41] (zr [zm 42 2, zs 43 (.ari .and .u64 (.t 42) (.c (.int .u64 4294967295))), zm 10 43] (zr [zm 44 0, zm 45 8, zs 46 (.shf .shl .u64 (.t 44) (.t 45)), zm 47 1, zm 48 8, zs 49 (.ari .sub .u64 (.c (.int .u64 64)) (.t 48)), zs 50 (.shf .shr .u64 (.t 47) (.t 49)), ya 51 .or .u64 46 50, zm 11 51] (zr [zm 52 1, zm 53 8, zs 54 (.shf .shl .u64 (.t 52) (.t 53)), zm 12 54] (zr [zm 55 12, zs 56 (.shf .shr .u64 (.t 55) (.c (.int .u64 32))), zm 13 56] (zr [zm 57 12, zs 58 (.ari .and .u64 (.t 57) (.c (.int .u64 4294967295))), zm 14 58] (zr [zm 59 11, zm 60 9, ya 61 .quo .u64 59 60, zm 15 61] (zr [zm 62 11, zm 63 15, zm 64 9, ya 65 .mul .u64 63 64, ya 66 .sub .u64 62 65, zm 16 66] (.seq (.block 0 (.loop (.seq (zr [zm 67 15, zs 68 (.cmp .geq (.t 67) (.c (.int .u64 4294967296))), zm 69 68, zh 70 69 false 15, zh 71 69 false 10, ga 72 69 false .mul .u64 70 71, zh 73 69 false 16, zg 74 69 false (.ari .mul .u64 (.c (.int .u64 4294967296)) (.t 73)), zh 75 69 false 13, ga 76 69 false .add .u64 74 75, gc 77 69 false .gtr 72 76, yq 78 69 true 77] (.cond (.t 78) .skip (.exit 0))) (.block 1 (zr [zm 79 15, zs 80 (.ari .sub .u64 (.t 79) (.c (.int .u64 1))), zm 15 80] (zr [zm 81 16, zm 82 9, ya 83 .add .u64 81 82, zm 16 83] (zr [zm 84 16, zs 85 (.cmp .geq (.t 84) (.c (.int .u64 4294967296)))] (.cond (.t 85) (.exit 0) .skip)))))))) (zr [zm 86 11, zs 87 (.ari .mul .u64 (.t 86) (.c (.int .u64 4294967296))), zm 88 13, ya 89 .add .u64 87 88, zm 90 15, zm 91 2, ya 92 .mul .u64 90 91, ya 93 .sub .u64 89 92, zm 17 93] (zr [zm 94 17, zm 95 9, ya 96 .quo .u64 94 95, zm 18 96] (zr [zm 97 17, zm 98 18, zm 99 9, ya 100 .mul .u64 98 99, ya 101 .sub .u64 97 100, zm 16 101] (.seq (.block 2 (.loop (.seq (zr [zm 102 18, zs 103 (.cmp .geq (.t 102) (.c (.int .u64 4294967296))), zm 104 103, zh 105 104 false 18, zh 106 104 false 10, ga 107 104 false .mul .u64 105 106, zh 108 104 false 16, zg 109 104 false (.ari .mul .u64 (.c (.int .u64 4294967296)) (.t 108)), zh 110 104 false 14, ga 111 104 false .add .u64 109 110, gc 112 104 false .gtr 107 111, yq 113 104 true 112] (.cond (.t 113) .skip (.exit 2))) (.block 3 (zr [zm 114 18, zs 115 (.ari .sub .u64 (.t 114) (.c (.int .u64 1))), zm 18 115] (zr [zm 116 16, zm 117 9, ya 118 .add .u64 116 117, zm 16 118] (zr [zm 119 16, zs 120 (.cmp .geq (.t 119) (.c (.int .u64 4294967296)))] (.cond (.t 120) (.exit 2) .skip)))))))) (zr [zm 121 15, zs 122 (.ari .mul .u64 (.t 121) (.c (.int .u64 4294967296))), zm 123 18, ya 124 .add .u64 122 123, zm 125 17, zs 126 (.ari .mul .u64 (.t 125) (.c (.int .u64 4294967296))), zm 127 14, ya 128 .add .u64 126 127, zm 129 18, zm 130 2, ya 131 .mul .u64 129 130, ya 132 .sub .u64 128 131, zm 133 8, zs 134 (.shf .shr .u64 (.t 132) (.t 133)), zm 6 124, zm 7 134] .ret))))))))))))))))))), [.tmp 6, .tmp 7]⟩
def x56 : XFn := ⟨9, .reg [zm 4 0, zm 5 0, yl 6 5, zm 7 1, zs 8 (.call 87 [.t 4, .t 6, .t 7])], []⟩
def x57 : XFn := ⟨15, zr [yn 5 0] (.seq (.dreg (.take 0 (zl 6 2) (.take 1 (zm 7 1) (.take 2 (yi 8 1 6 7) (.take 3 (zl 9 8) (.take 4 (zl 10 2) (.take 5 (zm 11 0) (.take 6 (yi 12 1 10 11) (.take 7 (zl 13 12) (.eff 8 0 false (zs 14 (.call 58 [.t 9, .t 13])) (.phase [0, 3, 4, 7] (.take 9 (zm 5 14) .nil))))))))))) 0 [2]) .ret), [.tmp 5]⟩
def x58 : XFn := ⟨20, zr [yn 4 0] (zr [zm 7 0, zs 8 (.call 88 [.t 7]), zm 5 8] (zr [zm 9 1, zs 10 (.call 88 [.t 9]), zm 6 10] (.seq (zr [zm 11 5] (.cond (.t 11) (.seq (zr [zm 12 6] (.cond (.t 12) (zr [yn 4 0] .ret) .skip)) (zr [yn 4 (-1)] .ret)) .skip)) (.seq (zr [zm 13 6] (.cond (.t 13) (zr [yn 4 1] .ret) .skip)) (.seq (zr [zm 14 0, zm 15 1, yc 16 .lss 14 15] (.cond (.t 16) (zr [yn 4 (-1)] .ret) .skip)) (.seq (zr [zm 17 0, zm 18 1, yc 19 .gtr 17 18] (.cond (.t 19) (zr [yn 4 1] .ret) .skip)) (zr [yn 4 0] .ret))))))), [.tmp 4]⟩
def x60 : XFn := ⟨9, zr [yb 2 false] (zr [zm 3 0, zs 4 (.cmp .geq (.t 3) (.c (.int .u8 48))), zm 5 4, zh 6 5 true 0, zg 7 5 true (.cmp .leq (.t 6) (.c (.int .u8 57))), yr 8 5 7 false, zm 2 8] .ret), [.tmp 2]⟩
def x61 : XFn := ⟨9, zr [yb 2 false] (zr [zm 3 0, yk 4 .geq 3 0, zm 5 4, zh 6 5 true 0, gk 7 5 true .leq 6 1048576, yr 8 5 7 false, zm 2 8] .ret), [.tmp 2]⟩
def x62 : XFn := ⟨18, zr [yb 2 false] (.seq (zr [zm 4 0, yz 5 4, yk 6 .neq 5 12] (.cond (.t 6) (zr [yb 2 false] .ret) .skip)) (zr [zm 7 0, zs 8 (.call 23 [.t 7]), zm 3 8] (.seq (.dreg (.take 0 (zm 9 3) (.take 1 (yk 10 .geq 9 0) (.take 2 (zm 11 10) (.take 3 (zh 12 11 true 0) (.take 4 (zg 13 11 true (.sls (.t 12) (some (.c (.int .i64 10))) none)) (.take 5 (zh 14 11 true 3) (.eff 6 0 false (zg 15 11 true (.call 22 [.t 14, .c (.int .i64 2)])) (.take 7 (gc 16 11 true .eql 13 15) (.take 8 (yr 17 11 16 false) (.take 9 (zm 2 17) .nil)))))))))) 0 []) .ret))), [.tmp 2]⟩
def x63 : XFn := ⟨6, zr [yb 2 false] (zr [zm 3 0, zs 4 (.call 27 [.t 3]), yo 5 4, zm 2 5] .ret), [.tmp 2]⟩
def x64 : XFn := ⟨19, zr [yn 4 0] (.seq (zr [zm 6 0, yl 7 6, yn 8 0] (.block 0 (.loop (zr [yc 9 .lss 8 7] (.seq (.cond (.t 9) .skip (.exit 0)) (.seq (.block 1 (zr [zm 10 8, zm 5 10] (zr [zm 11 1, zm 12 0, zm 13 5, yi 14 1 12 13, zl 15 14, zs 16 (.cav (.t 11) [.t 15])] (.cond (.t 16) (zr [zm 17 5, zm 4 17] .ret) .skip)))) (.reg [yp 18 8, zm 8 18]))))))) (zr [yn 4 (-1)] .ret)), [.tmp 4]⟩
def x66 : XFn := ⟨4, zr [yb 1 false] (zr [zl 2 0, zs 3 (.cmn false (.t 2)), zm 1 3] .ret), [.tmp 1]⟩
def x67 : XFn := ⟨12, zr [yb 1 false] (zr [zf 2 1 0, zl 3 2, zf 4 2 0, zl 5 4, yc 6 .lss 3 5, zm 7 6, gf 8 7 false 1 0, gl 9 7 false 8, gk 10 7 false .geq 9 3, yq 11 7 true 10, zm 1 11] .ret), [.tmp 1]⟩
def x68 : XFn := ⟨14, zr [yb 1 false] (zr [zf 2 7 0, zl 3 2, zm 4 3, gf 5 4 false 6 0, gl 6 4 false 5, zh 7 4 false 6, gf 8 7 true 5 0, gl 9 7 true 8, zg 10 7 true (.call 61 [.t 9]), go 11 7 true 10, zg 12 4 false (.pick (.t 7) (.t 11) (.c (.bl false))), yq 13 4 true 12, zm 1 13] .ret), [.tmp 1]⟩
def x69 : XFn := ⟨15, zr [yb 2 false] (zr [zl 3 0, zs 4 (.nck (.t 3)), zf 5 9 4, zl 6 5, yk 7 .neq 6 0, zm 8 7, gl 9 8 false 0, gf 10 8 false 1 1, gl 11 8 false 10, zg 12 8 false (.mkf 70 [.t 1]), zg 13 8 false (.call 36 [.t 9, .t 11, .t 12]), yq 14 8 true 13, zm 2 14] .ret), [.tmp 2]⟩
def x70 : XFn := ⟨9, zr [zs 2 (.box 72 (.t 0)), yb 3 false] (zr [zf 4 0 2, zl 5 4, zf 6 4 1, zl 7 6, yc 8 .neq 5 7, zm 3 8] .ret), [.tmp 3]⟩
def x71 : XFn := ⟨8, zr [yb 2 false] (zr [zl 3 0, zf 4 1 1, zl 5 4, zs 6 (.mkf 72 [.t 1]), zs 7 (.call 36 [.t 3, .t 5, .t 6]), zm 2 7] .ret), [.tmp 2]⟩
def x72 : XFn := ⟨9, zr [zs 2 (.box 72 (.t 0)), yb 3 false] (zr [zf 4 1 2, zl 5 4, zf 6 3 1, zl 7 6, yc 8 .neq 5 7, zm 3 8] .ret), [.tmp 3]⟩
def x73 : XFn := ⟨12, zr [yb 2 false] (zr [zf 3 6 0, zl 4 3, zm 5 4, gl 6 5 true 1, gf 7 5 true 1 0, gl 8 5 true 7, zg 9 5 true (.mkf 74 [.t 0, .t 1]), zg 10 5 true (.call 36 [.t 6, .t 8, .t 9]), yr 11 5 10 false, zm 2 11] .ret), [.tmp 2]⟩
def x74 : XFn := ⟨15, zr [zs 3 (.box 72 (.t 0)), yb 4 false] (.seq (.dreg (.take 0 (zf 5 5 1) (.take 1 (zl 6 5) (.take 2 (yt 7 3 3) (.take 3 (zl 8 2) (.take 4 (zs 9 (.nck (.t 8))) (.take 5 (zf 10 0 9) (.take 6 (zf 11 7 10) (.take 7 (zl 12 11) (.eff 8 0 true (zs 13 (.call 75 [.t 7, .t 12])) (.take 9 (yc 14 .lss 6 13) (.take 10 (zm 4 14) .nil))))))))))) 0 [1, 3, 2]) .ret), [.tmp 4]⟩
def x75 : XFn := ⟨19, zr [zs 2 (.box 72 (.t 0)), yn 4 0] (.seq (zr [zf 5 2 2, zl 6 5, yl 7 6, yk 8 .eql 7 0] (.cond (.t 8) (zr [zm 9 1, zm 4 9] .ret) .skip)) (zr [zf 10 2 2, zl 11 10, zf 12 2 2, zl 13 12, yl 14 13, zs 15 (.ari .sub .i64 (.t 14) (.c (.int .i64 1))), yi 16 4 11 15, zf 17 3 16, zl 18 17, zm 4 18] .ret)), [.tmp 4]⟩
def x76 : XFn := ⟨42, zr [zs 4 (.mov (.c (.str ⟨#[]⟩))), yn 5 0, yn 6 0] (.scope (.seq (zr [zm 8 0, zs 9 (.call 27 [.t 8]), yo 10 9] (.cond (.t 10) (zr [zs 4 (.mov (.c (.str ⟨#[]⟩))), yn 5 0, yn 6 1] .ret) .skip)) (zr [zm 11 0, zm 4 11] (.seq (.label 0) (.seq (zr [zm 12 1, yl 13 12, yn 14 0] (.block 0 (.loop (zr [yc 15 .lss 14 13] (.seq (.cond (.t 15) .skip (.exit 0)) (.seq (.block 1 (zr [zm 16 14, zm 7 16] (.seq (.dreg (.take 0 (zm 17 4) (.take 1 (zm 18 1) (.take 2 (zm 19 7) (.take 3 (zs 20 (.sli 4 (.t 18) none (some (.t 19)))) (.take 4 (zm 21 1) (.take 5 (zm 22 7) (.take 6 (yi 23 4 21 22) (.take 7 (yt 24 4 23) (.eff 8 0 false (zs 25 (.call 92 [.t 17, .t 20, .t 24])) (.phase [7] (.take 9 (zm 6 25) .nil))))))))))) 0 [1]) (.seq (zr [zm 26 6, yk 27 .neq 26 0] (.cond (.t 27) (zr [zm 28 7, zm 5 28] (.exit 0)) .skip)) (.reg [zm 29 1, zm 30 7, yi 31 4 29 30, zf 32 1 31, zl 33 32, zm 4 33]))))) (.reg [yp 34 14, zm 14 34]))))))) (.seq (zr [zm 35 6, yk 36 .neq 35 0] (.cond (.t 36) (zr [zm 37 5, zm 38 6, zs 4 (.mov (.c (.str ⟨#[]⟩))), zm 5 37, zm 6 38] .ret) .skip)) (zr [zm 39 4, zm 40 1, yl 41 40, zm 4 39, zm 5 41, yn 6 0] .ret))))))), [.tmp 4, .tmp 5, .tmp 6]⟩
def x77 : XFn := ⟨11, zr [yn 5 0] (zr [zm 6 0, zl 7 1, zl 8 2, zl 9 3, zs 10 (.call 78 [.t 6, .t 7, .t 8, .t 9]), zm 5 10] .ret), [.tmp 5]⟩
def x78 : XFn := ⟨26, zr [yn 8 0] (zr [zm 10 0, zm 11 1, zm 12 2, zm 13 3, zs 14 (.bld [.str ⟨#[]⟩, .int .i64 0, .int .i64 0, .str ⟨#[]⟩, .int .i64 0, .int .i64 0, .bl false, .bl false] [(0, (1, .t 11)), (1, (1, .c (.int .i64 (-1)))), (2, (1, .c (.int .i64 (-1)))), (3, (1, .t 12)), (4, (1, .c (.int .i64 0))), (5, (1, .t 13)), (6, (1, .c (.bl true)))]), zs 15 (.call 39 [.t 10, .t 14]), zm 9 15] (.seq (zr [zm 16 9, yk 17 .eql 16 0] (.cond (.t 17) (.reg [zm 18 0, zs 19 (.nck (.t 18)), zf 20 1 19, zl 21 20, zm 22 1, zs 23 (.plk none false (.v (.pointer none)) (.t 21) (.t 22)), zs 24 (.call 48 [.t 23, .c (.int .i64 4)])]) .skip)) (zr [zm 25 9, zm 8 25] .ret))), [.tmp 8]⟩
def x79 : XFn := ⟨9, zr [yn 4 0] (zr [zm 5 0, yt 6 9 1, zl 7 2, zs 8 (.call 7 [.t 5, .t 6, .t 7]), zm 4 8] .ret), [.tmp 4]⟩
def x80 : XFn := ⟨63, zr [zs 2 (.mov (.c (.v (.pointer none))))] (zr [zm 8 0, zs 9 (.nck (.t 8)), zf 10 0 9, zl 11 10, zs 12 (.call 5 [.t 11]), zm 3 12] (.seq (zr [zm 13 0, zs 14 (.nck (.t 13)), zf 15 1 14, zl 16 15, zs 17 (.rng (.t 16))] (.block 0 (.loop (zr [zs 18 (.nxt (.t 17)), yx 19 18 0] (.seq (.cond (.t 19) .skip (.exit 0)) (.block 1 (zr [zs 20 (.ent (.t 17)), yx 21 20 0, yx 22 20 1, zm 4 21, zm 5 22] (.seq (.dreg (.take 0 (zm 23 5) (.take 1 (zs 24 (.nck (.t 23))) (.take 2 (zf 25 0 24) (.take 3 (yt 26 9 25) (.take 5 (zm 28 5) (.take 6 (zs 29 (.nck (.t 28))) (.take 7 (zf 30 9 29) (.take 8 (zl 31 30) (.take 9 (zm 32 5) (.take 10 (zs 33 (.nck (.t 32))) (.take 11 (zf 34 10 33) (.take 12 (yt 35 9 34) (.eff 4 0 true (zs 27 (.call 33 [.t 26])) (.take 13 (zs 36 (.bld [.str ⟨#[]⟩, .str ⟨#[]⟩, .str ⟨#[]⟩, .str ⟨#[]⟩, .str ⟨#[]⟩, .v (.slice none 0 0), .v (.slice none 0 0), .int .i64 0, .bl false, .int .i64 0, .int .i64 0, .str ⟨#[]⟩, .v (.slice none 0 0), .int .i64 0, .str ⟨#[]⟩, .v (.slice none 0 0), .int .i64 0, .str ⟨#[]⟩, .v (.slice none 0 0)] [(0, (9, .t 27)), (9, (1, .t 31)), (10, (9, .t 35))])) (.eff 14 0 false (zs 37 (.box 75 (.t 36))) (.phase [3, 8, 12] (.take 15 (zm 6 37) .nil))))))))))))))))) 1 [5]) (.seq (zr [yn 38 0] (.block 2 (.loop (zr [yk 39 .lss 38 3] (.seq (.cond (.t 39) .skip (.exit 2)) (.seq (.block 3 (zr [zm 40 38, zm 7 40] (.dreg (.take 0 (zm 41 6) (.take 1 (zm 42 7) (.take 2 (zm 43 6) (.take 3 (zm 44 7) (.take 4 (zs 45 (.nck (.t 43))) (.take 5 (zf 46 10 45) (.take 6 (zs 47 (.aia 3 3 (.t 46) (.t 44))) (.take 7 (zf 48 2 47) (.take 8 (zl 49 48) (.take 10 (zs 51 (.nck (.t 41))) (.take 11 (zf 52 10 51) (.eff 9 0 false (zs 50 (.call 93 [.t 49])) (.take 12 (zs 53 (.aia 3 3 (.t 52) (.t 42))) (.take 13 (zf 54 2 53) (.eff 14 0 false (ys 1 54 50) (.phase [8] .nil)))))))))))))))) 0 [6]))) (.reg [yp 55 38, zm 38 55]))))))) (.reg [zm 56 3, zs 57 (.nck (.t 56)), zf 58 1 57, zl 59 58, zm 60 4, zm 61 6, zn (.pup none (.t 59) (.t 60) (.t 61))])))))))))) (zr [zm 62 3, zm 2 62] .ret))), [.tmp 2]⟩
def x81 : XFn := ⟨19, zr [yn 4 0] (.seq (zr [zm 6 0, yl 7 6, yn 8 0] (.block 0 (.loop (zr [yc 9 .lss 8 7] (.seq (.cond (.t 9) .skip (.exit 0)) (.seq (.block 1 (zr [zm 10 8, zm 5 10] (zr [zm 11 1, zm 12 0, zm 13 5, yi 14 1 12 13, zl 15 14, yc 16 .eql 11 15] (.cond (.t 16) (zr [zm 17 5, zm 4 17] .ret) .skip)))) (.reg [yp 18 8, zm 8 18]))))))) (zr [yn 4 (-1)] .ret)), [.tmp 4]⟩
def x82 : XFn := ⟨9, zr [yb 4 false] (zr [zm 5 0, zm 6 1, zs 7 (.call 94 [.t 5, .t 6]), yk 8 .geq 7 0, zm 4 8] .ret), [.tmp 4]⟩
def x83 : XFn := ⟨5, zr [yb 2 false] (zr [zm 3 0, yk 4 .lss 3 0, zm 2 4] .ret), [.tmp 2]⟩
def x84 : XFn := ⟨5, zr [yb 2 false] (zr [zm 3 0, yk 4 .gtr 3 1099511627776, zm 2 4] .ret), [.tmp 2]⟩
def x85 : XFn := ⟨5, zr [yb 2 false] (zr [zm 3 0, yk 4 .gtr 3 0, zm 2 4] .ret), [.tmp 2]⟩
def x87 : XFn := ⟨63, zr [yn 6 20] (zr [zm 10 6, yn 7 0, zm 8 10] (.seq (.block 0 (.loop (.seq (zr [zm 11 8, zm 12 1, yc 13 .leq 11 12] (.cond (.t 13) .skip (.exit 0))) (.block 1 (zr [zm 14 0, zm 15 7, zm 16 8, zm 17 2, zs 18 (.call 96 [.t 14, .t 15, .t 16, .t 17])] (zr [zm 19 8, zm 7 19] (.reg [zm 20 8, zm 21 6, ya 22 .add .i64 20 21, zm 8 22]))))))) (zr [zm 23 0, zm 24 7, zm 25 1, zm 26 2, zs 27 (.call 96 [.t 23, .t 24, .t 25, .t 26])] (.block 2 (.loop (.seq (zr [zm 28 6, zm 29 1, yc 30 .lss 28 29] (.cond (.t 30) .skip (.exit 2))) (.block 3 (zr [zm 31 6, zs 32 (.ari .mul .i64 (.c (.int .i64 2)) (.t 31)), yn 7 0, zm 8 32] (.seq (.block 4 (.loop (.seq (zr [zm 33 8, zm 34 1, yc 35 .leq 33 34] (.cond (.t 35) .skip (.exit 4))) (.block 5 (zr [zm 36 0, zm 37 7, zm 38 7, zm 39 6, ya 40 .add .i64 38 39, zm 41 8, zm 42 2, zs 43 (.call 97 [.t 36, .t 37, .t 40, .t 41, .t 42])] (zr [zm 44 8, zm 7 44] (.reg [zm 45 8, zm 46 6, zs 47 (.ari .mul .i64 (.c (.int .i64 2)) (.t 46)), ya 48 .add .i64 45 47, zm 8 48]))))))) (.seq (zr [zm 49 7, zm 50 6, ya 51 .add .i64 49 50, zm 9 51] (zr [zm 52 9, zm 53 1, yc 54 .lss 52 53] (.cond (.t 54) (.reg [zm 55 0, zm 56 7, zm 57 9, zm 58 1, zm 59 2, zs 60 (.call 97 [.t 55, .t 56, .t 57, .t 58, .t 59])]) .skip))) (.reg [zm 61 6, zs 62 (.ari .mul .i64 (.t 61) (.c (.int .i64 2))), zm 6 62]))))))))))), []⟩
def x88 : XFn := ⟨6, zr [yb 2 false] (zr [zm 3 0, zm 4 0, yc 5 .neq 3 4, zm 2 5] .ret), [.tmp 2]⟩
def x92 : XFn := ⟨36, zr [zs 5 (.box 85 (.t 2)), yn 6 0] (.seq (zr [yt 7 4 5, zs 8 (.call 109 [.t 7]), yo 9 8] (.cond (.t 9) (zr [yn 6 2] .ret) .skip)) (.seq (zr [zm 10 1, zs 11 (.call 110 [.t 10])] (.cond (.t 11) (zr [yn 6 9] .ret) .skip)) (.seq (zr [zm 12 1, zs 13 (.call 111 [.t 12]), yo 14 13, zm 15 14, gf 16 15 true 0 5, gl 17 15 true 16, zh 18 15 true 0, gc 19 15 true .neq 17 18, yr 20 15 19 false] (.cond (.t 20) (zr [yn 6 8] .ret) .skip)) (.seq (.seq (.dreg (.take 0 (zm 21 1) (.take 1 (yl 22 21) (.take 2 (yk 23 .gtr 22 0) (.take 3 (zm 24 23) (.take 4 (gf 25 24 true 3 5) (.take 5 (gl 26 24 true 25) (.take 6 (zh 27 24 true 1) (.take 7 (zh 28 24 true 1) (.take 8 (ge 29 24 true 28) (.take 9 (zg 30 24 true (.ari .sub .i64 (.t 29) (.c (.int .i64 1)))) (.take 10 (gi 31 24 true 4 27 30) (.take 11 (gf 32 24 true 3 31) (.take 12 (gl 33 24 true 32) (.take 13 (gc 34 24 true .lss 26 33) (.take 14 (yr 35 24 34 false) .nil))))))))))))))) 0 [1, 5]) (.cond (.t 35) (zr [yn 6 6] .ret) .skip)) (zr [yn 6 0] .ret))))), [.tmp 6]⟩
def x93 : XFn := ⟨8, zr [zs 2 (.mov (.c (.v (.slice none 0 0))))] (.seq (zr [zm 3 0, zs 4 (.nils false (.t 3))] (.cond (.t 4) (zr [zs 2 (.mov (.c (.v (.slice none 0 0))))] .ret) .skip)) (zr [zs 5 (.bsl 85 4 0 [.str ⟨#[]⟩, .str ⟨#[]⟩, .int .i64 0, .int .i64 0] []), zm 6 0, zs 7 (.app 70 70 85 4 48 (.t 5) (.t 6)), zm 2 7] .ret)), [.tmp 2]⟩
def x94 : XFn := ⟨19, zr [yn 4 0] (.seq (zr [zm 6 0, yl 7 6, yn 8 0] (.block 0 (.loop (zr [yc 9 .lss 8 7] (.seq (.cond (.t 9) .skip (.exit 0)) (.seq (.block 1 (zr [zm 10 8, zm 5 10] (zr [zm 11 1, zm 12 0, zm 13 5, yi 14 1 12 13, zl 15 14, zs 16 (.cav (.t 11) [.t 15])] (.cond (.t 16) (zr [zm 17 5, zm 4 17] .ret) .skip)))) (.reg [yp 18 8, zm 8 18]))))))) (zr [yn 4 (-1)] .ret)), [.tmp 4]⟩
def x96 : XFn := ⟨53, zr [zm 10 1, yp 11 10, zm 8 11] (.block 0 (.loop (.seq (zr [zm 12 8, zm 13 2, yc 14 .lss 12 13] (.cond (.t 14) .skip (.exit 0))) (.seq (.block 1 (zr [zm 17 8, zm 9 17] (.block 2 (.loop (.seq (.seq (.dreg (.take 0 (zm 18 9) (.take 1 (zm 19 1) (.take 2 (yc 20 .gtr 18 19) (.take 3 (zm 21 20) (.take 4 (zh 22 21 true 3) (.take 5 (zh 23 21 true 0) (.take 6 (zh 24 21 true 9) (.take 7 (gi 25 21 true 1 23 24) (.take 8 (gl 26 21 true 25) (.take 9 (zh 27 21 true 0) (.take 10 (zh 28 21 true 9) (.take 11 (zg 29 21 true (.ari .sub .i64 (.t 28) (.c (.int .i64 1)))) (.take 12 (gi 30 21 true 1 27 29) (.take 13 (gl 31 21 true 30) (.eff 14 0 false (zg 32 21 true (.cav (.t 22) [.t 26, .t 31])) (.phase [8, 13] (.take 15 (gk 33 21 true .lss 32 0) (.take 16 (yr 34 21 33 false) .nil)))))))))))))))))) 0 [0]) (.cond (.t 34) .skip (.exit 2))) (.seq (.block 3 (.dreg (.take 0 (zm 37 0) (.take 1 (zm 38 9) (.take 2 (zm 39 0) (.take 3 (zm 40 9) (.take 4 (zs 41 (.ari .sub .i64 (.t 40) (.c (.int .i64 1)))) (.take 5 (zm 42 0) (.take 6 (zm 43 9) (.take 7 (zs 44 (.ari .sub .i64 (.t 43) (.c (.int .i64 1)))) (.take 8 (yi 45 1 42 44) (.take 9 (zl 46 45) (.take 10 (zm 47 0) (.take 11 (zm 48 9) (.take 12 (yi 49 1 47 48) (.take 13 (zl 50 49) (.take 14 (yi 51 1 37 38) (.eff 15 0 false (ys 1 51 46) (.take 16 (yi 52 1 39 41) (.eff 17 0 false (ys 1 52 50) (.phase [9, 13] .nil))))))))))))))))))) 0 [0])) (.reg [zm 35 9, zs 36 (.ari .sub .i64 (.t 35) (.c (.int .i64 1))), zm 9 36]))))))) (.reg [zm 15 8, yp 16 15, zm 8 16]))))), []⟩
def x109 : XFn := ⟨37, zr [zs 1 (.box 85 (.t 0)), yb 2 false] (.seq (zr [zf 3 0 1, zl 4 3, zs 5 (.call 27 [.t 4]), yo 6 5, zm 7 6, gf 8 7 false 3 1, gl 9 7 false 8, gk 10 7 false .lss 9 0, yq 11 7 true 10, zm 12 11, gf 13 12 false 3 1, gl 14 12 false 13, gk 15 12 false .gtr 14 1048576, yq 16 12 true 15] (.cond (.t 16) (zr [yb 2 false] .ret) .skip)) (.seq (zr [zf 17 2 1, zl 18 17] (.block 0 (zr [yk 20 .eql 18 1, zm 19 20] (.cond (.t 19) (zr [zf 21 1 1, zl 22 21, zs 23 (.cmp .eql (.t 22) (.c (.str ⟨#[]⟩))), zm 2 23] .ret) (.seq (zr [yk 25 .eql 18 0, zm 24 25] (.cond (.t 24) .skip (.reg [yk 26 .eql 18 2, zm 24 26]))) (.cond (.t 24) (zr [zf 27 1 1, zl 28 27, zs 29 (.call 27 [.t 28]), zm 30 29, gf 31 30 true 1 1, gl 32 30 true 31, gf 33 30 true 0 1, gl 34 30 true 33, gc 35 30 true .neq 32 34, yr 36 30 35 false, zm 2 36] .ret) .skip)))))) (zr [yb 2 false] .ret))), [.tmp 2]⟩
def x110 : XFn := ⟨16, zr [yb 2 false] (zr [zm 3 0, yl 4 3, yk 5 .gtr 4 0, zm 6 5, zh 7 6 true 0, zh 8 6 true 0, ge 9 6 true 8, zg 10 6 true (.ari .sub .i64 (.t 9) (.c (.int .i64 1))), gi 11 6 true 4 7 10, gf 12 6 true 2 11, gl 13 6 true 12, gk 14 6 true .eql 13 2, yr 15 6 14 false, zm 2 15] .ret), [.tmp 2]⟩
def x111 : XFn := ⟨16, zr [yb 2 false] (zr [zm 3 0, yl 4 3, yk 5 .gtr 4 0, zm 6 5, zh 7 6 true 0, zh 8 6 true 0, ge 9 6 true 8, zg 10 6 true (.ari .sub .i64 (.t 9) (.c (.int .i64 1))), gi 11 6 true 4 7 10, gf 12 6 true 2 11, gl 13 6 true 12, gk 14 6 true .eql 13 1, yr 15 6 14 false, zm 2 15] .ret), [.tmp 2]⟩
set_option maxHeartbeats 1000000
set_option maxRecDepth 100000
theorem K_of {K : AV → List Ent → Prop} {x y : AV} {H : List Ent} (h : K y H) (e : x = y) : K x H := e ▸ h
theorem K_bl {K : AV → List Ent → Prop} {b c : Bool} {H : List Ent} (h : K (.bl c) H) (e : b = c) : K (.bl b) H := e ▸ h
theorem K_i {K : AV → List Ent → Prop} {b c : Int} {H : List Ent} (h : K (.i c) H) (e : b = c) : K (.i b) H := e ▸ h
def ByC (g : Int → Bool) : Ctr := spec (fun z : Int => [.int .u8 z]) (fun _ => []) (fun _ => True) (fun z => .bl (g z)) fun _ => []
theorem isLetter_body (P : Program) : BodyOk P x21 (ByC letB) := by
 intro args H K hc
 obtain ⟨z, rfl, rfl, _, hK⟩ := hc
 refine ⟨nb9, ?_⟩
 dsimp only at hK ⊢
 cbv; repeat' ((first | refine .mk (fun h => ?_) fun h => ?_ | fail) <;> cbv)
 all_goals exact FinK.mk ⟨_, Gh.refl _, .inl (.v9 (K_bl hK (by (unfold letB; simp; omega))))⟩
theorem isDigit_body (P : Program) : BodyOk P x60 (ByC digB) := by
 intro args H K hc
 obtain ⟨z, rfl, rfl, _, hK⟩ := hc
 refine ⟨nb9, ?_⟩
 dsimp only at hK ⊢
 cbv; repeat' ((first | refine .mk (fun h => ?_) fun h => ?_ | fail) <;> cbv)
 all_goals exact FinK.mk ⟨_, Gh.refl _, .inl (.v9 (K_bl hK (by (unfold digB; simp; omega))))⟩
def StrC (p : ByteArray → Prop) (g : ByteArray → Bool) : Ctr := spec (fun s : ByteArray => [.str s]) (fun _ => []) p (fun s => .bl (g s)) fun _ => []
theorem ch_or {c : UInt8} {z : Int} (hz : z = c.toNat) : chB c = (letB z || digB z || decide (z = 45)) := by subst hz; rfl
theorem nameB_short {s : ByteArray} (h : s.size < 1 ∨ 16 < s.size) : nameB s = false := by
 unfold nameB
 rcases h with h | h
 ·rw [decide_eq_false (by omega)]; rfl
 ·rw [decide_eq_false (p := s.size ≤ 16) (by omega)]; simp
theorem nameB_long {s : ByteArray} (h : firstAll s s.size) (h1 : 1 ≤ s.size) (h2 : s.size ≤ 16) : nameB s = true := by rw [nameB_all h]; simp [h1, h2]
theorem name_body (P : Program) (hl : FnOk P 21 (ByC letB)) (hd : FnOk P 60 (ByC digB)) : BodyOk P x27 (StrC (fun _ => True) nameB) := by
 intro args H K hc
 obtain ⟨s, rfl, rfl, _, hK⟩ := hc
 refine ⟨nb9, ?_⟩
 dsimp only at hK ⊢
 cbv; repeat' ((first | refine .mk (fun h => ?_) fun h => ?_ | refine .k fun z hz => ?_ | fail) <;> cbv)
 ·exact FinK.mk ⟨_, Gh.refl _, .inl (.v9 (K_bl hK (by (rw [nameB_short om9]))))⟩
 ·exact FinK.mk ⟨_, Gh.refl _, .inl (.v9 (K_bl hK (by (rw [nameB_short om9]))))⟩
 obtain ⟨n, hn⟩ : ∃ n, n = s.size := ⟨_, rfl⟩
 refine xloopV [] (fun p : { k : Nat // k ≤ s.size ∧ firstAll s k } => [(14, .i (nI p.1))]) (fun _ => []) (fun p => lft n p.1) ⟨0, Nat.zero_le _, firstAll_zero s⟩ ?_
 rintro ⟨k, hk, hf⟩
 dsimp only
 cbv; repeat' ((first | refine .mk (fun h => ?_) fun h => ?_ | fail) <;> cbv)
 rotate_left
 ·obtain rfl : k = s.size := om9
  exact FinK.mk ⟨_, Gh.refl _, .inl (.v9 (K_bl hK (by (rw [nameB_long hf om9 om9]))))⟩
 have hks : k < s.size := om9
 refine askByte_nI hks fun z hz => ?_
 have hch := ch_or (c := s[k]) hz
 cbv
 (refine c09 hl z trivial ?_; try dsimp only)
 cases h1 : letB z with
 | true =>
  cbv; repeat' ((first | refine .k fun z hz => ?_ | fail) <;> cbv)
  obtain rfl := hz
  exact roundV ⟨k + 1, hks, firstAll_succ hks hf (by rw [hch, h1]; rfl)⟩ (lft_lt (by omega))
 | false =>
  cbv
  refine askByte_nI hks fun z2 hz2 => ?_
  obtain rfl : z = z2 := hz.trans hz2.symm
  cbv
  (refine c09 hd z trivial ?_; try dsimp only)
  cases h2 : digB z with
  | true =>
   cbv; repeat' ((first | refine .k fun z hz => ?_ | fail) <;> cbv)
   obtain rfl := hz
   exact roundV ⟨k + 1, hks, firstAll_succ hks hf (by rw [hch, h1, h2]; rfl)⟩ (lft_lt (by omega))
  | false =>
   cbv
   refine askByte_nI hks fun z2 hz2 => ?_
   obtain rfl : z = z2 := hz.trans hz2.symm
   cbv; repeat' ((first | refine .mk (fun h => ?_) fun h => ?_ | refine .k fun z hz => ?_ | fail) <;> cbv)
   ·obtain rfl := hz
    exact roundV ⟨k + 1, hks, firstAll_succ hks hf (by rw [hch, h1, h2]; simp [h])⟩ (lft_lt (by omega))
   ·exact FinK.mk ⟨_, Gh.refl _, .inl (.v9 (K_bl hK (by (rw [nameB_not hks (by rw [hch, h1, h2]; simp [h])]))))⟩
def x59 : XFn := ⟨5, zr [zs 2 (.mov (.c (.str ⟨#[]⟩)))] (zr [zm 3 0, zs 4 (.call 89 [.t 3]), zm 2 4] .ret), [.tmp 2]⟩
def x89 : XFn := ⟨5, zr [zs 2 (.mov (.c (.str ⟨#[]⟩)))] (zr [zm 3 0, zs 4 (.call 98 [.t 3, .c (.int .i64 10)]), zm 2 4] .ret), [.tmp 2]⟩
def x98 : XFn := ⟨54, zr [zs 4 (.mov (.c (.str ⟨#[]⟩)))] (.seq (zr [zm 10 1, yk 11 .eql 10 10] (.cond (.t 11) (.seq (zr [zm 12 0, zs 13 (.cmp .leq (.c (.int .i64 0)) (.t 12)), zm 14 13, zh 15 14 true 0, gk 16 14 true .lss 15 100, yr 17 14 16 false] (.cond (.t 17) (zr [zm 18 0, zs 19 (.call 113 [.t 18]), zm 4 19] .ret) .skip)) (zr [zs 5 (.alloc 151 [.int .u8 0, .int .u8 0, .int .u8 0, .int .u8 0, .int .u8 0, .int .u8 0, .int .u8 0, .int .u8 0, .int .u8 0, .int .u8 0, .int .u8 0, .int .u8 0, .int .u8 0, .int .u8 0, .int .u8 0, .int .u8 0, .int .u8 0, .int .u8 0, .int .u8 0, .int .u8 0, .int .u8 0, .int .u8 0, .int .u8 0, .int .u8 0])] (zr [zm 20 0, zs 21 (.cvi .u64 (.t 20)), zm 6 21] (.seq (zr [zm 22 0, yk 23 .lss 22 0] (.cond (.t 23) (.reg [zm 24 6, zs 25 (.neg .u64 (.t 24)), zm 6 25]) .skip)) (zr [zm 26 6, zs 27 (.call 114 [.t 26]), zm 7 27] (zr [zm 28 7, zs 29 (.ari .add .i64 (.c (.int .i64 1)) (.t 28)), zs 30 (.bad), zm 31 6, zs 32 (.call 115 [.t 30, .t 31])] (.seq (zr [zm 33 0, yk 34 .lss 33 0] (.cond (.t 34) (zr [zs 35 (.aia 1 24 (.t 5) (.c (.int .i64 0))), zn (.st 1 (.t 35) (.c (.int .u8 45)))] (zr [zm 36 7, zs 37 (.ari .add .i64 (.c (.int .i64 1)) (.t 36)), zs 38 (.bad), zs 39 (.b2s (.t 38)), zm 4 39] .ret)) .skip)) (zr [zm 40 7, zs 41 (.ari .add .i64 (.c (.int .i64 1)) (.t 40)), zs 42 (.bad), zs 43 (.b2s (.t 42)), zm 4 43] .ret)))))))) .skip)) (zr [zm 45 0, zs 46 (.cvi .u64 (.t 45)), zm 47 1, zm 48 0, yk 49 .lss 48 0, zs 50 (.call 116 [.c (.v (.slice none 0 0)), .t 46, .t 47, .t 49, .c (.bl false)]), zm 44 50, yx 51 44 0, yx 52 44 1, zm 8 51, zm 9 52] (zr [zm 53 9, zm 4 53] .ret))), [.tmp 4]⟩
def x113 : XFn := ⟨15, zr [zs 2 (.mov (.c (.str ⟨#[]⟩)))] (.seq (zr [zm 3 0, yk 4 .lss 3 10] (.cond (.t 4) (zr [zm 5 0, zm 6 0, yp 7 6, zs 8 (.sls (.c (.str ⟨#[48, 49, 50, 51, 52, 53, 54, 55, 56, 57, 97, 98, 99, 100, 101, 102, 103, 104, 105, 106, 107, 108, 109, 110, 111, 112, 113, 114, 115, 116, 117, 118, 119, 120, 121, 122]⟩)) (some (.t 5)) (some (.t 7))), zm 2 8] .ret) .skip)) (zr [zm 9 0, zs 10 (.ari .mul .i64 (.t 9) (.c (.int .i64 2))), zm 11 0, zs 12 (.ari .mul .i64 (.t 11) (.c (.int .i64 2))), zs 13 (.ari .add .i64 (.t 12) (.c (.int .i64 2))), zs 14 (.sls (.c (.str ⟨#[48, 48, 48, 49, 48, 50, 48, 51, 48, 52, 48, 53, 48, 54, 48, 55, 48, 56, 48, 57, 49, 48, 49, 49, 49, 50, 49, 51, 49, 52, 49, 53, 49, 54, 49, 55, 49, 56, 49, 57, 50, 48, 50, 49, 50, 50, 50, 51, 50, 52, 50, 53, 50, 54, 50, 55, 50, 56, 50, 57, 51, 48, 51, 49, 51, 50, 51, 51, 51, 52, 51, 53, 51, 54, 51, 55, 51, 56, 51, 57, 52, 48, 52, 49, 52, 50, 52, 51, 52, 52, 52, 53, 52, 54, 52, 55, 52, 56, 52, 57, 53, 48, 53, 49, 53, 50, 53, 51, 53, 52, 53, 53, 53, 54, 53, 55, 53, 56, 53, 57, 54, 48, 54, 49, 54, 50, 54, 51, 54, 52, 54, 53, 54, 54, 54, 55, 54, 56, 54, 57, 55, 48, 55, 49, 55, 50, 55, 51, 55, 52, 55, 53, 55, 54, 55, 55, 55, 56, 55, 57, 56, 48, 56, 49, 56, 50, 56, 51, 56, 52, 56, 53, 56, 54, 56, 55, 56, 56, 56, 57, 57, 48, 57, 49, 57, 50, 57, 51, 57, 52, 57, 53, 57, 54, 57, 55, 57, 56, 57, 57]⟩)) (some (.t 10)) (some (.t 13))), zm 2 14] .ret)), [.tmp 2]⟩
def itoS (n : Nat) : ByteArray := if n < 10 then ⟨#[UInt8.ofNat (48 + n)]⟩ else ⟨#[UInt8.ofNat (48 + n / 10), UInt8.ofNat (48 + n % 10)]⟩
def digS (n : Nat) : ByteArray := ⟨#[UInt8.ofNat (48 + n / 10), UInt8.ofNat (48 + n % 10)]⟩
def SmallC : Ctr := spec (fun n : Nat => [.i n]) (fun _ => []) (fun n => n < 100) (fun n => .str (itoS n)) fun _ => []
def FmtC : Ctr := spec (fun n : Nat => [.i n, .i 10]) (fun _ => []) (fun n => n < 100) (fun n => .str (itoS n)) fun _ => []
theorem K_str {K : AV → List Ent → Prop} {b c : ByteArray} {H : List Ent} (h : K (.str c) H) (e : b = c) : K (.str b) H := e ▸ h
theorem small_body (P : Program) : BodyOk P x113 SmallC := by
 intro args H K hc; obtain ⟨n, rfl, rfl, hp, hK⟩ := hc; refine ⟨nb9, ?_⟩; dsimp only at hp hK ⊢
 cbv; repeat' ((first | refine .mk (fun h => ?_) fun h => ?_ | refine .k fun z hz => ?_ | fail) <;> cbv)
 ·refine ⟨⟨by exact om9, by exact om9, by subst hz; show Int.ofNat n + 1 ≤ 36; omega⟩, fun u hu => ?_⟩
  cbv
  exact FinK.mk ⟨_, Gh.refl _, .inl (.v9 (K_str hK (by subst hu hz; clear hK; revert hp h; revert n; decide +kernel)))⟩
 ·refine ⟨⟨by exact om9, by exact om9, by subst_vars; show Int.ofNat n * 2 + 2 ≤ 200; ((try simp only [vn] at *) <;> omega)⟩, fun u hu => ?_⟩
  cbv
  exact FinK.mk ⟨_, Gh.refl _, .inl (.v9 (K_str hK (by subst_vars; clear hK; revert hp h; revert n; decide +kernel)))⟩
theorem fmt_body (P : Program) (hsm : FnOk P 113 SmallC) : BodyOk P x98 FmtC := by
 intro args H K hc; obtain ⟨n, rfl, rfl, hp, hK⟩ := hc; refine ⟨nb9, ?_⟩; dsimp only at hp hK ⊢
 cbv; repeat' ((first | refine .y fun h => ?_ | fail) <;> cbv)
 ·(refine c09 hsm n hp ?_; try dsimp only)
  obtain ⟨s, hs⟩ : ∃ x, x = (itoS n) := ⟨_, rfl⟩
  rw [← hs] at hK ⊢
  cbv
  exact FinK.mk ⟨_, Gh.refl _, .inl (.v9 hK)⟩
theorem itoa2_body (P : Program) (hf : FnOk P 98 FmtC) : BodyOk P x89 SmallC := by
 intro args H K hc; obtain ⟨n, rfl, rfl, hp, hK⟩ := hc; refine ⟨nb9, ?_⟩; dsimp only at hp hK ⊢
 cbv
 (refine c09 hf n hp ?_; try dsimp only)
 obtain ⟨s, hs⟩ : ∃ x, x = (itoS n) := ⟨_, rfl⟩
 rw [← hs] at hK ⊢
 cbv
 exact FinK.mk ⟨_, Gh.refl _, .inl (.v9 hK)⟩
theorem itoa_body (P : Program) (hf : FnOk P 89 SmallC) : BodyOk P x59 SmallC := by
 intro args H K hc; obtain ⟨n, rfl, rfl, hp, hK⟩ := hc; refine ⟨nb9, ?_⟩; dsimp only at hp hK ⊢
 cbv
 (refine c09 hf n hp ?_; try dsimp only)
 obtain ⟨s, hs⟩ : ∃ x, x = (itoS n) := ⟨_, rfl⟩
 rw [← hs] at hK ⊢
 cbv
 exact FinK.mk ⟨_, Gh.refl _, .inl (.v9 hK)⟩
def DigC : Ctr := spec (fun n : Nat => [.i n, .i 2]) (fun _ => []) (fun n => n < 100) (fun n => .str (digS n)) fun _ => []
theorem num_lt2 {n i j : Nat} (h : i < n) (hj : i < j) : (lft n j).val < (lft n i).val := by unfold Ms.val; dsimp only; omega
theorem itoS_facts : ∀ n, n < 100 → (itoS n).size < 2 ∧ (⟨#[48]⟩ : ByteArray) ++ itoS n = digS n ∧ (itoS n).size = 1 ∨ 2 ≤ (itoS n).size ∧ itoS n = digS n := by decide +kernel
theorem digS_size (n : Nat) : (digS n).size = 2 := rfl
theorem digits_body (P : Program) (hf : FnOk P 59 SmallC) : BodyOk P x22 DigC := by
 intro args H K hc; obtain ⟨n, rfl, rfl, hp, hK⟩ := hc; refine ⟨nb9, ?_⟩; dsimp only at hp hK ⊢
 cbv
 (refine c09 hf n hp ?_; try dsimp only)
 have hfa := itoS_facts n hp
 have hds := digS_size n
 obtain ⟨s, hs⟩ : ∃ x, x = (itoS n) := ⟨_, rfl⟩
 obtain ⟨t, ht⟩ : ∃ x, x = (digS n) := ⟨_, rfl⟩
 rw [← hs] at hfa ⊢
 rw [← ht] at hfa hds hK
 cbv
 refine xloopV [] (fun p : { p : ByteArray × Nat // p.2 ≤ 1 ∧ (p.1 = s ∧ p.2 = 0 ∨ p.1 = t) } => [(5, .str p.1.1)]) (fun _ => []) (fun p => lft 2 p.1.2) ⟨(s, 0), Nat.zero_le _, .inl ⟨rfl, rfl⟩⟩ ?_
 rintro ⟨⟨u, q⟩, hq, hu⟩
 dsimp only at hq hu ⊢
 cbv; repeat' ((first | refine .mk (fun h => ?_) fun h => ?_ | refine .k fun z hz => ?_ | fail) <;> cbv)
 ·rcases hfa with ⟨h1, h2, h3⟩ | ⟨h1, h2⟩
  ·rcases hu with ⟨rfl, rfl⟩ | rfl
   ·refine CatK.mk' (by (show 1 + u.size ≤ maxLen); unfold maxLen; omega) fun v hv hvl => ?_
    cbv
    obtain rfl : v = t := by rw [hv]; exact h2
    exact roundV ⟨(v, 1), Nat.le_refl _, .inr rfl⟩ (lft_lt (by decide))
   ·exfalso; ((try simp only [vn] at *) <;> omega)
  ·exfalso
   subst h2
   rcases hu with ⟨rfl, _⟩ | rfl <;> ((try simp only [vn] at *) <;> omega)
 ·obtain rfl : u = t := by
   rcases hfa with ⟨h1, h2, h3⟩ | ⟨h1, h2⟩
   ·rcases hu with ⟨rfl, _⟩ | rfl
    ·exfalso; ((try simp only [vn] at *) <;> omega)
    ·rfl
   ·rcases hu with ⟨rfl, _⟩ | rfl
    ·exact h2
    ·rfl
  exact FinK.mk ⟨_, Gh.refl _, .inl (.v9 hK)⟩
def vM (c : UInt8) (i : Nat) : Option Int := if i < 4 then if letB c.toNat then some ((c.toNat : Int) - 96) else none else if digB c.toNat then some ((c.toNat : Int) - 48) else none
def accM (s : ByteArray) : Nat → Option Int
 | 0 => some 0
 | k + 1 => match accM s k, s.data[k]? with
  | some a, some c => (vM c k).map fun v => a + v * ((k : Int) + 1)
  | _, _ => none
def sumM (s : ByteArray) : Int := match accM s 10 with
 | some a => a.tmod 97
 | none => -1
theorem vM_bd {c : UInt8} {i : Nat} {v : Int} (h : vM c i = some v) : 0 ≤ v ∧ v ≤ 26 := by
 unfold vM letB digB at h
 split at h
 ·split at h
  ·rename_i h1; simp at h1; cases h; omega
  ·cases h
 ·split at h
  ·rename_i h1; simp at h1; cases h; omega
  ·cases h
theorem accM_bd {s : ByteArray} : ∀ {k : Nat} {a : Int}, accM s k = some a → k ≤ 10 → 0 ≤ a ∧ a ≤ 260 * k
 | 0, a, h, _ => by cases h; omega
 | k + 1, a, h, hk => by
  unfold accM at h
  split at h
  ·rename_i b c hb hc
   obtain ⟨h1, h2⟩ := accM_bd hb (by omega)
   simp only [Option.map_eq_some_iff] at h
   obtain ⟨v, hv, rfl⟩ := h
   obtain ⟨h3, h4⟩ := vM_bd hv
   have h5 : 0 ≤ v * ((k : Int) + 1) := Int.mul_nonneg h3 (by omega)
   have h6 : v * ((k : Int) + 1) ≤ 26 * 10 := Int.mul_le_mul h4 (by omega) (by omega) (by omega)
   constructor <;> push_cast <;> omega
  ·cases h
theorem accM_none {s : ByteArray} {k : Nat} (h : accM s k = none) : ∀ m, accM s (k + m) = none
 | 0 => h
 | m + 1 => by
  show accM s (k + m + 1) = none
  unfold accM
  rw [accM_none h m]
theorem accM_at {s : ByteArray} {k : Nat} (hk : k < s.size) {a : Int} (ha : accM s k = some a) : accM s (k + 1) = (vM s[k] k).map fun v => a + v * ((k : Int) + 1) := by
 conv => lhs; unfold accM
 rw [ha]
 have : s.data[k]? = some s[k] := Array.getElem?_eq_getElem hk
 rw [this]
theorem sumM_not {s : ByteArray} {k : Nat} (hk : k < 10) (hs : k < s.size) {a : Int} (ha : accM s k = some a) (hv : vM s[k] k = none) : sumM s = -1 := by
 have h1 : accM s (k + 1) = none := by rw [accM_at hs ha, hv]; rfl
 have h2 := accM_none h1 (9 - k)
 rw [show k + 1 + (9 - k) = 10 by omega] at h2
 unfold sumM
 rw [h2]
theorem accM_short {s : ByteArray} : ∀ {k : Nat}, s.size < k → accM s k = none
 | 0, h => by omega
 | k + 1, h => by
  unfold accM
  have : s.data[k]? = none := Array.getElem?_eq_none (by show s.size ≤ k; omega)
  rw [this]
  split
  ·rename_i h1; cases h1
  ·rfl
theorem sumM_short {s : ByteArray} (h : s.size < 10) : sumM s = -1 := by
 unfold sumM
 rw [accM_short h]
theorem sumM_all {s : ByteArray} {a : Int} (h : accM s 10 = some a) : sumM s = a.tmod 97 := by unfold sumM; rw [h]
theorem sumM_bd (s : ByteArray) : -1 ≤ sumM s ∧ sumM s < 97 := by
 unfold sumM
 split
 ·rename_i a ha
  have := (accM_bd ha (Nat.le_refl _)).1
  have h1 := Int.tmod_nonneg 97 this
  have h2 := Int.tmod_lt_of_pos a (show (0 : Int) < 97 by decide)
  omega
 ·omega
def SumC : Ctr := spec (fun s : ByteArray => [.str s]) (fun _ => []) (fun _ => True) (fun s => .i (sumM s)) fun _ => []
theorem mul_bd {a b : Int} (h : 0 ≤ a ∧ a ≤ 26) (h2 : 0 ≤ b ∧ b ≤ 10) : 0 ≤ a * b ∧ a * b ≤ 260 := ⟨Int.mul_nonneg h.1 h2.1, Int.mul_le_mul h.2 h2.2 h2.1 (by decide)⟩
theorem sum_body (P : Program) (hl : FnOk P 21 (ByC letB)) (hd : FnOk P 60 (ByC digB)) : BodyOk P x23 SumC := by
 intro args H K hc; obtain ⟨s, rfl, rfl, hp, hK⟩ := hc; refine ⟨nb9, ?_⟩; dsimp only at hp hK ⊢
 obtain ⟨u, hu⟩ : ∃ x, x = (sumM s) := ⟨_, rfl⟩
 rw [← hu] at hK
 cbv; repeat' ((first | refine .mk (fun h => ?_) fun h => ?_ | refine .k fun z hz => ?_ | fail) <;> cbv)
 ·exact FinK.mk ⟨_, Gh.refl _, .inl (.v9 (K_i hK (by (rw [hu, sumM_short om9]))))⟩
 refine xloopV [] (fun p : { p : Nat × Int // p.1 ≤ 10 ∧ accM s p.1 = some p.2 } => [(9, .i (nI p.1.1)), (3, .i p.1.2)]) (fun _ => []) (fun p => lft 10 p.1.1) ⟨(0, 0), Nat.zero_le _, rfl⟩ ?_
 rintro ⟨⟨k, a⟩, hk, ha⟩
 dsimp only at hk ha ⊢
 have hbd := accM_bd ha hk
 have hsz : 10 ≤ s.size := om9
 clear hz
 rcases Nat.lt_or_ge k 10 with hk10 | hk10
 rotate_left
 ·obtain rfl : k = 10 := by omega
  have hs := sumM_all ha
  have hs0 := Int.tmod_nonneg 97 hbd.1
  cbv; repeat' ((first | refine .n fun h => ?_ | refine .q fun z hz hz0 hz1 => ?_ | fail) <;> cbv)
  exact FinK.mk ⟨_, Gh.refl _, .inl (.v9 (K_i hK (by (rw [hu, hs]; assumption))))⟩
 have hks : k < s.size := by omega
 have hat := accM_at hks ha
 rcases Nat.lt_or_ge k 4 with hk4 | hk4
 ·cbv; repeat' ((first | refine .y fun h => ?_ | fail) <;> cbv)
  refine askByte_nI hks fun z hz => ?_
  cbv
  (refine c09 hl z trivial ?_; try dsimp only)
  cases h1 : letB z with
  | true =>
   have hzr : 97 ≤ z ∧ z ≤ 122 := by unfold letB at h1; simpa using h1
   have hv : vM s[k] k = some (z - 96) := by rw [hz] at h1 ⊢; unfold vM; rw [if_pos hk4, if_pos (show letB (s[k].toNat : Int) = true from h1)]; rfl
   rw [hv] at hat
   cbv
   refine askByte_nI hks fun z2 hz2 => ?_
   obtain rfl : z = z2 := hz.trans hz2.symm
   obtain ⟨c, hc⟩ : ∃ c, c = z := ⟨_, rfl⟩
   have e := IntWalk.u8_in (z - 97) (by omega)
   cbv; repeat' ((first | refine .k fun z hz => ?_ | refine .o ?_ | fail) <;> cbv)
   rename_i w hw v hvv
   obtain rfl : v = c - 96 := by omega
   obtain rfl : z = (k : Int) + 1 := om9
   have hm2 := mul_bd (a := c - 96) (b := (k : Int) + 1) (by omega) (by omega)
   refine MulK.k (fun m hm => ?_) (by omega)
   rw [← hm] at hm2
   cbv; repeat' ((first | refine .k fun z hz => ?_ | fail) <;> cbv)
   rename_i z4 hz4
   obtain rfl : z = nI (k + 1) := om9
   exact roundV ⟨(k + 1, z4), by dsimp only; omega, by rw [hat, hz4, hm, hc]; rfl⟩ (lft_lt (by omega))
  | false =>
   cbv; repeat' ((first | refine .n fun h => ?_ | fail) <;> cbv)
   have hv : vM s[k] k = none := by rw [hz] at h1; unfold vM; rw [if_pos hk4, if_neg (by rw [show letB ((s[k].toNat : Nat) : Int) = false from h1]; decide)]
   exact FinK.mk ⟨_, Gh.refl _, .inl (.v9 (K_i hK (by (rw [hu, sumM_not hk10 hks ha hv]))))⟩
 ·cbv; repeat' ((first | refine .n fun h => ?_ | refine .y fun h => ?_ | fail) <;> cbv)
  refine askByte_nI hks fun z hz => ?_
  cbv
  (refine c09 hd z trivial ?_; try dsimp only)
  cases h1 : digB z with
  | true =>
   have hzr : 48 ≤ z ∧ z ≤ 57 := by unfold digB at h1; simpa using h1
   have hv : vM s[k] k = some (z - 48) := by rw [hz] at h1 ⊢; unfold vM; rw [if_neg (by omega), if_pos (show digB (s[k].toNat : Int) = true from h1)]; rfl
   rw [hv] at hat
   cbv
   refine askByte_nI hks fun z2 hz2 => ?_
   obtain rfl : z = z2 := hz.trans hz2.symm
   obtain ⟨c, hc⟩ : ∃ c, c = z := ⟨_, rfl⟩
   have e := IntWalk.u8_in (z - 48) (by omega)
   cbv; repeat' ((first | refine .k fun z hz => ?_ | refine .o ?_ | fail) <;> cbv)
   rename_i w hw
   obtain rfl : w = c - 48 := by omega
   obtain rfl : z = (k : Int) + 1 := om9
   have hm2 := mul_bd (a := c - 48) (b := (k : Int) + 1) (by omega) (by omega)
   refine MulK.k (fun m hm => ?_) (by omega)
   rw [← hm] at hm2
   cbv; repeat' ((first | refine .k fun z hz => ?_ | fail) <;> cbv)
   rename_i z4 hz4
   obtain rfl : z = nI (k + 1) := om9
   exact roundV ⟨(k + 1, z4), by dsimp only; omega, by rw [hat, hz4, hm, hc]; rfl⟩ (lft_lt (by omega))
  | false =>
   cbv
   have hv : vM s[k] k = none := by rw [hz] at h1; unfold vM; rw [if_neg (by omega), if_neg (by rw [show digB ((s[k].toNat : Nat) : Int) = false from h1]; decide)]
   exact FinK.mk ⟨_, Gh.refl _, .inl (.v9 (K_i hK (by (rw [hu, sumM_not hk10 hks ha hv]))))⟩
def markB (s : ByteArray) : Bool := decide (s.size = 12) && (decide (0 ≤ sumM s) && decide (s.extract 10 12 = digS (sumM s).toNat))
theorem right_body (P : Program) (hs : FnOk P 23 SumC) (hd : FnOk P 22 DigC) : BodyOk P x62 (StrC (fun _ => True) markB) := by
 intro args H K hc; obtain ⟨s, rfl, rfl, hp, hK⟩ := hc; refine ⟨nb9, ?_⟩; dsimp only at hp hK ⊢
 have hb := sumM_bd s
 unfold markB at hK
 obtain ⟨q, hq⟩ : ∃ x, x = (sumM s) := ⟨_, rfl⟩
 rw [← hq] at hK hb
 cbv; repeat' ((first | refine .mk (fun h => ?_) fun h => ?_ | refine .k fun z hz => ?_ | fail) <;> cbv)
 rotate_left
 ·exact FinK.mk ⟨_, Gh.refl _, .inl (.v9 (K_bl hK (by (rw [decide_eq_false om9]; rfl))))⟩
 ·have hsz : s.size = 12 := om9
  (refine c09 hs s trivial ?_; try dsimp only)
  rw [← hq]
  cbv; repeat' ((first | refine .mk (fun h => ?_) fun h => ?_ | refine .u fun u hu hul => ?_ | fail) <;> cbv)
  ·obtain ⟨n, rfl⟩ := Int.eq_ofNat_of_zero_le h
   cbv
   have hv2 : u = s.extract 10 12 := by rw [hu, ← hsz]; rfl
   (refine c09 hd n (by have : (n : Int) < 97 := hb.2; omega) ?_; try dsimp only)
   have e1 : ((n : Int)).toNat = n := rfl
   rw [e1] at hK
   obtain ⟨t, ht⟩ : ∃ x, x = (digS n) := ⟨_, rfl⟩
   rw [← ht] at hK ⊢
   cbv; repeat' ((first | refine .mk (fun h => ?_) fun h => ?_ | fail) <;> cbv)
   ·exact FinK.mk ⟨_, Gh.refl _, .inl (.v9 (K_bl hK (by (rw [decide_eq_true hsz, decide_eq_true (by omega), decide_eq_true (by rw [← hv2]; exact h)]; rfl))))⟩
   ·exact FinK.mk ⟨_, Gh.refl _, .inl (.v9 (K_bl hK (by (rw [decide_eq_true hsz, decide_eq_true (by omega), decide_eq_false (by rw [← hv2]; exact h)]; rfl))))⟩
  ·exact FinK.mk ⟨_, Gh.refl _, .inl (.v9 (K_bl hK (by (rw [decide_eq_true hsz, decide_eq_false (by omega)]; rfl))))⟩
def headB (s : ByteArray) : Bool := (accM s 10).isSome
theorem ext_two : ∀ (a b : Fin 256) (n : Fin 97), (⟨#[UInt8.ofNat a.val, UInt8.ofNat b.val]⟩ : ByteArray) = digS n.val ↔ (a.val = 48 + n.val / 10 ∧ b.val = 48 + n.val % 10) := by
 intro a b n
 unfold digS
 constructor
 ·intro h
  simp only [ByteArray.mk.injEq, Array.mk.injEq, List.cons.injEq, and_true] at h
  have h1 := congrArg UInt8.toNat h.1
  have h2 := congrArg UInt8.toNat h.2
  simp at h1 h2
  omega
 ·rintro ⟨h1, h2⟩
  rw [h1, h2]
theorem markB_ref {s : ByteArray} (h12 : s.size = 12) : markB s = (headB s && digB (s[10]'(by omega)).toNat && digB (s[11]'(by omega)).toNat && decide (sumM s = 10 * (((s[10]'(by omega)).toNat : Int) - 48) + ((s[11]'(by omega)).toNat : Int) - 48)) := by
 have hsz := h12
 have hex : s.extract 10 12 = ⟨#[UInt8.ofNat (s[10]'(by omega)).toNat, UInt8.ofNat (s[11]'(by omega)).toNat]⟩ := by
  have hd : s.data.size = 12 := h12
  have : (s.extract 10 12).data = #[s[10]'(by omega), s[11]'(by omega)] := by
   rw [ByteArray.data_extract]
   refine Array.ext (by simp [hd]) fun i h1 h2 => ?_
   simp at h2
   have h3 : i = 0 ∨ i = 1 := by omega
   rcases h3 with rfl | rfl <;> simp <;> rfl
  have h4 : ∀ c : UInt8, UInt8.ofNat c.toNat = c := fun c => by simp
  rw [h4, h4]
  exact ByteArray.ext this
 have hb := sumM_bd s
 unfold markB
 rw [decide_eq_true h12, Bool.true_and, hex]
 have ha : (s[10]'(by omega)).toNat < 256 := UInt8.toNat_lt _
 have hbb : (s[11]'(by omega)).toNat < 256 := UInt8.toNat_lt _
 obtain ⟨a, hae⟩ : ∃ a, a = (s[10]'(by omega)).toNat := ⟨_, rfl⟩
 obtain ⟨b, hbe⟩ : ∃ b, b = (s[11]'(by omega)).toNat := ⟨_, rfl⟩
 rw [← hae] at ha ⊢
 rw [← hbe] at hbb ⊢
 cases hh : headB s with
 | false =>
  have hn : sumM s = -1 := by
   unfold sumM
   unfold headB at hh
   cases h : accM s 10 with
   | none => rfl
   | some a => rw [h] at hh; cases hh
  rw [hn]
  rfl
 | true =>
  have h0 : 0 ≤ sumM s := by
   unfold sumM
   unfold headB at hh
   cases h : accM s 10 with
   | none => rw [h] at hh; cases hh
   | some a => exact Int.tmod_nonneg 97 (accM_bd h (Nat.le_refl _)).1
  obtain ⟨n, hn⟩ := Int.eq_ofNat_of_zero_le h0
  rw [hn] at hb ⊢
  have h2 := ext_two ⟨a, ha⟩ ⟨b, hbb⟩ ⟨n, by omega⟩
  rw [decide_eq_true (show (0 : Int) ≤ (n : Int) by omega), Bool.true_and, Bool.true_and]
  unfold digB
  rw [Bool.eq_iff_iff]
  simp only [Bool.and_eq_true, decide_eq_true_eq]
  rw [show ((n : Int)).toNat = n from rfl]
  constructor
  ·intro h
   have := h2.1 h
   dsimp only at this
   omega
  ·intro h
   exact h2.2 (by dsimp only; omega)
theorem markB_short {s : ByteArray} (h : s.size ≠ 12) : markB s = false := by unfold markB; rw [decide_eq_false h]; rfl
theorem askByte_at {s : ByteArray} {x : Int} (i : Nat) {K : Int → Prop} (h : i < s.size) (e : x = i) (hk : ∀ z : Int, z = (s[i]'h).toNat → K z) : AskByte s x K := by
 subst e; exact askByte_nI h hk
section
variable {x1 x2 : Int} {K : Int → Prop}
theorem ArrK.o {n : Nat} {K : Prop} (k : K) (d : 0 ≤ x1 ∧ x1 < n := by (try simp only [vn] at *) <;> omega) : ArrK n x1 K := ⟨d, k⟩
theorem IdxH.o {n : Nat} {K : Nat → Prop} (k : K x1.toNat) (d : 0 ≤ x1 ∧ x1 < n := by (try simp only [vn] at *) <;> omega) : IdxH n x1 K := ⟨d, k⟩
theorem BitK.k {op : BinOp} {i : IntKind} (k : ∀ z, z = i.wrap (match op with
  | .and => (BitVec.ofInt i.bits x1 &&& BitVec.ofInt i.bits x2)
  | .or => (BitVec.ofInt i.bits x1 ||| BitVec.ofInt i.bits x2)
  | .xor => (BitVec.ofInt i.bits x1 ^^^ BitVec.ofInt i.bits x2)
  | _ => (BitVec.ofInt i.bits x1 &&& ~~~ BitVec.ofInt i.bits x2)).toNat → K z) : BitK op i x1 x2 K := ⟨k⟩
theorem MksK.zl {bytes : Nat} {x : AV} {K : List AV → Prop} (k : ∀ zs, zs = List.replicate x1.toNat x → zs.length = x1.toNat → K zs) (d : 0 ≤ x1 ∧ x1 ≤ x2 ∧ x2 ≤ maxLen ∧ bytes * x2 ≤ 140737488355328 := by (try simp only [vn] at *) <;> (try unfold maxLen) <;> omega) : MksK x1 x2 bytes x K :=
 ⟨d, fun zs h => k zs h (by rw [h, List.length_replicate])⟩
end
theorem Gh.viewT {M : Nat} {st : St} : Gh M st ⟨st.T.map fun p => (p.1, st.view p.2), st.H⟩ := fun C a w r pub _ h => by
 refine ⟨r, pub, h.mod, h.own, h.fr, fun n => ?_, h.defers, h.size, h.stab, h.low⟩
 have hs := h.slots n
 have e : ∀ T : List (Nat × AV), tget (T.map fun p => (p.1, st.view p.2)) n = st.view (tget T n) := fun T => by
  induction T with
  | nil => rfl
  | cons p T ih =>
   obtain ⟨m, x⟩ := p
   show (if m = n then st.view x else tget (T.map fun p => (p.1, st.view p.2)) n) = st.view (if m = n then x else tget T n)
   split
   ·rfl
   ·exact ih
 dsimp only
 rw [e]
 exact h.view hs
theorem Gh.viewE {M : Nat} {st : St} (q : Nat) {t : TypeId} {cs : List AV} (hq : st.H[q]? = some (.blk t cs)) : Gh M st ⟨st.T, st.H.set q (.blk t (cs.map st.view1))⟩ := fun C a w r pub _ h => by
 obtain ⟨b, arr, hr, hb, hc, hp⟩ := h.ent_blk hq
 refine ⟨r, pub, h.mod.set hr (Fr.refl (fun _ => False) _ _) (fun _ h => h.elim) h.mod.fresh h.mod.there (.blk hb ⟨by rw [List.length_map]; exact hc.len, fun i x u hx hu => ?_⟩ hp), h.own, h.fr, h.slots, h.defers, h.size, h.stab, h.low.1, by simpa using h.low.2⟩
 rw [List.getElem?_map] at hx
 cases hy : cs[i]? with
 | none => rw [hy] at hx; cases hx
 | some y => rw [hy] at hx; cases hx; exact h.view1 (hc.at_ i y u hy hu)
section
variable {α : Type} {f : α → PEl} {L : List α}
theorem LenP.k {K : Int → Prop} (k : ∀ z : Int, z = (L.length : Int) → K z) : LenP (mapA f L) K := ⟨fun z hz => k z (by rw [hz, mapA_len])⟩
def atS (key : α → ByteArray) (L : List α) (s : ByteArray) : Option Nat := L.findIdx? fun a => decide (key a = s)
theorem atS_some {key : α → ByteArray} {L : List α} {s : ByteArray} {i : Nat} (h : atS key L s = some i) : ∃ a, L[i]? = some a ∧ key a = s := by
 unfold atS at h
 rw [List.findIdx?_eq_some_iff_getElem] at h
 obtain ⟨hi, h1, _⟩ := h
 exact ⟨L[i], List.getElem?_eq_getElem hi, by simpa using h1⟩
theorem atS_first {key : α → ByteArray} {L : List α} {s : ByteArray} {i j : Nat} {a : α} (h : atS key L s = some i) (hj : j < i) (ha : L[j]? = some a) : key a ≠ s := by
 unfold atS at h
 rw [List.findIdx?_eq_some_iff_getElem] at h
 obtain ⟨hi, _, h2⟩ := h
 have := h2 j hj
 obtain ⟨hjl, rfl⟩ := List.getElem?_eq_some_iff.1 ha
 simpa using this
theorem atS_none {key : α → ByteArray} {L : List α} {s : ByteArray} (h : atS key L s = none) : ∀ a ∈ L, key a ≠ s := by
 unfold atS at h
 rw [List.findIdx?_eq_none_iff] at h
 intro a ha e
 have := h a ha
 simp [e] at this
theorem findL_str (key : α → ByteArray) (hf : ∀ a, (f a).1 = .str (key a)) (s : ByteArray) : ∀ (L : List α) (i : Nat), findL (.str s) ((mapA f L).map (·.1)) i = some ((atS key L s).map (· + i))
 | [], i => rfl
 | x :: L, i => by
  have e : (mapA f (x :: L)).map (·.1) = (f x).1 :: (mapA f L).map (·.1) := rfl
  rw [e, hf x]
  unfold findL atS
  rw [List.findIdx?_cons]
  by_cases h : key x = s
  ·have h2 : keyIs (.str s) (.str (key x)) = some true := congrArg some ((MapKept.bytes_beq _ _).2 h.symm)
   simp only [h2]
   simp [h]
  ·have h3 : ¬ s = key x := fun e => h e.symm
   have h2 : keyIs (.str s) (.str (key x)) = some false := congrArg some (Bool.eq_false_iff.2 fun hb => h3 ((MapKept.bytes_beq _ _).1 hb))
   simp only [h2, findL_str key hf s L (i + 1), h, decide_false, Bool.false_eq_true, if_false, Option.map_map, atS]
   congr 1
   cases (L.findIdx? fun a => decide (key a = s)) with
   | none => rfl
   | some n => simp; omega
theorem poolK_in (key : α → ByteArray) (hf : ∀ a, (f a).1 = .str (key a)) {s : ByteArray} {Kin : Nat → AV → List Ent → Prop} {Kout : AV → Prop} {Kno : Unit → Prop} (h : ∀ i y, atS key L s = some i → L[i]? = some y → key y = s → Kin i (f y).2.1 (f y).2.2) (hn : atS key L s = none → Kno ()) :
  PoolK (.str s) (mapA f L) [] Kin Kout Kno := by
 refine ⟨?_⟩
 have hfl := findL_str (f := f) key hf s L 0
 cases ha : atS key L s with
 | none => rw [ha] at hfl; exact .inr (.inr ⟨hfl, hn ha⟩)
 | some i =>
  rw [ha] at hfl
  obtain ⟨y, hy, hk⟩ := atS_some ha
  exact .inl ⟨i, (f y).1, (f y).2.1, (f y).2.2, hfl, by rw [mapA_eq, List.getElem?_map, hy]; rfl, by simp, h i y ha hy hk⟩
theorem poolK_out (key : α → ByteArray) (hf : ∀ a, (f a).1 = .str (key a)) {s : ByteArray} {i : Nat} {x : AV} {Kin : Nat → AV → List Ent → Prop} {Kout : AV → Prop} {Kno : Unit → Prop} (ha : atS key L s = some i) (h : Kout x) :
  PoolK (.str s) (mapA f L) [(i, x)] Kin Kout Kno := by
 have hfl := findL_str (f := f) key hf s L 0
 rw [ha] at hfl
 exact ⟨.inr (.inl ⟨i, x, hfl, by simp, h⟩)⟩
theorem pupK_new (key : α → ByteArray) (hf : ∀ a, (f a).1 = .str (key a)) {s : ByteArray} {outs : List (Nat × AV)} {v : AV} {K : List PEl → List (Nat × AV) → Prop} (ha : atS key L s = none) (h : K (mapA f L ++ [(.str s, .any, [])]) ((L.length, v) :: outs)) :
  PupK (.str s) (mapA f L) outs v K := by
 have hfl := findL_str (f := f) key hf s L 0
 rw [ha] at hfl
 exact ⟨.inl ⟨hfl, fun es' n h1 h2 => by rw [mapA_len] at h2; subst h1 h2; exact h⟩⟩
theorem pupK_old (key : α → ByteArray) (hf : ∀ a, (f a).1 = .str (key a)) {s : ByteArray} {i : Nat} {x v : AV} {K : List PEl → List (Nat × AV) → Prop} (ha : atS key L s = some i) (h : K (mapA f L) [(i, v)]) :
  PupK (.str s) (mapA f L) [(i, x)] v K := by
 have hfl := findL_str (f := f) key hf s L 0
 rw [ha] at hfl
 exact ⟨.inr ⟨i, x, [], hfl, rfl, by simp, h⟩⟩
theorem nxtK_in {since : Nat} {seen : List Nat} {K : Nat → AV → AV → List Ent → Prop} {D : Unit → Prop} (hs : since = L.length) (h : ∀ i y, L[i]? = some y → i ∉ seen → K i (f y).1 (f y).2.1 (f y).2.2) (hd : (∀ i, i < L.length → i ∈ seen) → D ()) : NxtK (mapA f L) since seen K D := by
 refine ⟨by rw [mapA_len]; exact hs, fun i k hd' l he hn => ?_, fun h => hd fun i hi => h i (by rw [mapA_len]; exact hi)⟩
 rw [mapA_eq, List.getElem?_map] at he
 cases hy : L[i]? with
 | none => rw [hy] at he; cases he
 | some y =>
  rw [hy] at he
  have := h i y hy hn
  simp only [Option.map_some, Option.some.injEq] at he
  rw [he] at this
  exact this
theorem entK_in {since i : Nat} {seen : List Nat} {x : AV} {y : α} {K : AV → AV → Prop} (hs : since = L.length) (hy : L[i]? = some y) (h : K (f y).1 x) : EntK (mapA f L) [(i, x)] since (seen ++ [i]) K :=
 ⟨i, (f y).1, x, by rw [mapA_len]; exact hs, by simp, by rw [mapA_eq, List.getElem?_map, hy]; rfl, by simp, h⟩
theorem Gh.back {M : Nat} {st : St} (k : Nat) (sel : List Nat) (f : α → PEl) {L : List α} {i : Nat} {y0 : α} (y : α) {t : TypeId} {x : AV} (hk : st.H[k]? = some (.pool t (mapA f L) [(i, x)])) (hy : L[i]? = some y0) (hkey : (f y0).1 = (f y).1 := by rfl)
  (hx : x = (f y).2.1.ren sel 0 := by rfl) (hH : sel.map (fun q => st.H[q]?) = (renH sel 0 (f y).2.2).map some := by rfl) (hnd : sel.Nodup := by decide) (hsel : sel.all (fun q => Nat.ble M q && q != k) = true := by decide) (hb : (f y).2.1.bnd sel.length = true := by rfl) (hbH : bndH sel.length (f y).2.2 = true := by rfl) (hpl : (f y).2.2.all plainE = true := by rfl) :
  Gh M st ⟨killTs st.T sel, dieH (killHs (st.H.set k (.pool t (mapA f (L.set i y)) [])) sel) sel⟩ := by
 have h := Gh.putIn (M := M) (st := st) k 0 sel (f y).2.1 (f y).2.2 (x := x) (i := i) (key := (f y0).1) hk rfl (by simp) (by rw [mapA_eq, List.getElem?_map, hy]; rfl) hx hH hnd hsel hb hbH hpl
 have e : (mapA f L).set i ((f y0).1, (f y).2.1, (f y).2.2) = mapA f (L.set i y) := by
  rw [hkey]
  show (mapA f L).set i (f y) = _
  rw [mapA_eq, mapA_eq, List.map_set]
 rw [e] at h
 exact h
theorem set_same {L : List α} {i : Nat} {y : α} (hy : L[i]? = some y) : L.set i y = L := by
 obtain ⟨h, rfl⟩ := List.getElem?_eq_some_iff.1 hy
 exact List.set_getElem_self h
theorem Gh.back0 {M : Nat} {st : St} (k : Nat) (sel : List Nat) (f : α → PEl) {L : List α} {i : Nat} {y : α} {t : TypeId} {x : AV} (hk : st.H[k]? = some (.pool t (mapA f L) [(i, x)])) (hy : L[i]? = some y)
  (hx : x = (f y).2.1.ren sel 0 := by rfl) (hH : sel.map (fun q => st.H[q]?) = (renH sel 0 (f y).2.2).map some := by rfl) (hnd : sel.Nodup := by decide) (hsel : sel.all (fun q => Nat.ble M q && q != k) = true := by decide) (hb : (f y).2.1.bnd sel.length = true := by rfl) (hbH : bndH sel.length (f y).2.2 = true := by rfl) (hpl : (f y).2.2.all plainE = true := by rfl) :
  Gh M st ⟨killTs st.T sel, dieH (killHs (st.H.set k (.pool t (mapA f L) [])) sel) sel⟩ := by
 have h := Gh.back k sel f y hk hy rfl hx hH hnd hsel hb hbH hpl
 rw [set_same hy] at h
 exact h
theorem Gh.backN {M : Nat} {st : St} (k : Nat) (sel : List Nat) (f : α → PEl) {L : List α} (y : α) {key : AV} {t : TypeId} {x : AV} (hk : st.H[k]? = some (.pool t (mapA f L ++ [(key, .any, [])]) [(L.length, x)])) (hkey : (f y).1 = key := by rfl)
  (hx : x = (f y).2.1.ren sel 0 := by rfl) (hH : sel.map (fun q => st.H[q]?) = (renH sel 0 (f y).2.2).map some := by rfl) (hnd : sel.Nodup := by decide) (hsel : sel.all (fun q => Nat.ble M q && q != k) = true := by decide) (hb : (f y).2.1.bnd sel.length = true := by rfl) (hbH : bndH sel.length (f y).2.2 = true := by rfl) (hpl : (f y).2.2.all plainE = true := by rfl) :
  Gh M st ⟨killTs st.T sel, dieH (killHs (st.H.set k (.pool t (mapA f (L ++ [y])) [])) sel) sel⟩ := by
 have hl : (mapA f L).length = L.length := mapA_len f L
 have h := Gh.putIn (M := M) (st := st) k 0 sel (f y).2.1 (f y).2.2 (x := x) (i := L.length) (key := key) hk rfl (by simp) (by rw [List.getElem?_append_right (by omega)]; simp [hl]) hx hH hnd hsel hb hbH hpl
 have e : (mapA f L ++ [(key, AV.any, [])]).set L.length (key, (f y).2.1, (f y).2.2) = mapA f (L ++ [y]) := by
  rw [List.set_append_right _ _ (by omega), hl, Nat.sub_self, mapA_app, mapA_one, ← hkey]
  rfl
 rw [e] at h
 exact h
end
structure Edm where
 frm : ByteArray
 to : ByteArray
 kind : Int
 day : Int
structure Bl where
 number : ByteArray
 carrier : ByteArray
 shipper : ByteArray
 frm : ByteArray
 to : ByteArray
 boxes : List ByteArray
 parents : List ByteArray
 issued : Int
 clean : Bool
structure Og where
 state : Int
 holder : ByteArray
 chain : List Edm
structure Br where
 b : Bl
 st : Int
 o0 : Og
 o1 : Og
 o2 : Og
structure Rg where
 carrier : ByteArray
 bills : List Br
def EdA : Edm → AV
 | ⟨f, t, k, d⟩ => .agg [.str f, .str t, .i k, .i d]
def BlL : Bl → List AV
 | ⟨number, carrier, shipper, frm, to, boxes, parents, issued, clean⟩ => [.str number, .str carrier, .str shipper, .str frm, .str to, .sl 1 (mapA .str boxes), .sl 1 (mapA .str parents), .i issued, .bl clean]
def BlA (b : Bl) : AV := .agg (BlL b)
def EntC : Br → List Ent
 | ⟨⟨number, carrier, shipper, frm, to, boxes, parents, issued, clean⟩, st, ⟨sa, ha, ca⟩, ⟨sb, hb, cb⟩, ⟨sc, hc, cc⟩⟩ =>
  [.blk 75 [.str number, .str carrier, .str shipper, .str frm, .str to, .sl 1 (mapA .str boxes), .sl 1 (mapA .str parents), .i issued, .bl clean, .i st, .i sa, .str ha, .hd 1, .i sb, .str hb, .hd 2, .i sc, .str hc, .hd 3],
   .tip 85 4 (mapA EdA ca), .tip 85 4 (mapA EdA cb), .tip 85 4 (mapA EdA cc)]
def PelA (b : Br) : PEl := (.str b.b.number, .ptr 0 0, EntC b)
def RegH (R : Rg) : List Ent := [.blk 59 [.str R.carrier, .ph 1], .pool 57 (mapA PelA R.bills) []]
def bAt (L : List Br) (s : ByteArray) : Option Nat := atS (fun b : Br => b.b.number) L s
def stateM (L : List Br) (s : ByteArray) : Int := match bAt L s with
 | some i => match L[i]? with
  | some b => b.st
  | none => -1
 | none => -1
def NewC : Ctr := spec (fun s : ByteArray => [.str s]) (fun _ => []) (fun _ => True) (fun _ => .ptr 0 0) fun s => RegH ⟨s, []⟩
theorem new_body (P : Program) : BodyOk P x5 NewC := by
 intro args H K hc; obtain ⟨s, rfl, rfl, hp, hK⟩ := hc; refine ⟨nb9, ?_⟩; dsimp only at hp hK ⊢
 cbv
 exact FinK.mk ⟨_, Gh.refl _, .inl (CutK.sel [1, 0] (RegH ⟨s, []⟩) (.ptr 0 0) (by rfl) (by rfl) (by decide) (by rfl) nb9 (by rfl) (by rfl) (Le.refl _) (LeH.refl _) hK)⟩
def StateC : Ctr := spec (fun i : Rg × ByteArray => [.ptr 0 0, .str i.2]) (fun i => RegH i.1) (fun _ => True) (fun i => .i (stateM i.1.bills i.2)) fun i => RegH i.1
theorem state_body (P : Program) : BodyOk P x17 StateC := by
 intro args H K hc
 obtain ⟨⟨⟨carrier, L⟩, s⟩, rfl, rfl, _, hK⟩ := hc
 refine ⟨nb9, ?_⟩
 dsimp only at hK ⊢
 cbv
 refine poolK_in (fun b : Br => b.b.number) (fun _ => rfl) (fun i y hai hy hky => ?_) (fun hai => ?_) <;> dsimp only at *
 ·obtain ⟨⟨nq1, cq1, sq1, frm1, to1, bq1, pq1, iq1, lq1⟩, st1, ⟨sa1, ha1, ca1⟩, ⟨sb1, hb1, cb1⟩, ⟨sc1, hc1, cc1⟩⟩ := y
  cbv
  (refine .r9 (Gh.back0 1 [2, 3, 4, 5] PelA rfl hy) ?_; cbv; exact .inl (.f9 (K_i hK (by unfold stateM bAt; rw [hai]; dsimp only; rw [hy]))))
 ·cbv
  (refine .r9 (Gh.refl _) ?_; cbv; exact .inl (.f9 (K_i hK (by unfold stateM bAt; rw [hai]))))
def CloneC (sz bytes : Nat) : Ctr := spec (fun xs : List AV => [.sl sz xs]) (fun _ => []) (fun xs => xs.length ≤ maxLen ∧ xs.length * bytes ≤ 140737488355328) (fun xs => .sl sz xs) fun _ => []
def CloneR (t sz bytes : Nat) : Ctr := spec (fun xs : List AV => [.sl sz xs]) (fun _ => []) (fun xs => xs.length ≤ maxLen ∧ xs.length * bytes ≤ 140737488355328) (fun _ => .hd 0) fun xs => [.row t sz xs]
theorem cloneS_body (P : Program) : BodyOk P x49 (CloneC 1 16) := by
 intro args H K hc
 obtain ⟨xs, rfl, rfl, ⟨h1, h2⟩, hK⟩ := hc
 refine ⟨nb9, ?_⟩
 dsimp only at h1 h2 hK ⊢
 cbv; repeat' ((first | refine .zl fun zs hzs hzl => ?_ | refine .mk (fun h => ?_) ?_ | fail) <;> cbv)
 ·subst h
  exact ⟨⟨_, Gh.refl _, .inl (CutK.val rfl (.one (.one (.nil _))) hK)⟩⟩
 ·have hzs : zs = xs := hzs
  subst hzs
  exact ⟨⟨_, Gh.publish 0 rfl, .inr (.v9 hK)⟩⟩
theorem cloneE_body (P : Program) : BodyOk P x93 (CloneC 4 48) := by
 intro args H K hc
 obtain ⟨xs, rfl, rfl, ⟨h1, h2⟩, hK⟩ := hc
 refine ⟨nb9, ?_⟩
 dsimp only at h1 h2 hK ⊢
 cbv; repeat' ((first | refine .zl fun zs hzs hzl => ?_ | refine .mk (fun h => ?_) ?_ | fail) <;> cbv)
 ·subst h
  exact ⟨⟨_, Gh.refl _, .inl (CutK.val rfl (.one (.one (.nil _))) hK)⟩⟩
 ·have hzs : zs = xs := hzs
  subst hzs
  exact ⟨⟨_, Gh.publish 0 rfl, .inr (.v9 hK)⟩⟩
theorem cloneER_body (P : Program) : BodyOk P x93 (CloneR 85 4 48) := by
 intro args H K hc
 obtain ⟨xs, rfl, rfl, ⟨h1, h2⟩, hK⟩ := hc
 refine ⟨nb9, ?_⟩
 dsimp only at h1 h2 hK ⊢
 cbv; repeat' ((first | refine .zl fun zs hzs hzl => ?_ | refine .mk (fun h => ?_) ?_ | fail) <;> cbv)
 ·subst h
  exact ⟨⟨_, Gh.adopt 2 85 4 rfl, .inl (CutK.pre [.row 85 4 []] rfl (Nat.zero_le _) rfl rfl (Le.refl _) (LeH.refl _) hK)⟩⟩
 ·have hzs : zs = xs := hzs
  subst hzs
  exact ⟨⟨_, Gh.refl _, .inl (CutK.pre [.row 85 4 zs] rfl (Nat.zero_le _) rfl rfl (Le.refl _) (LeH.refl _) hK)⟩⟩
def okB (b : Bl) : Prop := b.boxes.length ≤ 5000 ∧ b.parents.length ≤ 5000
def CopyBC : Ctr := spec (fun b : Bl => [BlA b]) (fun _ => []) okB (fun b => BlA b) fun _ => []
theorem copyBill_body (P : Program) (hc1 : FnOk P 49 (CloneC 1 16)) : BodyOk P x33 CopyBC := by
 intro args H K hc
 obtain ⟨⟨number, carrier, shipper, frm, to, boxes, parents, issued, clean⟩, rfl, rfl, ⟨h1, h2⟩, hK⟩ := hc
 refine ⟨nb9, ?_⟩
 dsimp only at h1 h2 hK ⊢
 cbv
 (refine c09 hc1 _ ⟨by rw [mapA_len]; unfold maxLen; omega, by rw [mapA_len]; omega⟩ ?_; try dsimp only)
 cbv
 (refine c09 hc1 _ ⟨by rw [mapA_len]; unfold maxLen; omega, by rw [mapA_len]; omega⟩ ?_; try dsimp only)
 cbv
 (refine .r9 (Gh.refl _) ?_; cbv; exact .inl (.f9 hK))
structure OkR (R : Rg) : Prop where
 few : R.bills.length ≤ 256
 bills : ∀ b ∈ R.bills, okB b.b
 chains : ∀ b ∈ R.bills, b.o0.chain.length ≤ 4096 ∧ b.o1.chain.length ≤ 4096 ∧ b.o2.chain.length ≤ 4096
def zeroB : Bl := ⟨⟨#[]⟩, ⟨#[]⟩, ⟨#[]⟩, ⟨#[]⟩, ⟨#[]⟩, [], [], 0, false⟩
def getM (L : List Br) (s : ByteArray) : Bl × Bool := match bAt L s with
 | some i => match L[i]? with
  | some b => (b.b, true)
  | none => (zeroB, false)
 | none => (zeroB, false)
theorem getM_some {L : List Br} {s : ByteArray} {i : Nat} {y : Br} (h : bAt L s = some i) (hy : L[i]? = some y) : getM L s = (y.b, true) := by unfold getM; rw [h]; dsimp only; rw [hy]
theorem getM_none {L : List Br} {s : ByteArray} (h : bAt L s = none) : getM L s = (zeroB, false) := by unfold getM; rw [h]
def GetC : Ctr := spec (fun i : Rg × ByteArray => [.ptr 0 0, .str i.2]) (fun i => RegH i.1) (fun i => OkR i.1) (fun i => .tup [BlA (getM i.1.bills i.2).1, .bl (getM i.1.bills i.2).2]) fun i => RegH i.1
theorem get_body (P : Program) (hcp : FnOk P 33 CopyBC) : BodyOk P x11 GetC := by
 intro args H K hc; obtain ⟨⟨⟨carrier, L⟩, s⟩, rfl, rfl, hp, hK⟩ := hc; refine ⟨nb9, ?_⟩; dsimp only at hp hK ⊢
 have hob := hp.bills
 dsimp only at hob
 cbv
 refine poolK_in (fun b : Br => b.b.number) (fun _ => rfl) (fun i y hai hy hky => ?_) (fun hai => ?_) <;> dsimp only at *
 ·rw [getM_some hai hy] at hK
  have ho := hob y (List.mem_of_getElem? hy)
  obtain ⟨⟨nq1, cq1, sq1, frm1, to1, bq1, pq1, iq1, lq1⟩, st1, ⟨sa1, ha1, ca1⟩, ⟨sb1, hb1, cb1⟩, ⟨sc1, hc1, cc1⟩⟩ := y
  cbv
  (refine c09 hcp ⟨nq1, cq1, sq1, frm1, to1, bq1, pq1, iq1, lq1⟩ ho ?_; try dsimp only)
  cbv
  (refine .r9 (Gh.back0 1 [3, 4, 5, 6] PelA rfl hy) ?_; cbv; exact .inl (.f9 hK))
 ·rw [getM_none hai] at hK
  cbv
  (refine .r9 (Gh.refl _) ?_; cbv; exact .inl (.g9 hK))
set_option maxHeartbeats 2000000
structure Ak where
 bill : ByteArray
 index : Int
 least : Int
 by_ : ByteArray
 state : Int
 day : Int
 dated : Bool
 wrong : Bool
def AkL : Ak → List AV
 | ⟨bill, index, least, by_, state, day, dated, wrong⟩ => [.str bill, .i index, .i least, .str by_, .i state, .i day, .bl dated, .bl wrong]
def OgA : Og → AV
 | ⟨s, h, c⟩ => .agg [.i s, .str h, .sl 4 (mapA EdA c)]
def lastM (o : Og) (issued : Int) : Int := match o.chain.getLast? with
 | some e => e.day
 | none => issued
def LastC : Ctr := spec (fun i : Og × Int => [OgA i.1, .i i.2]) (fun _ => []) (fun i => i.1.chain.length ≤ 5000) (fun i => .i (lastM i.1 i.2)) fun _ => []
theorem last_body (P : Program) : BodyOk P x75 LastC := by
 intro args H K hc; obtain ⟨⟨⟨s, h, c⟩, issued⟩, rfl, rfl, hp, hK⟩ := hc; refine ⟨nb9, ?_⟩; dsimp only at hp hK ⊢
 have hd : lastM ⟨s, h, c⟩ issued = match c.getLast? with
  | some e => e.day
  | none => issued := rfl
 obtain ⟨q, hq⟩ : ∃ x, x = (lastM ⟨s, h, c⟩ issued) := ⟨_, rfl⟩
 rw [← hq] at hK hd
 cbv; repeat' ((first | refine .mk (fun h => ?_) fun h => ?_ | refine .k fun z hz => ?_ | fail) <;> cbv)
 ·have e0 : c = [] := List.eq_nil_of_length_eq_zero om9
  exact FinK.mk ⟨_, Gh.refl _, .inl (.v9 (K_i hK (by (rw [hd, e0]; rfl))))⟩
 ·refine askEl_int om9 om9 fun i l hi hl => ?_
  obtain ⟨f, t, k, d⟩ := l
  cbv
  have hlast : c.getLast? = some ⟨f, t, k, d⟩ := by
   rw [List.getLast?_eq_getElem?]
   rw [show c.length - 1 = i by exact om9]
   exact hl
  exact FinK.mk ⟨_, Gh.refl _, .inl (.v9 (K_i hK (by (rw [hd, hlast]))))⟩
def hitB (idx : Int) (k : Int) : Bool := decide (idx = -1) || decide (idx = k)
def some3 (idx : Int) (b : Br) (p : Og → Bool) : Bool := (hitB idx 0 && p b.o0) || ((hitB idx 1 && p b.o1) || (hitB idx 2 && p b.o2))
def chOk (b : Br) : Prop := b.o0.chain.length ≤ 4500 ∧ b.o1.chain.length ≤ 4500 ∧ b.o2.chain.length ≤ 4500
def pState (a : Ak) (o : Og) : Bool := !decide (o.state = a.state)
def pHolder (a : Ak) (o : Og) : Bool := !decide (o.holder = a.by_)
def pFull (who : ByteArray) (o : Og) : Bool := !decide (o.state = 0) || !decide (o.holder = who)
def pOf (who : ByteArray) (o : Og) : Bool := decide (o.state = 0) && decide (o.holder = who)
def pDay (b : Br) (a : Ak) (o : Og) : Bool := decide (a.day < lastM o b.b.issued)
def CloA (p : Ak → Og → Bool) : Ctr := spec (fun i : Og × Ak => [OgA i.1, .ptr 0 0]) (fun i => [.blk 82 (AkL i.2)]) (fun _ => True) (fun i => .bl (p i.2 i.1)) fun i => [.blk 82 (AkL i.2)]
def CloW (p : ByteArray → Og → Bool) : Ctr := spec (fun i : Og × ByteArray => [OgA i.1, .ptr 0 0]) (fun i => [.blk 9 [.str i.2]]) (fun _ => True) (fun i => .bl (p i.2 i.1)) fun i => [.blk 9 [.str i.2]]
def AskH (b : Br) (a : Ak) : List Ent := [.blk 82 (AkL a), .blk 67 [.ptr 2 0]] ++ renH [] 2 (EntC b)
def CloE : Ctr := spec (fun i : Og × Br × Ak => [OgA i.1, .ptr 0 0, .ptr 1 0]) (fun i => AskH i.2.1 i.2.2) (fun i => i.1.chain.length ≤ 5000) (fun i => .bl (pDay i.2.1 i.2.2 i.1)) fun i => AskH i.2.1 i.2.2
theorem c41_body (P : Program) : BodyOk P x70 (CloA pState) := by
 intro args H K hc; obtain ⟨⟨⟨s, hl, c⟩, ⟨bill, index, least, by_, state, day, dated, wrong⟩⟩, rfl, rfl, hp, hK⟩ := hc; refine ⟨nb9, ?_⟩; dsimp only at hp hK ⊢
 unfold pState at hK
 dsimp only at hK
 cbv; repeat' ((first | refine .mk (fun h => ?_) fun h => ?_ | fail) <;> cbv)
 ·(refine .r9 (Gh.refl _) ?_; cbv; exact .inl (.f9 (K_bl hK (by rw [decide_eq_true h]; rfl))))
 ·(refine .r9 (Gh.refl _) ?_; cbv; exact .inl (.f9 (K_bl hK (by rw [decide_eq_false h]; rfl))))
theorem c51_body (P : Program) : BodyOk P x72 (CloA pHolder) := by
 intro args H K hc; obtain ⟨⟨⟨s, hl, c⟩, ⟨bill, index, least, by_, state, day, dated, wrong⟩⟩, rfl, rfl, hp, hK⟩ := hc; refine ⟨nb9, ?_⟩; dsimp only at hp hK ⊢
 unfold pHolder at hK
 dsimp only at hK
 cbv; repeat' ((first | refine .mk (fun h => ?_) fun h => ?_ | fail) <;> cbv)
 ·(refine .r9 (Gh.refl _) ?_; cbv; exact .inl (.f9 (K_bl hK (by rw [decide_eq_true h]; rfl))))
 ·(refine .r9 (Gh.refl _) ?_; cbv; exact .inl (.f9 (K_bl hK (by rw [decide_eq_false h]; rfl))))
theorem of11_body (P : Program) : BodyOk P x37 (CloW pOf) := by
 intro args H K hc; obtain ⟨⟨⟨s, hl, c⟩, who⟩, rfl, rfl, hp, hK⟩ := hc; refine ⟨nb9, ?_⟩; dsimp only at hp hK ⊢
 unfold pOf at hK
 dsimp only at hK
 cbv; repeat' ((first | refine .mk (fun h => ?_) fun h => ?_ | fail) <;> cbv)
 all_goals (refine .r9 (Gh.refl _) ?_; cbv; exact .inl (.f9 (K_bl hK (by simp [*]))))
theorem hitB_not {idx k : Int} (h : idx ≠ -1) (h2 : idx ≠ k) : hitB idx k = false := by unfold hitB; rw [decide_eq_false h, decide_eq_false h2]; rfl
theorem c61_body (P : Program) (hlast : FnOk P 75 LastC) : BodyOk P x74 CloE := by
 intro args H K hc
 obtain ⟨⟨⟨s, hl, c⟩, y, ⟨bill, index, least, by_, state, day, dated, wrong⟩⟩, rfl, rfl, hp, hK⟩ := hc
 obtain ⟨⟨nq1, cq1, sq1, frm1, to1, bq1, pq1, iq1, lq1⟩, st1, ⟨sa1, ha1, ca1⟩, ⟨sb1, hb1, cb1⟩, ⟨sc1, hc1, cc1⟩⟩ := y
 refine ⟨nb9, ?_⟩
 dsimp only at hp hK ⊢
 unfold pDay at hK
 dsimp only at hK
 obtain ⟨q, hq⟩ : ∃ x, x = (lastM ⟨s, hl, c⟩ iq1) := ⟨_, rfl⟩
 rw [← hq] at hK
 cbv
 (refine c09 hlast (⟨s, hl, c⟩, iq1) hp ?_; try dsimp only)
 rw [← hq]
 cbv; repeat' ((first | refine .mk (fun h => ?_) fun h => ?_ | fail) <;> cbv)
 ·(refine .r9 (Gh.refl _) ?_; cbv; exact .inl (.f9 (K_bl hK (by simp [h]))))
 ·(refine .r9 (Gh.refl _) ?_; cbv; exact .inl (.f9 (K_bl hK (by simp; omega))))
def SomeA (f : Nat) (p : Ak → Og → Bool) : Ctr := spec (fun i : Br × Int × Ak => [.ptr 0 0, .i i.2.1, .clo f [.ptr 4 0]]) (fun i => EntC i.1 ++ [.blk 82 (AkL i.2.2)]) (fun i => chOk i.1) (fun i => .bl (some3 i.2.1 i.1 (p i.2.2))) fun i => EntC i.1 ++ [.blk 82 (AkL i.2.2)]
theorem someA_body (P : Program) (f : Nat) (p : Ak → Og → Bool) (hcl : MayCall P f) (hf : FnOk P f (CloA p)) : BodyOk P x36 (SomeA f p) := by
 intro args H K hc
 obtain ⟨⟨y, idx, ⟨bill, index, least, by_, state, day, dated, wrong⟩⟩, rfl, rfl, hp, hK⟩ := hc
 obtain ⟨⟨nq1, cq1, sq1, frm1, to1, bq1, pq1, iq1, lq1⟩, st1, ⟨sa1, ha1, ca1⟩, ⟨sb1, hb1, cb1⟩, ⟨sc1, hc1, cc1⟩⟩ := y
 refine ⟨nb9, ?_⟩
 obtain ⟨hp0, hp1, hp2⟩ := hp
 dsimp only at hp0 hp1 hp2 hK ⊢
 unfold some3 at hK
 dsimp only at hK
 obtain ⟨q0, hq0⟩ : ∃ q, q = p ⟨bill, index, least, by_, state, day, dated, wrong⟩ ⟨sa1, ha1, ca1⟩ := ⟨_, rfl⟩
 obtain ⟨q1, hq1⟩ : ∃ q, q = p ⟨bill, index, least, by_, state, day, dated, wrong⟩ ⟨sb1, hb1, cb1⟩ := ⟨_, rfl⟩
 obtain ⟨q2, hq2⟩ : ∃ q, q = p ⟨bill, index, least, by_, state, day, dated, wrong⟩ ⟨sc1, hc1, cc1⟩ := ⟨_, rfl⟩
 rw [← hq0, ← hq1, ← hq2] at hK
 cbv
 refine xloopG Gh.viewT ?_
 cbv
 refine xloopV [] (fun p : { k : Nat // k ≤ 3 ∧ (1 ≤ k → (hitB idx 0 && q0) = false) ∧ (2 ≤ k → (hitB idx 1 && q1) = false) ∧ (3 ≤ k → (hitB idx 2 && q2) = false) } => [(13, .i (nI p.1))]) (fun _ => EntC ⟨⟨nq1, cq1, sq1, frm1, to1, bq1, pq1, iq1, lq1⟩, st1, ⟨sa1, ha1, ca1⟩, ⟨sb1, hb1, cb1⟩, ⟨sc1, hc1, cc1⟩⟩ ++ [.blk 82 (AkL ⟨bill, index, least, by_, state, day, dated, wrong⟩)]) (fun p => lft 3 p.1) ⟨0, by decide, fun h => absurd h (by decide), fun h => absurd h (by decide), fun h => absurd h (by decide)⟩ ?_
 rintro ⟨k, hk, g0, g1, g2⟩
 dsimp only at hk g0 g1 g2 ⊢
 have hk4 : k = 0 ∨ k = 1 ∨ k = 2 ∨ k = 3 := by omega
 rcases hk4 with rfl | rfl | rfl | rfl
 rotate_right
 ·have e0 := g0 (by decide)
  have e1 := g1 (by decide)
  have e2 := g2 (by decide)
  cbv; repeat' ((first | refine .n fun h => ?_ | fail) <;> cbv)
  (refine .r9 (Gh.refl _) ?_; cbv; exact .inl (.f9 (K_bl hK (by rw [e0, e1, e2]; rfl))))
 ·cbv; repeat' ((first | refine .n fun h => ?_ | refine .y fun h => ?_ | refine .mk (fun h => ?_) fun h => ?_ | refine .k fun z hz => ?_ | refine .o ?_ | refine And.intro ?_ ?_ | fail) <;> cbv)
  ·exact hcl
  ·(refine cs9 hf (⟨sa1, ha1, ca1⟩, ⟨bill, index, least, by_, state, day, dated, wrong⟩) [4] trivial ?_; try dsimp only)
   rw [← hq0]
   cases q0 with
   | true =>
    cbv
    (refine .r9 (Gh.refl _) ?_; cbv; exact .inl (.f9 (K_bl hK (by simp [hitB, h]))))
   | false =>
    cbv; repeat' ((first | refine .k fun z hz => ?_ | fail) <;> cbv)
    obtain rfl : z = nI 1 := om9
    exact roundV ⟨1, by decide, fun _ => Bool.and_false _, fun h => absurd h (by decide), fun h => absurd h (by decide)⟩ (lft_lt (by decide))
  ·exact hcl
  ·(refine cs9 hf (⟨sa1, ha1, ca1⟩, ⟨bill, index, least, by_, state, day, dated, wrong⟩) [4] trivial ?_; try dsimp only)
   rw [← hq0]
   cases q0 with
   | true =>
    cbv
    (refine .r9 (Gh.refl _) ?_; cbv; exact .inl (.f9 (K_bl hK (by simp [hitB, h]))))
   | false =>
    cbv; repeat' ((first | refine .k fun z hz => ?_ | fail) <;> cbv)
    obtain rfl : z = nI 1 := om9
    exact roundV ⟨1, by decide, fun _ => Bool.and_false _, fun h => absurd h (by decide), fun h => absurd h (by decide)⟩ (lft_lt (by decide))
  ·obtain rfl : z = nI 1 := om9
   exact roundV ⟨1, by decide, fun _ => by rw [hitB_not om9 om9]; rfl, fun h => absurd h (by decide), fun h => absurd h (by decide)⟩ (lft_lt (by decide))
 ·cbv; repeat' ((first | refine .n fun h => ?_ | refine .y fun h => ?_ | refine .mk (fun h => ?_) fun h => ?_ | refine .k fun z hz => ?_ | refine .o ?_ | refine And.intro ?_ ?_ | fail) <;> cbv)
  ·exact hcl
  ·(refine cs9 hf (⟨sb1, hb1, cb1⟩, ⟨bill, index, least, by_, state, day, dated, wrong⟩) [4] trivial ?_; try dsimp only)
   rw [← hq1]
   cases q1 with
   | true =>
    cbv
    (refine .r9 (Gh.refl _) ?_; cbv; exact .inl (.f9 (K_bl hK (by simp [hitB, h]))))
   | false =>
    cbv; repeat' ((first | refine .k fun z hz => ?_ | fail) <;> cbv)
    obtain rfl : z = nI 2 := om9
    exact roundV ⟨2, by decide, fun _ => g0 (by decide), fun _ => Bool.and_false _, fun h => absurd h (by decide)⟩ (lft_lt (by decide))
  ·exact hcl
  ·(refine cs9 hf (⟨sb1, hb1, cb1⟩, ⟨bill, index, least, by_, state, day, dated, wrong⟩) [4] trivial ?_; try dsimp only)
   rw [← hq1]
   cases q1 with
   | true =>
    cbv
    (refine .r9 (Gh.refl _) ?_; cbv; exact .inl (.f9 (K_bl hK (by simp [hitB, h]))))
   | false =>
    cbv; repeat' ((first | refine .k fun z hz => ?_ | fail) <;> cbv)
    obtain rfl : z = nI 2 := om9
    exact roundV ⟨2, by decide, fun _ => g0 (by decide), fun _ => Bool.and_false _, fun h => absurd h (by decide)⟩ (lft_lt (by decide))
  ·obtain rfl : z = nI 2 := om9
   exact roundV ⟨2, by decide, fun _ => g0 (by decide), fun _ => by rw [hitB_not om9 om9]; rfl, fun h => absurd h (by decide)⟩ (lft_lt (by decide))
 ·cbv; repeat' ((first | refine .y fun h => ?_ | refine .mk (fun h => ?_) fun h => ?_ | refine .k fun z hz => ?_ | refine .o ?_ | refine And.intro ?_ ?_ | fail) <;> cbv)
  ·exact hcl
  ·(refine cs9 hf (⟨sc1, hc1, cc1⟩, ⟨bill, index, least, by_, state, day, dated, wrong⟩) [4] trivial ?_; try dsimp only)
   rw [← hq2]
   cases q2 with
   | true =>
    cbv
    (refine .r9 (Gh.refl _) ?_; cbv; exact .inl (.f9 (K_bl hK (by simp [hitB, h]))))
   | false =>
    cbv; repeat' ((first | refine .k fun z hz => ?_ | fail) <;> cbv)
    obtain rfl : z = nI 3 := om9
    exact roundV ⟨3, by decide, fun _ => g0 (by decide), fun _ => g1 (by decide), fun _ => Bool.and_false _⟩ (lft_lt (by decide))
  ·exact hcl
  ·(refine cs9 hf (⟨sc1, hc1, cc1⟩, ⟨bill, index, least, by_, state, day, dated, wrong⟩) [4] trivial ?_; try dsimp only)
   rw [← hq2]
   cases q2 with
   | true =>
    cbv
    (refine .r9 (Gh.refl _) ?_; cbv; exact .inl (.f9 (K_bl hK (by simp [hitB, h]))))
   | false =>
    cbv; repeat' ((first | refine .k fun z hz => ?_ | fail) <;> cbv)
    obtain rfl : z = nI 3 := om9
    exact roundV ⟨3, by decide, fun _ => g0 (by decide), fun _ => g1 (by decide), fun _ => Bool.and_false _⟩ (lft_lt (by decide))
  ·obtain rfl : z = nI 3 := om9
   exact roundV ⟨3, by decide, fun _ => g0 (by decide), fun _ => g1 (by decide), fun _ => by rw [hitB_not om9 om9]; rfl⟩ (lft_lt (by decide))
def SomeW (f : Nat) (p : ByteArray → Og → Bool) : Ctr := spec (fun i : Br × Int × ByteArray => [.ptr 0 0, .i i.2.1, .clo f [.ptr 4 0]]) (fun i => EntC i.1 ++ [.blk 9 [.str i.2.2]]) (fun i => chOk i.1) (fun i => .bl (some3 i.2.1 i.1 (p i.2.2))) fun i => EntC i.1 ++ [.blk 9 [.str i.2.2]]
theorem someW_body (P : Program) (f : Nat) (p : ByteArray → Og → Bool) (hcl : MayCall P f) (hf : FnOk P f (CloW p)) : BodyOk P x36 (SomeW f p) := by
 intro args H K hc
 obtain ⟨⟨y, idx, who⟩, rfl, rfl, hp, hK⟩ := hc
 obtain ⟨⟨nq1, cq1, sq1, frm1, to1, bq1, pq1, iq1, lq1⟩, st1, ⟨sa1, ha1, ca1⟩, ⟨sb1, hb1, cb1⟩, ⟨sc1, hc1, cc1⟩⟩ := y
 refine ⟨nb9, ?_⟩
 obtain ⟨hp0, hp1, hp2⟩ := hp
 dsimp only at hp0 hp1 hp2 hK ⊢
 unfold some3 at hK
 dsimp only at hK
 obtain ⟨q0, hq0⟩ : ∃ q, q = p who ⟨sa1, ha1, ca1⟩ := ⟨_, rfl⟩
 obtain ⟨q1, hq1⟩ : ∃ q, q = p who ⟨sb1, hb1, cb1⟩ := ⟨_, rfl⟩
 obtain ⟨q2, hq2⟩ : ∃ q, q = p who ⟨sc1, hc1, cc1⟩ := ⟨_, rfl⟩
 rw [← hq0, ← hq1, ← hq2] at hK
 cbv
 refine xloopG Gh.viewT ?_
 cbv
 refine xloopV [] (fun p : { k : Nat // k ≤ 3 ∧ (1 ≤ k → (hitB idx 0 && q0) = false) ∧ (2 ≤ k → (hitB idx 1 && q1) = false) ∧ (3 ≤ k → (hitB idx 2 && q2) = false) } => [(13, .i (nI p.1))]) (fun _ => EntC ⟨⟨nq1, cq1, sq1, frm1, to1, bq1, pq1, iq1, lq1⟩, st1, ⟨sa1, ha1, ca1⟩, ⟨sb1, hb1, cb1⟩, ⟨sc1, hc1, cc1⟩⟩ ++ [.blk 9 [.str who]]) (fun p => lft 3 p.1) ⟨0, by decide, fun h => absurd h (by decide), fun h => absurd h (by decide), fun h => absurd h (by decide)⟩ ?_
 rintro ⟨k, hk, g0, g1, g2⟩
 dsimp only at hk g0 g1 g2 ⊢
 have hk4 : k = 0 ∨ k = 1 ∨ k = 2 ∨ k = 3 := by omega
 rcases hk4 with rfl | rfl | rfl | rfl
 rotate_right
 ·have e0 := g0 (by decide)
  have e1 := g1 (by decide)
  have e2 := g2 (by decide)
  cbv; repeat' ((first | refine .n fun h => ?_ | fail) <;> cbv)
  (refine .r9 (Gh.refl _) ?_; cbv; exact .inl (.f9 (K_bl hK (by rw [e0, e1, e2]; rfl))))
 ·cbv; repeat' ((first | refine .n fun h => ?_ | refine .y fun h => ?_ | refine .mk (fun h => ?_) fun h => ?_ | refine .k fun z hz => ?_ | refine .o ?_ | refine And.intro ?_ ?_ | fail) <;> cbv)
  ·exact hcl
  ·(refine cs9 hf (⟨sa1, ha1, ca1⟩, who) [4] trivial ?_; try dsimp only)
   rw [← hq0]
   cases q0 with
   | true =>
    cbv
    (refine .r9 (Gh.refl _) ?_; cbv; exact .inl (.f9 (K_bl hK (by simp [hitB, h]))))
   | false =>
    cbv; repeat' ((first | refine .k fun z hz => ?_ | fail) <;> cbv)
    obtain rfl : z = nI 1 := om9
    exact roundV ⟨1, by decide, fun _ => Bool.and_false _, fun h => absurd h (by decide), fun h => absurd h (by decide)⟩ (lft_lt (by decide))
  ·exact hcl
  ·(refine cs9 hf (⟨sa1, ha1, ca1⟩, who) [4] trivial ?_; try dsimp only)
   rw [← hq0]
   cases q0 with
   | true =>
    cbv
    (refine .r9 (Gh.refl _) ?_; cbv; exact .inl (.f9 (K_bl hK (by simp [hitB, h]))))
   | false =>
    cbv; repeat' ((first | refine .k fun z hz => ?_ | fail) <;> cbv)
    obtain rfl : z = nI 1 := om9
    exact roundV ⟨1, by decide, fun _ => Bool.and_false _, fun h => absurd h (by decide), fun h => absurd h (by decide)⟩ (lft_lt (by decide))
  ·obtain rfl : z = nI 1 := om9
   exact roundV ⟨1, by decide, fun _ => by rw [hitB_not om9 om9]; rfl, fun h => absurd h (by decide), fun h => absurd h (by decide)⟩ (lft_lt (by decide))
 ·cbv; repeat' ((first | refine .n fun h => ?_ | refine .y fun h => ?_ | refine .mk (fun h => ?_) fun h => ?_ | refine .k fun z hz => ?_ | refine .o ?_ | refine And.intro ?_ ?_ | fail) <;> cbv)
  ·exact hcl
  ·(refine cs9 hf (⟨sb1, hb1, cb1⟩, who) [4] trivial ?_; try dsimp only)
   rw [← hq1]
   cases q1 with
   | true =>
    cbv
    (refine .r9 (Gh.refl _) ?_; cbv; exact .inl (.f9 (K_bl hK (by simp [hitB, h]))))
   | false =>
    cbv; repeat' ((first | refine .k fun z hz => ?_ | fail) <;> cbv)
    obtain rfl : z = nI 2 := om9
    exact roundV ⟨2, by decide, fun _ => g0 (by decide), fun _ => Bool.and_false _, fun h => absurd h (by decide)⟩ (lft_lt (by decide))
  ·exact hcl
  ·(refine cs9 hf (⟨sb1, hb1, cb1⟩, who) [4] trivial ?_; try dsimp only)
   rw [← hq1]
   cases q1 with
   | true =>
    cbv
    (refine .r9 (Gh.refl _) ?_; cbv; exact .inl (.f9 (K_bl hK (by simp [hitB, h]))))
   | false =>
    cbv; repeat' ((first | refine .k fun z hz => ?_ | fail) <;> cbv)
    obtain rfl : z = nI 2 := om9
    exact roundV ⟨2, by decide, fun _ => g0 (by decide), fun _ => Bool.and_false _, fun h => absurd h (by decide)⟩ (lft_lt (by decide))
  ·obtain rfl : z = nI 2 := om9
   exact roundV ⟨2, by decide, fun _ => g0 (by decide), fun _ => by rw [hitB_not om9 om9]; rfl, fun h => absurd h (by decide)⟩ (lft_lt (by decide))
 ·cbv; repeat' ((first | refine .y fun h => ?_ | refine .mk (fun h => ?_) fun h => ?_ | refine .k fun z hz => ?_ | refine .o ?_ | refine And.intro ?_ ?_ | fail) <;> cbv)
  ·exact hcl
  ·(refine cs9 hf (⟨sc1, hc1, cc1⟩, who) [4] trivial ?_; try dsimp only)
   rw [← hq2]
   cases q2 with
   | true =>
    cbv
    (refine .r9 (Gh.refl _) ?_; cbv; exact .inl (.f9 (K_bl hK (by simp [hitB, h]))))
   | false =>
    cbv; repeat' ((first | refine .k fun z hz => ?_ | fail) <;> cbv)
    obtain rfl : z = nI 3 := om9
    exact roundV ⟨3, by decide, fun _ => g0 (by decide), fun _ => g1 (by decide), fun _ => Bool.and_false _⟩ (lft_lt (by decide))
  ·exact hcl
  ·(refine cs9 hf (⟨sc1, hc1, cc1⟩, who) [4] trivial ?_; try dsimp only)
   rw [← hq2]
   cases q2 with
   | true =>
    cbv
    (refine .r9 (Gh.refl _) ?_; cbv; exact .inl (.f9 (K_bl hK (by simp [hitB, h]))))
   | false =>
    cbv; repeat' ((first | refine .k fun z hz => ?_ | fail) <;> cbv)
    obtain rfl : z = nI 3 := om9
    exact roundV ⟨3, by decide, fun _ => g0 (by decide), fun _ => g1 (by decide), fun _ => Bool.and_false _⟩ (lft_lt (by decide))
  ·obtain rfl : z = nI 3 := om9
   exact roundV ⟨3, by decide, fun _ => g0 (by decide), fun _ => g1 (by decide), fun _ => by rw [hitB_not om9 om9]; rfl⟩ (lft_lt (by decide))
def SomeE (f : Nat)  : Ctr := spec (fun i : Br × Int × Ak => [.ptr 0 0, .i i.2.1, .clo f [.ptr 4 0, .ptr 5 0]]) (fun i => EntC i.1 ++ [.blk 82 (AkL i.2.2), .blk 67 [.ptr 0 0]]) (fun i => chOk i.1) (fun i => .bl (some3 i.2.1 i.1 (pDay i.1 i.2.2))) fun i => EntC i.1 ++ [.blk 82 (AkL i.2.2), .blk 67 [.ptr 0 0]]
theorem someE_body (P : Program) (f : Nat)  (hcl : MayCall P f) (hf : FnOk P f CloE) : BodyOk P x36 (SomeE f) := by
 intro args H K hc
 obtain ⟨⟨y, idx, ⟨bill, index, least, by_, state, day, dated, wrong⟩⟩, rfl, rfl, hp, hK⟩ := hc
 obtain ⟨⟨nq1, cq1, sq1, frm1, to1, bq1, pq1, iq1, lq1⟩, st1, ⟨sa1, ha1, ca1⟩, ⟨sb1, hb1, cb1⟩, ⟨sc1, hc1, cc1⟩⟩ := y
 refine ⟨nb9, ?_⟩
 obtain ⟨hp0, hp1, hp2⟩ := hp
 dsimp only at hp0 hp1 hp2 hK ⊢
 unfold some3 at hK
 dsimp only at hK
 obtain ⟨q0, hq0⟩ : ∃ q, q = pDay ⟨⟨nq1, cq1, sq1, frm1, to1, bq1, pq1, iq1, lq1⟩, st1, ⟨sa1, ha1, ca1⟩, ⟨sb1, hb1, cb1⟩, ⟨sc1, hc1, cc1⟩⟩ ⟨bill, index, least, by_, state, day, dated, wrong⟩ ⟨sa1, ha1, ca1⟩ := ⟨_, rfl⟩
 obtain ⟨q1, hq1⟩ : ∃ q, q = pDay ⟨⟨nq1, cq1, sq1, frm1, to1, bq1, pq1, iq1, lq1⟩, st1, ⟨sa1, ha1, ca1⟩, ⟨sb1, hb1, cb1⟩, ⟨sc1, hc1, cc1⟩⟩ ⟨bill, index, least, by_, state, day, dated, wrong⟩ ⟨sb1, hb1, cb1⟩ := ⟨_, rfl⟩
 obtain ⟨q2, hq2⟩ : ∃ q, q = pDay ⟨⟨nq1, cq1, sq1, frm1, to1, bq1, pq1, iq1, lq1⟩, st1, ⟨sa1, ha1, ca1⟩, ⟨sb1, hb1, cb1⟩, ⟨sc1, hc1, cc1⟩⟩ ⟨bill, index, least, by_, state, day, dated, wrong⟩ ⟨sc1, hc1, cc1⟩ := ⟨_, rfl⟩
 rw [← hq0, ← hq1, ← hq2] at hK
 cbv
 refine xloopG Gh.viewT ?_
 cbv
 refine xloopV [] (fun p : { k : Nat // k ≤ 3 ∧ (1 ≤ k → (hitB idx 0 && q0) = false) ∧ (2 ≤ k → (hitB idx 1 && q1) = false) ∧ (3 ≤ k → (hitB idx 2 && q2) = false) } => [(13, .i (nI p.1))]) (fun _ => EntC ⟨⟨nq1, cq1, sq1, frm1, to1, bq1, pq1, iq1, lq1⟩, st1, ⟨sa1, ha1, ca1⟩, ⟨sb1, hb1, cb1⟩, ⟨sc1, hc1, cc1⟩⟩ ++ [.blk 82 (AkL ⟨bill, index, least, by_, state, day, dated, wrong⟩), .blk 67 [.ptr 0 0]]) (fun p => lft 3 p.1) ⟨0, by decide, fun h => absurd h (by decide), fun h => absurd h (by decide), fun h => absurd h (by decide)⟩ ?_
 rintro ⟨k, hk, g0, g1, g2⟩
 dsimp only at hk g0 g1 g2 ⊢
 have hk4 : k = 0 ∨ k = 1 ∨ k = 2 ∨ k = 3 := by omega
 rcases hk4 with rfl | rfl | rfl | rfl
 rotate_right
 ·have e0 := g0 (by decide)
  have e1 := g1 (by decide)
  have e2 := g2 (by decide)
  cbv; repeat' ((first | refine .n fun h => ?_ | fail) <;> cbv)
  (refine .r9 (Gh.refl _) ?_; cbv; exact .inl (.f9 (K_bl hK (by rw [e0, e1, e2]; rfl))))
 ·cbv; repeat' ((first | refine .n fun h => ?_ | refine .y fun h => ?_ | refine .mk (fun h => ?_) fun h => ?_ | refine .k fun z hz => ?_ | refine .o ?_ | refine And.intro ?_ ?_ | fail) <;> cbv)
  ·exact hcl
  ·(refine cs9 hf (⟨sa1, ha1, ca1⟩, ⟨⟨nq1, cq1, sq1, frm1, to1, bq1, pq1, iq1, lq1⟩, st1, ⟨sa1, ha1, ca1⟩, ⟨sb1, hb1, cb1⟩, ⟨sc1, hc1, cc1⟩⟩, ⟨bill, index, least, by_, state, day, dated, wrong⟩) [4, 5, 0, 1, 2, 3] (by dsimp only; omega) ?_; try dsimp only)
   rw [← hq0]
   cases q0 with
   | true =>
    cbv
    (refine .r9 (Gh.refl _) ?_; cbv; exact .inl (.f9 (K_bl hK (by simp [hitB, h]))))
   | false =>
    cbv; repeat' ((first | refine .k fun z hz => ?_ | fail) <;> cbv)
    obtain rfl : z = nI 1 := om9
    exact roundV ⟨1, by decide, fun _ => Bool.and_false _, fun h => absurd h (by decide), fun h => absurd h (by decide)⟩ (lft_lt (by decide))
  ·exact hcl
  ·(refine cs9 hf (⟨sa1, ha1, ca1⟩, ⟨⟨nq1, cq1, sq1, frm1, to1, bq1, pq1, iq1, lq1⟩, st1, ⟨sa1, ha1, ca1⟩, ⟨sb1, hb1, cb1⟩, ⟨sc1, hc1, cc1⟩⟩, ⟨bill, index, least, by_, state, day, dated, wrong⟩) [4, 5, 0, 1, 2, 3] (by dsimp only; omega) ?_; try dsimp only)
   rw [← hq0]
   cases q0 with
   | true =>
    cbv
    (refine .r9 (Gh.refl _) ?_; cbv; exact .inl (.f9 (K_bl hK (by simp [hitB, h]))))
   | false =>
    cbv; repeat' ((first | refine .k fun z hz => ?_ | fail) <;> cbv)
    obtain rfl : z = nI 1 := om9
    exact roundV ⟨1, by decide, fun _ => Bool.and_false _, fun h => absurd h (by decide), fun h => absurd h (by decide)⟩ (lft_lt (by decide))
  ·obtain rfl : z = nI 1 := om9
   exact roundV ⟨1, by decide, fun _ => by rw [hitB_not om9 om9]; rfl, fun h => absurd h (by decide), fun h => absurd h (by decide)⟩ (lft_lt (by decide))
 ·cbv; repeat' ((first | refine .n fun h => ?_ | refine .y fun h => ?_ | refine .mk (fun h => ?_) fun h => ?_ | refine .k fun z hz => ?_ | refine .o ?_ | refine And.intro ?_ ?_ | fail) <;> cbv)
  ·exact hcl
  ·(refine cs9 hf (⟨sb1, hb1, cb1⟩, ⟨⟨nq1, cq1, sq1, frm1, to1, bq1, pq1, iq1, lq1⟩, st1, ⟨sa1, ha1, ca1⟩, ⟨sb1, hb1, cb1⟩, ⟨sc1, hc1, cc1⟩⟩, ⟨bill, index, least, by_, state, day, dated, wrong⟩) [4, 5, 0, 1, 2, 3] (by dsimp only; omega) ?_; try dsimp only)
   rw [← hq1]
   cases q1 with
   | true =>
    cbv
    (refine .r9 (Gh.refl _) ?_; cbv; exact .inl (.f9 (K_bl hK (by simp [hitB, h]))))
   | false =>
    cbv; repeat' ((first | refine .k fun z hz => ?_ | fail) <;> cbv)
    obtain rfl : z = nI 2 := om9
    exact roundV ⟨2, by decide, fun _ => g0 (by decide), fun _ => Bool.and_false _, fun h => absurd h (by decide)⟩ (lft_lt (by decide))
  ·exact hcl
  ·(refine cs9 hf (⟨sb1, hb1, cb1⟩, ⟨⟨nq1, cq1, sq1, frm1, to1, bq1, pq1, iq1, lq1⟩, st1, ⟨sa1, ha1, ca1⟩, ⟨sb1, hb1, cb1⟩, ⟨sc1, hc1, cc1⟩⟩, ⟨bill, index, least, by_, state, day, dated, wrong⟩) [4, 5, 0, 1, 2, 3] (by dsimp only; omega) ?_; try dsimp only)
   rw [← hq1]
   cases q1 with
   | true =>
    cbv
    (refine .r9 (Gh.refl _) ?_; cbv; exact .inl (.f9 (K_bl hK (by simp [hitB, h]))))
   | false =>
    cbv; repeat' ((first | refine .k fun z hz => ?_ | fail) <;> cbv)
    obtain rfl : z = nI 2 := om9
    exact roundV ⟨2, by decide, fun _ => g0 (by decide), fun _ => Bool.and_false _, fun h => absurd h (by decide)⟩ (lft_lt (by decide))
  ·obtain rfl : z = nI 2 := om9
   exact roundV ⟨2, by decide, fun _ => g0 (by decide), fun _ => by rw [hitB_not om9 om9]; rfl, fun h => absurd h (by decide)⟩ (lft_lt (by decide))
 ·cbv; repeat' ((first | refine .y fun h => ?_ | refine .mk (fun h => ?_) fun h => ?_ | refine .k fun z hz => ?_ | refine .o ?_ | refine And.intro ?_ ?_ | fail) <;> cbv)
  ·exact hcl
  ·(refine cs9 hf (⟨sc1, hc1, cc1⟩, ⟨⟨nq1, cq1, sq1, frm1, to1, bq1, pq1, iq1, lq1⟩, st1, ⟨sa1, ha1, ca1⟩, ⟨sb1, hb1, cb1⟩, ⟨sc1, hc1, cc1⟩⟩, ⟨bill, index, least, by_, state, day, dated, wrong⟩) [4, 5, 0, 1, 2, 3] (by dsimp only; omega) ?_; try dsimp only)
   rw [← hq2]
   cases q2 with
   | true =>
    cbv
    (refine .r9 (Gh.refl _) ?_; cbv; exact .inl (.f9 (K_bl hK (by simp [hitB, h]))))
   | false =>
    cbv; repeat' ((first | refine .k fun z hz => ?_ | fail) <;> cbv)
    obtain rfl : z = nI 3 := om9
    exact roundV ⟨3, by decide, fun _ => g0 (by decide), fun _ => g1 (by decide), fun _ => Bool.and_false _⟩ (lft_lt (by decide))
  ·exact hcl
  ·(refine cs9 hf (⟨sc1, hc1, cc1⟩, ⟨⟨nq1, cq1, sq1, frm1, to1, bq1, pq1, iq1, lq1⟩, st1, ⟨sa1, ha1, ca1⟩, ⟨sb1, hb1, cb1⟩, ⟨sc1, hc1, cc1⟩⟩, ⟨bill, index, least, by_, state, day, dated, wrong⟩) [4, 5, 0, 1, 2, 3] (by dsimp only; omega) ?_; try dsimp only)
   rw [← hq2]
   cases q2 with
   | true =>
    cbv
    (refine .r9 (Gh.refl _) ?_; cbv; exact .inl (.f9 (K_bl hK (by simp [hitB, h]))))
   | false =>
    cbv; repeat' ((first | refine .k fun z hz => ?_ | fail) <;> cbv)
    obtain rfl : z = nI 3 := om9
    exact roundV ⟨3, by decide, fun _ => g0 (by decide), fun _ => g1 (by decide), fun _ => Bool.and_false _⟩ (lft_lt (by decide))
  ·obtain rfl : z = nI 3 := om9
   exact roundV ⟨3, by decide, fun _ => g0 (by decide), fun _ => g1 (by decide), fun _ => by rw [hitB_not om9 om9]; rfl⟩ (lft_lt (by decide))
end Go.Proofs.YtjhncfkohmhnnaaGreatDoor
end
