/-
  Texts of this proof, joined: VG, VH, VI, VJ, Lst, Src, VS, VK, VL, VM, Name, X, RA, Y, RB, RC.
-/
import Derived.Test.YtagcjileaknjnaaGreatDoorB2
import Derived.IntWalk
import Derived.KernelRfl
set_option linter.unusedVariables false
set_option linter.unusedSimpArgs false
noncomputable section
namespace Go.Proofs.YtagcjileaknjnaaGreatDoor
open Go.RowKit
theorem nodup_inj {l : List Nat} (h : l.Nodup) {i j : Nat} {hi : i < l.length} {hj : j < l.length} (e : l[i] = l[j]) : i = j := by
 rcases Nat.lt_trichotomy i j with h1 | h1 | h1
 ·exact absurd e (List.pairwise_iff_getElem.1 h i j hi hj h1)
 ·exact h1
 ·exact absurd e.symm (List.pairwise_iff_getElem.1 h j i hj hi h1)
theorem rowIds_of {s : List Nat} {H0 : List Ent} {i : Nat} {e : Ent} (h : H0[i]? = some e) (ht : e.turns = true) (hi : i < s.length) : s[i] ∈ rowIds s H0 := by
 induction s generalizing i H0 with
 | nil => simp at hi
 | cons k s ih =>
  cases H0 with
  | nil => simp at h
  | cons d l =>
   cases i with
   | zero =>
    simp at h
    subst h
    simp [rowIds, ht]
   | succ i =>
    have := ih (i := i) (H0 := l) (by simpa using h) (by simpa using hi)
    unfold rowIds
    cases d.turns
    ·exact this
    ·exact List.mem_cons_of_mem _ this
theorem callG_of {P : Program} {f : Nat} {c : Ctr} (hf : FnOk P f c) (sel : List Nat) {args0 : List AV} {H0 : List Ent} {keep : List Nat} {args : List AV} {st : St} {K : AV → St → Prop}
  (ha : args = AV.renL sel st.H.length args0) (hlen : sel.length = H0.length) (hnd : sel.Nodup) (hlt : ∀ k ∈ sel, k < st.H.length) (hH : sel.map (fun k => st.H[k]?) = (renH sel st.H.length H0).map some)
  (hb : AV.bndL H0.length args0 = true) (hbH : bndH H0.length H0 = true) (hkeep : ∀ k ∈ keep, k ∉ sel ∧ k < st.H.length)
  (hc : c args0 H0 fun x H' => K (x.ren sel st.H.length) ⟨killTs st.T (rowIds sel H0), putE (killHs st.H (rowIds sel H0)) sel (renH sel st.H.length H')⟩) : CallG P keep f args st K := by
 refine ⟨fun C a w r pub vals h hv => ?_⟩
 let r0 : Rho := fun i => if i < sel.length then r (sigma sel st.H.length i) else none
 have hr0 : ∀ i y, r0 i = some y → i < sel.length ∧ r (sigma sel st.H.length i) = some y := fun i y hy => by
  by_cases hi : i < sel.length
  ·simp only [r0, if_pos hi] at hy; exact ⟨hi, hy⟩
  ·simp only [r0, if_neg hi] at hy; cases hy
 have hr0' : ∀ i, i < sel.length → r0 i = r (sigma sel st.H.length i) := fun i hi => if_pos hi
 have hsi : ∀ i (hi : i < sel.length), sigma sel st.H.length i = sel[i] := fun i hi => sigma_lt hi
 have hinj : ∀ i j, i < sel.length → j < sel.length → sigma sel st.H.length i = sigma sel st.H.length j → i = j := fun i j hi hj e => by
  rw [hsi i hi, hsi j hj] at e
  exact nodup_inj hnd e
 have hent : ∀ i e, H0[i]? = some e → st.H[sigma sel st.H.length i]? = some (e.ren sel st.H.length) := fun i e he => by
  have hi : i < sel.length := by rw [hlen]; exact (List.getElem?_eq_some_iff.1 he).1
  have h1 := congrArg (fun l => l[i]?) hH
  simp only [List.getElem?_map, renH_map, he, Option.map_some, List.getElem?_eq_getElem hi] at h1
  rw [hsi i hi]
  simpa using h1
 -- what the callee is handed
 have hm0 : Mod pub w r0 H0 := by
  refine ⟨fun i e he => ?_, fun i hi => if_neg (by omega), fun i j x y hij hx hy => ?_, h.mod.fresh, h.mod.there, h.mod.glob⟩
  ·have hi : i < sel.length := by rw [hlen]; exact (List.getElem?_eq_some_iff.1 he).1
   have he1 := h.mod.ent _ _ (hent i e he)
   have hbe := bndH_get hbH i e he
   rw [hr0' i hi]
   exact he1.unren hbe fun k y hkb hy => by rw [hr0' k (by omega)]; exact hy
  ·obtain ⟨hi, hx⟩ := hr0 i x hx
   obtain ⟨hj, hy⟩ := hr0 j y hy
   exact h.mod.disj _ _ x y (fun e => hij (hinj i j hi hj e)) hx hy
 have hv0 : VRels pub w r0 args0 vals.toList := by
  subst ha
  refine ⟨by have := hv.len; rw [AV.renL_map, List.length_map] at this; exact this, fun q x u hx hu => ?_⟩
  refine (hv.at_ q (x.ren sel st.H.length) u (by rw [AV.renL_map, List.getElem?_map, hx]; rfl) hu).unren x rfl fun k y hk hy => ?_
  have hkb : k < H0.length := AV.bnd_has _ (AV.bndL_mem hx hb) hk
  rw [hr0' k (by omega)]
  exact hy
 refine (hf args0 H0 _ hc w r0 pub vals hm0 hv0).mono fun e w' hpost => ?_
 obtain ⟨v, x, H', r1, pub', rfl, hK, hvx, hm1, hfr, hown, hstab, hlen'⟩ := hpost
 -- the handles behind the call
 let r' : Rho := fun k => match sel.idxOf? k with
  | some i => r1 i
  | none => if st.H.length ≤ k then r1 (sel.length + (k - st.H.length)) else r k
 have hr'sel : ∀ i (hi : i < sel.length), r' sel[i] = r1 i := fun i hi => by
  have : sel.idxOf? sel[i] = some i := by
   rw [List.idxOf?_eq_some_iff]
   exact ⟨hi, rfl, fun j hj => by
    intro e
    have := nodup_inj hnd e
    omega⟩
  simp only [r', this]
 have hidx : ∀ k, k ∉ sel → sel.idxOf? k = none := fun k hk => by rw [List.idxOf?_eq_none_iff]; exact hk
 have hr'new : ∀ k, st.H.length ≤ k → r' k = r1 (sel.length + (k - st.H.length)) := fun k hk => by
  have hkn : k ∉ sel := fun hk' => by have := hlt k hk'; omega
  simp only [r', hidx k hkn, if_pos hk]
 have hr'old : ∀ k, k ∉ sel → k < st.H.length → r' k = r k := fun k hk hkl => by
  simp only [r', hidx k hk, if_neg (by omega : ¬ st.H.length ≤ k)]
 have hsig : ∀ i, r' (sigma sel st.H.length i) = r1 i := fun i => by
  by_cases hi : i < sel.length
  ·rw [hsi i hi]; exact hr'sel i hi
  ·rw [sigma_ge (by omega), hr'new _ (by omega)]
   congr 1
   omega
 have hcase : ∀ k, (∃ i, sigma sel st.H.length i = k) ∨ (k ∉ sel ∧ k < st.H.length) := fun k => by
  by_cases hk : k ∈ sel
  ·obtain ⟨i, hi, rfl⟩ := List.getElem_of_mem hk
   exact .inl ⟨i, hsi i hi⟩
  ·by_cases hkl : k < st.H.length
   ·exact .inr ⟨hk, hkl⟩
   ·exact .inl ⟨sel.length + (k - st.H.length), by rw [sigma_ge (by omega)]; omega⟩
 have hsinj : ∀ i j, sigma sel st.H.length i = sigma sel st.H.length j → i = j := fun i j e => by
  by_cases hi : i < sel.length
  ·by_cases hj : j < sel.length
   ·exact hinj i j hi hj e
   ·rw [hsi i hi, sigma_ge (by omega)] at e
    have := hlt sel[i] (List.getElem_mem hi)
    omega
  ·by_cases hj : j < sel.length
   ·rw [hsi j hj, sigma_ge (by omega)] at e
    have := hlt sel[j] (List.getElem_mem hj)
    omega
   ·rw [sigma_ge (by omega), sigma_ge (by omega)] at e
    omega
 -- the other entries' blocks
 have hfoot : ∀ k y, k ∉ sel → r k = some y → ∀ b ∈ foot y, ¬ Foot r0 b := fun k y hk hy b hb' ⟨i, z, hz, hbz⟩ => by
  obtain ⟨hi, hz⟩ := hr0 i z hz
  rw [hsi i hi] at hz
  exact h.mod.disj k sel[i] y z (fun e => hk (by rw [e]; exact List.getElem_mem hi)) hy hz b hb' hbz
 have hkeepr : ∀ n y, without r (rowIds sel H0) n = some y → r' n = some y := fun n y hy => by
  unfold without at hy
  split at hy
  ·cases hy
  ·rename_i hnr
   by_cases hn : n ∈ sel
   ·obtain ⟨i, hi, rfl⟩ := List.getElem_of_mem hn
    rw [hr'sel i hi]
    refine hstab i y (by rw [hr0' i hi, hsi i hi]; exact hy) ?_
    -- a slice's handle is a row's
    have hi0 : i < H0.length := by omega
    have he := hm0.ent i _ (List.getElem?_eq_getElem hi0)
    rw [hr0' i hi, hsi i hi, hy] at he
    refine he.turns ?_
    cases ht : H0[i].turns with
    | false => rfl
    | true => exact absurd (rowIds_of (List.getElem?_eq_getElem hi0) ht hi) hnr
   ·have hnl : n < st.H.length := by
     rcases Nat.lt_or_ge n st.H.length with h1 | h1
     ·exact h1
     ·rw [h.mod.none_ n h1] at hy; cases hy
    rw [hr'old n hn hnl]
    exact hy
 have hsl : sel.length ≤ (renH sel st.H.length H').length := by rw [renH_map, List.length_map]; omega
 have hkl := killHs_len (rowIds sel H0) st.H
 have hnl : (putE (killHs st.H (rowIds sel H0)) sel (renH sel st.H.length H')).length = st.H.length + (H'.length - sel.length) := by
  rw [putE_len _ _ _ hsl, hkl, renH_map, List.length_map]
 have hownb : ∀ b, Foot r0 b → C.S b ∨ C.w.heap.size ≤ b := fun b ⟨i, z, hz, hbz⟩ => by
  obtain ⟨hi, hz⟩ := hr0 i z hz
  exact h.own _ z hz b hbz
 have hmod : Mod pub' w' r' (putE (killHs st.H (rowIds sel H0)) sel (renH sel st.H.length H')) := by
  refine ⟨fun k e he => ?_, fun k hk => ?_, fun i j x y hij hx hy => ?_, hm1.fresh, hm1.there, hm1.glob⟩
  ·rcases putE_get sel _ _ k e hnd (fun q hq => by rw [hkl]; exact hlt q hq) hsl he with ⟨i, hi, hL⟩ | ⟨hk, hkl2, he2⟩
   ·rw [hkl] at hi
    subst hi
    rw [hsig i]
    rw [renH_map, List.getElem?_map] at hL
    cases hq : H'[i]? with
    | none => rw [hq] at hL; cases hL
    | some e1 =>
     rw [hq] at hL
     cases hL
     have he1 := hm1.ent i e1 hq
     exact he1.ren fun m y hy => by rw [hsig m]; exact hy
   ·rw [hkl] at hkl2
    rw [hr'old k hk hkl2]
    obtain ⟨e0, h0, h1⟩ := killHs_get (pub := pub') (w := w') (hd := r k) (rowIds sel H0) st.H r k e he2
    have he0 := (h.mod.ent k e0 h0).frm (r' := r) hfr (fun y hy b hb => hfoot k y hk hy b hb) (fun _ _ h => h)
    exact (h1 he0).frm (S := fun _ => False) (Fr.refl _ _ _) (fun _ _ _ _ h => h) hkeepr
  ·rw [hnl] at hk
   rw [hr'new k (by omega)]
   exact hm1.none_ _ (by omega)
  ·-- apart
   have far : ∀ i k y z, r1 i = some y → k ∉ sel → k < st.H.length → r k = some z → ∀ b ∈ foot y, b ∉ foot z := fun i k y z hy hk hkl hz b hb' hbz => by
    rcases hown b ⟨i, y, hy, hb'⟩ with h1 | h1
    ·exact hfoot k z hk hz b hbz h1
    ·have := h.mod.foot_lt hz b hbz
     omega
   rcases hcase i with ⟨i0, rfl⟩ | ⟨hi1, hi2⟩
   ·rw [hsig i0] at hx
    rcases hcase j with ⟨j0, rfl⟩ | ⟨hj1, hj2⟩
    ·rw [hsig j0] at hy
     exact hm1.disj i0 j0 x y (fun e => hij (by rw [e])) hx hy
    ·rw [hr'old j hj1 hj2] at hy
     exact far i0 j x y hx hj1 hj2 hy
   ·rw [hr'old i hi1 hi2] at hx
    rcases hcase j with ⟨j0, rfl⟩ | ⟨hj1, hj2⟩
    ·rw [hsig j0] at hy
     exact fun b hb' hby => far j0 i y x hy hi1 hi2 hx b hby hb'
    ·rw [hr'old j hj1 hj2] at hy
     exact h.mod.disj i j x y hij hx hy
 refine ⟨v, _, _, r', pub', rfl, hvx.ren (fun k y hy => by rw [hsig k]; exact hy), hK, ⟨hmod, fun k y hy b hb' => ?_, h.fr.trans hfr (fun b hb' => hownb b hb'), fun n => ?_, h.defers, h.size, fun k y hy hs => ?_, ⟨h.low.1, by dsimp only; rw [hnl]; have := h.low.2; omega⟩⟩, hfr.ext, fun k hk => ?_⟩
 ·rcases hcase k with ⟨i0, rfl⟩ | ⟨hk1, hk2⟩
  ·rw [hsig i0] at hy
   rcases hown b ⟨i0, y, hy, hb'⟩ with h1 | h1
   ·exact hownb b h1
   ·right; have := h.fr.size; omega
  ·rw [hr'old k hk1 hk2] at hy
   exact h.own k y hy b hb'
 ·exact ((killTs_get (rowIds sel H0) st.T r (h.slots n)).ext hfr.ext).mono hkeepr
 ·have h1 := h.stab k y hy hs
  have hkl3 : k < st.H.length := by
   rcases Nat.lt_or_ge k st.H.length with h2 | h2
   ·exact h2
   ·rw [h.mod.none_ k h2] at h1; cases h1
  by_cases hk : k ∈ sel
  ·obtain ⟨i, hi, rfl⟩ := List.getElem_of_mem hk
   rw [hr'sel i hi]
   exact hstab i y (by rw [hr0' i hi, hsi i hi]; exact h1) hs
  ·rw [hr'old k hk hkl3]
   exact h1
 ·obtain ⟨hk1, hk2⟩ := hkeep k hk
  refine ⟨hr'old k hk1 hk2, fun y hy b hb' => (hfr.keep b (h.mod.foot_lt hy b hb') (hfoot k y hk1 hy b hb')).1⟩
mutual
theorem AV.ren_id {s : List Nat} {base : Nat} : ∀ (x : AV), x.bnd 0 = true → x.ren s base = x
 | .any, _ => by unfold AV.ren; rfl
 | .bl _, _ => by unfold AV.ren; rfl
 | .int _ _, _ => by unfold AV.ren; rfl
 | .str _, _ => by unfold AV.ren; rfl
 | .v _, _ => by unfold AV.ren; rfl
 | .sl _ _, _ => by unfold AV.ren; rfl
 | .rp _ _, _ => by unfold AV.ren; rfl
 | .ptr k _, h => by simp [AV.bnd] at h
 | .hd k, h => by simp [AV.bnd] at h
 | .ph k, h => by simp [AV.bnd] at h
 | .re k _ _ _, h => by simp [AV.bnd] at h
 | .agg l, h => by unfold AV.ren; rw [AV.renL_id l (by simpa [AV.bnd] using h)]
 | .tup l, h => by unfold AV.ren; rw [AV.renL_id l (by simpa [AV.bnd] using h)]
 | .clo f l, h => by unfold AV.ren; rw [AV.renL_id l (by simpa [AV.bnd] using h)]
theorem AV.renL_id {s : List Nat} {base : Nat} : ∀ (l : List AV), AV.bndL 0 l = true → AV.renL s base l = l
 | [], _ => by unfold AV.renL; rfl
 | x :: l, h => by
  simp only [AV.bndL, Bool.and_eq_true] at h
  unfold AV.renL
  rw [AV.ren_id x h.1, AV.renL_id l h.2]
end
theorem callG_pure {P : Program} {f : Nat} {c : Ctr} (hf : FnOk P f c) (hmono : ∀ args H (K K' : AV → List Ent → Prop), (∀ x H, K x H → K' x H) → c args H K → c args H K') {keep : List Nat} {args : List AV} {st : St} {K : AV → St → Prop} (hb : AV.bndL 0 args = true) (hk : ∀ k ∈ keep, k < st.H.length)
  (hc : c args [] fun x H' => H' = [] ∧ x.bnd 0 = true ∧ K x st) : CallG P keep f args st K := by
 refine callG_of hf [] (args0 := args) (H0 := []) (AV.renL_id args hb).symm rfl List.nodup_nil (by simp) rfl hb rfl (fun k hkk => ⟨by simp, hk k hkk⟩) (hmono _ _ _ _ (fun x H' h => ?_) hc)
 obtain ⟨rfl, hx, hK⟩ := h
 rw [AV.ren_id x hx]
 simpa [rowIds, killTs, killHs, putE, renH] using hK
def spec {ι : Type} (a : ι → List AV) (h : ι → List Ent) (p : ι → Prop) (r : ι → AV) (h' : ι → List Ent) : Ctr := fun args H K => ∃ i, args = a i ∧ H = h i ∧ p i ∧ K (r i) (h' i)
theorem spec_mono {ι : Type} {a : ι → List AV} {h : ι → List Ent} {p : ι → Prop} {r : ι → AV} {h' : ι → List Ent} : ∀ args H (K K' : AV → List Ent → Prop), (∀ x H, K x H → K' x H) → spec a h p r h' args H K → spec a h p r h' args H K' :=
 fun _ _ _ _ hk ⟨i, h1, h2, h3, h4⟩ => ⟨i, h1, h2, h3, hk _ _ h4⟩
theorem callG_spec0 {P : Program} {f : Nat} {ι : Type} {a : ι → List AV} {p : ι → Prop} {r : ι → AV} (hf : FnOk P f (spec a (fun _ => []) p r fun _ => [])) (i : ι) {keep : List Nat} {st : St} {K : AV → St → Prop} (hp : p i) (hb : AV.bndL 0 (a i) = true) (hr : (r i).bnd 0 = true) (hk : (keep.all fun k => Nat.blt k st.H.length) = true) (hK : K (r i) st) : CallG P keep f (a i) st K :=
 callG_pure hf spec_mono hb (fun k hkk => by have := List.all_eq_true.1 hk k hkk; simpa [Nat.blt_eq] using this) ⟨i, rfl, rfl, hp, rfl, hr, hK⟩
inductive Le1 : AV → AV → Prop
 | refl (x : AV) : Le1 x x
 | nil (sz : Nat) : Le1 (.v (.slice none 0 0)) (.sl sz [])
inductive LeL : List AV → List AV → Prop
 | nil : LeL [] []
 | cons {x y : AV} {l m : List AV} (h : Le1 x y) (hl : LeL l m) : LeL (x :: l) (y :: m)
inductive Le0 : AV → AV → Prop
 | one {x y : AV} (h : Le1 x y) : Le0 x y
 | agg {l m : List AV} (h : LeL l m) : Le0 (.agg l) (.agg m)
inductive LeL0 : List AV → List AV → Prop
 | nil : LeL0 [] []
 | cons {x y : AV} {l m : List AV} (h : Le0 x y) (hl : LeL0 l m) : LeL0 (x :: l) (y :: m)
inductive Le : AV → AV → Prop
 | one {x y : AV} (h : Le0 x y) : Le x y
 | tup {l m : List AV} (h : LeL0 l m) : Le (.tup l) (.tup m)
inductive LeE : Ent → Ent → Prop
 | refl (e : Ent) : LeE e e
 | blk {t : TypeId} {l m : List AV} (h : LeL l m) : LeE (.blk t l) (.blk t m)
 | row {t : TypeId} {sz : Nat} {l m : List AV} (h : LeL0 l m) : LeE (.row t sz l) (.row t sz m)
inductive LeH : List Ent → List Ent → Prop
 | nil : LeH [] []
 | cons {x y : Ent} {l m : List Ent} (h : LeE x y) (hl : LeH l m) : LeH (x :: l) (y :: m)
section
variable {pub : Pub} {w : World} {r : Rho}
theorem Le.refl (x : AV) : Le x x := .one (.one (.refl x))
theorem LeH.refl : ∀ l, LeH l l
 | [] => .nil
 | e :: l => .cons (.refl e) (LeH.refl l)
theorem Le1.to {x y : AV} (h : Le1 x y) {v : Value} (hv : VRel pub w r x v) : VRel pub w r y v := by
 cases h with
 | refl => exact hv
 | nil sz =>
  cases hv
  exact .sl (A := none) (c := 0) (xs := []) (Nat.le_refl _) (by unfold maxLen; omega) (fun _ => ⟨rfl, rfl⟩) (fun x hx => by cases hx) (fun _ _ => undef) (fun i x j u hx => by simp at hx) (fun i x j u hx => by simp at hx)
theorem LeL.to {l m : List AV} (h : LeL l m) : ∀ {us : List Value}, VRels pub w r l us → VRels pub w r m us := by
 induction h with
 | nil => exact fun h => h
 | cons h1 _ ih =>
  intro us hu
  obtain ⟨u, us', rfl, h2, h3⟩ := hu.cons_inv
  exact .cons (h1.to h2) (ih h3)
theorem Le0.to {x y : AV} (h : Le0 x y) {v : Value} (hv : VRel pub w r x v) : VRel pub w r y v := by
 cases h with
 | one h => exact h.to hv
 | agg h =>
  cases hv with
  | agg hl h1 =>
   have := h.to (us := _) ⟨(Array.length_toList).trans hl, fun i x u hx hu => h1 i x u hx (by simpa using hu)⟩
   exact .agg (by simpa using this.len) fun i x u hx hu => this.at_ i x u hx (by simpa using hu)
theorem LeL0.to {l m : List AV} (h : LeL0 l m) : ∀ {us : List Value}, VRels pub w r l us → VRels pub w r m us := by
 induction h with
 | nil => exact fun h => h
 | cons h1 _ ih =>
  intro us hu
  obtain ⟨u, us', rfl, h2, h3⟩ := hu.cons_inv
  exact .cons (h1.to h2) (ih h3)
theorem Le.to {x y : AV} (h : Le x y) {v : Value} (hv : VRel pub w r x v) : VRel pub w r y v := by
 cases h with
 | one h => exact h.to hv
 | tup h =>
  cases hv with
  | tup hl h1 =>
   have := h.to (us := _) ⟨(Array.length_toList).trans hl, fun i x u hx hu => h1 i x u hx (by simpa using hu)⟩
   exact .tup (by simpa using this.len) fun i x u hx hu => this.at_ i x u hx (by simpa using hu)
theorem LeL.refl : ∀ l, LeL l l
 | [] => .nil
 | x :: l => .cons (.refl x) (LeL.refl l)
theorem LeL.app {a b : List AV} (h : LeL a b) {c d : List AV} (k : LeL c d) : LeL (a ++ c) (b ++ d) := by
 induction h with
 | nil => exact k
 | cons h1 _ ih => exact .cons h1 ih
theorem LeL.len {a b : List AV} (h : LeL a b) : b.length = a.length := by
 induction h with
 | nil => rfl
 | cons _ _ ih => simp [ih]
theorem LeL.one {a b : List AV} (h : LeL a b) : a.all AV.one = true → b.all AV.one = true := by
 induction h with
 | nil => exact fun h => h
 | cons h1 _ ih =>
  intro h2
  simp only [List.all_cons, Bool.and_eq_true] at h2 ⊢
  exact ⟨by cases h1 with | refl => exact h2.1 | nil => rfl, ih h2.2⟩
theorem Le0.cells {x y : AV} (h : Le0 x y) : LeL x.cells y.cells := by
 cases h with
 | one h => cases h with
  | refl => exact LeL.refl _
  | nil sz => exact .cons (.nil sz) .nil
 | agg h => exact h
theorem LeL0.flat {a b : List AV} (h : LeL0 a b) : LeL (a.flatMap AV.cells) (b.flatMap AV.cells) := by
 induction h with
 | nil => exact .nil
 | cons h1 _ ih => simp only [List.flatMap_cons]; exact h1.cells.app ih
theorem LeL0.len {a b : List AV} (h : LeL0 a b) : b.length = a.length := by
 induction h with
 | nil => rfl
 | cons _ _ ih => simp [ih]
theorem LeL0.each {a b : List AV} (h : LeL0 a b) {sz : Nat} : (∀ x ∈ a, x.cells.length = sz ∧ x.cells.all AV.one = true) → ∀ x ∈ b, x.cells.length = sz ∧ x.cells.all AV.one = true := by
 induction h with
 | nil => exact fun h => h
 | cons h1 _ ih =>
  intro h2 y hy
  rcases List.mem_cons.1 hy with rfl | hy
  ·have := h2 _ (List.mem_cons_self ..)
   exact ⟨by rw [h1.cells.len]; exact this.1, h1.cells.one this.2⟩
  ·exact ih (fun x hx => h2 x (List.mem_cons_of_mem _ hx)) y hy
theorem LeE.to {x y : Ent} (h : LeE x y) {v : Option Value} (hv : ERel pub w r v x) : ERel pub w r v y := by
 cases h with
 | refl => exact hv
 | blk h => cases hv with | blk hb hc hp => exact .blk hb (h.to hc) hp
 | row h => cases hv with | row ho hc hs hp => rw [← h.len] at ho ⊢; exact .row ho (h.flat.to hc) (h.each hs) hp
theorem LeH.get {l m : List Ent} (h : LeH l m) : ∀ {i : Nat} {e : Ent}, m[i]? = some e → ∃ d, l[i]? = some d ∧ LeE d e := by
 induction h with
 | nil => intro i e h; simp at h
 | cons h1 _ ih =>
  intro i e he
  cases i with
  | zero => simp at he; subst he; exact ⟨_, rfl, h1⟩
  | succ i => simpa using ih (by simpa using he)
theorem LeH.len {l m : List Ent} (h : LeH l m) : m.length = l.length := by
 induction h with
 | nil => rfl
 | cons _ _ ih => simp [ih]
theorem Mod.le {H H2 : List Ent} (h : Mod pub w r H) (hl : LeH H H2) : Mod pub w r H2 := by
 refine ⟨fun i e he => ?_, fun i hi => h.none_ i (by rw [← hl.len]; exact hi), h.disj, h.fresh, h.there, h.glob⟩
 obtain ⟨d, hd, hde⟩ := hl.get he
 exact hde.to (h.ent i d hd)
end
def selOk (s : List Nat) : Nat → List Ent → Bool
 | _, [] => true
 | n, e :: H => ((match s[n]? with | some k => k == n | none => false) || e.turns) && selOk s (n + 1) H
theorem selOk_at {s : List Nat} : ∀ {n : Nat} {H : List Ent}, selOk s n H = true → ∀ (k : Nat) (e : Ent), H[k]? = some e → s[n + k]? = some (n + k) ∨ e.turns = true
 | n, [], h, k, e, he => by simp at he
 | n, d :: H, h, k, e, he => by
  unfold selOk at h
  simp only [Bool.and_eq_true] at h
  cases k with
  | zero =>
   simp at he
   subst he
   rw [Bool.or_eq_true] at h
   rcases h.1 with h1 | h1
   ·left
    split at h1
    ·rename_i q hq; simp at h1; subst h1; exact hq
    ·cases h1
   ·exact .inr h1
  | succ k =>
   have := selOk_at h.2 k e (by simpa using he)
   rw [show n + (k + 1) = n + 1 + k by omega]
   exact this
structure CutK (H : List Ent) (K : AV → List Ent → Prop) (x : AV) (H' : List Ent) : Prop where
 out : ∃ (s : List Nat) (x2 : AV) (H2 : List Ent) (x3 : AV) (H3 : List Ent), x = x2.ren s 0 ∧ s.map (fun k => H'[k]?) = (renH s 0 H2).map some ∧ s.Nodup ∧ selOk s 0 H = true ∧ H.length ≤ s.length ∧ x2.bnd H2.length = true ∧ bndH H2.length H2 = true ∧ Le x2 x3 ∧ LeH H2 H3 ∧ K x3 H3
theorem FnPost.cut {K : AV → List Ent → Prop} {H : List Ent} {w w' : World} {r : Rho} {pub : Pub} {e : Ending} (hm : Mod pub w r H) (h : FnPost (CutK H K) H w r pub e w') : FnPost K H w r pub e w' := by
 obtain ⟨v, x, H', r1, pub', rfl, ⟨⟨s, x2, H2, x3, H3, rfl, hH, hnd, htk, hM, hbx, hbH, hx3, hH3, hK⟩⟩, hvx, hm1, hfr, hown, hstab, hlen'⟩ := h
 have hlen : s.length = H2.length := by have := congrArg List.length hH; simpa [renH_map] using this
 have hsi : ∀ i (hi : i < s.length), sigma s 0 i = s[i] := fun i hi => sigma_lt hi
 let r0 : Rho := fun i => if i < s.length then r1 (sigma s 0 i) else none
 have hr0 : ∀ i y, r0 i = some y → i < s.length ∧ r1 (sigma s 0 i) = some y := fun i y hy => by
  by_cases hi : i < s.length
  ·simp only [r0, if_pos hi] at hy; exact ⟨hi, hy⟩
  ·simp only [r0, if_neg hi] at hy; cases hy
 have hr0' : ∀ i, i < s.length → r0 i = r1 (sigma s 0 i) := fun i hi => if_pos hi
 have hinj : ∀ i j, i < s.length → j < s.length → sigma s 0 i = sigma s 0 j → i = j := fun i j hi hj e => by
  rw [hsi i hi, hsi j hj] at e
  exact nodup_inj hnd e
 have hent : ∀ i e, H2[i]? = some e → H'[sigma s 0 i]? = some (e.ren s 0) := fun i e he => by
  have hi : i < s.length := by rw [hlen]; exact (List.getElem?_eq_some_iff.1 he).1
  have h1 := congrArg (fun l => l[i]?) hH
  simp only [List.getElem?_map, renH_map, he, Option.map_some, List.getElem?_eq_getElem hi] at h1
  rw [hsi i hi]
  simpa using h1
 have hm0 : Mod pub' w' r0 H2 := by
  refine ⟨fun i e he => ?_, fun i hi => if_neg (by omega), fun i j x y hij hx hy => ?_, hm1.fresh, hm1.there, hm1.glob⟩
  ·have hi : i < s.length := by rw [hlen]; exact (List.getElem?_eq_some_iff.1 he).1
   have he1 := hm1.ent _ _ (hent i e he)
   have hbe := bndH_get hbH i e he
   rw [hr0' i hi]
   exact he1.unren hbe fun k y hkb hy => by rw [hr0' k (by omega)]; exact hy
  ·obtain ⟨hi, hx⟩ := hr0 i x hx
   obtain ⟨hj, hy⟩ := hr0 j y hy
   exact hm1.disj _ _ x y (fun e => hij (hinj i j hi hj e)) hx hy
 refine ⟨v, x3, H3, r0, pub', rfl, hK, hx3.to (hvx.unren x2 rfl fun k y hk hy => ?_), hm0.le hH3, hfr, fun b ⟨k, y, hy, hb⟩ => hown b ⟨_, y, (hr0 k y hy).2, hb⟩, fun k y hy hs => ?_, by have := hH3.len; omega⟩
 ·have hkb := AV.bnd_has _ hbx hk
  rw [hr0' k (by omega)]
  exact hy
 ·have h1 := hstab k y hy hs
  have hk : k < H.length := by
   rcases Nat.lt_or_ge k H.length with h2 | h2
   ·exact h2
   ·rw [hm.none_ k h2] at hy; cases hy
  have he := List.getElem?_eq_getElem hk
  rcases selOk_at htk k _ he with h2 | h2
  ·rw [Nat.zero_add] at h2
   have hks := (List.getElem?_eq_some_iff.1 h2)
   obtain ⟨h3, h4⟩ := hks
   rw [hr0' k h3, hsi k h3, h4]
   exact h1
  ·exfalso
   have h3 := hm.ent k _ he
   rw [hy] at h3
   generalize H[k] = en at h2 h3
   cases h3 <;> first | (cases h2; done) | (cases hs; done)
theorem sigma_range {n k : Nat} (h : k < n) : sigma (List.range n) 0 k = k := by
 rw [sigma_lt (by rw [List.length_range]; exact h), List.getElem_range]
mutual
theorem AV.ren_range {n : Nat} : ∀ (x : AV), x.bnd n = true → x.ren (List.range n) 0 = x
 | .any, _ => by unfold AV.ren; rfl
 | .bl _, _ => by unfold AV.ren; rfl
 | .int _ _, _ => by unfold AV.ren; rfl
 | .str _, _ => by unfold AV.ren; rfl
 | .v _, _ => by unfold AV.ren; rfl
 | .sl _ _, _ => by unfold AV.ren; rfl
 | .rp _ _, _ => by unfold AV.ren; rfl
 | .ptr k o, h => by unfold AV.ren; rw [sigma_range (by simpa [AV.bnd] using h)]
 | .hd k, h => by unfold AV.ren; rw [sigma_range (by simpa [AV.bnd] using h)]
 | .ph k, h => by unfold AV.ren; rw [sigma_range (by simpa [AV.bnd] using h)]
 | .re k _ _ _, h => by unfold AV.ren; rw [sigma_range (by simpa [AV.bnd] using h)]
 | .agg l, h => by unfold AV.ren; rw [AV.renL_range l (by simpa [AV.bnd] using h)]
 | .tup l, h => by unfold AV.ren; rw [AV.renL_range l (by simpa [AV.bnd] using h)]
 | .clo f l, h => by unfold AV.ren; rw [AV.renL_range l (by simpa [AV.bnd] using h)]
theorem AV.renL_range {n : Nat} : ∀ (l : List AV), AV.bndL n l = true → AV.renL (List.range n) 0 l = l
 | [], _ => by unfold AV.renL; rfl
 | x :: l, h => by
  simp only [AV.bndL, Bool.and_eq_true] at h
  unfold AV.renL
  rw [AV.ren_range x h.1, AV.renL_range l h.2]
end
theorem renH_range {n : Nat} : ∀ (l : List Ent), bndH n l = true → renH (List.range n) 0 l = l
 | [], _ => by unfold renH; rfl
 | e :: l, h => by
  simp only [bndH, Bool.and_eq_true] at h
  unfold renH
  rw [renH_range l h.2]
  congr 1
  cases e with
  | blk t cs => show Ent.blk t (AV.renL (List.range n) 0 cs) = _; rw [AV.renL_range cs (by simpa [bndE] using h.1)]
  | hrow t sz m cs => show Ent.hrow t sz m (AV.renL (List.range n) 0 cs) = _; rw [AV.renL_range cs (by simpa [bndE] using h.1)]
  | iter x a b => show Ent.iter (AV.ren (List.range n) 0 x) a b = _; rw [AV.ren_range x (by simpa [bndE] using h.1)]
  | pool t es outs =>
   show Ent.pool t es (outs.map fun p => (p.1, AV.ren (List.range n) 0 p.2)) = _
   have h1 : AV.bndL n (outs.map fun (p : Nat × AV) => p.2) = true := h.1
   clear h
   congr 1
   induction outs with
   | nil => rfl
   | cons p outs ih =>
    simp only [List.map_cons, AV.bndL, Bool.and_eq_true] at h1 ⊢
    rw [ih h1.2, AV.ren_range p.2 h1.1]
  | _ => rfl
theorem CutK.pre {H : List Ent} {K : AV → List Ent → Prop} {x : AV} {H' : List Ent} (H2 : List Ent) {x3 : AV} {H3 : List Ent} (hH : H'.take H2.length = H2) (hM : H.length ≤ H2.length) (hb : x.bnd H2.length = true) (hbH : bndH H2.length H2 = true) (hx : Le x x3) (hl : LeH H2 H3) (hK : K x3 H3) : CutK H K x H' := by
 refine ⟨⟨List.range H2.length, x, H2, x3, H3, (AV.ren_range x hb).symm, ?_, List.nodup_range, ?_, by rw [List.length_range]; exact hM, hb, hbH, hx, hl, hK⟩⟩
 ·rw [renH_range _ hbH]
  refine List.ext_getElem? fun i => ?_
  rw [List.getElem?_map, List.getElem?_map]
  by_cases hi : i < H2.length
  ·rw [List.getElem?_range hi]
   have := congrArg (fun l => l[i]?) hH
   simp only [List.getElem?_take, if_pos hi] at this
   rw [List.getElem?_eq_getElem hi] at this ⊢
   simpa using this
  ·rw [List.getElem?_eq_none (by rw [List.length_range]; omega), List.getElem?_eq_none (by omega)]
   rfl
 ·have key : ∀ (n : Nat) (L : List Ent), n + L.length ≤ H2.length → selOk (List.range H2.length) n L = true := fun n L => by
   induction L generalizing n with
   | nil => intro _; rfl
   | cons e L ih =>
    intro hl
    simp only [List.length_cons] at hl
    unfold selOk
    rw [List.getElem?_range (by omega), ih (n + 1) (by omega)]
    simp
  exact key 0 H (by omega)
theorem CutK.val {K : AV → List Ent → Prop} {x : AV} {H' : List Ent} {x3 : AV} (hb : x.bnd 0 = true) (hx : Le x x3) (hK : K x3 []) : CutK [] K x H' := .pre [] (by simp) (Nat.le_refl _) hb rfl hx .nil hK
def BodyOk (P : Program) (x : XFn) (c : Ctr) : Prop := ∀ args H K, c args H K → args.length ≤ x.n ∧ XW P x.n H.length x.body (FinQ H.length x.res (CutK H K)) ⟨numT 0 args, H⟩
theorem body_ok {P : Program} {f : Nat} {x : XFn} {c : Ctr} (hx : cFn P f = some x) (h : BodyOk P x c) : FnOk P f c := fun args H K hc w r pub vals hm hv =>
 Calls.mono (fn_ok (fun args H K' => ∃ K, c args H K ∧ K' = CutK H K) hx (fun args H K' ⟨K, hc, e⟩ => by subst e; exact h args H K hc) args H _ ⟨K, hc, rfl⟩ w r pub vals hm hv) fun _ _ hp => FnPost.cut hm hp
def BodyOkS (P : Program) (x : XFn) (c : Ctr) : Prop := ∀ args H K, c args H K → args.length ≤ x.n ∧ SemW P x.n H.length x.body (FinQ H.length x.res (CutK H K)) ⟨numT 0 args, H⟩
theorem body_okS {P : Program} {f : Nat} {x : XFn} {c : Ctr} (hx : cFn P f = some x) (h : BodyOkS P x c) : FnOk P f c := fun args H K hc w r pub vals hm hv =>
 Calls.mono (fn_okS (fun args H K' => ∃ K, c args H K ∧ K' = CutK H K) hx (fun args H K' ⟨K, hc, e⟩ => by subst e; exact h args H K hc) args H _ ⟨K, hc, rfl⟩ w r pub vals hm hv) fun _ _ hp => FnPost.cut hm hp
abbrev mapA {α β : Type} (f : α → β) (l : List α) : List β := List.rec (motive := fun _ => List β) [] (fun a _ => List.cons (f a)) l
theorem mapA_eq {α β : Type} (f : α → β) (l : List α) : mapA f l = l.map f := by
 induction l with
 | nil => rfl
 | cons a l ih =>
  show f a :: mapA f l = f a :: l.map f
  rw [ih]
theorem mapA_len {α β : Type} (f : α → β) (l : List α) : (mapA f l).length = l.length := by rw [mapA_eq]; exact List.length_map f
theorem mapA_app {α β : Type} (f : α → β) (l m : List α) : mapA f (l ++ m) = mapA f l ++ mapA f m := by rw [mapA_eq, mapA_eq, mapA_eq]; exact List.map_append
theorem mapA_one {α β : Type} (f : α → β) (x : α) : mapA f [x] = [f x] := rfl
theorem callG_new {P : Program} {f : Nat} {ι : Type} {a : ι → List AV} {p : ι → Prop} {r : ι → AV} {h' : ι → List Ent} (hf : FnOk P f (spec a (fun _ => []) p r h')) (i : ι) {keep : List Nat} {st : St} {K : AV → St → Prop} (hp : p i) (hb : AV.bndL 0 (a i) = true) (hk : (keep.all fun k => Nat.blt k st.H.length) = true)
  (hK : K ((r i).ren [] st.H.length) ⟨st.T, st.H ++ renH [] st.H.length (h' i)⟩) : CallG P keep f (a i) st K := by
 refine callG_of hf [] (args0 := a i) (H0 := []) (AV.renL_id _ hb).symm rfl List.nodup_nil (by simp) rfl hb rfl (fun k hkk => ⟨by simp, by have := List.all_eq_true.1 hk k hkk; simpa [Nat.blt_eq] using this⟩) ⟨i, rfl, rfl, hp, ?_⟩
 simpa [rowIds, killTs, killHs, putE] using hK
abbrev nI (n : Nat) : Int := Int.ofNat n
abbrev lft (n i : Nat) : Ms := ⟨n, i⟩
theorem lft_lt {n i : Nat} (h : i < n) : (lft n (i + 1)).val < (lft n i).val := by unfold Ms.val; dsimp only; omega
theorem callG_spec {P : Program} {f : Nat} {ι : Type} {a : ι → List AV} {h : ι → List Ent} {p : ι → Prop} {r : ι → AV} {h' : ι → List Ent} (hf : FnOk P f (spec a h p r h')) (i : ι) (sel : List Nat) {keep : List Nat} {args : List AV} {st : St} {K : AV → St → Prop}
  (hp : p i) (ha : args = AV.renL sel st.H.length (a i)) (hlen : sel.length = (h i).length) (hnd : sel.Nodup) (hlt : (sel.all fun k => Nat.blt k st.H.length) = true) (hH : sel.map (fun k => st.H[k]?) = (renH sel st.H.length (h i)).map some)
  (hb : AV.bndL (h i).length (a i) = true) (hbH : bndH (h i).length (h i) = true) (hkeep : (keep.all fun k => !sel.contains k && Nat.blt k st.H.length) = true)
  (hK : K ((r i).ren sel st.H.length) ⟨killTs st.T (rowIds sel (h i)), putE (killHs st.H (rowIds sel (h i))) sel (renH sel st.H.length (h' i))⟩) : CallG P keep f args st K :=
 callG_of hf sel ha hlen hnd (fun k hk => by simpa [Nat.blt_eq] using List.all_eq_true.1 hlt k hk) hH hb hbH (fun k hk => by
  have := List.all_eq_true.1 hkeep k hk
  simp only [Bool.and_eq_true, Bool.not_eq_true', Nat.blt_eq] at this
  exact ⟨fun h => by rw [List.contains_eq_mem] at this; simp [h] at this, this.2⟩) ⟨i, rfl, rfl, hp, hK⟩
theorem callG_publish {P : Program} {f : Nat} {keep : List Nat} {args : List AV} {st : St} {K : AV → St → Prop} (k : Nat) {t sz : Nat} {xs : List AV} (hk : isRowE st.H[k]? = some (t, sz, xs))
  (h : CallG P keep f (args.map (St.view ⟨st.T, st.H.set k (.tip t sz xs)⟩)) ⟨st.T, st.H.set k (.tip t sz xs)⟩ K) : CallG P keep f args st K := by
 refine ⟨fun C a w r pub vals hh hv => ?_⟩
 have hk' : st.H[k]? = some (.row t sz xs) := by
  unfold isRowE at hk
  split at hk
  ·rename_i e he; cases hk; exact he
  ·cases hk
 obtain ⟨pub', h1, he⟩ := hh.publish hk'
 have hv1 : VRels pub' w r (args.map (St.view ⟨st.T, st.H.set k (.tip t sz xs)⟩)) vals.toList := ⟨by rw [List.length_map]; exact hv.len, fun i x u hx hu => by
  rw [List.getElem?_map] at hx
  cases hq : args[i]? with
  | none => rw [hq] at hx; cases hx
  | some q => rw [hq] at hx; cases hx; exact h1.view ((hv.at_ i q u hq hu).ext he)⟩
 refine (h.out C a w r pub' vals h1 hv1).mono fun e w' ⟨v, x, st', r', pub2, e1, e2, e3, e4, e5, e6⟩ => ⟨v, x, st', r', pub2, e1, e2, e3, e4, he.trans e5, e6⟩
theorem VRels.str_inv {pub : Pub} {w : World} {r : Rho} {s : ByteArray} {l : List AV} {us : List Value} (h : VRels pub w r (.str s :: l) us) : ∃ us', us = .string s :: us' ∧ VRels pub w r l us' := by
 obtain ⟨u, us', rfl, h1, h2⟩ := h.cons_inv
 cases h1
 exact ⟨us', rfl, h2⟩
theorem Gh.adoptC {M : Nat} {st : St} (k j t sz : Nat) {t0 : TypeId} {cs : List AV} (hk : st.H[k]? = some (.blk t0 cs)) (hj : cs[j]? = some (.v (.slice none 0 0))) :
  Gh M st ⟨st.T, (st.H ++ [Ent.row t sz []]).set k (.blk t0 (cs.set j (.hd st.H.length)))⟩ := fun C a w r pub _ h => by
 have hkl := (List.getElem?_eq_some_iff.1 hk).1
 have hd := h.room 1
 have hq : (st.H ++ List.replicate 1 Ent.dead)[st.H.length]? = some .dead := by simp
 have h1 := hd.adopt hq t sz
 have hset : (st.H ++ List.replicate 1 Ent.dead).set st.H.length (.row t sz []) = st.H ++ [.row t sz []] := by simp
 dsimp only at h1
 rw [hset] at h1
 have hk1 : (st.H ++ [Ent.row t sz []])[k]? = some (.blk t0 cs) := by rw [List.getElem?_append_left hkl]; exact hk
 obtain ⟨b, arr, hr, hb, hc, hp⟩ := h1.ent_blk hk1
 have he : ERel pub w (rset r st.H.length (.slice none 0 0)) (some (.pointer (some ⟨b, 0, none⟩))) (.blk t0 (cs.set j (.hd st.H.length))) := by
  refine .blk hb ⟨by rw [List.length_set]; exact hc.len, fun i x u hx hu => ?_⟩ hp
  rw [List.getElem?_set] at hx
  split at hx
  ·rename_i e
   subst e
   have := hc.at_ j _ u hj hu
   cases this
   split at hx
   ·cases hx; exact .hd (rset_self _ _ _) rfl
   ·cases hx
  ·exact hc.at_ i x u hx hu
 exact ⟨_, pub, h1.mod.set hr (Fr.refl (fun _ => False) _ _) (fun b hb => hb.elim) h1.mod.fresh h1.mod.there he, h1.own, h1.fr, h1.slots, h1.defers, h1.size, h1.stab, by simpa using h1.low⟩
section
variable {α : Type} {f : α → List Value} {k : Nat} {w w' : World} {A : Option Addr} {n : Nat} {l : List α}
end
section
variable {P : Program} (w : World)
end
theorem AskEl.i0 {u : AV} {l : List AV} {K : Nat → AV → Prop} (k : K 0 u) : AskEl (u :: l) 0 K := ⟨0, u, rfl, rfl, k⟩
theorem AskEl.i1 {a u : AV} {l : List AV} {K : Nat → AV → Prop} (k : K 1 u) : AskEl (a :: u :: l) 1 K := ⟨1, u, rfl, rfl, k⟩
theorem AskEl.i2 {a b u : AV} {l : List AV} {K : Nat → AV → Prop} (k : K 2 u) : AskEl (a :: b :: u :: l) 2 K := ⟨2, u, rfl, rfl, k⟩
theorem AskIdx.i0 {u : AV} {l : List AV} {K : Nat → Prop} (k : K 0) : AskIdx (u :: l) 0 K := ⟨0, rfl, Nat.succ_pos _, k⟩
theorem AskIdx.i1 {a u : AV} {l : List AV} {K : Nat → Prop} (k : K 1) : AskIdx (a :: u :: l) 1 K := ⟨1, rfl, Nat.succ_lt_succ (Nat.succ_pos _), k⟩
theorem AskIdx.i2 {a b u : AV} {l : List AV} {K : Nat → Prop} (k : K 2) : AskIdx (a :: b :: u :: l) 2 K := ⟨2, rfl, Nat.succ_lt_succ (Nat.succ_lt_succ (Nat.succ_pos _)), k⟩
def stepD (s : XStep) : List Nat := match s.d with
 | some d => [d]
 | none => []
def XPlan.wr : XPlan → List Nat
 | .nil => []
 | .take _ s p => stepD s ++ p.wr
 | .eff _ _ _ s p => stepD s ++ p.wr
 | .fork p q => p.wr ++ q.wr
 | .phase _ p => p.wr
 | .more _ p => p.wr
def wrL : List XStep → List Nat
 | [] => []
 | s :: l => stepD s ++ wrL l
def XCode.wr : XCode → List Nat
 | .reg l => wrL l
 | .dreg p _ _ => p.wr
 | .seq a b => a.wr ++ b.wr
 | .cond _ a b => a.wr ++ b.wr
 | .block _ a => a.wr
 | .loop a => a.wr
 | .scope a => a.wr
 | _ => []
def hasAny : List Nat → AV → Bool
 | [], _ => false
 | h :: l, x => x.has h || hasAny l x
def keepT (hs : List Nat) : List Nat → List (Nat × AV) → List (Nat × AV)
 | _, [] => []
 | ws, (n, x) :: T => if ws.contains n = true then keepT hs ws T else if hasAny hs x = true then keepT hs (n :: ws) T else (n, x) :: keepT hs (n :: ws) T
def weakG (T T' : List (Nat × AV)) : Prop := ∀ m, tget T' m = .any ∨ tget T' m = tget T m
theorem keepT_get (hs : List Nat) : ∀ (T : List (Nat × AV)) (ws : List Nat) (m : Nat), tget (keepT hs ws T) m = .any ∨ (m ∉ ws ∧ tget (keepT hs ws T) m = tget T m)
 | [], ws, m => .inl rfl
 | (n, x) :: T, ws, m => by
  unfold keepT
  split
  ·rename_i h
   rw [List.contains_eq_mem] at h
   simp only [decide_eq_true_eq] at h
   rcases keepT_get hs T ws m with h1 | ⟨h1, h2⟩
   ·exact .inl h1
   ·refine .inr ⟨h1, h2.trans ?_⟩
    show _ = if n = m then x else tget T m
    rw [if_neg (by rintro rfl; exact h1 h)]
  ·rename_i h
   rw [List.contains_eq_mem] at h
   simp only [decide_eq_true_eq] at h
   split
   ·rcases keepT_get hs T (n :: ws) m with h1 | ⟨h1, h2⟩
    ·exact .inl h1
    ·simp only [List.mem_cons, not_or] at h1
     refine .inr ⟨h1.2, h2.trans ?_⟩
     show _ = if n = m then x else tget T m
     rw [if_neg (fun e => h1.1 e.symm)]
   ·show (if n = m then x else tget (keepT hs (n :: ws) T) m) = .any ∨ m ∉ ws ∧ (if n = m then x else tget (keepT hs (n :: ws) T) m) = if n = m then x else tget T m
    by_cases e : n = m
    ·subst e
     rw [if_pos rfl, if_pos rfl]
     exact .inr ⟨h, rfl⟩
    ·rw [if_neg e, if_neg e]
     rcases keepT_get hs T (n :: ws) m with h1 | ⟨h1, h2⟩
     ·exact .inl h1
     ·simp only [List.mem_cons, not_or] at h1
      exact .inr ⟨h1.2, h2⟩
theorem weakG_app {T F G : List (Nat × AV)} (h : weakT T F) (hg : weakG T G) : weakG T (F ++ G) := by
 induction F with
 | nil => exact hg
 | cons p F ih =>
  obtain ⟨n, x⟩ := p
  intro m
  show (if n = m then x else tget (F ++ G) m) = .any ∨ (if n = m then x else tget (F ++ G) m) = tget T m
  split
  ·rename_i e
   subst e
   rcases h.1 with h1 | h1
   ·exact .inr h1.symm
   ·exact .inl h1
  ·exact ih h.2 m
theorem Gh.weakG {M : Nat} {st st' : St} (hT : weakG st.T st'.T) (hH : st.H.take st'.H.length = st'.H) (hb : bndT st'.H.length st'.T = true) (hbH : bndH st'.H.length st'.H = true) (hM : M ≤ st'.H.length) : Gh M st st' := fun C a w r pub hCm h => by
 obtain ⟨r', pub', h1⟩ := Gh.weak (M := M) (st := ⟨[], st.H⟩) (st' := ⟨[], st'.H⟩) trivial hH rfl hbH hM C a w r pub hCm ⟨h.mod, h.own, h.fr, fun n => .any _, h.defers, h.size, h.stab, h.low⟩
 have hget : ∀ k e, st'.H[k]? = some e → st.H[k]? = some e := fun k e he => by
  have hk := (List.getElem?_eq_some_iff.1 he).1
  rw [← hH, List.getElem?_take, if_pos hk] at he
  exact he
 let r2 : Rho := fun k => if k < st'.H.length then r k else none
 have hr2 : ∀ k, k < st'.H.length → r2 k = r k := fun k hk => if_pos hk
 have hsome : ∀ k y, r2 k = some y → r k = some y := fun k y hy => by
  by_cases hk : k < st'.H.length
  ·rw [hr2 k hk] at hy; exact hy
  ·simp only [r2, if_neg hk] at hy; cases hy
 refine ⟨r2, pub, ⟨fun k e he => ?_, fun k hk => if_neg (by omega), fun i j x y hij hx hy => h.mod.disj i j x y hij (hsome _ _ hx) (hsome _ _ hy), h.mod.fresh, h.mod.there, h.mod.glob⟩, fun k x hx => h.own k x (hsome _ _ hx), h.fr, fun m => ?_, h.defers, h.size, fun k y hy hs => ?_, ⟨h.low.1, by omega⟩⟩
 ·have hk := (List.getElem?_eq_some_iff.1 he).1
  have h0 := h.mod.ent k e (hget k e he)
  have hbe := bndH_get hbH k e he
  rw [hr2 k hk]
  exact h0.congr hbe hr2
 ·rcases hT m with e | e
  ·rw [e]; exact .any _
  ·have hbm := bndT_get hb m
   rw [e] at hbm ⊢
   exact (h.slots m).congr fun n hn => hr2 n (AV.bnd_has _ hbm hn)
 ·have hk : k < st'.H.length := by
   rcases Nat.lt_or_ge k C.m with h1 | h1
   ·omega
   ·rw [h.low.1 k h1] at hy; cases hy
  rw [hr2 k hk]
  exact h.stab k y hy hs
theorem CutK.sel {H : List Ent} {K : AV → List Ent → Prop} {x : AV} {H' : List Ent} (s : List Nat) (H2 : List Ent) (x2 : AV) {x3 : AV} {H3 : List Ent} (hx : x = x2.ren s 0) (hH : s.map (fun k => H'[k]?) = (renH s 0 H2).map some) (hnd : s.Nodup) (hs : selOk s 0 H = true) (hl : H.length ≤ s.length)
  (hb : x2.bnd H2.length = true) (hbH : bndH H2.length H2 = true) (h1 : Le x2 x3) (h2 : LeH H2 H3) (hK : K x3 H3) : CutK H K x H' := ⟨s, x2, H2, x3, H3, hx, hH, hnd, hs, hl, hb, hbH, h1, h2, hK⟩
theorem callG_le {P : Program} {keep : List Nat} {f : Nat} {args : List AV} (args2 : List AV) {st : St} {K : AV → St → Prop} (h : LeL0 args args2) (hc : CallG P keep f args2 st K) : CallG P keep f args st K :=
 ⟨fun C a w r pub vals hh hv => hc.out C a w r pub vals hh (h.to hv)⟩
theorem xloopK {P : Program} {N M : Nat} {c : XCode} {Q : XEx → St → Prop} {T : List (Nat × AV)} {H : List Ent} {ι : Type} (hs : List Nat) (F : ι → List (Nat × AV)) (G : ι → List Ent) (μ : ι → Ms) (i0 : ι)
  (hw : weakT T (F i0)) (hH : H.take (G i0).length = G i0) (hb : bndT (G i0).length (F i0 ++ keepT hs c.wr T) = true) (hbH : bndH (G i0).length (G i0) = true) (hM : M ≤ (G i0).length)
  (hr : ∀ i, XW P N M c (XRound M (fun i => ⟨F i ++ keepT hs c.wr T, G i⟩) μ (μ i) Q) ⟨F i ++ keepT hs c.wr T, G i⟩) : XLoopG P N M c Q ⟨T, H⟩ :=
 xloop (fun i => ⟨F i ++ keepT hs c.wr T, G i⟩) μ i0 (Gh.weakG (weakG_app hw fun m => by rcases keepT_get hs T c.wr m with h | h; (· exact .inl h); exact .inr h.2) hH hb hbH hM) hr
theorem xloopG {P : Program} {N M : Nat} {c : XCode} {Q : XEx → St → Prop} {st st1 : St} (hg : Gh M st st1) (h : XLoopG P N M c Q st1) : XLoopG P N M c Q st :=
 ⟨fun code C a w r pub hc hN hM hh => by
  obtain ⟨r1, p1, h1⟩ := hg C a w r pub hM hh
  exact h.out code C a w r1 p1 hc hN hM h1⟩
theorem roundW {ι : Type} {M : Nat} {F : ι → St} {μ : ι → Ms} {n : Ms} {st : St} (j : ι) (hw : weakT st.T (F j).T) (hH : st.H.take (F j).H.length = (F j).H) (hb : bndT (F j).H.length (F j).T = true) (hbH : bndH (F j).H.length (F j).H = true) (hM : M ≤ (F j).H.length) (hl : (μ j).val < n.val) : RoundK M F μ n st :=
 ⟨_, j, Gh.weak hw hH hb hbH hM, rfl, hl⟩
theorem roundG {ι : Type} {M : Nat} {F : ι → St} {μ : ι → Ms} {n : Ms} {st st1 : St} (hg : Gh M st st1) (h : RoundK M F μ n st1) : RoundK M F μ n st := by
 obtain ⟨⟨st', j, h1, h2, h3⟩⟩ := h
 exact ⟨st', j, hg.trans h1, h2, h3⟩
theorem AppK.mk' {xs ys : List AV} {bytes : Nat} {K : List AV → Prop} (owed : xs.length + ys.length ≤ maxLen ∧ (xs.length + ys.length) * bytes ≤ 140737488355328) (rest : ∀ zs, zs = xs ++ ys → zs.length = xs.length + ys.length → K zs) : AppK xs ys bytes K :=
 ⟨owed, fun zs h => rest zs h (by rw [h, List.length_append])⟩
theorem sliK_mapA {α : Type} {f : α → AV} {L : List α} {lo hi : Option Int} {K : List AV → Prop} (owed : 0 ≤ lo.getD 0 ∧ lo.getD 0 ≤ hi.getD L.length ∧ hi.getD L.length ≤ L.length)
  (rest : ∀ L', L' = (L.take (hi.getD L.length).toNat).drop (lo.getD 0).toNat → (L'.length : Int) = hi.getD L.length - lo.getD 0 → K (mapA f L')) : SliK (mapA f L) lo hi K := by
 refine ⟨by rw [mapA_len]; exact owed, fun ys hys => ?_⟩
 rw [mapA_len, mapA_eq, ← List.map_take, ← List.map_drop, ← mapA_eq] at hys
 subst hys
 refine rest _ rfl ?_
 rw [List.length_drop, List.length_take]
 omega
theorem appK_mapA {α : Type} {f : α → AV} {L L2 : List α} {bytes : Nat} {K : List AV → Prop} (owed : L.length + L2.length ≤ maxLen ∧ (L.length + L2.length) * bytes ≤ 140737488355328)
  (rest : ∀ L', L' = L ++ L2 → L'.length = L.length + L2.length → K (mapA f L')) : AppK (mapA f L) (mapA f L2) bytes K :=
 ⟨by rw [mapA_len, mapA_len]; exact owed, fun zs h => by rw [h, ← mapA_app]; exact rest _ rfl List.length_append⟩
theorem appK_nilA {α : Type} {f : α → AV} {L2 : List α} {bytes : Nat} {K : List AV → Prop} (owed : L2.length ≤ maxLen ∧ L2.length * bytes ≤ 140737488355328)
  (rest : K (mapA f L2)) : AppK [] (mapA f L2) bytes K :=
 ⟨by rw [mapA_len, List.length_nil, Nat.zero_add]; exact owed, fun zs h => by rw [h, List.nil_append]; exact rest⟩
theorem RemK.pos {m n : Int} {K : Int → Prop} (hm : 0 ≤ m) (hn : 0 < n) (rest : ∀ z, z = m.tmod n → 0 ≤ z → z < n → K z) : RemK m n K :=
 ⟨by omega, fun z hz => rest z hz (by rw [hz]; exact Int.tmod_nonneg _ hm) (by rw [hz]; exact Int.tmod_lt_of_pos _ hn)⟩
theorem CatK.mk' {s t : ByteArray} {K : ByteArray → Prop} (owed : s.size + t.size ≤ maxLen) (rest : ∀ u, u = s ++ t → u.size = s.size + t.size → K u) : CatK s t K :=
 ⟨owed, fun u hu => rest u hu (by rw [hu, ByteArray.size_append])⟩
theorem askEl_some {α : Type} {f : α → AV} {L : List α} {i : Nat} {l : α} {K : Nat → AV → Prop} (h : L[i]? = some l) (hk : K i (f l)) : AskEl (mapA f L) (nI i) K :=
 ⟨i, _, rfl, by rw [mapA_eq, List.getElem?_map, h]; rfl, hk⟩
theorem take_some {α : Type} {L : List α} {i : Nat} {l : α} (h : L[i]? = some l) : L.take (i + 1) = L.take i ++ [l] := by
 obtain ⟨hi, rfl⟩ := List.getElem?_eq_some_iff.1 h
 exact List.take_succ_eq_append_getElem hi
theorem some_at {α : Type} {L : List α} {i : Nat} (h : i < L.length) : ∃ l, L[i]? = some l := ⟨_, List.getElem?_eq_getElem h⟩
theorem askByte_nI {s : ByteArray} {i : Nat} {K : Int → Prop} (h : i < s.size) (hk : ∀ z : Int, z = (s.data[i]'h).toNat → K z) : AskByte s (nI i) K :=
 ⟨i, rfl, h, fun c hc z hz => hk z (by rw [Array.getElem?_eq_getElem h] at hc; cases hc; exact hz)⟩
theorem Gh.freeze {M : Nat} {st : St} (k : Nat) {t sz : Nat} {xs : List AV} (hk : st.H[k]? = some (.tip t sz xs)) : Gh M st ⟨tkill k (.sl sz xs) st.T, st.H.map (Ent.kill k (.sl sz xs))⟩ := fun C a w r pub _ h => by
 have hy : ∀ z, r k = some z → VRel pub w r (.sl sz xs) z := fun z hz => by
  obtain ⟨A, d, c, x, us, hr, _⟩ := h.ent_tip hk
  rw [hr] at hz
  cases hz
  have h1 := h.view1 (x := .hd k) (.hd hr rfl)
  simp only [St.view1, hk] at h1
  exact h1
 refine ⟨r, pub, ⟨fun j e he => ?_, fun j hj => h.mod.none_ j (by simpa using hj), h.mod.disj, h.mod.fresh, h.mod.there, h.mod.glob⟩, h.own, h.fr, h.slots.kill (fun _ _ => rfl) hy, h.defers, h.size, h.stab, by simpa using h.low⟩
 rw [List.getElem?_map] at he
 cases hj : st.H[j]? with
 | none => rw [hj] at he; cases he
 | some e0 =>
  rw [hj] at he
  cases he
  exact (h.mod.ent j e0 hj).kill (Fr.refl (fun _ => False) _ _) (fun _ _ _ _ h => h) (fun _ _ => rfl) hy
theorem Gh.cast {M : Nat} {T : List (Nat × AV)} {H : List Ent} (H2 : List Ent) (h : H = H2) : Gh M ⟨T, H⟩ ⟨T, H2⟩ := by subst h; exact Gh.refl _
theorem Gh.le {M : Nat} {st : St} (H2 : List Ent) (hl : LeH st.H H2) : Gh M st ⟨st.T, H2⟩ := fun C a w r pub _ h =>
 ⟨r, pub, h.mod.le hl, h.own, h.fr, h.slots, h.defers, h.size, h.stab, h.low.1, by rw [hl.len]; exact h.low.2⟩
theorem Gh.plain {M : Nat} {st : St} (k : Nat) {t sz : Nat} {xs : List AV} (hk : isRowE st.H[k]? = some (t, sz, xs)) : Gh M st ⟨tkill k (.sl sz xs) st.T, (st.H.set k (.tip t sz xs)).map (Ent.kill k (.sl sz xs))⟩ :=
 (Gh.publish k hk).trans (Gh.freeze (st := ⟨st.T, st.H.set k (.tip t sz xs)⟩) (t := t) k (by
  have hl : k < st.H.length := by
   unfold isRowE at hk
   split at hk
   ·rename_i he; exact (List.getElem?_eq_some_iff.1 he).1
   ·cases hk
  exact List.getElem?_set_self hl))
theorem vn : (∀ n : Nat, (NatCast.natCast n : Int) = (n : Int)) ∧ (∀ {α β : Type} (f : α → β) (l : List α), (mapA f l).length = l.length) ∧ (∀ n : Nat, nI n = (n : Int)) ∧ (∀ {α : Type}, ([] : List α).length = 0) ∧
  (∀ {α : Type} (a : α) (l : List α), (a :: l).length = l.length + 1) ∧ (∀ {α : Type} (a b : α), (some a).getD b = a) ∧ (∀ {α : Type} (b : α), (none : Option α).getD b = b) :=
 ⟨fun _ => rfl, fun f l => mapA_len f l, fun _ => rfl, rfl, fun _ _ => rfl, fun _ _ => rfl, fun _ => rfl⟩
section
variable {a b : Unit → Prop} {x1 x2 : Int} {K : Int → Prop}
theorem BrEq.n (k : x1 ≠ x2 → b ()) (d : x1 ≠ x2 := by (try simp only [vn] at *) <;> omega) : BrEq x1 x2 a b := ⟨fun h => absurd h d, k⟩
theorem BrEq.y (k : x1 = x2 → a ()) (d : x1 = x2 := by (try simp only [vn] at *) <;> omega) : BrEq x1 x2 a b := ⟨k, fun h => absurd d h⟩
theorem BrLt.n (k : x2 ≤ x1 → b ()) (d : x2 ≤ x1 := by (try simp only [vn] at *) <;> omega) : BrLt x1 x2 a b := ⟨fun h => absurd h (by omega), k⟩
theorem BrLt.y (k : x1 < x2 → a ()) (d : x1 < x2 := by (try simp only [vn] at *) <;> omega) : BrLt x1 x2 a b := ⟨k, fun h => absurd h (by omega)⟩
theorem BrLe.n (k : x2 < x1 → b ()) (d : x2 < x1 := by (try simp only [vn] at *) <;> omega) : BrLe x1 x2 a b := ⟨fun h => absurd h (by omega), k⟩
theorem BrLe.y (k : x1 ≤ x2 → a ()) (d : x1 ≤ x2 := by (try simp only [vn] at *) <;> omega) : BrLe x1 x2 a b := ⟨k, fun h => absurd h (by omega)⟩
theorem BrB.y {s t : Bool} (k : s = t → a ()) (d : s = t := by decide) : BrB s t a b := ⟨k, fun h => absurd d h⟩
theorem LenL.k {xs : List AV} (k : ∀ z : Int, z = (xs.length : Int) → K z) : LenL xs K := ⟨k⟩
theorem LenM.k {xs : List (AV × AV)} (k : ∀ z : Int, z = (xs.length : Int) → K z) : LenM xs K := ⟨k⟩
theorem LenS.k {s : ByteArray} (k : ∀ z : Int, z = (s.size : Int) → K z) : LenS s K := ⟨k⟩
theorem AddK.k (k : ∀ z, z = x1 + x2 → K z) (d : -9223372036854775808 ≤ x1 + x2 ∧ x1 + x2 ≤ 9223372036854775807 := by (try simp only [vn] at *) <;> omega) : AddK .i64 x1 x2 K := ⟨fun z hz => k z (hz.trans (IntWalk.i64_in _ d))⟩
theorem MulK.k (k : ∀ z, z = x1 * x2 → K z) (d : -9223372036854775808 ≤ x1 * x2 ∧ x1 * x2 ≤ 9223372036854775807 := by (try simp only [vn] at *) <;> omega) : MulK .i64 x1 x2 K := ⟨fun z hz => k z (hz.trans (IntWalk.i64_in _ d))⟩
theorem SubK.k (k : ∀ z, z = x1 - x2 → K z) (d : -9223372036854775808 ≤ x1 - x2 ∧ x1 - x2 ≤ 9223372036854775807 := by (try simp only [vn] at *) <;> omega) : SubK .i64 x1 x2 K := ⟨fun z hz => k z (hz.trans (IntWalk.i64_in _ d))⟩
theorem CvK.o {K : Prop} (k : K) (d : -9223372036854775808 ≤ x1 ∧ x1 ≤ 9223372036854775807 := by (try simp only [vn] at *) <;> omega) : CvK .i64 x1 K := ⟨IntWalk.i64_in _ d, k⟩
theorem WSubK.k {i : IntKind} (k : ∀ z, z = i.wrap (x1 - x2) → K z) : WSubK i x1 x2 K := ⟨k⟩
theorem RemK.q (k : ∀ z, z = x1.tmod x2 → 0 ≤ z → z < x2 → K z) (d : 0 ≤ x1 ∧ 0 < x2 := by (try simp only [vn] at *) <;> omega) : RemK x1 x2 K := .pos d.1 d.2 k
theorem AppK.o {α : Type} {f : α → AV} {L2 : List α} {bytes : Nat} {K : List AV → Prop} (k : K (mapA f L2)) (d : L2.length ≤ maxLen ∧ L2.length * bytes ≤ 140737488355328 := by (try simp only [vn] at *) <;> (try unfold maxLen) <;> omega) : AppK [] (mapA f L2) bytes K := appK_nilA d k
theorem AppK.l {α : Type} {f : α → AV} {L L2 : List α} {bytes : Nat} {K : List AV → Prop} (k : ∀ L', L' = L ++ L2 → L'.length = L.length + L2.length → K (mapA f L')) (d : L.length + L2.length ≤ maxLen ∧ (L.length + L2.length) * bytes ≤ 140737488355328 := by (try simp only [vn] at *) <;> (try unfold maxLen) <;> omega) : AppK (mapA f L) (mapA f L2) bytes K := appK_mapA d k
theorem AppK.zl {xs ys : List AV} {bytes : Nat} {K : List AV → Prop} (k : ∀ zs, zs = xs ++ ys → zs.length = xs.length + ys.length → K zs) (d : xs.length + ys.length ≤ maxLen ∧ (xs.length + ys.length) * bytes ≤ 140737488355328 := by (try simp only [vn] at *) <;> (try unfold maxLen) <;> omega) : AppK xs ys bytes K := .mk' d k
theorem SetK.z {xs : List AV} {i : Nat} {x2 : AV} {K : List AV → Prop} (k : ∀ zs, zs = xs.set i x2 → K zs) : SetK xs i x2 K := ⟨k⟩
theorem AppM.ms {es : List (AV × AV)} {e : AV × AV} {K : List (AV × AV) → Prop} (k : ∀ ms, ms = es ++ [e] → K ms) : AppM es e K := ⟨k⟩
theorem DelM.ms {es : List (AV × AV)} {i : Nat} {K : List (AV × AV) → Prop} (k : ∀ ms, ms = es.eraseIdx i → K ms) : DelM es i K := ⟨k⟩
theorem SliK.l {α : Type} {f : α → AV} {L : List α} {lo hi : Option Int} {K : List AV → Prop} (k : ∀ L', L' = (L.take (hi.getD L.length).toNat).drop (lo.getD 0).toNat → (L'.length : Int) = hi.getD L.length - lo.getD 0 → K (mapA f L'))
  (d : 0 ≤ lo.getD 0 ∧ lo.getD 0 ≤ hi.getD L.length ∧ hi.getD L.length ≤ L.length := by (try dsimp only [Option.getD]); (try simp only [vn] at *) <;> omega) : SliK (mapA f L) lo hi K := sliK_mapA d k
theorem SliT.t {α : Type} {f : α → AV} {L : List α} {lo : Option Int} {K1 K2 : List AV → Prop} (k : ∀ L', L' = L.drop (lo.getD 0).toNat → K2 (mapA f L'))
  (d : 0 ≤ lo.getD 0 ∧ lo.getD 0 ≤ L.length := by (try dsimp only [Option.getD]); (try simp only [vn] at *) <;> omega) : SliT (mapA f L) lo K1 K2 :=
 ⟨.inr ⟨d.1, by rw [mapA_len]; exact d.2, fun ys hys => by rw [hys, mapA_eq, ← List.map_drop, ← mapA_eq]; exact k _ rfl⟩⟩
theorem SlsK.u {s : ByteArray} {lo hi : Option Int} {K : ByteArray → Prop} (k : ∀ u, u = s.extract (lo.getD 0).toNat (hi.getD s.size).toNat → (u.size : Int) = hi.getD s.size - lo.getD 0 → K u)
  (d : 0 ≤ lo.getD 0 ∧ lo.getD 0 ≤ hi.getD s.size ∧ hi.getD s.size ≤ s.size := by (try dsimp only [Option.getD]); (try simp only [vn] at *) <;> omega) : SlsK s lo hi K :=
 ⟨d, fun u hu => k u hu (by rw [hu, ByteArray.size_extract]; omega)⟩
theorem AskEl.e {α : Type} {f : α → AV} {L : List α} {i : Nat} {l : α} {K : Nat → AV → Prop} (k : K i (f l)) (h : L[i]? = some l := by assumption) : AskEl (mapA f L) (nI i) K := askEl_some h k
end
theorem askEl_int {α : Type} {f : α → AV} {L : List α} {z : Int} {K : Nat → AV → Prop} (h0 : 0 ≤ z) (h1 : z < L.length) (k : ∀ i l, z = nI i → L[i]? = some l → K i (f l)) : AskEl (mapA f L) z K := by
 obtain ⟨i, rfl⟩ := Int.eq_ofNat_of_zero_le h0
 obtain ⟨l, hl⟩ := some_at (L := L) (i := i) (by omega)
 exact askEl_some hl (k i l rfl hl)
theorem roundV {ι : Type} {M : Nat} {F : ι → St} {μ : ι → Ms} {n : Ms} {st : St} (j : ι) (hl : (μ j).val < n.val) (hw : weakT st.T (F j).T := by repeat' (first | exact trivial | refine ⟨.inl rfl, ?_⟩ | refine ⟨.inr rfl, ?_⟩))
  (hH : st.H.take (F j).H.length = (F j).H := by rfl) (hb : bndT (F j).H.length (F j).T = true := by rfl) (hbH : bndH (F j).H.length (F j).H = true := by rfl) (hM : M ≤ (F j).H.length := by exact Nat.le_of_ble_eq_true rfl) : RoundK M F μ n st :=
 roundW j hw hH hb hbH hM hl
theorem xloopV {P : Program} {N M : Nat} {c : XCode} {Q : XEx → St → Prop} {T : List (Nat × AV)} {H : List Ent} {ι : Type} (hs : List Nat) (F : ι → List (Nat × AV)) (G : ι → List Ent) (μ : ι → Ms) (i0 : ι)
  (hr : ∀ i, XW P N M c (XRound M (fun i => ⟨F i ++ keepT hs c.wr T, G i⟩) μ (μ i) Q) ⟨F i ++ keepT hs c.wr T, G i⟩)
  (hw : weakT T (F i0) := by repeat' (first | exact trivial | refine ⟨.inl rfl, ?_⟩ | refine ⟨.inr rfl, ?_⟩)) (hH : H.take (G i0).length = G i0 := by rfl) (hb : bndT (G i0).length (F i0 ++ keepT hs c.wr T) = true := by rfl) (hbH : bndH (G i0).length (G i0) = true := by rfl) (hM : M ≤ (G i0).length := by exact Nat.le_of_ble_eq_true rfl) : XLoopG P N M c Q ⟨T, H⟩ :=
 xloopK hs F G μ i0 hw hH hb hbH hM hr
theorem om9 {p : Prop} (h : p := by (try simp only [vn] at *) <;> omega) : p := h
theorem le9 {p : Prop} (h : p := by repeat' (first | exact LeL.nil | exact LeL0.nil | exact LeH.nil | exact LeE.refl _ | exact Le.refl _ | exact Le0.one (.refl _) | exact Le0.one (.nil _) | exact Le1.refl _ | exact Le1.nil _ | refine LeH.cons ?_ ?_ | refine LeE.row ?_ | refine LeE.blk ?_ | refine LeL0.cons ?_ ?_ | refine LeL.cons ?_ ?_ | refine Le0.agg ?_ | refine Le.tup ?_ | exact Le.one (.one (.nil _)) | refine Le.one (.agg ?_))) : p := h
theorem nb9 {a b : Nat} (h : Nat.ble a b = true := by rfl) : a ≤ b := Nat.le_of_ble_eq_true h
theorem FinK.r9 {M : Nat} {res : List XRes} {K : AV → List Ent → Prop} {st st' : St} (g : Gh M st st') (h : resW st' res fun l => K (tupAV l) st'.H ∨ K (viewR st' (tupAV l)) st'.H) : FinK M res K st := ⟨_, g, h⟩
theorem CutK.f9 {H : List Ent} {K : AV → List Ent → Prop} {x : AV} {H' H2 : List Ent} (hK : K x H2) (hH : H'.take H2.length = H2 := by rfl) (hM : H.length ≤ H2.length := by exact Nat.le_of_ble_eq_true rfl) (hb : x.bnd H2.length = true := by rfl) (hbH : bndH H2.length H2 = true := by rfl) : CutK H K x H' := .pre H2 hH hM hb hbH (Le.refl _) (LeH.refl _) hK
theorem CutK.g9 {H : List Ent} {K : AV → List Ent → Prop} {x x3 : AV} {H' H2 : List Ent} (hK : K x3 H2) (hH : H'.take H2.length = H2 := by rfl) (hM : H.length ≤ H2.length := by exact Nat.le_of_ble_eq_true rfl) (hb : x.bnd H2.length = true := by rfl) (hbH : bndH H2.length H2 = true := by rfl) (hx : Le x x3 := by repeat' (first | exact LeL.nil | exact LeL0.nil | exact LeH.nil | exact LeE.refl _ | exact Le.refl _ | exact Le0.one (.refl _) | exact Le0.one (.nil _) | exact Le1.refl _ | exact Le1.nil _ | refine LeH.cons ?_ ?_ | refine LeE.row ?_ | refine LeE.blk ?_ | refine LeL0.cons ?_ ?_ | refine LeL.cons ?_ ?_ | refine Le0.agg ?_ | refine Le.tup ?_ | exact Le.one (.one (.nil _)) | refine Le.one (.agg ?_))) : CutK H K x H' := .pre H2 hH hM hb hbH hx (LeH.refl _) hK
theorem CutK.v9 {K : AV → List Ent → Prop} {x : AV} {H' : List Ent} (hK : K x []) (hb : x.bnd 0 = true := by rfl) : CutK [] K x H' := .val hb (Le.refl _) hK
theorem c09 {P : Program} {f : Nat} {ι : Type} {a : ι → List AV} {p : ι → Prop} {r : ι → AV} (hf : FnOk P f (spec a (fun _ => []) p r fun _ => [])) (i : ι) {keep : List Nat} {st : St} {K : AV → St → Prop} (hp : p i) (hK : K (r i) st) (hb : AV.bndL 0 (a i) = true := by rfl) (hr : (r i).bnd 0 = true := by rfl) (hk : (keep.all fun k => Nat.blt k st.H.length) = true := by rfl) : CallG P keep f (a i) st K := callG_spec0 hf i hp hb hr hk hK
theorem cn9 {P : Program} {f : Nat} {ι : Type} {a : ι → List AV} {p : ι → Prop} {r : ι → AV} {h' : ι → List Ent} (hf : FnOk P f (spec a (fun _ => []) p r h')) (i : ι) {keep : List Nat} {st : St} {K : AV → St → Prop} (hp : p i) (hK : K ((r i).ren [] st.H.length) ⟨st.T, st.H ++ renH [] st.H.length (h' i)⟩) (hb : AV.bndL 0 (a i) = true := by rfl) (hk : (keep.all fun k => Nat.blt k st.H.length) = true := by rfl) : CallG P keep f (a i) st K := callG_new hf i hp hb hk hK
theorem cs9 {P : Program} {f : Nat} {ι : Type} {a : ι → List AV} {h : ι → List Ent} {p : ι → Prop} {r : ι → AV} {h' : ι → List Ent} (hf : FnOk P f (spec a h p r h')) (i : ι) (sel : List Nat) {keep : List Nat} {args : List AV} {st : St} {K : AV → St → Prop} (hp : p i) (hK : K ((r i).ren sel st.H.length) ⟨killTs st.T (rowIds sel (h i)), putE (killHs st.H (rowIds sel (h i))) sel (renH sel st.H.length (h' i))⟩)
 (ha : args = AV.renL sel st.H.length (a i) := by rfl) (hlen : sel.length = (h i).length := by rfl) (hnd : sel.Nodup := by decide) (hlt : (sel.all fun k => Nat.blt k st.H.length) = true := by rfl) (hH : sel.map (fun k => st.H[k]?) = (renH sel st.H.length (h i)).map some := by rfl) (hb : AV.bndL (h i).length (a i) = true := by rfl) (hbH : bndH (h i).length (h i) = true := by rfl) (hkeep : (keep.all fun k => !sel.contains k && Nat.blt k st.H.length) = true := by rfl) : CallG P keep f args st K := callG_spec hf i sel hp ha hlen hnd hlt hH hb hbH hkeep hK
def dieH : List Ent → List Nat → List Ent
 | H, [] => H
 | H, q :: s => dieH (H.set q .dead) s
theorem dieH_len : ∀ (s : List Nat) (H : List Ent), (dieH H s).length = H.length
 | [], H => rfl
 | q :: s, H => by unfold dieH; rw [dieH_len s, List.length_set]
theorem dieH_get : ∀ (s : List Nat) (H : List Ent) (n : Nat) (e : Ent), (dieH H s)[n]? = some e → (n ∈ s ∧ e = .dead) ∨ (n ∉ s ∧ H[n]? = some e)
 | [], H, n, e, h => .inr ⟨by simp, h⟩
 | q :: s, H, n, e, h => by
  unfold dieH at h
  rcases dieH_get s _ n e h with ⟨h1, h2⟩ | ⟨h1, h2⟩
  ·exact .inl ⟨List.mem_cons_of_mem _ h1, h2⟩
  ·by_cases hq : q = n
   ·subst hq
    have hl := (List.getElem?_eq_some_iff.1 h2).1
    rw [List.length_set] at hl
    rw [List.getElem?_set_self hl] at h2
    cases h2
    exact .inl ⟨List.mem_cons_self .., rfl⟩
   ·rw [List.getElem?_set_ne hq] at h2
    refine .inr ⟨fun hm => ?_, h2⟩
    rcases List.mem_cons.1 hm with hm | hm
    ·exact hq hm.symm
    ·exact h1 hm
theorem flat_nodup {α : Type} (f : α → List Nat) : ∀ (l : List α), (∀ (i : Nat) (x : α), l[i]? = some x → (f x).Nodup) → (∀ (i j : Nat) (x y : α), i ≠ j → l[i]? = some x → l[j]? = some y → ∀ b ∈ f x, b ∉ f y) → (l.flatMap f).Nodup
 | [], _, _ => by simp
 | z :: l, h1, h2 => by
  rw [List.flatMap_cons, List.nodup_append]
  refine ⟨h1 0 z rfl, flat_nodup f l (fun i x hx => h1 (i + 1) x (by simpa using hx)) (fun i j x y hij hx hy => h2 (i + 1) (j + 1) x y (by omega) (by simpa using hx) (by simpa using hy)), fun b hb c hc e => ?_⟩
  subst e
  obtain ⟨u, hu, hb'⟩ := List.mem_flatMap.1 hc
  obtain ⟨q, hq⟩ := List.getElem?_of_mem hu
  exact h2 0 (q + 1) z u (by omega) rfl (by simpa using hq) b hb hb'
theorem foot1_nodup (v : Value) : (foot1 v).Nodup := by
 cases v with
 | pointer A => cases A <;> simp [foot1]
 | slice A _ _ => cases A <;> simp [foot1]
 | map b => cases b <;> simp [foot1]
 | _ => simp [foot1]
def plainE : Ent → Bool
 | .dead => false
 | .pool .. => false
 | _ => true
theorem ERel.plain_ {pub : Pub} {w : World} {r : Rho} {h : Option Value} {e : Ent} (he : ERel pub w r h e) (hp : plainE e = true) : ∃ y, h = some y ∧ isTup y = false := by
 cases he <;> first | exact ⟨_, rfl, rfl⟩ | cases hp
theorem Gh.putIn {M : Nat} {st : St} (k p : Nat) (sel : List Nat) (hd : AV) (l : List Ent) {t : TypeId} {es : List PEl} {outs : List (Nat × AV)} {i : Nat} {x key : AV} (hk : st.H[k]? = some (.pool t es outs)) (ho : outs[p]? = some (i, x)) (hu : ∀ y, (i, y) ∉ outs.eraseIdx p)
  (hke : (es[i]?).map (·.1) = some key) (hx : x = hd.ren sel 0) (hH : sel.map (fun q => st.H[q]?) = (renH sel 0 l).map some) (hnd : sel.Nodup) (hsel : sel.all (fun q => Nat.ble M q && q != k) = true) (hb : hd.bnd sel.length = true) (hbH : bndH sel.length l = true) (hpl : l.all plainE = true) :
  Gh M st ⟨killTs st.T sel, dieH (killHs (st.H.set k (.pool t (es.set i (key, hd, l)) (outs.eraseIdx p))) sel) sel⟩ := fun C a w r pub hCm h => by
 have hlen : sel.length = l.length := by have := congrArg List.length hH; simpa [renH_map] using this
 have hkl : k < st.H.length := (List.getElem?_eq_some_iff.1 hk).1
 have hksel : k ∉ sel := fun hm => by have := List.all_eq_true.1 hsel k hm; simp at this
 obtain ⟨b, ms, inner, hrk, R⟩ := h.ent_pool hk
 have hom : (i, x) ∈ outs := List.mem_of_getElem? ho
 obtain ⟨hi0, hix⟩ := R.hout i x hom
 have hil : i < es.length := by rw [← R.hn]; exact (List.getElem?_eq_some_iff.1 hi0).1
 obtain ⟨mi, hmi⟩ : ∃ m, ms[i]? = some m := ⟨_, Array.getElem?_eq_getElem (by rw [R.hl]; exact hil)⟩
 have hsi : ∀ j (hj : j < sel.length), sigma sel 0 j = sel[j] := fun j hj => sigma_lt hj
 have hent : ∀ j d, l[j]? = some d → ∃ (hj : j < sel.length), st.H[sel[j]]? = some (d.ren sel 0) := fun j d hd0 => by
  have hj : j < sel.length := by rw [hlen]; exact (List.getElem?_eq_some_iff.1 hd0).1
  have h1 := congrArg (fun l => l[j]?) hH
  simp only [List.getElem?_map, renH_map, hd0, Option.map_some, List.getElem?_eq_getElem hj] at h1
  exact ⟨hj, by simpa using h1⟩
 have hval : ∀ j (hj : j < sel.length), ∃ y, r sel[j] = some y ∧ isTup y = false := fun j hj => by
  have hjl : j < l.length := by omega
  obtain ⟨_, h1⟩ := hent j _ (List.getElem?_eq_getElem hjl)
  have h2 := h.mod.ent _ _ h1
  refine h2.plain_ ?_
  have := List.all_eq_true.1 hpl _ (List.getElem_mem hjl)
  revert this
  cases l[j] <;> exact fun h => h
 obtain ⟨vs, hvs⟩ : ∃ vs : List Value, vs = sel.map fun q => (r q).getD undef := ⟨_, rfl⟩
 have hvl : vs.length = sel.length := by rw [hvs, List.length_map]
 have hvg : ∀ j (hj : j < sel.length), vs[j]? = r sel[j] := fun j hj => by
  obtain ⟨y, hy, _⟩ := hval j hj
  rw [hvs, List.getElem?_map, List.getElem?_eq_getElem hj, Option.map_some, hy]
  rfl
 have hvt : ∀ v ∈ vs, ∃ j, ∃ (hj : j < sel.length), r sel[j] = some v ∧ isTup v = false := fun v hv => by
  obtain ⟨j, hj⟩ := List.getElem?_of_mem hv
  have hjl : j < sel.length := by rw [← hvl]; exact (List.getElem?_eq_some_iff.1 hj).1
  obtain ⟨y, hy, ht⟩ := hval j hjl
  rw [hvg j hjl, hy] at hj
  cases hj
  exact ⟨j, hjl, hy, ht⟩
 have hvt2 : ∀ v ∈ vs, isTup v = false := fun v hv => by obtain ⟨_, _, _, h⟩ := hvt v hv; exact h
 have hunr : ∀ q y, q < sel.length → r (sigma sel 0 q) = some y → rhoL vs q = some y := fun q y hq hy => by
  rw [hsi q hq] at hy
  exact (hvg q hq).trans hy
 have hfo : ∀ n, n ∈ foot (superH b (inner.set i vs)) → n ∈ foot (superH b inner) ∨ ∃ j, ∃ (hj : j < sel.length), ∃ y, r sel[j] = some y ∧ n ∈ foot y := fun n hn => by
  rcases foot_super_mem.1 hn with h1 | ⟨j, us, v, h1, h2, h3⟩
  ·exact .inl (foot_super_mem.2 (.inl h1))
  ·by_cases e : i = j
   ·subst e
    rw [List.getElem?_set_self (by rw [R.hn]; exact hil)] at h1
    cases h1
    obtain ⟨j, hj, h4, h5⟩ := hvt v h2
    exact .inr ⟨j, hj, v, h4, by rw [foot_one h5]; exact h3⟩
   ·rw [List.getElem?_set_ne e] at h1
    exact .inl (foot_super_mem.2 (.inr ⟨j, us, v, h1, h2, h3⟩))
 have hP : ERel pub w r (some (superH b (inner.set i vs))) (.pool t (es.set i (key, hd, l)) (outs.eraseIdx p)) := by
  have hmem : ∀ {j : Nat} {y : AV}, (j, y) ∈ outs.eraseIdx p → (j, y) ∈ outs := fun hm => List.mem_of_mem_eraseIdx hm
  have hne : ∀ {j : Nat} {y : AV}, (j, y) ∈ outs.eraseIdx p → i ≠ j := fun {j y} hm e => by subst e; exact hu y hm
  have hback : ∀ {j : Nat}, i ≠ j → (∀ y, (j, y) ∉ outs.eraseIdx p) → ∀ y, (j, y) ∉ outs := fun {j} hij hn y hy => by
   obtain ⟨q, hq⟩ := List.getElem?_of_mem hy
   have hqp : q ≠ p := by rintro rfl; rw [ho] at hq; cases hq; exact hij rfl
   refine hn y ?_
   rcases Nat.lt_or_ge q p with h1 | h1
   ·exact List.mem_of_getElem? (i := q) (by rw [List.getElem?_eraseIdx, if_pos h1]; exact hq)
   ·exact List.mem_of_getElem? (i := q - 1) (by rw [List.getElem?_eraseIdx, if_neg (by omega)]; rw [show q - 1 + 1 = q by omega]; exact hq)
  have hndo := R.hnd
  rw [foot_super, List.nodup_cons] at hndo
  refine .pool R.hb (by rw [List.length_set]; exact R.hl) (by rw [List.length_set, List.length_set]; exact R.hn) R.hborn ?_ (fun j y hy => ?_) (fun j e us m hno he hus hm => ?_) (fun j e us q d hno he hus hd0 => ?_) ?_ R.hp
  ·have : (es.set i (key, hd, l)).map (·.1) = es.map (·.1) := by
    rw [List.map_set]
    have h1 : (es.map (·.1))[i]? = some key := by rw [List.getElem?_map]; exact hke
    exact List.ext_getElem? fun q => by
     rw [List.getElem?_set]
     split
     ·rename_i e; subst e; rw [List.length_map, if_pos hil, h1]
     ·rfl
   rw [this]
   exact R.hk
  ·have hij := hne hy
   rw [List.getElem?_set_ne hij]
   exact R.hout j y (hmem hy)
  ·by_cases hij : i = j
   ·subst hij
    rw [List.getElem?_set_self hil] at he
    rw [List.getElem?_set_self (by rw [R.hn]; exact hil)] at hus
    cases he
    cases hus
    rw [hmi] at hm
    cases hm
    refine ⟨by rw [hvl, hlen], hvt2, ?_⟩
    refine (hix mi hmi).unren hd hx fun q y hq hy => hunr q y (AV.bnd_has _ hb hq) hy
   ·rw [List.getElem?_set_ne hij] at he hus
    exact R.hin j e us m (hback hij hno) he hus hm
  ·by_cases hij : i = j
   ·subst hij
    rw [List.getElem?_set_self hil] at he
    rw [List.getElem?_set_self (by rw [R.hn]; exact hil)] at hus
    cases he
    cases hus
    obtain ⟨hql, h1⟩ := hent q d hd0
    have h2 := h.mod.ent _ _ h1
    rw [hvg q hql]
    exact h2.unren (bndH_get hbH q d hd0) fun q y hq hy => hunr q y hq hy
   ·rw [List.getElem?_set_ne hij] at he hus
    exact R.hie j e us q d (hback hij hno) he hus hd0
  ·have hself : ∀ (j : Nat) (us : List Value), (inner.set i vs)[j]? = some us → (i = j ∧ us = vs) ∨ (i ≠ j ∧ inner[j]? = some us) := fun j us hus => by
    by_cases hij : i = j
    ·subst hij
     rw [List.getElem?_set_self (by rw [R.hn]; exact hil)] at hus
     cases hus
     exact .inl ⟨rfl, rfl⟩
    ·rw [List.getElem?_set_ne hij] at hus
     exact .inr ⟨hij, hus⟩
   have hfar : ∀ n, n ∈ vs.flatMap foot1 → n ∉ foot (superH b inner) := fun n hn hn2 => by
    obtain ⟨v, hv, h1⟩ := List.mem_flatMap.1 hn
    obtain ⟨j, hj, h2, h3⟩ := hvt v hv
    exact h.mod.disj k sel[j] _ _ (fun e => hksel (by rw [e]; exact List.getElem_mem hj)) hrk h2 n hn2 (by rw [foot_one h3]; exact h1)
   have hin2 : ∀ (j : Nat) (us : List Value) (n : Nat), inner[j]? = some us → n ∈ us.flatMap foot1 → n ∈ foot (superH b inner) := fun j us n hus hn => by
    obtain ⟨v, hv, h1⟩ := List.mem_flatMap.1 hn
    exact foot_super_mem.2 (.inr ⟨j, us, v, hus, hv, h1⟩)
   rw [foot_super, List.nodup_cons]
   refine ⟨fun hm => ?_, flat_nodup _ _ (fun j us hus => ?_) (fun j j' us us' hjj hus hus' n hn hn' => ?_)⟩
   ·obtain ⟨us, hus, h1⟩ := List.mem_flatMap.1 hm
    obtain ⟨j, hj⟩ := List.getElem?_of_mem hus
    rcases hself j us hj with ⟨_, rfl⟩ | ⟨_, h2⟩
    ·exact hfar b h1 (foot_super_mem.2 (.inl rfl))
    ·exact hndo.1 (List.mem_flatMap.2 ⟨us, List.mem_of_getElem? h2, h1⟩)
   ·rcases hself j us hus with ⟨_, rfl⟩ | ⟨_, h2⟩
    ·refine flat_nodup _ _ (fun q v _ => foot1_nodup v) (fun q q' v v' hqq hv hv' n hn hn' => ?_)
     have hql : q < sel.length := by rw [← hvl]; exact (List.getElem?_eq_some_iff.1 hv).1
     have hql' : q' < sel.length := by rw [← hvl]; exact (List.getElem?_eq_some_iff.1 hv').1
     have ht := hvt2 v (List.mem_of_getElem? hv)
     have ht' := hvt2 v' (List.mem_of_getElem? hv')
     rw [hvg q hql] at hv
     rw [hvg q' hql'] at hv'
     exact h.mod.disj sel[q] sel[q'] v v' (fun e => hqq (nodup_inj hnd e)) hv hv' n (by rw [foot_one ht]; exact hn) (by rw [foot_one ht']; exact hn')
    ·have : (us.flatMap foot1).Sublist (inner.flatMap fun vs => vs.flatMap foot1) := List.sublist_flatten_of_mem (List.mem_map.2 ⟨us, List.mem_of_getElem? h2, rfl⟩)
     exact this.nodup hndo.2
   ·rcases hself j us hus with ⟨e1, rfl⟩ | ⟨e1, h2⟩
    ·rcases hself j' us' hus' with ⟨e2, rfl⟩ | ⟨e2, h2'⟩
     ·omega
     ·exact hfar n hn (hin2 j' us' n h2' hn')
    ·rcases hself j' us' hus' with ⟨e2, rfl⟩ | ⟨e2, h2'⟩
     ·exact hfar n hn' (hin2 j us n h2 hn)
     ·exact flat_disj _ _ hndo.2 j j' us us' hjj h2 h2' n hn hn'
 let r' : Rho := fun q => if q = k then some (superH b (inner.set i vs)) else without r sel q
 have rk : r' k = some (superH b (inner.set i vs)) := if_pos rfl
 have rw_ : ∀ q, q ≠ k → r' q = without r sel q := fun q hq => if_neg hq
 have rold : ∀ q, q ≠ k → q ∉ sel → r' q = r q := fun q h1 h2 => by rw [rw_ q h1]; simp [without, h2]
 have rsel : ∀ q, q ∈ sel → r' q = none := fun q hq => by rw [rw_ q (by rintro rfl; exact hksel hq)]; simp [without, hq]
 have hwk : without r sel k = some (superH b inner) := by simp [without, hksel, hrk]
 obtain ⟨a1, q1, q2⟩ := superH_zero b inner
 obtain ⟨a2, q3, q4⟩ := superH_zero b (inner.set i vs)
 have hsub : ∀ z v, VRel pub w (without r sel) z v → VRel pub w r' z v := fun z v hv => hv.super (by rw [hwk, q1]) (by rw [rk, q3]) (q4.trans q2.symm) (fun q y hq hy => by rw [rw_ q hq]; exact hy)
 have hsome : ∀ q y, r' q = some y → (q = k ∧ y = superH b (inner.set i vs)) ∨ (q ≠ k ∧ q ∉ sel ∧ r q = some y) := fun q y hy => by
  by_cases h1 : q = k
  ·subst h1; rw [rk] at hy; cases hy; exact .inl ⟨rfl, rfl⟩
  ·by_cases h2 : q ∈ sel
   ·rw [rsel q h2] at hy; cases hy
   ·rw [rold q h1 h2] at hy; exact .inr ⟨h1, h2, hy⟩
 have hkill := killHs_len sel (st.H.set k (.pool t (es.set i (key, hd, l)) (outs.eraseIdx p)))
 refine ⟨r', pub, ⟨⟨fun q e he => ?_, fun q hq => ?_, fun p' q y z hpq hy hz n hn hn2 => ?_, h.mod.fresh, h.mod.there, h.mod.glob⟩, fun q y hy n hn => ?_, h.fr, fun n => hsub _ _ (killTs_get sel st.T r (h.slots n)), h.defers, h.size, fun q y hy hs => ?_, ⟨h.low.1, ?_⟩⟩⟩
 ·rcases dieH_get sel _ q e he with ⟨hq, rfl⟩ | ⟨hq, he⟩
  ·rw [rsel q hq]; exact .dead
  ·by_cases h1 : q = k
   ·subst h1
    obtain ⟨e0, h2, h3⟩ := killHs_get (pub := pub) (w := w) (hd := some (superH b (inner.set i vs))) sel _ r q e he
    rw [List.getElem?_set_self hkl] at h2
    cases h2
    rw [rk]
    exact (h3 hP).sub hsub
   ·obtain ⟨e0, h2, h3⟩ := killHs_get (pub := pub) (w := w) (hd := r q) sel _ r q e he
    rw [List.getElem?_set_ne (Ne.symm h1)] at h2
    rw [rold q h1 hq]
    exact (h3 (h.mod.ent q e0 h2)).sub hsub
 ·rw [dieH_len, hkill, List.length_set] at hq
  rw [rw_ q (by omega)]
  unfold without
  split
  ·rfl
  ·exact h.mod.none_ q hq
 ·rcases hsome p' y hy with ⟨rfl, rfl⟩ | ⟨h1, h2, h3⟩
  ·rcases hsome q z hz with ⟨rfl, rfl⟩ | ⟨h4, h5, h6⟩
   ·exact hpq rfl
   ·rcases hfo n hn with h7 | ⟨j, hj, y, h7, h8⟩
    ·exact h.mod.disj _ _ _ _ hpq hrk h6 n h7 hn2
    ·exact h.mod.disj _ _ _ _ (fun e => h5 (by rw [← e]; exact List.getElem_mem hj)) h7 h6 n h8 hn2
  ·rcases hsome q z hz with ⟨rfl, rfl⟩ | ⟨h4, h5, h6⟩
   ·rcases hfo n hn2 with h7 | ⟨j, hj, y, h7, h8⟩
    ·exact h.mod.disj _ _ _ _ (Ne.symm hpq) hrk h3 n h7 hn
    ·exact h.mod.disj _ _ _ _ (fun e => h2 (by rw [← e]; exact List.getElem_mem hj)) h7 h3 n h8 hn
   ·exact h.mod.disj _ _ _ _ hpq h3 h6 n hn hn2
 ·rcases hsome q y hy with ⟨rfl, rfl⟩ | ⟨h1, h2, h3⟩
  ·rcases hfo n hn with h7 | ⟨j, hj, y, h7, h8⟩
   ·exact h.own _ _ hrk n h7
   ·exact h.own _ _ h7 n h8
  ·exact h.own q y h3 n hn
 ·have h1 := h.stab q y hy hs
  have hqm : q < C.m := by
   rcases Nat.lt_or_ge q C.m with h2 | h2
   ·exact h2
   ·rw [h.low.1 q h2] at hy; cases hy
  have hqk : q ≠ k := by
   rintro rfl
   rw [hrk] at h1
   cases h1
   cases hs
  have hqs : q ∉ sel := fun hm => by
   have := List.all_eq_true.1 hsel q hm
   simp only [Bool.and_eq_true, Nat.ble_eq] at this
   omega
  rw [rold q hqk hqs]
  exact h1
 ·have := h.low.2
  dsimp only
  rw [dieH_len, hkill, List.length_set]
  exact this
def letB (n : Int) : Bool := decide (97 ≤ n) && decide (n ≤ 122)
def digB (n : Int) : Bool := decide (48 ≤ n) && decide (n ≤ 57)
def chB (c : UInt8) : Bool := letB c.toNat || digB c.toNat || decide ((c.toNat : Int) = 45)
def nameB (s : ByteArray) : Bool := decide (1 ≤ s.size) && decide (s.size ≤ 16) && s.data.toList.all chB
def firstAll (s : ByteArray) (k : Nat) : Prop := ∀ j (h : j < s.size), j < k → chB s[j] = true
theorem firstAll_zero (s : ByteArray) : firstAll s 0 := fun _ _ h => absurd h (by omega)
theorem firstAll_succ {s : ByteArray} {k : Nat} (hk : k < s.size) (h : firstAll s k) (hc : chB s[k] = true) : firstAll s (k + 1) := fun j hj hjk => by
  by_cases e : j = k
  · subst e; exact hc
  · exact h j hj (by omega)
theorem nameB_all {s : ByteArray} (h : firstAll s s.size) : nameB s = (decide (1 ≤ s.size) && decide (s.size ≤ 16)) := by
  have : s.data.toList.all chB = true := by
    rw [List.all_eq_true]
    intro c hc
    obtain ⟨j, hj, rfl⟩ := List.getElem_of_mem hc
    exact h j (by simpa using hj) (by simpa using hj)
  simp [nameB, this]
theorem nameB_not {s : ByteArray} {k : Nat} (hk : k < s.size) (h : chB s[k] = false) : nameB s = false := by
  have : s.data.toList.all chB = false := by
    rw [← Bool.not_eq_true, List.all_eq_true]
    intro hh
    have := hh (s[k]) (by exact List.getElem_mem (l := s.data.toList) (by simpa using hk))
    rw [h] at this
    cases this
  simp [nameB, this]
def zs (d : Nat) (o : XOp) : XStep := ⟨some d, none, o⟩
def zm (d a : Nat) : XStep := ⟨some d, none, .mov (.t a)⟩
def zf (d f a : Nat) : XStep := ⟨some d, none, .fad f (.t a)⟩
def zl (d a : Nat) : XStep := ⟨some d, none, .ld false 1 (.t a)⟩
def zg (d g : Nat) (b : Bool) (o : XOp) : XStep := ⟨some d, some (g, b), o⟩
def zh (d g : Nat) (b : Bool) (a : Nat) : XStep := ⟨some d, some (g, b), .mov (.t a)⟩
def zn (o : XOp) : XStep := ⟨none, none, o⟩
def yl (d a : Nat) : XStep := zs d (.lenl (.t a))
def yz (d a : Nat) : XStep := zs d (.lens (.t a))
def yi (d n a b : Nat) : XStep := zs d (.iad n (.t a) (.t b))
def yt (d n a : Nat) : XStep := zs d (.ld true n (.t a))
def yc (d : Nat) (o : BinOp) (a b : Nat) : XStep := zs d (.cmp o (.t a) (.t b))
def yk (d : Nat) (o : BinOp) (a : Nat) (n : Int) : XStep := zs d (.cmp o (.t a) (.c (.int .i64 n)))
def yn (d : Nat) (n : Int) : XStep := zs d (.mov (.c (.int .i64 n)))
def yb (d : Nat) (b : Bool) : XStep := zs d (.mov (.c (.bl b)))
def yp (d a : Nat) : XStep := zs d (.ari .add .i64 (.t a) (.c (.int .i64 1)))
def ya (d : Nat) (o : BinOp) (k : IntKind) (a b : Nat) : XStep := zs d (.ari o k (.t a) (.t b))
def yq (d a : Nat) (b : Bool) (c : Nat) : XStep := zs d (.pick (.t a) (.c (.bl b)) (.t c))
def yr (d a c : Nat) (b : Bool) : XStep := zs d (.pick (.t a) (.t c) (.c (.bl b)))
def yx (d a n : Nat) : XStep := zs d (.ext (.t a) n)
def yo (d a : Nat) : XStep := zs d (.not (.t a))
def ys (n a b : Nat) : XStep := zn (.st n (.t a) (.t b))
def gl (d g : Nat) (b : Bool) (a : Nat) : XStep := zg d g b (.ld false 1 (.t a))
def gf (d g : Nat) (b : Bool) (f a : Nat) : XStep := zg d g b (.fad f (.t a))
def ge (d g : Nat) (b : Bool) (a : Nat) : XStep := zg d g b (.lenl (.t a))
def gz (d g : Nat) (b : Bool) (a : Nat) : XStep := zg d g b (.lens (.t a))
def gc (d g : Nat) (b : Bool) (o : BinOp) (a c : Nat) : XStep := zg d g b (.cmp o (.t a) (.t c))
def gk (d g : Nat) (b : Bool) (o : BinOp) (a : Nat) (n : Int) : XStep := zg d g b (.cmp o (.t a) (.c (.int .i64 n)))
def ga (d g : Nat) (b : Bool) (o : BinOp) (k : IntKind) (a c : Nat) : XStep := zg d g b (.ari o k (.t a) (.t c))
def go (d g : Nat) (b : Bool) (a : Nat) : XStep := zg d g b (.not (.t a))
def gi (d g : Nat) (b : Bool) (n a c : Nat) : XStep := zg d g b (.iad n (.t a) (.t c))
def zr (l : List XStep) (c : XCode) : XCode := .seq (.reg l) c
def x10 : XFn := ⟨64, zr [yb 0 false] (zr [zs 8 (.call 31 [.c (.str ⟨#[99]⟩)]), zm 1 8] (zr [zs 2 (.mov (.c (.str ⟨#[97, 97, 97, 97, 48, 48, 48, 48, 48, 49, 50, 48]⟩))), zs 3 (.mov (.c (.str ⟨#[97, 97, 97, 97, 48, 48, 48, 48, 48, 50, 51, 48]⟩)))] (.seq (zr [zm 9 1, zs 10 (.cmn false (.t 9)), zm 11 10, zh 12 11 false 1, zh 13 11 false 2, zh 14 11 false 3, zg 15 11 false (.bsp 9 1 2 [.str ⟨#[]⟩] [(0, .t 13), (1, .t 14)]), zg 16 11 false (.bld [.str ⟨#[]⟩, .str ⟨#[]⟩, .str ⟨#[]⟩, .str ⟨#[]⟩, .str ⟨#[]⟩, .v (.slice none 0 0), .v (.slice none 0 0), .int .i64 0, .bl false] [(0, (1, .c (.str ⟨#[110, 49]⟩))), (1, (1, .c (.str ⟨#[99]⟩))), (2, (1, .c (.str ⟨#[115]⟩))), (3, (1, .c (.str ⟨#[102]⟩))), (4, (1, .c (.str ⟨#[116]⟩))), (5, (1, .t 15))]), zg 17 11 false (.call 32 [.t 12, .t 16, .c (.str ⟨#[97]⟩)]), gk 18 11 false .neq 17 0, yq 19 11 true 18] (.cond (.t 19) (zr [yb 0 false] .ret) .skip)) (zr [zm 20 1, zm 21 3, zs 22 (.bsp 9 1 1 [.str ⟨#[]⟩] [(0, .t 21)]), zm 23 2, zs 24 (.bsp 9 1 1 [.str ⟨#[]⟩] [(0, .t 23)]), zs 25 (.bsl 31 1 2 [.v (.slice none 0 0)] [(0, .t 22), (1, .t 24)]), zs 26 (.bsl 9 1 2 [.str ⟨#[]⟩] [(0, .c (.str ⟨#[110, 50]⟩)), (1, .c (.str ⟨#[110, 51]⟩))]), zs 27 (.call 15 [.t 20, .c (.str ⟨#[110, 49]⟩), .c (.str ⟨#[97]⟩), .t 25, .t 26, .c (.int .i64 1)]), zm 4 27] (zr [zm 28 1, zs 29 (.bsl 9 1 2 [.str ⟨#[]⟩] [(0, .c (.str ⟨#[110, 50]⟩)), (1, .c (.str ⟨#[110, 51]⟩))]), zs 30 (.call 16 [.t 28, .t 29, .c (.str ⟨#[97]⟩), .c (.str ⟨#[110, 52]⟩), .c (.int .i64 2)]), zm 5 30] (zr [zm 32 1, zs 33 (.call 13 [.t 32, .c (.str ⟨#[110, 52]⟩)]), zm 31 33, yx 34 31 0, yx 35 31 1, zs 6 (.alloc 33 [.str ⟨#[]⟩, .str ⟨#[]⟩, .str ⟨#[]⟩, .str ⟨#[]⟩, .str ⟨#[]⟩, .v (.slice none 0 0), .v (.slice none 0 0), .int .i64 0, .bl false]), ys 9 6 34, zm 7 35] (zr [zm 36 4, yk 37 .eql 36 0, zm 38 37, zh 39 38 true 5, gk 40 38 true .eql 39 0, yr 41 38 40 false, zm 42 41, zh 43 42 true 1, zg 44 42 true (.call 17 [.t 43, .c (.str ⟨#[110, 49]⟩)]), gk 45 42 true .eql 44 4, yr 46 42 45 false, zm 47 46, zh 48 47 true 7, yr 49 47 48 false, zm 50 49, gf 51 50 true 5 6, gl 52 50 true 51, zh 53 50 true 3, zh 54 50 true 2, zg 55 50 true (.bsl 9 1 2 [.str ⟨#[]⟩] [(0, .t 53), (1, .t 54)]), zg 56 50 true (.call 18 [.t 52, .t 55]), yr 57 50 56 false, zm 58 57, zh 59 58 true 1, zg 60 58 true (.call 24 [.t 59, .c (.str ⟨#[110, 52]⟩)]), zg 61 58 true (.bsl 9 1 3 [.str ⟨#[]⟩] [(0, .c (.str ⟨#[110, 49]⟩)), (1, .c (.str ⟨#[110, 50]⟩)), (2, .c (.str ⟨#[110, 51]⟩))]), zg 62 58 true (.call 18 [.t 60, .t 61]), yr 63 58 62 false, zm 0 63] .ret))))))), [.tmp 0]⟩
def x11 : XFn := ⟨67, zr [yb 2 false] (.seq (zr [yn 3 0] (.block 0 (.loop (.seq (zr [zm 5 3, zm 6 0, yl 7 6, yc 8 .lss 5 7] (.cond (.t 8) .skip (.exit 0))) (.seq (.block 1 (zr [zm 11 0, zm 12 3, yi 13 15 11 12, yt 14 15 13, zs 4 (.alloc 73 [.int .i64 0, .int .i64 0, .int .i64 0, .str ⟨#[]⟩, .str ⟨#[]⟩, .str ⟨#[]⟩, .str ⟨#[]⟩, .str ⟨#[]⟩, .str ⟨#[]⟩, .str ⟨#[]⟩, .str ⟨#[]⟩, .v (.slice none 0 0), .v (.slice none 0 0), .int .i64 0, .bl false]), ys 15 4 14] (zr [zm 15 3, yk 16 .gtr 15 40, zm 17 16, gf 18 17 false 3 4, gl 19 17 false 18, gz 20 17 false 19, gf 21 17 false 4 4, gl 22 17 false 21, gz 23 17 false 22, ga 24 17 false .add .i64 20 23, gf 25 17 false 5 4, gl 26 17 false 25, gz 27 17 false 26, ga 28 17 false .add .i64 24 27, gk 29 17 false .gtr 28 200, yq 30 17 true 29, zm 31 30, gf 32 31 false 6 4, gf 33 31 false 5 32, gl 34 31 false 33, ge 35 31 false 34, gk 36 31 false .gtr 35 70, yq 37 31 true 36, zm 38 37, gf 39 38 false 6 4, gf 40 38 false 6 39, gl 41 38 false 40, ge 42 38 false 41, gk 43 38 false .gtr 42 70, yq 44 38 true 43, zm 45 44, gf 46 45 false 6 4, gf 47 45 false 0 46, gl 48 45 false 47, gz 49 45 false 48, gf 50 45 false 6 4, gf 51 45 false 2 50, gl 52 45 false 51, gz 53 45 false 52, ga 54 45 false .add .i64 49 53, gf 55 45 false 6 4, gf 56 45 false 3 55, gl 57 45 false 56, gz 58 45 false 57, ga 59 45 false .add .i64 54 58, gf 60 45 false 6 4, gf 61 45 false 4 60, gl 62 45 false 61, gz 63 45 false 62, ga 64 45 false .add .i64 59 63, gk 65 45 false .gtr 64 300, yq 66 45 true 65] (.cond (.t 66) (zr [yb 2 false] .ret) .skip)))) (.reg [zm 9 3, yp 10 9, zm 3 10])))))) (zr [yb 2 true] .ret)), [.tmp 2]⟩
def x12 : XFn := ⟨46, zr [zs 2 (.mov (.c (.v (.pointer none)))), zs 3 (.alloc 28 [.str ⟨#[]⟩, .v (.slice none 0 0)])] (zr [zs 7 (.call 31 [.c (.str ⟨#[99]⟩)]), zs 8 (.bld [.str ⟨#[]⟩, .v (.slice none 0 0)] [(0, (1, .c (.str ⟨#[99]⟩)))]), zs 5 (.alloc 28 [.str ⟨#[]⟩, .v (.slice none 0 0)]), zm 4 7, ys 2 5 8] (.seq (zr [yn 6 0] (.block 0 (.loop (.seq (zr [zm 9 6, zm 10 0, yl 11 10, yc 12 .lss 9 11] (.cond (.t 12) .skip (.exit 0))) (.seq (.block 1 (.seq (zr [zm 15 0, zm 16 6, yi 17 15 15 16, zf 18 0 17, zl 19 18, yk 20 .lss 19 0, zm 21 20, zh 22 21 false 0, zh 23 21 false 6, gi 24 21 false 15 22 23, gf 25 21 false 0 24, gl 26 21 false 25, gk 27 21 false .gtr 26 5, yq 28 21 true 27] (.cond (.t 28) (.exit 1) .skip)) (zr [zm 29 4, zm 30 0, zm 31 6, yi 32 15 30 31, yt 33 15 32, zs 34 (.call 33 [.t 29, .t 33])] (.dreg (.take 0 (yt 36 2 5) (.take 1 (zm 37 0) (.take 2 (zm 38 6) (.take 3 (yi 39 15 37 38) (.take 4 (yt 40 15 39) (.eff 5 0 false (zs 41 (.call 34 [.t 36, .t 40])) (.phase [0, 4] (.take 6 (zm 35 41) (.take 7 (yx 42 35 0) (.take 8 (yx 43 35 1) (.eff 9 0 false (ys 2 5 42) .nil))))))))))) 0 [5, 0])))) (.reg [zm 13 6, yp 14 13, zm 6 14])))))) (.seq (.dreg (.take 0 (zm 44 4) (.take 1 (yt 45 2 5) (.take 2 (zm 2 44) (.eff 3 0 false (ys 2 3 45) (.phase [1] .nil))))) 0 [5]) .ret))), [.tmp 2, .cell 3 true 2]⟩
def x13 : XFn := ⟨21, zr [zs 4 (.alloc 33 [.str ⟨#[]⟩, .str ⟨#[]⟩, .str ⟨#[]⟩, .str ⟨#[]⟩, .str ⟨#[]⟩, .v (.slice none 0 0), .v (.slice none 0 0), .int .i64 0, .bl false]), yb 5 false] (zr [zm 7 0, zs 8 (.nck (.t 7)), zf 9 1 8, zl 10 9, zm 11 1, zs 12 (.plk none false (.v (.pointer none)) (.t 10) (.t 11)), zm 6 12] (.seq (zr [zm 13 6, zs 14 (.cmn false (.t 13))] (.cond (.t 14) (zr [zs 15 (.bld [.str ⟨#[]⟩, .str ⟨#[]⟩, .str ⟨#[]⟩, .str ⟨#[]⟩, .str ⟨#[]⟩, .v (.slice none 0 0), .v (.slice none 0 0), .int .i64 0, .bl false] []), ys 9 4 15, yb 5 false] .ret) .skip)) (zr [zm 16 6, zs 17 (.nck (.t 16)), zf 18 0 17, yt 19 9 18, zs 20 (.call 35 [.t 19]), ys 9 4 20, yb 5 true] .ret))), [.cell 4 true 9, .tmp 5]⟩
def x14 : XFn := ⟨27, zr [zs 5 (.box 9 (.t 2)), yb 6 false] (zr [zm 8 0, zs 9 (.nck (.t 8)), zf 10 1 9, zl 11 10, zm 12 1, zs 13 (.plk none false (.v (.pointer none)) (.t 11) (.t 12)), zm 7 13] (.seq (zr [zm 14 7, zs 15 (.cmn false (.t 14)), zm 16 15, zh 17 16 false 7, zg 18 16 false (.nck (.t 17)), gf 19 16 false 9 18, gl 20 16 false 19, gk 21 16 false .neq 20 0, yq 22 16 true 21] (.cond (.t 22) (zr [yb 6 false] .ret) .skip)) (zr [zm 23 7, zs 24 (.mkf 37 [.t 5]), zs 25 (.call 36 [.t 23, .c (.int .i64 (-1)), .t 24]), yo 26 25, zm 6 26] .ret))), [.tmp 6]⟩
def x15 : XFn := ⟨85, zr [yn 12 0] (zr [zm 19 0, zm 20 1, zs 21 (.call 13 [.t 19, .t 20]), zm 18 21, yx 22 18 0, yx 23 18 1, zs 13 (.alloc 33 [.str ⟨#[]⟩, .str ⟨#[]⟩, .str ⟨#[]⟩, .str ⟨#[]⟩, .str ⟨#[]⟩, .v (.slice none 0 0), .v (.slice none 0 0), .int .i64 0, .bl false]), ys 9 13 22, zm 14 23] (.seq (zr [zm 24 14, yo 25 24] (.cond (.t 25) (zr [yn 12 4] .ret) .skip)) (.seq (zr [zm 26 3, yl 27 26, yk 28 .lss 27 2, zm 29 28, zh 30 29 false 3, ge 31 29 false 30, gk 32 29 false .gtr 31 64, yq 33 29 true 32, zm 34 33, zh 35 34 false 4, ge 36 34 false 35, zh 37 34 false 3, ge 38 34 false 37, gc 39 34 false .neq 36 38, yq 40 34 true 39] (.cond (.t 40) (zr [yn 12 1] .ret) .skip)) (.seq (zr [zm 41 4, zs 42 (.call 38 [.t 41, .c (.clo 39 [])]), zm 43 42, zh 44 43 false 4, zg 45 43 false (.call 40 [.t 44]), yq 46 43 true 45, zm 47 46, gf 48 47 false 5 13, gl 49 47 false 48, zh 50 47 false 3, zg 51 47 false (.call 41 [.t 49, .t 50]), go 52 47 false 51, yq 53 47 true 52] (.cond (.t 53) (zr [yn 12 1] .ret) .skip)) (zr [zm 54 1, zm 55 2, zm 56 5, zs 57 (.call 42 [.t 54, .t 55, .t 56]), zs 58 (.bsl 94 1 1 [.v .nilFunc] [(0, .t 57)]), zm 15 58] (.seq (zr [zm 59 3, yl 60 59, yn 61 0] (.block 0 (.loop (zr [yc 62 .lss 61 60] (.seq (.cond (.t 62) .skip (.exit 0)) (.seq (.block 1 (zr [zm 63 61, yi 64 1 59 61, zl 65 64, zm 16 63, zm 17 65] (.dreg (.take 0 (zm 66 15) (.take 1 (yt 67 9 13) (.take 2 (zm 68 4) (.take 3 (zm 69 16) (.take 4 (yi 70 1 68 69) (.take 5 (zl 71 70) (.take 6 (zm 72 5) (.take 7 (zm 73 17) (.take 8 (zm 74 1) (.take 11 (zm 77 2) (.eff 9 0 true (zs 75 (.bsl 9 1 1 [.str ⟨#[]⟩] [(0, .t 74)])) (.eff 10 1 false (zs 76 (.call 44 [.t 67, .t 71, .t 72, .t 73, .t 75])) (.eff 12 1 false (zs 78 (.call 43 [.t 76, .t 77])) (.eff 13 1 false (zs 79 (.bsl 94 1 1 [.v .nilFunc] [(0, .t 78)])) (.eff 14 2 false (zs 80 (.app 96 96 94 1 8 (.t 66) (.t 79))) (.phase [1, 5] (.take 15 (zm 15 80) .nil))))))))))))))))) 3 [13, 4]))) (.reg [yp 81 61, zm 61 81]))))))) (zr [zm 82 0, zm 83 15, zs 84 (.call 45 [.t 82, .t 83]), zm 12 84] .ret))))))), [.tmp 12]⟩
def x16 : XFn := ⟨119, zr [yn 10 0] (.seq (zr [zm 20 1, yl 21 20, yk 22 .lss 21 2, zm 23 22, zh 24 23 false 1, ge 25 23 false 24, gk 26 23 false .gtr 25 64, yq 27 23 true 26, zm 28 27, zh 29 28 false 1, zg 30 28 false (.call 40 [.t 29]), yq 31 28 true 30] (.cond (.t 31) (zr [yn 10 1] .ret) .skip)) (zr [zs 11 (.mov (.c (.v (.slice none 0 0))))] (.seq (zr [zm 32 1, yl 33 32, yn 34 0] (.block 0 (.loop (zr [yc 35 .lss 34 33] (.seq (.cond (.t 35) .skip (.exit 0)) (.seq (.block 1 (zr [yi 36 1 32 34, zl 37 36, zm 13 37] (zr [zm 39 0, zm 40 13, zs 41 (.call 13 [.t 39, .t 40]), zm 38 41, yx 42 38 0, yx 43 38 1, zs 14 (.alloc 33 [.str ⟨#[]⟩, .str ⟨#[]⟩, .str ⟨#[]⟩, .str ⟨#[]⟩, .str ⟨#[]⟩, .v (.slice none 0 0), .v (.slice none 0 0), .int .i64 0, .bl false]), ys 9 14 42, zm 15 43] (.seq (zr [zm 44 15, yo 45 44] (.cond (.t 45) (zr [yn 10 4] .ret) .skip)) (.reg [zm 46 11, yt 47 9 14, zs 48 (.bsl 33 9 1 [.str ⟨#[]⟩, .str ⟨#[]⟩, .str ⟨#[]⟩, .str ⟨#[]⟩, .str ⟨#[]⟩, .v (.slice none 0 0), .v (.slice none 0 0), .int .i64 0, .bl false] [(0, .t 47)]), zs 49 (.app 100 100 33 9 144 (.t 46) (.t 48)), zm 11 49]))))) (.reg [yp 50 34, zm 34 50]))))))) (zr [zs 16 (.mov (.c (.v (.slice none 0 0))))] (zr [zs 17 (.mov (.c (.v (.slice none 0 0))))] (.seq (zr [zm 51 11, yl 52 51, yn 53 0] (.block 2 (.loop (zr [yc 54 .lss 53 52] (.seq (.cond (.t 54) .skip (.exit 2)) (.seq (.block 3 (zr [yi 55 9 51 53, yt 56 9 55, zs 19 (.alloc 33 [.str ⟨#[]⟩, .str ⟨#[]⟩, .str ⟨#[]⟩, .str ⟨#[]⟩, .str ⟨#[]⟩, .v (.slice none 0 0), .v (.slice none 0 0), .int .i64 0, .bl false]), ys 9 19 56] (.seq (.seq (.dreg (.take 0 (zf 57 2 19) (.take 1 (zl 58 57) (.take 2 (zm 59 11) (.take 3 (zs 60 (.iad 9 (.t 59) (.c (.int .i64 0)))) (.take 4 (zf 61 2 60) (.take 5 (zl 62 61) (.take 6 (yc 63 .neq 58 62) (.take 7 (zm 64 63) (.take 8 (gf 65 64 false 3 19) (.take 9 (gl 66 64 false 65) (.take 10 (zh 67 64 false 11) (.take 11 (zg 68 64 false (.iad 9 (.t 67) (.c (.int .i64 0)))) (.take 12 (gf 69 64 false 3 68) (.take 13 (gl 70 64 false 69) (.take 14 (gc 71 64 false .neq 66 70) (.take 15 (yq 72 64 true 71) (.take 16 (zm 73 72) (.take 17 (gf 74 73 false 4 19) (.take 18 (gl 75 73 false 74) (.take 19 (zh 76 73 false 11) (.take 20 (zg 77 73 false (.iad 9 (.t 76) (.c (.int .i64 0)))) (.take 21 (gf 78 73 false 4 77) (.take 22 (gl 79 73 false 78) (.take 23 (gc 80 73 false .neq 75 79) (.take 24 (yq 81 73 true 80) (.take 25 (zm 82 81) (.take 26 (gf 83 82 false 8 19) (.take 27 (gl 84 82 false 83) (.take 28 (zh 85 82 false 11) (.take 29 (zg 86 82 false (.iad 9 (.t 85) (.c (.int .i64 0)))) (.take 30 (gf 87 82 false 8 86) (.take 31 (gl 88 82 false 87) (.take 32 (zg 89 82 false (.cmb .neq (.t 84) (.t 88))) (.take 33 (yq 90 82 true 89) .nil)))))))))))))))))))))))))))))))))) 0 [19, 11]) (.cond (.t 90) (zr [yn 10 12] .ret) .skip)) (zr [zm 91 16, zf 92 5 19, zl 93 92, zs 94 (.app 31 31 9 1 16 (.t 91) (.t 93)), zm 16 94] (.reg [zm 95 17, zf 96 0 19, zl 97 96, zm 98 2, zm 99 4, zs 100 (.call 42 [.t 97, .t 98, .t 99]), zs 101 (.bsl 94 1 1 [.v .nilFunc] [(0, .t 100)]), zs 102 (.app 96 96 94 1 8 (.t 95) (.t 101)), zm 17 102]))))) (.reg [yp 103 53, zm 53 103]))))))) (zr [zm 104 0, zm 105 17, zm 106 11, zs 107 (.iad 9 (.t 106) (.c (.int .i64 0))), yt 108 9 107, zm 109 3, zm 110 4, zm 111 16, zm 112 1, zs 113 (.call 44 [.t 108, .t 109, .t 110, .t 111, .t 112]), zm 114 2, zs 115 (.call 43 [.t 113, .t 114]), zs 116 (.bsl 94 1 1 [.v .nilFunc] [(0, .t 115)]), zs 117 (.app 96 96 94 1 8 (.t 105) (.t 116)), zs 118 (.call 45 [.t 104, .t 117]), zm 10 118] .ret))))))), [.tmp 10]⟩
def x17 : XFn := ⟨18, zr [yn 4 0] (zr [zm 6 0, zs 7 (.nck (.t 6)), zf 8 1 7, zl 9 8, zm 10 1, zs 11 (.plk none false (.v (.pointer none)) (.t 9) (.t 10)), zm 5 11] (.seq (zr [zm 12 5, zs 13 (.cmn false (.t 12))] (.cond (.t 13) (zr [yn 4 (-1)] .ret) .skip)) (zr [zm 14 5, zs 15 (.nck (.t 14)), zf 16 9 15, zl 17 16, zm 4 17] .ret))), [.tmp 4]⟩
def x18 : XFn := ⟨26, zr [yb 4 false] (.seq (zr [zm 6 0, yl 7 6, zm 8 1, yl 9 8, yc 10 .neq 7 9] (.cond (.t 10) (zr [yb 4 false] .ret) .skip)) (.seq (zr [yn 5 0] (.block 0 (.loop (.seq (zr [zm 11 5, zm 12 0, yl 13 12, yc 14 .lss 11 13] (.cond (.t 14) .skip (.exit 0))) (.seq (.block 1 (.seq (.dreg (.take 0 (zm 17 0) (.take 1 (zm 18 5) (.take 2 (yi 19 1 17 18) (.take 3 (zl 20 19) (.take 4 (zm 21 1) (.take 5 (zm 22 5) (.take 6 (yi 23 1 21 22) (.take 7 (zl 24 23) (.take 8 (yc 25 .neq 20 24) .nil))))))))) 0 [0, 1]) (.cond (.t 25) (zr [yb 4 false] .ret) .skip))) (.reg [zm 15 5, yp 16 15, zm 5 16])))))) (zr [yb 4 true] .ret))), [.tmp 4]⟩
def x19 : XFn := ⟨50, zr [yb 2 false] (.seq (zr [yn 3 0] (.block 0 (.loop (.seq (zr [zm 5 3, zm 6 0, yl 7 6, yc 8 .lss 5 7] (.cond (.t 8) .skip (.exit 0))) (.seq (.block 1 (.seq (zr [zm 11 0, zm 12 3, yi 13 9 11 12, zf 14 6 13, zl 15 14, yl 16 15, yk 17 .gtr 16 70, zm 18 17, zh 19 18 false 0, zh 20 18 false 3, gi 21 18 false 9 19 20, gf 22 18 false 7 21, gl 23 18 false 22, ge 24 18 false 23, gk 25 18 false .gtr 24 70, yq 26 18 true 25] (.cond (.t 26) (zr [yb 2 false] .ret) .skip)) (zr [yn 4 0] (.block 2 (.loop (.seq (zr [zm 27 4, zm 28 0, zm 29 3, yi 30 9 28 29, zf 31 6 30, zl 32 31, yl 33 32, yc 34 .lss 27 33] (.cond (.t 34) .skip (.exit 2))) (.seq (.block 3 (zr [zm 37 0, zm 38 3, yi 39 9 37 38, zf 40 6 39, zl 41 40, zm 42 4, yi 43 1 41 42, zl 44 43, yl 45 44, yk 46 .gtr 45 70] (.cond (.t 46) (zr [yb 2 false] .ret) .skip))) (.reg [zm 35 4, yp 36 35, zm 4 36])))))))) (.reg [zm 9 3, yp 10 9, zm 3 10])))))) (zr [zm 47 0, yl 48 47, yk 49 .leq 48 12, zm 2 49] .ret)), [.tmp 2]⟩
def x20 : XFn := ⟨48, zr [zs 3 (.box 45 (.t 1)), yn 4 0] (.seq (zr [zf 5 0 3, zl 6 5, zs 7 (.ari .rem .u8 (.t 6) (.c (.int .u8 3)))] (.block 0 (zr [zs 9 (.cmp .eql (.t 7) (.c (.int .u8 0))), zm 8 9] (.cond (.t 8) (zr [zm 10 0, zf 11 1 3, zl 12 11, zf 13 2 3, zl 14 13, zf 15 6 3, zl 16 15, zf 17 7 3, zl 18 17, zf 19 8 3, zl 20 19, zs 21 (.call 15 [.t 10, .t 12, .t 14, .t 16, .t 18, .t 20]), zm 4 21] .ret) (zr [zs 23 (.cmp .eql (.t 7) (.c (.int .u8 1))), zm 22 23] (.cond (.t 22) (zr [zm 24 0, zf 25 7 3, zl 26 25, zf 27 2 3, zl 28 27, zf 29 3 3, zl 30 29, zf 31 8 3, zl 32 31, zs 33 (.call 16 [.t 24, .t 26, .t 28, .t 30, .t 32]), zm 4 33] .ret) .skip)))))) (zr [zm 34 0, zf 35 1 3, zl 36 35, zf 37 2 3, zl 38 37, zf 39 3 3, zl 40 39, zf 41 4 3, zl 42 41, zf 43 5 3, zl 44 43, zf 45 8 3, zl 46 45, zs 47 (.call 22 [.t 34, .t 36, .t 38, .t 40, .t 42, .t 44, .t 46]), zm 4 47] .ret)), [.tmp 4]⟩
def x21 : XFn := ⟨5, zr [zs 2 (.mov (.c (.v (.slice none 0 0))))] (zr [zm 3 0, zs 4 (.call 46 [.t 3, .c (.clo 47 [])]), zm 2 4] .ret), [.tmp 2]⟩
def x22 : XFn := ⟨48, zr [yn 14 0] (zr [zm 19 0, zm 20 1, zs 21 (.call 13 [.t 19, .t 20]), zm 18 21, yx 22 18 0, yx 23 18 1, zs 15 (.alloc 33 [.str ⟨#[]⟩, .str ⟨#[]⟩, .str ⟨#[]⟩, .str ⟨#[]⟩, .str ⟨#[]⟩, .v (.slice none 0 0), .v (.slice none 0 0), .int .i64 0, .bl false]), ys 9 15 22, zm 16 23] (.seq (zr [zm 24 16, yo 25 24] (.cond (.t 25) (zr [yn 14 4] .ret) .skip)) (zr [yt 26 9 15, zm 27 3, zm 28 6, zf 29 5 15, zl 30 29, zm 31 1, zs 32 (.bsl 9 1 1 [.str ⟨#[]⟩] [(0, .t 31)]), zs 33 (.call 44 [.t 26, .t 27, .t 28, .t 30, .t 32]), zs 17 (.alloc 33 [.str ⟨#[]⟩, .str ⟨#[]⟩, .str ⟨#[]⟩, .str ⟨#[]⟩, .str ⟨#[]⟩, .v (.slice none 0 0), .v (.slice none 0 0), .int .i64 0, .bl false]), ys 9 17 33] (zr [zm 34 4, zm 35 5, zf 36 2 17, ys 1 36 34, zf 37 3 17, ys 1 37 35] (.seq (.dreg (.take 0 (zm 38 0) (.take 1 (zm 39 1) (.take 2 (zm 40 2) (.take 3 (zm 41 6) (.take 5 (yt 43 9 17) (.take 6 (zm 44 2) (.eff 4 0 true (zs 42 (.call 42 [.t 39, .t 40, .t 41])) (.eff 7 0 false (zs 45 (.call 43 [.t 43, .t 44])) (.eff 8 0 false (zs 46 (.bsl 94 1 2 [.v .nilFunc] [(0, .t 42), (1, .t 45)])) (.eff 9 1 false (zs 47 (.call 45 [.t 38, .t 46])) (.phase [5] (.take 10 (zm 14 47) .nil)))))))))))) 1 [17]) .ret))))), [.tmp 14]⟩
def x23 : XFn := ⟨55, zr [zs 2 (.box 28 (.t 0)), zs 3 (.box 45 (.t 1)), zs 4 (.alloc 28 [.str ⟨#[]⟩, .v (.slice none 0 0)]), yn 5 0] (.seq (zr [zf 6 0 3, zl 7 6, zs 8 (.ari .rem .u8 (.t 7) (.c (.int .u8 3)))] (.block 0 (zr [zs 10 (.cmp .eql (.t 8) (.c (.int .u8 0))), zm 9 10] (.cond (.t 9) (zr [yt 11 2 2, zf 12 1 3, zl 13 12, zf 14 2 3, zl 15 14, zf 16 6 3, zl 17 16, zf 18 7 3, zl 19 18, zf 20 8 3, zl 21 20, zs 22 (.call 48 [.t 11, .t 13, .t 15, .t 17, .t 19, .t 21]), yx 23 22 0, yx 24 22 1, ys 2 4 23, zm 5 24] .ret) (zr [zs 26 (.cmp .eql (.t 8) (.c (.int .u8 1))), zm 25 26] (.cond (.t 25) (zr [yt 27 2 2, zf 28 7 3, zl 29 28, zf 30 2 3, zl 31 30, zf 32 3 3, zl 33 32, zf 34 8 3, zl 35 34, zs 36 (.call 49 [.t 27, .t 29, .t 31, .t 33, .t 35]), yx 37 36 0, yx 38 36 1, ys 2 4 37, zm 5 38] .ret) .skip)))))) (zr [yt 39 2 2, zf 40 1 3, zl 41 40, zf 42 2 3, zl 43 42, zf 44 3 3, zl 45 44, zf 46 4 3, zl 47 46, zf 48 5 3, zl 49 48, zf 50 8 3, zl 51 50, zs 52 (.call 50 [.t 39, .t 41, .t 43, .t 45, .t 47, .t 49, .t 51]), yx 53 52 0, yx 54 52 1, ys 2 4 53, zm 5 54] .ret)), [.cell 4 true 2, .tmp 5]⟩
def x24 : XFn := ⟨58, zr [zs 4 (.mov (.c (.v (.slice none 0 0))))] (zr [zs 12 (.mkm 106), zm 5 12] (zr [zs 6 (.mov (.c (.v (.slice none 0 0))))] (.seq (zr [zm 13 1, zs 14 (.bsl 9 1 1 [.str ⟨#[]⟩] [(0, .t 13)]), zm 7 14] (.block 0 (.loop (.seq (zr [zm 15 7, yl 16 15, yk 17 .gtr 16 0] (.cond (.t 17) .skip (.exit 0))) (.seq (.block 1 (zr [zm 21 0, zm 22 7, zs 23 (.iad 1 (.t 22) (.c (.int .i64 0))), zl 24 23, zs 25 (.call 13 [.t 21, .t 24]), zm 20 25, yx 26 20 0, yx 27 20 1, zs 8 (.alloc 33 [.str ⟨#[]⟩, .str ⟨#[]⟩, .str ⟨#[]⟩, .str ⟨#[]⟩, .str ⟨#[]⟩, .v (.slice none 0 0), .v (.slice none 0 0), .int .i64 0, .bl false]), ys 9 8 26, zm 9 27] (zr [zf 28 6 8, zl 29 28, yl 30 29, yn 31 0] (.block 2 (.loop (zr [yc 32 .lss 31 30] (.seq (.cond (.t 32) .skip (.exit 2)) (.seq (.block 3 (zr [yi 33 1 29 31, zl 34 33, zm 11 34] (zr [zm 35 11, zm 36 1, yc 37 .neq 35 36, zm 38 37, zh 39 38 true 5, zh 40 38 true 11, zg 41 38 true (.lkp none false (.bl false) (.t 39) (.t 40)), go 42 38 true 41, yr 43 38 42 false] (.cond (.t 43) (zr [zm 44 5, zm 45 11, zn (.upd none (.t 44) (.t 45) (.c (.bl true)))] (zr [zm 46 6, zm 47 11, zs 48 (.bsl 9 1 1 [.str ⟨#[]⟩] [(0, .t 47)]), zs 49 (.app 31 31 9 1 16 (.t 46) (.t 48)), zm 6 49] (.reg [zm 50 7, zm 51 11, zs 52 (.bsl 9 1 1 [.str ⟨#[]⟩] [(0, .t 51)]), zs 53 (.app 31 31 9 1 16 (.t 50) (.t 52)), zm 7 53]))) .skip)))) (.reg [yp 54 31, zm 31 54]))))))))) (.reg [zm 18 7, zs 19 (.slt 1 (.t 18) (.c (.int .i64 1))), zm 7 19])))))) (zr [zm 55 6, zs 56 (.call 51 [.t 55])] (zr [zm 57 6, zm 4 57] .ret))))), [.tmp 4]⟩
def x25 : XFn := ⟨67, zr [zs 2 (.box 28 (.t 0)), zs 4 (.mov (.c (.v (.slice none 0 0))))] (zr [zs 12 (.bsl 9 1 0 [.str ⟨#[]⟩] []), zm 5 12] (zr [zm 13 1, zs 14 (.bsl 9 1 1 [.str ⟨#[]⟩] [(0, .t 13)]), zm 6 14] (zr [zs 15 (.bsl 9 1 0 [.str ⟨#[]⟩] []), zm 7 15] (.seq (.block 0 (.loop (.seq (zr [zm 16 6, yl 17 16, yk 18 .gtr 17 0] (.cond (.t 18) .skip (.exit 0))) (.block 1 (zr [zm 19 6, zs 20 (.iad 1 (.t 19) (.c (.int .i64 0))), zl 21 20, zm 8 21] (zr [zm 22 6, zs 23 (.slt 1 (.t 22) (.c (.int .i64 1))), zm 6 23] (zr [yt 24 2 2, zm 25 8, zs 26 (.call 52 [.t 24, .t 25]), zm 9 26] (.seq (zr [zm 27 7, zm 28 8, zs 29 (.call 53 [.t 27, .t 28]), zm 30 29, zh 31 30 false 9, gk 32 30 false .lss 31 0, yq 33 30 true 32] (.cond (.t 33) (.exit 1) .skip)) (zr [zm 34 7, zm 35 8, zs 36 (.bsl 9 1 1 [.str ⟨#[]⟩] [(0, .t 35)]), zs 37 (.app 31 31 9 1 16 (.t 34) (.t 36)), zm 7 37] (zr [zf 38 1 2, zl 39 38, zm 40 9, yi 41 11 39 40, zf 42 0 41, zf 43 6 42, zl 44 43, zm 10 44] (.seq (zr [yn 11 0] (.block 2 (.loop (.seq (zr [zm 45 11, zm 46 10, yl 47 46, yc 48 .lss 45 47] (.cond (.t 48) .skip (.exit 2))) (.seq (.block 3 (zr [zm 51 10, zm 52 11, yi 53 1 51 52, zl 54 53, zm 55 1, yc 56 .neq 54 55] (.cond (.t 56) (.reg [zm 57 5, zm 58 10, zm 59 11, yi 60 1 58 59, zl 61 60, zs 62 (.call 54 [.t 57, .t 61]), zm 5 62]) .skip))) (.reg [zm 49 11, yp 50 49, zm 11 50])))))) (.reg [zm 63 6, zm 64 10, zs 65 (.app 31 31 9 1 16 (.t 63) (.t 64)), zm 6 65])))))))))))) (zr [zm 66 5, zm 4 66] .ret))))), [.tmp 4]⟩
def x26 : XFn := ⟨9, zr [zs 2 (.box 25 (.t 0)), yb 4 false] (zr [zm 5 1, zs 6 (.mkf 55 [.t 2]), zs 7 (.call 38 [.t 5, .t 6]), yo 8 7, zm 4 8] .ret), [.tmp 4]⟩
def x27 : XFn := ⟨19, zr [zs 2 (.box 28 (.t 0)), yb 4 false] (.seq (zr [yn 5 0] (.block 0 (.loop (.seq (zr [zm 6 5, zm 7 1, yl 8 7, yc 9 .lss 6 8] (.cond (.t 9) .skip (.exit 0))) (.seq (.block 1 (.seq (.dreg (.take 0 (yt 12 2 2) (.take 1 (zm 13 1) (.take 2 (zm 14 5) (.take 3 (yi 15 1 13 14) (.take 4 (zl 16 15) (.eff 5 0 false (zs 17 (.call 57 [.t 12, .t 16])) (.phase [0, 4] (.take 6 (yk 18 .lss 17 0) .nil)))))))) 0 [2, 1]) (.cond (.t 18) (zr [yb 4 false] .ret) .skip))) (.reg [zm 10 5, yp 11 10, zm 5 11])))))) (zr [yb 4 true] .ret)), [.tmp 4]⟩
def x29 : XFn := ⟨216, zr [zs 5 (.box 28 (.t 1)), zs 8 (.mov (.c (.str ⟨#[]⟩)))] (.seq (.seq (.dreg (.take 0 (zm 22 0) (.take 2 (yt 24 2 5) (.eff 1 0 true (zs 23 (.call 21 [.t 22])) (.phase [2] (.eff 3 0 false (zs 25 (.call 58 [.t 24])) (.phase [2] (.eff 4 0 false (zs 26 (.call 18 [.t 23, .t 25])) (.phase [2, 10] (.take 5 (yo 27 26) (.take 6 (zm 28 27) (.take 7 (zh 29 28 false 0) (.take 8 (zh 30 28 false 2) (.take 10 (zg 32 28 false (.ld true 2 (.t 5))) (.take 11 (zh 33 28 false 2) (.eff 9 0 true (zg 31 28 false (.call 59 [.t 29, .t 30])) (.eff 12 0 false (zg 34 28 false (.call 60 [.t 32, .t 33])) (.phase [2, 10] (.eff 13 0 false (zg 35 28 false (.call 18 [.t 31, .t 34])) (.phase [2, 10] (.take 14 (go 36 28 false 35) (.take 15 (yq 37 28 true 36) .nil))))))))))))))))))))) 0 [5]) (.cond (.t 37) (zr [zs 8 (.mov (.c (.str ⟨#[98, 105, 108, 108, 115]⟩)))] .ret) .skip)) (zr [yt 38 2 5, zm 39 3, zs 40 (.call 57 [.t 38, .t 39]), zm 9 40] (zr [zm 42 0, zm 43 3, zs 44 (.call 56 [.t 42, .t 43]), zm 41 44, yx 45 41 0, yx 46 41 1, zm 10 45, zm 11 46] (.seq (zr [zm 47 11, zm 48 9, yk 49 .geq 48 0, zs 50 (.cmb .neq (.t 47) (.t 49)), zm 51 50, zh 52 51 false 11, zh 53 51 false 52, zh 54 53 true 10, gf 55 53 true 1 5, gl 56 53 true 55, zh 57 53 true 9, gi 58 53 true 11 56 57, gf 59 53 true 0 58, gf 60 53 true 0 59, gl 61 53 true 60, gc 62 53 true .neq 54 61, zg 63 51 false (.pick (.t 53) (.t 62) (.c (.bl false))), yq 64 51 true 63, zm 65 64, zh 66 65 false 11, go 67 65 false 66, zh 68 65 false 67, zh 69 68 true 10, zg 70 68 true (.cmp .neq (.t 69) (.c (.str ⟨#[]⟩))), zg 71 65 false (.pick (.t 68) (.t 70) (.c (.bl false))), yq 72 65 true 71] (.cond (.t 72) (zr [zs 8 (.mov (.c (.str ⟨#[98, 111, 120]⟩)))] .ret) .skip)) (.seq (zr [yn 12 0] (.block 0 (.loop (.seq (zr [zm 73 12, zf 74 1 5, zl 75 74, yl 76 75, yc 77 .lss 73 76] (.cond (.t 77) .skip (.exit 0))) (.seq (.block 1 (zr [zf 80 1 5, zl 81 80, zm 82 12, yi 83 11 81 82, yt 84 11 83, zs 13 (.alloc 56 [.str ⟨#[]⟩, .str ⟨#[]⟩, .str ⟨#[]⟩, .str ⟨#[]⟩, .str ⟨#[]⟩, .v (.slice none 0 0), .v (.slice none 0 0), .int .i64 0, .bl false, .int .i64 0, .v (.slice none 0 0)]), ys 11 13 84] (zr [zm 86 0, zf 87 0 13, zf 88 0 87, zl 89 88, zs 90 (.call 13 [.t 86, .t 89]), zm 85 90, yx 91 85 0, yx 92 85 1, zs 14 (.alloc 33 [.str ⟨#[]⟩, .str ⟨#[]⟩, .str ⟨#[]⟩, .str ⟨#[]⟩, .str ⟨#[]⟩, .v (.slice none 0 0), .v (.slice none 0 0), .int .i64 0, .bl false]), ys 9 14 91, zm 15 92] (zr [zm 93 0, zf 94 0 13, zf 95 0 94, zl 96 95, zs 97 (.call 61 [.t 93, .t 96]), zm 16 97] (.seq (.seq (.dreg (.take 0 (zm 98 15) (.take 1 (yo 99 98) (.take 2 (zm 100 99) (.take 3 (zg 101 100 false (.ld true 9 (.t 14))) (.take 4 (gf 102 100 false 0 13) (.take 5 (zg 103 100 false (.ld true 9 (.t 102))) (.eff 6 0 false (zg 104 100 false (.call 62 [.t 101, .t 103])) (.phase [3, 5, 13, 16] (.take 7 (go 105 100 false 104) (.take 8 (yq 106 100 true 105) (.take 9 (zm 107 106) (.take 10 (zh 108 107 false 0) (.take 11 (gf 109 107 false 0 13) (.take 12 (gf 110 107 false 0 109) (.take 13 (gl 111 107 false 110) (.take 15 (gf 113 107 false 9 13) (.take 16 (gl 114 107 false 113) (.eff 14 0 true (zg 112 107 false (.call 17 [.t 108, .t 111])) (.phase [3, 5, 13, 16, 28, 31, 34] (.take 17 (gc 115 107 false .neq 112 114) (.take 18 (yq 116 107 true 115) (.take 19 (zm 117 116) (.take 20 (zh 118 117 false 16) (.take 21 (ge 119 117 false 118) (.take 22 (gk 120 117 false .neq 119 3) (.take 23 (yq 121 117 true 120) (.take 24 (zm 122 121) (.take 25 (zh 123 122 false 0) (.take 26 (gf 124 122 false 0 13) (.take 27 (gf 125 122 false 0 124) (.take 28 (gl 126 122 false 125) (.take 29 (zh 127 122 false 2) (.take 31 (zg 129 122 false (.ld true 2 (.t 5))) (.take 32 (gf 130 122 false 0 13) (.take 33 (gf 131 122 false 0 130) (.take 34 (gl 132 122 false 131) (.take 35 (zh 133 122 false 2) (.eff 30 0 true (zg 128 122 false (.call 14 [.t 123, .t 126, .t 127])) (.eff 36 0 false (zg 134 122 false (.call 63 [.t 129, .t 132, .t 133])) (.phase [3, 5, 13, 16, 28, 31, 34] (.take 37 (zg 135 122 false (.cmb .neq (.t 128) (.t 134))) (.take 38 (yq 136 122 true 135) .nil)))))))))))))))))))))))))))))))))))))))))) 0 [14, 13, 16, 5]) (.cond (.t 136) (zr [zs 8 (.mov (.c (.str ⟨#[98, 105, 108, 108]⟩)))] .ret) .skip)) (zr [yn 17 0] (.block 2 (.loop (.seq (zr [zm 137 17, yk 138 .lss 137 3] (.cond (.t 138) .skip (.exit 2))) (.seq (.block 3 (zr [zf 141 10 13, zl 142 141, zm 143 17, yi 144 3 142 143, yt 145 3 144, zs 18 (.alloc 120 [.int .i64 0, .str ⟨#[]⟩, .v (.slice none 0 0)]), ys 3 18 145] (zr [zm 147 0, zf 148 0 13, zf 149 0 148, zl 150 149, zm 151 17, zs 152 (.call 64 [.t 147, .t 150, .t 151]), zm 146 152, yx 153 146 0, yx 154 146 1, zm 19 153, zm 20 154] (zr [zf 155 9 13, zl 156 155, yk 157 .eql 156 0, zm 158 157, gf 159 158 true 0 18, gl 160 158 true 159, gk 161 158 true .eql 160 0, zh 162 158 true 161, gf 163 162 false 0 18, gl 164 162 false 163, gk 165 162 false .eql 164 3, zg 166 158 true (.pick (.t 162) (.c (.bl true)) (.t 165)), yr 167 158 166 false, zm 21 167] (.seq (.dreg (.take 0 (zm 168 16) (.take 1 (zm 169 17) (.take 2 (yi 170 4 168 169) (.take 3 (yt 171 4 170) (.take 4 (zf 172 0 13) (.take 5 (zf 173 0 172) (.take 6 (zl 174 173) (.take 7 (zm 175 17) (.take 8 (zf 176 0 18) (.take 9 (zl 177 176) (.take 10 (zf 178 1 18) (.take 11 (zl 179 178) (.take 12 (zs 180 (.bld [.str ⟨#[]⟩, .int .i64 0, .int .i64 0, .str ⟨#[]⟩] [(0, (1, .t 174)), (1, (1, .t 175)), (2, (1, .t 177)), (3, (1, .t 179))])) (.take 13 (zs 181 (.cms true [1, 0, 0, 1] (.t 171) (.t 180))) (.take 14 (zm 182 181) (.take 15 (zh 183 182 false 20) (.take 16 (zh 184 182 false 21) (.take 17 (zg 185 182 false (.cmb .neq (.t 183) (.t 184))) (.take 18 (yq 186 182 true 185) (.take 19 (zm 187 186) (.take 20 (zh 188 187 false 20) (.take 21 (zh 189 187 false 188) (.take 22 (zh 190 189 true 19) (.take 23 (gf 191 189 true 1 18) (.take 24 (gl 192 189 true 191) (.take 25 (gc 193 189 true .neq 190 192) (.take 26 (zg 194 187 false (.pick (.t 189) (.t 193) (.c (.bl false)))) (.take 27 (yq 195 187 true 194) (.take 28 (zm 196 195) (.take 29 (zh 197 196 false 20) (.take 30 (go 198 196 false 197) (.take 31 (zh 199 196 false 198) (.take 32 (zh 200 199 true 19) (.take 33 (zg 201 199 true (.cmp .neq (.t 200) (.c (.str ⟨#[]⟩)))) (.take 34 (zg 202 196 false (.pick (.t 199) (.t 201) (.c (.bl false)))) (.take 35 (yq 203 196 true 202) (.take 36 (zm 204 203) (.take 37 (zh 205 204 false 0) (.take 38 (gf 206 204 false 0 13) (.take 39 (gf 207 204 false 0 206) (.take 40 (gl 208 204 false 207) (.take 41 (zh 209 204 false 17) (.take 43 (gf 211 204 false 2 18) (.take 44 (gl 212 204 false 211) (.eff 42 0 true (zg 210 204 false (.call 66 [.t 205, .t 208, .t 209])) (.eff 45 0 false (zg 213 204 false (.call 65 [.t 210, .t 212])) (.phase [3, 6, 9, 11, 24, 40, 44] (.take 46 (go 214 204 false 213) (.take 47 (yq 215 204 true 214) .nil))))))))))))))))))))))))))))))))))))))))))))))))) 0 [16, 13, 18]) (.cond (.t 215) (zr [zs 8 (.mov (.c (.str ⟨#[111, 114, 105, 103, 105, 110, 97, 108]⟩)))] .ret) .skip)))))) (.reg [zm 139 17, yp 140 139, zm 17 140]))))))))))) (.reg [zm 78 12, yp 79 78, zm 12 79])))))) (zr [zs 8 (.mov (.c (.str ⟨#[]⟩)))] .ret)))))), [.tmp 8]⟩
def x30 : XFn := ⟨82, zr [yn 12 0] (zr [zm 18 0, zm 19 1, zm 20 2, zm 21 3, zm 22 5, zm 23 4, zs 24 (.call 68 [.t 23]), yo 25 24, zm 26 25, zh 27 26 false 4, zh 28 26 false 3, gc 29 26 false .eql 27 28, yq 30 26 true 29, zs 31 (.bld [.str ⟨#[]⟩, .int .i64 0, .int .i64 0, .str ⟨#[]⟩, .int .i64 0, .int .i64 0, .bl false, .bl false] [(0, (1, .t 19)), (1, (1, .t 20)), (2, (1, .c (.int .i64 (-1)))), (3, (1, .t 21)), (4, (1, .c (.int .i64 0))), (5, (1, .t 22)), (6, (1, .c (.bl true))), (7, (1, .t 30))]), zs 32 (.call 67 [.t 18, .t 31]), zm 13 32] (.seq (zr [zm 33 13, yk 34 .neq 33 0] (.cond (.t 34) (zr [zm 35 13, zm 12 35] .ret) .skip)) (zr [zm 36 0, zs 37 (.nck (.t 36)), zf 38 1 37, zl 39 38, zm 40 1, zs 41 (.plk none false (.v (.pointer none)) (.t 39) (.t 40)), zm 14 41] (.seq (zr [yn 42 0] (.block 0 (.loop (zr [yk 43 .lss 42 3] (.seq (.cond (.t 43) .skip (.exit 0)) (.seq (.block 1 (zr [zm 44 42, zm 15 44] (zr [zm 45 2, yk 46 .eql 45 (-1), zm 47 46, zh 48 47 false 2, zh 49 47 false 15, gc 50 47 false .eql 48 49, yq 51 47 true 50] (.cond (.t 51) (zr [zm 52 14, zm 53 15, zs 54 (.nck (.t 52)), zf 55 10 54, zs 56 (.aia 3 3 (.t 55) (.t 53)), zm 16 56] (zr [zm 57 3, zm 58 4, zm 59 5, zs 60 (.bld [.str ⟨#[]⟩, .str ⟨#[]⟩, .int .i64 0, .int .i64 0] [(0, (1, .t 57)), (1, (1, .t 58)), (2, (1, .c (.int .i64 0))), (3, (1, .t 59))]), zs 17 (.alloc 131 [.str ⟨#[]⟩, .str ⟨#[]⟩, .int .i64 0, .int .i64 0]), ys 4 17 60] (.seq (.dreg (.take 0 (zm 61 16) (.take 1 (zm 62 16) (.take 2 (zs 63 (.nck (.t 62))) (.take 3 (zf 64 2 63) (.take 4 (zl 65 64) (.take 5 (yt 66 4 17) (.eff 6 0 true (zs 67 (.bsl 131 4 1 [.str ⟨#[]⟩, .str ⟨#[]⟩, .int .i64 0, .int .i64 0] [(0, .t 66)])) (.eff 7 1 false (zs 68 (.app 81 81 131 4 48 (.t 65) (.t 67))) (.take 8 (zs 69 (.nck (.t 61))) (.take 9 (zf 70 2 69) (.eff 10 2 false (ys 1 70 68) (.phase [4, 5] .nil)))))))))))) 2 [16, 17]) (.dreg (.take 0 (zm 71 16) (.take 1 (zm 72 16) (.take 2 (zs 73 (.nck (.t 72))) (.take 3 (zf 74 1 73) (.take 4 (zl 75 74) (.take 5 (yt 76 4 17) (.eff 6 0 true (zs 77 (.bsl 131 4 1 [.str ⟨#[]⟩, .str ⟨#[]⟩, .int .i64 0, .int .i64 0] [(0, .t 76)])) (.eff 7 1 false (zs 78 (.call 69 [.t 75, .t 77])) (.take 8 (zs 79 (.nck (.t 71))) (.take 9 (zf 80 1 79) (.eff 10 1 false (ys 1 80 78) (.phase [4, 5] .nil)))))))))))) 1 [16, 17])))) .skip)))) (.reg [yp 81 42, zm 42 81]))))))) (zr [yn 12 0] .ret))))), [.tmp 12]⟩
def x31 : XFn := ⟨7, zr [zs 2 (.mov (.c (.v (.pointer none))))] (zr [zm 3 0, zs 4 (.mkp 77), zs 5 (.bld [.str ⟨#[]⟩, .v (.map none)] [(0, (1, .t 3)), (1, (1, .t 4))]), zs 6 (.box 79 (.t 5)), zm 2 6] .ret), [.tmp 2]⟩
def x32 : XFn := ⟨45, zr [zs 3 (.box 25 (.t 0)), zs 4 (.box 33 (.t 1)), zs 5 (.box 9 (.t 2)), yn 6 0] (zr [zs 10 (.mkf 71 [.t 3, .t 4, .t 5]), zs 11 (.bld [.int .i64 0, .v .nilFunc] [(0, (1, .c (.int .i64 1))), (1, (1, .t 10))]), zs 12 (.mkf 73 [.t 3, .t 4]), zs 13 (.bld [.int .i64 0, .v .nilFunc] [(0, (1, .c (.int .i64 5))), (1, (1, .t 12))]), zs 14 (.mkf 74 [.t 4, .t 3]), zs 15 (.bld [.int .i64 0, .v .nilFunc] [(0, (1, .c (.int .i64 9))), (1, (1, .t 14))]), zs 16 (.mkf 76 [.t 3]), zs 17 (.bld [.int .i64 0, .v .nilFunc] [(0, (1, .c (.int .i64 7))), (1, (1, .t 16))]), zs 18 (.bsl 136 2 4 [.int .i64 0, .v .nilFunc] [(0, .t 11), (1, .t 13), (2, .t 15), (3, .t 17)]), zs 19 (.call 70 [.t 18]), zm 7 19] (.seq (zr [zm 20 7, yk 21 .neq 20 0] (.cond (.t 21) (zr [zm 22 7, zm 6 22] .ret) .skip)) (zr [yt 23 9 4, zs 24 (.call 35 [.t 23]), zs 25 (.bld [.str ⟨#[]⟩, .str ⟨#[]⟩, .str ⟨#[]⟩, .str ⟨#[]⟩, .str ⟨#[]⟩, .v (.slice none 0 0), .v (.slice none 0 0), .int .i64 0, .bl false, .int .i64 0, .int .i64 0, .str ⟨#[]⟩, .v (.slice none 0 0), .int .i64 0, .str ⟨#[]⟩, .v (.slice none 0 0), .int .i64 0, .str ⟨#[]⟩, .v (.slice none 0 0)] [(0, (9, .t 24)), (9, (1, .c (.int .i64 0)))]), zs 26 (.box 86 (.t 25)), zm 8 26] (.seq (zr [yn 27 0] (.block 0 (.loop (zr [yk 28 .lss 27 3] (.seq (.cond (.t 28) .skip (.exit 0)) (.seq (.block 1 (zr [zm 29 27, zm 9 29] (.dreg (.take 0 (zm 30 8) (.take 1 (zm 31 9) (.take 2 (zl 32 5) (.take 3 (zs 33 (.bld [.int .i64 0, .str ⟨#[]⟩, .v (.slice none 0 0)] [(0, (1, .c (.int .i64 0))), (1, (1, .t 32))])) (.take 4 (zs 34 (.nck (.t 30))) (.take 5 (zf 35 10 34) (.take 6 (zs 36 (.aia 3 3 (.t 35) (.t 31))) (.eff 7 0 false (ys 3 36 33) (.phase [2] .nil))))))))) 0 [5]))) (.reg [yp 37 27, zm 27 37]))))))) (.seq (.dreg (.take 0 (zl 38 3) (.take 1 (zs 39 (.nck (.t 38))) (.take 2 (zf 40 1 39) (.take 3 (zl 41 40) (.take 4 (zf 42 0 4) (.take 5 (zl 43 42) (.take 6 (zm 44 8) (.eff 7 0 false (zn (.pup none (.t 41) (.t 43) (.t 44))) (.phase [0, 3, 5] .nil))))))))) 0 [3, 4]) (zr [yn 6 0] .ret)))))), [.tmp 6]⟩
def x33 : XFn := ⟨72, zr [zs 3 (.box 73 (.t 1))] (zr [zf 4 0 3, zl 5 4] (.block 0 (zr [yk 7 .eql 5 0, zm 6 7] (.cond (.t 6) (.reg [zm 8 0, zf 9 6 3, yt 10 9 9, zf 11 5 3, zl 12 11, zs 13 (.call 32 [.t 8, .t 10, .t 12])]) (zr [yk 15 .eql 5 1, zm 14 15] (.cond (.t 14) (.reg [zm 16 0, zf 17 3 3, zl 18 17, zf 19 1 3, zl 20 19, zf 21 4 3, zl 22 21, zf 23 5 3, zl 24 23, zf 25 2 3, zl 26 25, zs 27 (.call 30 [.t 16, .t 18, .t 20, .t 22, .t 24, .t 26])]) (zr [yk 29 .eql 5 2, zm 28 29] (.cond (.t 28) (.reg [zm 30 0, zf 31 3 3, zl 32 31, zf 33 1 3, zl 34 33, zf 35 4 3, zl 36 35, zf 37 2 3, zl 38 37, zs 39 (.call 77 [.t 30, .t 32, .t 34, .t 36, .t 38])]) (zr [yk 41 .eql 5 3, zm 40 41] (.cond (.t 40) (.reg [zm 42 0, zf 43 3 3, zl 44 43, zf 45 1 3, zl 46 45, zf 47 4 3, zl 48 47, zs 49 (.call 78 [.t 42, .t 44, .t 46, .t 48])]) (zr [yk 51 .eql 5 4, zm 50 51] (.cond (.t 50) (.reg [zm 52 0, zf 53 3 3, zl 54 53, zf 55 1 3, zl 56 55, zf 57 4 3, zl 58 57, zf 59 2 3, zl 60 59, zs 61 (.call 79 [.t 52, .t 54, .t 56, .t 58, .t 60])]) (zr [yk 63 .eql 5 5, zm 62 63] (.cond (.t 62) (.reg [zm 64 0, zf 65 3 3, zl 66 65, zf 67 4 3, zl 68 67, zf 69 2 3, zl 70 69, zs 71 (.call 80 [.t 64, .t 66, .t 68, .t 70])]) .skip)))))))))))))), []⟩
def x34 : XFn := ⟨139, zr [zs 2 (.box 28 (.t 0)), zs 3 (.box 73 (.t 1)), zs 4 (.alloc 28 [.str ⟨#[]⟩, .v (.slice none 0 0)]), yn 5 0] (.seq (zr [zf 14 0 3, zl 15 14, yk 16 .eql 15 0] (.cond (.t 16) (zr [yt 17 2 2, zf 18 6 3, yt 19 9 18, zf 20 5 3, zl 21 20, zs 22 (.call 81 [.t 17, .t 19, .t 21]), yx 23 22 0, yx 24 22 1, ys 2 4 23, zm 5 24] .ret) .skip)) (.seq (zr [yt 25 2 2, yt 26 15 3, zs 27 (.call 82 [.t 25, .t 26]), zm 6 27] (zr [zm 28 6, yk 29 .neq 28 0] (.cond (.t 29) (zr [yt 30 2 2, zm 31 6, ys 2 4 30, zm 5 31] .ret) .skip))) (zr [yt 32 2 2, zf 33 3 3, zl 34 33, zs 35 (.call 52 [.t 32, .t 34]), zm 7 35] (zr [zf 36 1 2, zl 37 36, zm 38 7, yi 39 11 37 38, yt 40 11 39, zs 8 (.alloc 56 [.str ⟨#[]⟩, .str ⟨#[]⟩, .str ⟨#[]⟩, .str ⟨#[]⟩, .str ⟨#[]⟩, .v (.slice none 0 0), .v (.slice none 0 0), .int .i64 0, .bl false, .int .i64 0, .v (.slice none 0 0)]), ys 11 8 40] (zr [zs 41 (.bsl 120 3 0 [.int .i64 0, .str ⟨#[]⟩, .v (.slice none 0 0)] []), zf 42 10 8, zl 43 42, zs 44 (.app 54 54 120 3 48 (.t 41) (.t 43)), zm 9 44] (zr [yt 45 15 3, zs 46 (.call 83 [.t 45]), zm 10 46] (.seq (zr [yn 11 0] (.block 0 (.loop (.seq (zr [zm 47 11, zm 48 10, yl 49 48, yc 50 .lss 47 49] (.cond (.t 50) .skip (.exit 0))) (.seq (.block 1 (zr [zm 53 9, zm 54 10, zm 55 11, yi 56 1 54 55, zl 57 56, yi 58 3 53 57, yt 59 3 58, zs 12 (.alloc 120 [.int .i64 0, .str ⟨#[]⟩, .v (.slice none 0 0)]), ys 3 12 59] (.seq (zr [zf 60 0 3, zl 61 60] (.block 2 (zr [yk 63 .eql 61 1, zm 62 63] (.cond (.t 62) (zr [zf 64 5 3, zl 65 64, zf 66 1 12, ys 1 66 65] (.dreg (.take 1 (zf 68 2 12) (.take 2 (zl 69 68) (.take 4 (zf 71 4 3) (.take 5 (zl 72 71) (.take 6 (zf 73 5 3) (.take 7 (zl 74 73) (.take 8 (zf 75 2 3) (.take 9 (zl 76 75) (.take 10 (zs 77 (.bld [.str ⟨#[]⟩, .str ⟨#[]⟩, .int .i64 0, .int .i64 0] [(0, (1, .t 72)), (1, (1, .t 74)), (2, (1, .c (.int .i64 0))), (3, (1, .t 76))])) (.fork (.eff 0 0 true (zs 67 (.bsl 131 4 0 [.str ⟨#[]⟩, .str ⟨#[]⟩, .int .i64 0, .int .i64 0] [])) (.fork (.eff 3 1 true (zs 70 (.app 81 81 131 4 48 (.t 67) (.t 69))) (.eff 11 2 true (zs 78 (.bsl 131 4 1 [.str ⟨#[]⟩, .str ⟨#[]⟩, .int .i64 0, .int .i64 0] [(0, .t 77)])) (.eff 12 3 false (zs 79 (.app 81 81 131 4 48 (.t 70) (.t 78))) (.phase [2, 5, 7, 9] (.take 13 (zf 80 2 12) (.eff 14 4 false (ys 1 80 79) (.phase [2, 5, 7, 9] .nil))))))) (.eff 11 2 true (zs 78 (.bsl 131 4 1 [.str ⟨#[]⟩, .str ⟨#[]⟩, .int .i64 0, .int .i64 0] [(0, .t 77)])) (.eff 3 1 true (zs 70 (.app 81 81 131 4 48 (.t 67) (.t 69))) (.eff 12 3 false (zs 79 (.app 81 81 131 4 48 (.t 70) (.t 78))) (.phase [2, 5, 7, 9] (.take 13 (zf 80 2 12) (.eff 14 4 false (ys 1 80 79) (.phase [2, 5, 7, 9] .nil))))))))) (.eff 11 2 true (zs 78 (.bsl 131 4 1 [.str ⟨#[]⟩, .str ⟨#[]⟩, .int .i64 0, .int .i64 0] [(0, .t 77)])) (.eff 0 0 true (zs 67 (.bsl 131 4 0 [.str ⟨#[]⟩, .str ⟨#[]⟩, .int .i64 0, .int .i64 0] [])) (.eff 3 1 true (zs 70 (.app 81 81 131 4 48 (.t 67) (.t 69))) (.eff 12 3 false (zs 79 (.app 81 81 131 4 48 (.t 70) (.t 78))) (.phase [2, 5, 7, 9] (.take 13 (zf 80 2 12) (.eff 14 4 false (ys 1 80 79) (.phase [2, 5, 7, 9] .nil)))))))))))))))))) 4 [12, 3])) (zr [yk 82 .eql 61 3, zm 81 82] (.cond (.t 81) (.reg [zf 83 0 12, zn (.st 1 (.t 83) (.c (.int .i64 3)))]) (zr [yk 85 .eql 61 4, zm 84 85] (.cond (.t 84) (.reg [zf 86 0 12, zn (.st 1 (.t 86) (.c (.int .i64 0)))]) .skip)))))))) (.dreg (.take 0 (zm 87 9) (.take 1 (zm 88 10) (.take 2 (zm 89 11) (.take 3 (yi 90 1 88 89) (.take 4 (zl 91 90) (.take 5 (yt 92 3 12) (.take 6 (yi 93 3 87 91) (.eff 7 0 false (ys 3 93 92) (.phase [4, 5] .nil))))))))) 0 [10, 12])))) (.reg [zm 51 11, yp 52 51, zm 11 52])))))) (.seq (zr [zf 94 0 3, zl 95 94, yk 96 .eql 95 2, zm 97 96, gf 98 97 false 0 3, gl 99 97 false 98, gk 100 97 false .eql 99 5, yq 101 97 true 100] (.cond (.t 101) (.seq (zr [yn 13 0] (.block 3 (.loop (.seq (zr [zm 102 13, yk 103 .lss 102 3] (.cond (.t 103) .skip (.exit 3))) (.seq (.block 4 (.reg [zm 106 9, zm 107 13, yi 108 3 106 107, zf 109 0 108, zn (.st 1 (.t 109) (.c (.int .i64 2)))])) (.reg [zm 104 13, yp 105 104, zm 13 105])))))) (.reg [zf 110 9 8, zn (.st 1 (.t 110) (.c (.int .i64 4)))])) .skip)) (.seq (zr [zf 111 0 3, zl 112 111, yk 113 .eql 112 2] (.cond (.t 113) (zr [zm 114 9, zf 115 1 3, zl 116 115, yi 117 3 114 116, zf 118 0 117, zn (.st 1 (.t 118) (.c (.int .i64 1)))] (.reg [zf 119 9 8, zn (.st 1 (.t 119) (.c (.int .i64 1)))])) .skip)) (zr [zm 120 9, zf 121 10 8, ys 1 121 120] (.seq (.dreg (.take 1 (zf 123 1 2) (.take 2 (zl 124 123) (.take 3 (zm 125 7) (.take 4 (zs 126 (.sli 11 (.t 124) none (some (.t 125)))) (.take 6 (yt 128 11 8) (.take 9 (zf 131 1 2) (.take 10 (zl 132 131) (.take 11 (zm 133 7) (.take 12 (yp 134 133) (.take 13 (zs 135 (.sli 11 (.t 132) (some (.t 134)) none)) (.fork (.eff 0 0 true (zs 122 (.bsl 56 11 0 [.str ⟨#[]⟩, .str ⟨#[]⟩, .str ⟨#[]⟩, .str ⟨#[]⟩, .str ⟨#[]⟩, .v (.slice none 0 0), .v (.slice none 0 0), .int .i64 0, .bl false, .int .i64 0, .v (.slice none 0 0)] [])) (.fork (.eff 5 1 true (zs 127 (.app 26 26 56 11 176 (.t 122) (.t 126))) (.eff 7 2 true (zs 129 (.bsl 56 11 1 [.str ⟨#[]⟩, .str ⟨#[]⟩, .str ⟨#[]⟩, .str ⟨#[]⟩, .str ⟨#[]⟩, .v (.slice none 0 0), .v (.slice none 0 0), .int .i64 0, .bl false, .int .i64 0, .v (.slice none 0 0)] [(0, .t 128)])) (.eff 8 3 true (zs 130 (.app 26 26 56 11 176 (.t 127) (.t 129))) (.eff 14 4 false (zs 136 (.app 26 26 56 11 176 (.t 130) (.t 135))) (.phase [2, 6, 10] (.take 15 (zf 137 1 2) (.eff 16 5 false (ys 1 137 136) (.phase [2, 6, 10] .nil)))))))) (.eff 7 2 true (zs 129 (.bsl 56 11 1 [.str ⟨#[]⟩, .str ⟨#[]⟩, .str ⟨#[]⟩, .str ⟨#[]⟩, .str ⟨#[]⟩, .v (.slice none 0 0), .v (.slice none 0 0), .int .i64 0, .bl false, .int .i64 0, .v (.slice none 0 0)] [(0, .t 128)])) (.eff 5 1 true (zs 127 (.app 26 26 56 11 176 (.t 122) (.t 126))) (.eff 8 3 true (zs 130 (.app 26 26 56 11 176 (.t 127) (.t 129))) (.eff 14 4 false (zs 136 (.app 26 26 56 11 176 (.t 130) (.t 135))) (.phase [2, 6, 10] (.take 15 (zf 137 1 2) (.eff 16 5 false (ys 1 137 136) (.phase [2, 6, 10] .nil)))))))))) (.eff 7 2 true (zs 129 (.bsl 56 11 1 [.str ⟨#[]⟩, .str ⟨#[]⟩, .str ⟨#[]⟩, .str ⟨#[]⟩, .str ⟨#[]⟩, .v (.slice none 0 0), .v (.slice none 0 0), .int .i64 0, .bl false, .int .i64 0, .v (.slice none 0 0)] [(0, .t 128)])) (.eff 0 0 true (zs 122 (.bsl 56 11 0 [.str ⟨#[]⟩, .str ⟨#[]⟩, .str ⟨#[]⟩, .str ⟨#[]⟩, .str ⟨#[]⟩, .v (.slice none 0 0), .v (.slice none 0 0), .int .i64 0, .bl false, .int .i64 0, .v (.slice none 0 0)] [])) (.eff 5 1 true (zs 127 (.app 26 26 56 11 176 (.t 122) (.t 126))) (.eff 8 3 true (zs 130 (.app 26 26 56 11 176 (.t 127) (.t 129))) (.eff 14 4 false (zs 136 (.app 26 26 56 11 176 (.t 130) (.t 135))) (.phase [2, 6, 10] (.take 15 (zf 137 1 2) (.eff 16 5 false (ys 1 137 136) (.phase [2, 6, 10] .nil)))))))))))))))))))) 5 [2, 8]) (zr [yt 138 2 2, ys 2 4 138, yn 5 0] .ret)))))))))))), [.cell 4 true 2, .tmp 5]⟩
def x35 : XFn := ⟨12, zr [zs 1 (.box 33 (.t 0)), zs 2 (.alloc 33 [.str ⟨#[]⟩, .str ⟨#[]⟩, .str ⟨#[]⟩, .str ⟨#[]⟩, .str ⟨#[]⟩, .v (.slice none 0 0), .v (.slice none 0 0), .int .i64 0, .bl false])] (zr [zf 3 5 1, zl 4 3, zs 5 (.call 84 [.t 4]), zf 6 5 1, ys 1 6 5] (zr [zf 7 6 1, zl 8 7, zs 9 (.call 84 [.t 8]), zf 10 6 1, ys 1 10 9] (zr [yt 11 9 1, ys 9 2 11] .ret))), [.cell 2 true 9]⟩
def x36 : XFn := ⟨30, zr [yb 6 false] (.seq (zr [zm 9 0, zs 10 (.nck (.t 9)), zf 11 10 10, yt 12 9 11, yn 13 0] (.block 0 (.loop (zr [yk 14 .lss 13 3] (.seq (.cond (.t 14) .skip (.exit 0)) (.seq (.block 1 (zr [zm 15 13, zs 16 (.aix true 3 3 (.t 12) (.t 13)), zs 8 (.alloc 83 [.int .i64 0, .str ⟨#[]⟩, .v (.slice none 0 0)]), zm 7 15, ys 3 8 16] (zr [zm 17 1, yk 18 .eql 17 (-1), zm 19 18, zh 20 19 false 1, zh 21 19 false 7, gc 22 19 false .eql 20 21, yq 23 19 true 22, zm 24 23, zh 25 24 true 2, zg 26 24 true (.ld true 3 (.t 8)), zg 27 24 true (.cav (.t 25) [.t 26]), yr 28 24 27 false] (.cond (.t 28) (zr [yb 6 true] .ret) .skip)))) (.reg [yp 29 13, zm 13 29]))))))) (zr [yb 6 false] .ret)), [.tmp 6]⟩
def x37 : XFn := ⟨13, zr [zs 2 (.box 83 (.t 0)), yb 3 false] (zr [zf 4 0 2, zl 5 4, yk 6 .neq 5 0, zm 7 6, gf 8 7 false 1 2, gl 9 7 false 8, gl 10 7 false 1, gc 11 7 false .neq 9 10, yq 12 7 true 11, zm 3 12] .ret), [.tmp 3]⟩
def x38 : XFn := ⟨9, zr [yb 4 false] (zr [zm 5 0, zm 6 1, zs 7 (.call 85 [.t 5, .t 6]), yk 8 .geq 7 0, zm 4 8] .ret), [.tmp 4]⟩
def x39 : XFn := ⟨6, zr [yb 2 false] (zr [zm 3 0, zs 4 (.call 68 [.t 3]), yo 5 4, zm 2 5] .ret), [.tmp 2]⟩
def x40 : XFn := ⟨21, zr [yb 2 false] (zr [zm 6 0, yl 7 6, zs 8 (.mkr 106 (.t 7)), zm 3 8] (.seq (zr [zm 9 0, yl 10 9, yn 11 0] (.block 0 (.loop (zr [yc 12 .lss 11 10] (.seq (.cond (.t 12) .skip (.exit 0)) (.seq (.block 1 (zr [yi 13 1 9 11, zl 14 13, zm 5 14] (.seq (zr [zm 15 3, zm 16 5, zs 17 (.lkp none false (.bl false) (.t 15) (.t 16))] (.cond (.t 17) (zr [yb 2 true] .ret) .skip)) (.reg [zm 18 3, zm 19 5, zn (.upd none (.t 18) (.t 19) (.c (.bl true)))])))) (.reg [yp 20 11, zm 11 20]))))))) (zr [yb 2 false] .ret))), [.tmp 2]⟩
def x41 : XFn := ⟨50, zr [yb 4 false] (zr [zm 12 0, yl 13 12, zs 14 (.mkr 106 (.t 13)), zm 5 14] (.seq (zr [zm 15 0, yl 16 15, yn 17 0] (.block 0 (.loop (zr [yc 18 .lss 17 16] (.seq (.cond (.t 18) .skip (.exit 0)) (.seq (.block 1 (zr [yi 19 1 15 17, zl 20 19, zm 7 20] (.reg [zm 21 5, zm 22 7, zn (.upd none (.t 21) (.t 22) (.c (.bl true)))]))) (.reg [yp 23 17, zm 17 23]))))))) (.seq (zr [zm 24 1, yl 25 24, yn 26 0] (.block 2 (.loop (zr [yc 27 .lss 26 25] (.seq (.cond (.t 27) .skip (.exit 2)) (.seq (.block 3 (zr [yi 28 1 24 26, zl 29 28, zm 9 29] (.seq (zr [zm 30 9, yl 31 30, yk 32 .eql 31 0] (.cond (.t 32) (zr [yb 4 false] .ret) .skip)) (zr [zm 33 9, yl 34 33, yn 35 0] (.block 4 (.loop (zr [yc 36 .lss 35 34] (.seq (.cond (.t 36) .skip (.exit 4)) (.seq (.block 5 (zr [yi 37 1 33 35, zl 38 37, zm 11 38] (.seq (zr [zm 39 5, zm 40 11, zs 41 (.lkp none false (.bl false) (.t 39) (.t 40)), yo 42 41] (.cond (.t 42) (zr [yb 4 false] .ret) .skip)) (.reg [zm 43 5, zm 44 11, zn (.del none (.t 43) (.t 44))])))) (.reg [yp 45 35, zm 35 45])))))))))) (.reg [yp 46 26, zm 26 46]))))))) (zr [zm 47 5, zs 48 (.lenm (.t 47)), yk 49 .eql 48 0, zm 4 49] .ret)))), [.tmp 4]⟩
def x42 : XFn := ⟨8, zr [zs 3 (.box 9 (.t 0)), zs 4 (.box 9 (.t 1)), zs 5 (.box 3 (.t 2)), zs 6 (.mov (.c (.v .nilFunc)))] (zr [zs 7 (.mkf 86 [.t 3, .t 4, .t 5]), zm 6 7] .ret), [.tmp 6]⟩
def x43 : XFn := ⟨6, zr [zs 2 (.box 33 (.t 0)), zs 3 (.box 9 (.t 1)), zs 4 (.mov (.c (.v .nilFunc)))] (zr [zs 5 (.mkf 87 [.t 2, .t 3]), zm 4 5] .ret), [.tmp 4]⟩
def x44 : XFn := ⟨26, zr [zs 5 (.box 33 (.t 0)), zs 10 (.alloc 33 [.str ⟨#[]⟩, .str ⟨#[]⟩, .str ⟨#[]⟩, .str ⟨#[]⟩, .str ⟨#[]⟩, .v (.slice none 0 0), .v (.slice none 0 0), .int .i64 0, .bl false])] (zr [zm 11 1, zf 12 1 5, zl 13 12, zf 14 2 5, zl 15 14, zf 16 3 5, zl 17 16, zf 18 4 5, zl 19 18, zf 20 8 5, zl 21 20, zm 22 2, zm 23 3, zm 24 4, zs 25 (.bld [.str ⟨#[]⟩, .str ⟨#[]⟩, .str ⟨#[]⟩, .str ⟨#[]⟩, .str ⟨#[]⟩, .v (.slice none 0 0), .v (.slice none 0 0), .int .i64 0, .bl false] [(0, (1, .t 11)), (1, (1, .t 13)), (2, (1, .t 15)), (3, (1, .t 17)), (4, (1, .t 19)), (8, (1, .t 21)), (7, (1, .t 22)), (5, (1, .t 23)), (6, (1, .t 24))]), ys 9 10 25] .ret), [.cell 10 true 9]⟩
def x45 : XFn := ⟨40, zr [yn 4 0] (zr [zm 12 0, zs 13 (.call 88 [.t 12]), zm 5 13] (.seq (zr [zm 14 1, yl 15 14, yn 16 0] (.block 0 (.loop (zr [yc 17 .lss 16 15] (.seq (.cond (.t 17) .skip (.exit 0)) (.seq (.block 1 (zr [yi 18 1 14 16, zl 19 18, zm 7 19] (zr [zm 20 7, zm 21 5, zs 22 (.cav (.t 20) [.t 21]), zm 8 22] (zr [zm 23 8, yk 24 .neq 23 0] (.cond (.t 24) (zr [zm 25 8, zm 4 25] .ret) .skip))))) (.reg [yp 26 16, zm 16 26]))))))) (.seq (zr [zm 27 1, yl 28 27, yn 29 0] (.block 2 (.loop (zr [yc 30 .lss 29 28] (.seq (.cond (.t 30) .skip (.exit 2)) (.seq (.block 3 (zr [yi 31 1 27 29, zl 32 31, zm 10 32] (zr [zm 33 10, zm 34 0, zs 35 (.cav (.t 33) [.t 34]), zm 11 35] (zr [zm 36 11, yk 37 .neq 36 0] (.cond (.t 37) (zr [zm 38 11, zm 4 38] .ret) .skip))))) (.reg [yp 39 29, zm 29 39]))))))) (zr [yn 4 0] .ret)))), [.tmp 4]⟩
def x46 : XFn := ⟨28, zr [zs 4 (.mov (.c (.v (.slice none 0 0))))] (zr [zs 5 (.mov (.c (.v (.slice none 0 0))))] (.seq (zr [zm 8 0, zs 9 (.nck (.t 8)), zf 10 1 9, zl 11 10, zs 12 (.rng (.t 11))] (.block 0 (.loop (zr [zs 13 (.nxt (.t 12)), yx 14 13 0] (.seq (.cond (.t 14) .skip (.exit 0)) (.block 1 (zr [zs 15 (.ent (.t 12)), yx 16 15 0, yx 17 15 1, zm 6 16, zm 7 17] (zr [zm 18 1, zm 19 7, zs 20 (.cav (.t 18) [.t 19])] (.cond (.t 20) (.reg [zm 21 5, zm 22 6, zs 23 (.bsl 9 1 1 [.str ⟨#[]⟩] [(0, .t 22)]), zs 24 (.app 31 31 9 1 16 (.t 21) (.t 23)), zm 5 24]) .skip))))))))) (zr [zm 25 5, zs 26 (.call 51 [.t 25])] (zr [zm 27 5, zm 4 27] .ret)))), [.tmp 4]⟩
def x47 : XFn := ⟨3, zr [yb 2 false] (zr [yb 2 true] .ret), [.tmp 2]⟩
def x48 : XFn := ⟨106, zr [zs 6 (.box 28 (.t 0)), zs 12 (.alloc 28 [.str ⟨#[]⟩, .v (.slice none 0 0)]), yn 13 0] (zr [yt 18 2 6, zm 19 1, zs 20 (.call 52 [.t 18, .t 19]), zm 14 20] (.seq (zr [zm 21 14, yk 22 .lss 21 0] (.cond (.t 22) (zr [yt 23 2 6, ys 2 12 23, yn 13 4] .ret) .skip)) (zr [zf 24 1 6, zl 25 24, zm 26 14, yi 27 11 25 26, zf 28 0 27, yt 29 9 28, zs 15 (.alloc 33 [.str ⟨#[]⟩, .str ⟨#[]⟩, .str ⟨#[]⟩, .str ⟨#[]⟩, .str ⟨#[]⟩, .v (.slice none 0 0), .v (.slice none 0 0), .int .i64 0, .bl false]), ys 9 15 29] (.seq (zr [zm 30 3, yl 31 30, yk 32 .lss 31 2, zm 33 32, zh 34 33 false 3, ge 35 33 false 34, gk 36 33 false .gtr 35 64, yq 37 33 true 36, zm 38 37, zh 39 38 false 4, ge 40 38 false 39, zh 41 38 false 3, ge 42 38 false 41, gc 43 38 false .neq 40 42, yq 44 38 true 43, zm 45 44, zh 46 45 false 4, zg 47 45 false (.call 89 [.t 46]), go 48 45 false 47, yq 49 45 true 48, zm 50 49, gf 51 50 false 5 15, gl 52 50 false 51, zh 53 50 false 3, zg 54 50 false (.call 90 [.t 52, .t 53]), go 55 50 false 54, yq 56 50 true 55] (.cond (.t 56) (zr [yt 57 2 6, ys 2 12 57, yn 13 1] .ret) .skip)) (zr [zs 58 (.bsl 33 9 0 [.str ⟨#[]⟩, .str ⟨#[]⟩, .str ⟨#[]⟩, .str ⟨#[]⟩, .str ⟨#[]⟩, .v (.slice none 0 0), .v (.slice none 0 0), .int .i64 0, .bl false] []), zm 16 58] (.seq (zr [yn 17 0] (.block 0 (.loop (.seq (zr [zm 59 17, zm 60 3, yl 61 60, yc 62 .lss 59 61] (.cond (.t 62) .skip (.exit 0))) (.seq (.block 1 (.seq (zr [zm 65 4, zm 66 17, yi 67 1 65 66, zl 68 67, zs 69 (.call 91 [.t 68]), yo 70 69] (.cond (.t 70) (zr [yt 71 2 6, ys 2 12 71, yn 13 1] .ret) .skip)) (.dreg (.take 0 (zm 72 16) (.take 1 (zm 73 4) (.take 2 (zm 74 17) (.take 3 (yi 75 1 73 74) (.take 4 (zl 76 75) (.take 5 (zf 77 1 15) (.take 6 (zl 78 77) (.take 7 (zf 79 2 15) (.take 8 (zl 80 79) (.take 9 (zf 81 3 15) (.take 10 (zl 82 81) (.take 11 (zf 83 4 15) (.take 12 (zl 84 83) (.take 13 (zm 85 3) (.take 14 (zm 86 17) (.take 15 (yi 87 1 85 86) (.take 16 (zl 88 87) (.take 17 (zm 89 5) (.take 18 (zf 90 8 15) (.take 19 (zl 91 90) (.take 20 (zm 92 1) (.eff 21 0 true (zs 93 (.bsp 9 1 1 [.str ⟨#[]⟩] [(0, .t 92)])) (.take 22 (zs 94 (.bld [.str ⟨#[]⟩, .str ⟨#[]⟩, .str ⟨#[]⟩, .str ⟨#[]⟩, .str ⟨#[]⟩, .v (.slice none 0 0), .v (.slice none 0 0), .int .i64 0, .bl false] [(0, (1, .t 76)), (1, (1, .t 78)), (2, (1, .t 80)), (3, (1, .t 82)), (4, (1, .t 84)), (5, (1, .t 88)), (7, (1, .t 89)), (8, (1, .t 91)), (6, (1, .t 93))])) (.eff 23 1 false (zs 95 (.bsl 33 9 1 [.str ⟨#[]⟩, .str ⟨#[]⟩, .str ⟨#[]⟩, .str ⟨#[]⟩, .str ⟨#[]⟩, .v (.slice none 0 0), .v (.slice none 0 0), .int .i64 0, .bl false] [(0, .t 94)])) (.eff 24 2 false (zs 96 (.app 100 100 33 9 144 (.t 72) (.t 95))) (.phase [4, 6, 8, 10, 12, 16, 19] (.take 25 (zm 16 96) .nil))))))))))))))))))))))))))) 3 [4, 15, 3]))) (.reg [zm 63 17, yp 64 63, zm 17 64])))))) (zr [yt 97 2 6, zm 98 1, zs 99 (.bsl 9 1 1 [.str ⟨#[]⟩] [(0, .t 98)]), zm 100 2, zm 101 5, zm 102 16, zs 103 (.call 92 [.t 97, .t 99, .t 100, .t 101, .t 102]), yx 104 103 0, yx 105 103 1, ys 2 12 104, zm 13 105] .ret))))))), [.cell 12 true 2, .tmp 13]⟩
def x49 : XFn := ⟨127, zr [zs 5 (.box 28 (.t 0)), zs 10 (.alloc 28 [.str ⟨#[]⟩, .v (.slice none 0 0)]), yn 11 0] (.seq (zr [zm 17 1, yl 18 17, yk 19 .lss 18 2, zm 20 19, zh 21 20 false 1, ge 22 20 false 21, gk 23 20 false .gtr 22 64, yq 24 20 true 23, zm 25 24, zh 26 25 false 1, zg 27 25 false (.call 89 [.t 26]), go 28 25 false 27, yq 29 25 true 28] (.cond (.t 29) (zr [yt 30 2 5, ys 2 10 30, yn 11 1] .ret) .skip)) (.seq (zr [yn 12 0] (.block 0 (.loop (.seq (zr [zm 31 12, zm 32 1, yl 33 32, yc 34 .lss 31 33] (.cond (.t 34) .skip (.exit 0))) (.seq (.block 1 (.seq (.dreg (.take 0 (yt 37 2 5) (.take 1 (zm 38 1) (.take 2 (zm 39 12) (.take 3 (yi 40 1 38 39) (.take 4 (zl 41 40) (.eff 5 0 false (zs 42 (.call 52 [.t 37, .t 41])) (.phase [0, 4] (.take 6 (yk 43 .lss 42 0) .nil)))))))) 0 [5, 1]) (.cond (.t 43) (zr [yt 44 2 5, ys 2 10 44, yn 11 4] .ret) .skip))) (.reg [zm 35 12, yp 36 35, zm 12 36])))))) (.seq (.dreg (.take 0 (zf 45 1 5) (.take 1 (zl 46 45) (.take 2 (yt 47 2 5) (.take 3 (zm 48 1) (.take 4 (zs 49 (.iad 1 (.t 48) (.c (.int .i64 0)))) (.take 5 (zl 50 49) (.fork (.eff 6 0 true (zs 51 (.call 52 [.t 47, .t 50])) (.take 7 (yi 52 11 46 51) (.take 8 (zf 53 0 52) (.fork (.eff 9 0 true (yt 54 9 53) (.eff 10 0 true (zs 13 (.alloc 33 [.str ⟨#[]⟩, .str ⟨#[]⟩, .str ⟨#[]⟩, .str ⟨#[]⟩, .str ⟨#[]⟩, .v (.slice none 0 0), .v (.slice none 0 0), .int .i64 0, .bl false])) (.eff 11 1 false (ys 9 13 54) (.phase [1, 2, 5, 9] .nil)))) (.eff 10 0 true (zs 13 (.alloc 33 [.str ⟨#[]⟩, .str ⟨#[]⟩, .str ⟨#[]⟩, .str ⟨#[]⟩, .str ⟨#[]⟩, .v (.slice none 0 0), .v (.slice none 0 0), .int .i64 0, .bl false])) (.phase [1, 2, 5, 9] (.take 9 (yt 54 9 53) (.eff 11 1 false (ys 9 13 54) (.phase [1, 2, 5, 9] .nil))))))))) (.eff 10 0 true (zs 13 (.alloc 33 [.str ⟨#[]⟩, .str ⟨#[]⟩, .str ⟨#[]⟩, .str ⟨#[]⟩, .str ⟨#[]⟩, .v (.slice none 0 0), .v (.slice none 0 0), .int .i64 0, .bl false])) (.eff 6 0 true (zs 51 (.call 52 [.t 47, .t 50])) (.phase [1, 2, 5, 9] (.take 7 (yi 52 11 46 51) (.take 8 (zf 53 0 52) (.phase [1, 2, 5, 9] (.take 9 (yt 54 9 53) (.eff 11 1 false (ys 9 13 54) (.phase [1, 2, 5, 9] .nil)))))))))))))))) 1 [5, 1]) (zr [zs 55 (.bsl 9 1 0 [.str ⟨#[]⟩] []), zm 14 55] (.seq (zr [yn 15 0] (.block 2 (.loop (.seq (zr [zm 56 15, zm 57 1, yl 58 57, yc 59 .lss 56 58] (.cond (.t 59) .skip (.exit 2))) (.seq (.block 3 (.seq (.dreg (.take 0 (zf 62 1 5) (.take 1 (zl 63 62) (.take 2 (yt 64 2 5) (.take 3 (zm 65 1) (.take 4 (zm 66 15) (.take 5 (yi 67 1 65 66) (.take 6 (zl 68 67) (.fork (.eff 7 0 true (zs 69 (.call 52 [.t 64, .t 68])) (.take 8 (yi 70 11 63 69) (.take 9 (zf 71 0 70) (.fork (.eff 10 0 true (yt 72 9 71) (.eff 11 0 true (zs 16 (.alloc 33 [.str ⟨#[]⟩, .str ⟨#[]⟩, .str ⟨#[]⟩, .str ⟨#[]⟩, .str ⟨#[]⟩, .v (.slice none 0 0), .v (.slice none 0 0), .int .i64 0, .bl false])) (.eff 12 1 false (ys 9 16 72) (.phase [1, 2, 6, 10] .nil)))) (.eff 11 0 true (zs 16 (.alloc 33 [.str ⟨#[]⟩, .str ⟨#[]⟩, .str ⟨#[]⟩, .str ⟨#[]⟩, .str ⟨#[]⟩, .v (.slice none 0 0), .v (.slice none 0 0), .int .i64 0, .bl false])) (.phase [1, 2, 6, 10] (.take 10 (yt 72 9 71) (.eff 12 1 false (ys 9 16 72) (.phase [1, 2, 6, 10] .nil))))))))) (.eff 11 0 true (zs 16 (.alloc 33 [.str ⟨#[]⟩, .str ⟨#[]⟩, .str ⟨#[]⟩, .str ⟨#[]⟩, .str ⟨#[]⟩, .v (.slice none 0 0), .v (.slice none 0 0), .int .i64 0, .bl false])) (.eff 7 0 true (zs 69 (.call 52 [.t 64, .t 68])) (.phase [1, 2, 6, 10] (.take 8 (yi 70 11 63 69) (.take 9 (zf 71 0 70) (.phase [1, 2, 6, 10] (.take 10 (yt 72 9 71) (.eff 12 1 false (ys 9 16 72) (.phase [1, 2, 6, 10] .nil))))))))))))))))) 1 [5, 1]) (.seq (zr [zf 73 2 16, zl 74 73, zf 75 2 13, zl 76 75, yc 77 .neq 74 76, zm 78 77, gf 79 78 false 3 16, gl 80 78 false 79, gf 81 78 false 3 13, gl 82 78 false 81, gc 83 78 false .neq 80 82, yq 84 78 true 83, zm 85 84, gf 86 85 false 4 16, gl 87 85 false 86, gf 88 85 false 4 13, gl 89 85 false 88, gc 90 85 false .neq 87 89, yq 91 85 true 90, zm 92 91, gf 93 92 false 8 16, gl 94 92 false 93, gf 95 92 false 8 13, gl 96 92 false 95, zg 97 92 false (.cmb .neq (.t 94) (.t 96)), yq 98 92 true 97] (.cond (.t 98) (zr [yt 99 2 5, ys 2 10 99, yn 11 12] .ret) .skip)) (.reg [zm 100 14, zf 101 5 16, zl 102 101, zs 103 (.app 31 31 9 1 16 (.t 100) (.t 102)), zm 14 103])))) (.reg [zm 60 15, yp 61 60, zm 15 61])))))) (zr [yt 104 2 5, zm 105 1, zm 106 2, zm 107 4, zm 108 3, zf 109 1 13, zl 110 109, zf 111 2 13, zl 112 111, zf 113 3 13, zl 114 113, zf 115 4 13, zl 116 115, zm 117 14, zm 118 4, zf 119 8 13, zl 120 119, zm 121 1, zs 122 (.bld [.str ⟨#[]⟩, .str ⟨#[]⟩, .str ⟨#[]⟩, .str ⟨#[]⟩, .str ⟨#[]⟩, .v (.slice none 0 0), .v (.slice none 0 0), .int .i64 0, .bl false] [(0, (1, .t 108)), (1, (1, .t 110)), (2, (1, .t 112)), (3, (1, .t 114)), (4, (1, .t 116)), (5, (1, .t 117)), (7, (1, .t 118)), (8, (1, .t 120)), (6, (1, .t 121))]), zs 123 (.bsl 33 9 1 [.str ⟨#[]⟩, .str ⟨#[]⟩, .str ⟨#[]⟩, .str ⟨#[]⟩, .str ⟨#[]⟩, .v (.slice none 0 0), .v (.slice none 0 0), .int .i64 0, .bl false] [(0, .t 122)]), zs 124 (.call 92 [.t 104, .t 105, .t 106, .t 107, .t 123]), yx 125 124 0, yx 126 124 1, ys 2 10 125, zm 11 126] .ret)))))), [.cell 10 true 2, .tmp 11]⟩
def x50 : XFn := ⟨54, zr [zs 7 (.box 28 (.t 0)), zs 14 (.alloc 28 [.str ⟨#[]⟩, .v (.slice none 0 0)]), yn 15 0] (zr [yt 18 2 7, zm 19 1, zs 20 (.call 52 [.t 18, .t 19]), zm 16 20] (.seq (zr [zm 21 16, yk 22 .lss 21 0] (.cond (.t 22) (zr [yt 23 2 7, ys 2 14 23, yn 15 4] .ret) .skip)) (zr [zf 24 1 7, zl 25 24, zm 26 16, yi 27 11 25 26, zf 28 0 27, yt 29 9 28, zs 17 (.alloc 33 [.str ⟨#[]⟩, .str ⟨#[]⟩, .str ⟨#[]⟩, .str ⟨#[]⟩, .str ⟨#[]⟩, .v (.slice none 0 0), .v (.slice none 0 0), .int .i64 0, .bl false]), ys 9 17 29] (zr [yt 30 2 7, zm 31 1, zs 32 (.bsl 9 1 1 [.str ⟨#[]⟩] [(0, .t 31)]), zm 33 2, zm 34 6, zm 35 3, zf 36 1 17, zl 37 36, zm 38 4, zm 39 5, zf 40 4 17, zl 41 40, zf 42 5 17, zl 43 42, zm 44 6, zf 45 8 17, zl 46 45, zm 47 1, zs 48 (.bsp 9 1 1 [.str ⟨#[]⟩] [(0, .t 47)]), zs 49 (.bld [.str ⟨#[]⟩, .str ⟨#[]⟩, .str ⟨#[]⟩, .str ⟨#[]⟩, .str ⟨#[]⟩, .v (.slice none 0 0), .v (.slice none 0 0), .int .i64 0, .bl false] [(0, (1, .t 35)), (1, (1, .t 37)), (2, (1, .t 38)), (3, (1, .t 39)), (4, (1, .t 41)), (5, (1, .t 43)), (7, (1, .t 44)), (8, (1, .t 46)), (6, (1, .t 48))]), zs 50 (.bsl 33 9 1 [.str ⟨#[]⟩, .str ⟨#[]⟩, .str ⟨#[]⟩, .str ⟨#[]⟩, .str ⟨#[]⟩, .v (.slice none 0 0), .v (.slice none 0 0), .int .i64 0, .bl false] [(0, .t 49)]), zs 51 (.call 92 [.t 30, .t 32, .t 33, .t 34, .t 50]), yx 52 51 0, yx 53 51 1, ys 2 14 52, zm 15 53] .ret)))), [.cell 14 true 2, .tmp 15]⟩
def x52 : XFn := ⟨23, zr [zs 2 (.box 28 (.t 0)), yn 4 0] (.seq (zr [yn 5 0] (.block 0 (.loop (.seq (zr [zm 6 5, zf 7 1 2, zl 8 7, yl 9 8, yc 10 .lss 6 9] (.cond (.t 10) .skip (.exit 0))) (.seq (.block 1 (zr [zf 13 1 2, zl 14 13, zm 15 5, yi 16 11 14 15, zf 17 0 16, zf 18 0 17, zl 19 18, zm 20 1, yc 21 .eql 19 20] (.cond (.t 21) (zr [zm 22 5, zm 4 22] .ret) .skip))) (.reg [zm 11 5, yp 12 11, zm 5 12])))))) (zr [yn 4 (-1)] .ret)), [.tmp 4]⟩
def x53 : XFn := ⟨18, zr [yb 4 false] (.seq (zr [yn 5 0] (.block 0 (.loop (.seq (zr [zm 6 5, zm 7 0, yl 8 7, yc 9 .lss 6 8] (.cond (.t 9) .skip (.exit 0))) (.seq (.block 1 (zr [zm 12 0, zm 13 5, yi 14 1 12 13, zl 15 14, zm 16 1, yc 17 .eql 15 16] (.cond (.t 17) (zr [yb 4 true] .ret) .skip))) (.reg [zm 10 5, yp 11 10, zm 5 11])))))) (zr [yb 4 false] .ret)), [.tmp 4]⟩
def x54 : XFn := ⟨36, zr [zs 4 (.mov (.c (.v (.slice none 0 0))))] (.seq (zr [zm 6 0, zm 7 1, zs 8 (.call 53 [.t 6, .t 7])] (.cond (.t 8) (zr [zm 9 0, zm 4 9] .ret) .skip)) (zr [yn 5 0] (.seq (.block 0 (.loop (.seq (zr [zm 10 5, zm 11 0, yl 12 11, yc 13 .lss 10 12, zm 14 13, zh 15 14 true 0, zh 16 14 true 5, gi 17 14 true 1 15 16, gl 18 14 true 17, zh 19 14 true 1, gc 20 14 true .lss 18 19, yr 21 14 20 false] (.cond (.t 21) .skip (.exit 0))) (.block 1 (.reg [zm 22 5, yp 23 22, zm 5 23]))))) (.seq (.dreg (.take 1 (zm 25 0) (.take 2 (zm 26 5) (.take 3 (zs 27 (.sli 1 (.t 25) none (some (.t 26)))) (.take 5 (zm 29 1) (.take 8 (zm 32 0) (.take 9 (zm 33 5) (.take 10 (zs 34 (.sli 1 (.t 32) (some (.t 33)) none)) (.fork (.eff 0 0 false (zs 24 (.bsl 9 1 0 [.str ⟨#[]⟩] [])) (.fork (.eff 4 1 false (zs 28 (.app 31 31 9 1 16 (.t 24) (.t 27))) (.eff 6 2 false (zs 30 (.bsl 9 1 1 [.str ⟨#[]⟩] [(0, .t 29)])) (.eff 7 3 false (zs 31 (.app 31 31 9 1 16 (.t 28) (.t 30))) (.eff 11 4 false (zs 35 (.app 31 31 9 1 16 (.t 31) (.t 34))) (.take 12 (zm 4 35) .nil))))) (.eff 6 2 false (zs 30 (.bsl 9 1 1 [.str ⟨#[]⟩] [(0, .t 29)])) (.eff 4 1 false (zs 28 (.app 31 31 9 1 16 (.t 24) (.t 27))) (.eff 7 3 false (zs 31 (.app 31 31 9 1 16 (.t 28) (.t 30))) (.eff 11 4 false (zs 35 (.app 31 31 9 1 16 (.t 31) (.t 34))) (.take 12 (zm 4 35) .nil))))))) (.eff 6 2 false (zs 30 (.bsl 9 1 1 [.str ⟨#[]⟩] [(0, .t 29)])) (.eff 0 0 false (zs 24 (.bsl 9 1 0 [.str ⟨#[]⟩] [])) (.eff 4 1 false (zs 28 (.app 31 31 9 1 16 (.t 24) (.t 27))) (.eff 7 3 false (zs 31 (.app 31 31 9 1 16 (.t 28) (.t 30))) (.eff 11 4 false (zs 35 (.app 31 31 9 1 16 (.t 31) (.t 34))) (.take 12 (zm 4 35) .nil)))))))))))))) 5 []) .ret)))), [.tmp 4]⟩
def x55 : XFn := ⟨14, zr [yb 3 false] (zr [zl 7 1, zm 8 0, zs 9 (.call 56 [.t 7, .t 8]), zm 6 9, yx 10 6 0, yx 11 6 1, zm 4 10, zm 5 11] (zr [zm 12 5, yo 13 12, zm 3 13] .ret)), [.tmp 3]⟩
def x56 : XFn := ⟨16, zr [zs 3 (.box 9 (.t 1)), zs 4 (.mov (.c (.str ⟨#[]⟩))), yb 5 false] (zr [zm 7 0, zs 8 (.mkf 95 [.t 3]), zs 9 (.call 46 [.t 7, .t 8]), zm 6 9] (.seq (zr [zm 10 6, yl 11 10, yk 12 .eql 11 0] (.cond (.t 12) (zr [zs 4 (.mov (.c (.str ⟨#[]⟩))), yb 5 false] .ret) .skip)) (zr [zm 13 6, zs 14 (.iad 1 (.t 13) (.c (.int .i64 0))), zl 15 14, zm 4 15, yb 5 true] .ret))), [.tmp 4, .tmp 5]⟩
def x57 : XFn := ⟨32, zr [zs 2 (.box 28 (.t 0)), yn 4 0] (.seq (zr [yn 5 0] (.block 0 (.loop (.seq (zr [zm 6 5, zf 7 1 2, zl 8 7, yl 9 8, yc 10 .lss 6 9] (.cond (.t 10) .skip (.exit 0))) (.seq (.block 1 (zr [zf 13 1 2, zl 14 13, zm 15 5, yi 16 11 14 15, zf 17 9 16, zl 18 17, yk 19 .eql 18 0, zm 20 19, gf 21 20 true 1 2, gl 22 20 true 21, zh 23 20 true 5, gi 24 20 true 11 22 23, gf 25 20 true 0 24, gf 26 20 true 5 25, gl 27 20 true 26, zh 28 20 true 1, zg 29 20 true (.call 97 [.t 27, .t 28]), yr 30 20 29 false] (.cond (.t 30) (zr [zm 31 5, zm 4 31] .ret) .skip))) (.reg [zm 11 5, yp 12 11, zm 5 12])))))) (zr [yn 4 (-1)] .ret)), [.tmp 4]⟩
def x58 : XFn := ⟨23, zr [zs 1 (.box 28 (.t 0)), zs 2 (.mov (.c (.v (.slice none 0 0))))] (zr [zs 5 (.bsl 9 1 0 [.str ⟨#[]⟩] []), zm 3 5] (.seq (zr [yn 4 0] (.block 0 (.loop (.seq (zr [zm 6 4, zf 7 1 1, zl 8 7, yl 9 8, yc 10 .lss 6 9] (.cond (.t 10) .skip (.exit 0))) (.seq (.block 1 (.reg [zm 13 3, zf 14 1 1, zl 15 14, zm 16 4, yi 17 11 15 16, zf 18 0 17, zf 19 0 18, zl 20 19, zs 21 (.call 98 [.t 13, .t 20]), zm 3 21])) (.reg [zm 11 4, yp 12 11, zm 4 12])))))) (zr [zm 22 3, zm 2 22] .ret))), [.tmp 2]⟩
def x59 : XFn := ⟨8, zr [zs 3 (.box 9 (.t 1)), zs 4 (.mov (.c (.v (.slice none 0 0))))] (zr [zm 5 0, zs 6 (.mkf 99 [.t 3]), zs 7 (.call 46 [.t 5, .t 6]), zm 4 7] .ret), [.tmp 4]⟩
def x60 : XFn := ⟨56, zr [zs 2 (.box 28 (.t 0)), zs 4 (.mov (.c (.v (.slice none 0 0))))] (zr [zs 10 (.bsl 9 1 0 [.str ⟨#[]⟩] []), zm 5 10] (.seq (zr [yn 6 0] (.block 0 (.loop (.seq (zr [zm 11 6, zf 12 1 2, zl 13 12, yl 14 13, yc 15 .lss 11 14] (.cond (.t 15) .skip (.exit 0))) (.seq (.block 1 (zr [zf 18 1 2, zl 19 18, zm 20 6, yi 21 11 19 20, yt 22 11 21, zs 7 (.alloc 56 [.str ⟨#[]⟩, .str ⟨#[]⟩, .str ⟨#[]⟩, .str ⟨#[]⟩, .str ⟨#[]⟩, .v (.slice none 0 0), .v (.slice none 0 0), .int .i64 0, .bl false, .int .i64 0, .v (.slice none 0 0)]), ys 11 7 22] (zr [yb 8 false] (.seq (zr [yn 9 0] (.block 2 (.loop (.seq (zr [zm 23 9, yk 24 .lss 23 3] (.cond (.t 24) .skip (.exit 2))) (.seq (.block 3 (zr [zf 27 9 7, zl 28 27, yk 29 .eql 28 0, zm 30 29, gf 31 30 true 10 7, gl 32 30 true 31, zh 33 30 true 9, gi 34 30 true 3 32 33, gf 35 30 true 0 34, gl 36 30 true 35, gk 37 30 true .eql 36 0, yr 38 30 37 false, zm 39 38, gf 40 39 true 10 7, gl 41 39 true 40, zh 42 39 true 9, gi 43 39 true 3 41 42, gf 44 39 true 1 43, gl 45 39 true 44, zh 46 39 true 1, gc 47 39 true .eql 45 46, yr 48 39 47 false] (.cond (.t 48) (.reg [yb 8 true]) .skip))) (.reg [zm 25 9, yp 26 25, zm 9 26])))))) (zr [zm 49 8] (.cond (.t 49) (.reg [zm 50 5, zf 51 0 7, zf 52 0 51, zl 53 52, zs 54 (.call 98 [.t 50, .t 53]), zm 5 54]) .skip)))))) (.reg [zm 16 6, yp 17 16, zm 6 17])))))) (zr [zm 55 5, zm 4 55] .ret))), [.tmp 4]⟩
def x61 : XFn := ⟨38, zr [zs 4 (.mov (.c (.v (.slice none 0 0))))] (zr [zm 9 0, zs 10 (.nck (.t 9)), zf 11 1 10, zl 12 11, zm 13 1, zs 14 (.plk none false (.v (.pointer none)) (.t 12) (.t 13)), zm 5 14] (.seq (zr [zm 15 5, zs 16 (.cmn false (.t 15))] (.cond (.t 16) (zr [zs 4 (.mov (.c (.v (.slice none 0 0))))] .ret) .skip)) (zr [zs 17 (.mks 123 4 48 [.str ⟨#[]⟩, .int .i64 0, .int .i64 0, .str ⟨#[]⟩] (.c (.int .i64 0)) (.c (.int .i64 3))), zm 6 17] (.seq (zr [zm 18 5, zs 19 (.nck (.t 18)), zf 20 10 19, yt 21 9 20, yn 22 0] (.block 0 (.loop (zr [yk 23 .lss 22 3] (.seq (.cond (.t 23) .skip (.exit 0)) (.seq (.block 1 (zr [zm 24 22, zs 25 (.aix true 3 3 (.t 21) (.t 22)), zs 8 (.alloc 83 [.int .i64 0, .str ⟨#[]⟩, .v (.slice none 0 0)]), zm 7 24, ys 3 8 25] (.reg [zm 26 6, zm 27 1, zm 28 7, zf 29 0 8, zl 30 29, zf 31 1 8, zl 32 31, zs 33 (.bld [.str ⟨#[]⟩, .int .i64 0, .int .i64 0, .str ⟨#[]⟩] [(0, (1, .t 27)), (1, (1, .t 28)), (2, (1, .t 30)), (3, (1, .t 32))]), zs 34 (.bsl 123 4 1 [.str ⟨#[]⟩, .int .i64 0, .int .i64 0, .str ⟨#[]⟩] [(0, .t 33)]), zs 35 (.app 115 115 123 4 48 (.t 26) (.t 34)), zm 6 35]))) (.reg [yp 36 22, zm 22 36]))))))) (zr [zm 37 6, zm 4 37] .ret))))), [.tmp 4]⟩
def x62 : XFn := ⟨66, zr [zs 2 (.box 33 (.t 0)), zs 3 (.box 33 (.t 1)), yb 4 false] (zr [zf 5 0 2, zl 6 5, zf 7 0 3, zl 8 7, yc 9 .eql 6 8, zm 10 9, gf 11 10 true 1 2, gl 12 10 true 11, gf 13 10 true 1 3, gl 14 10 true 13, gc 15 10 true .eql 12 14, yr 16 10 15 false, zm 17 16, gf 18 17 true 2 2, gl 19 17 true 18, gf 20 17 true 2 3, gl 21 17 true 20, gc 22 17 true .eql 19 21, yr 23 17 22 false, zm 24 23, gf 25 24 true 3 2, gl 26 24 true 25, gf 27 24 true 3 3, gl 28 24 true 27, gc 29 24 true .eql 26 28, yr 30 24 29 false, zm 31 30, gf 32 31 true 4 2, gl 33 31 true 32, gf 34 31 true 4 3, gl 35 31 true 34, gc 36 31 true .eql 33 35, yr 37 31 36 false, zm 38 37, gf 39 38 true 5 2, gl 40 38 true 39, gf 41 38 true 5 3, gl 42 38 true 41, zg 43 38 true (.call 18 [.t 40, .t 42]), yr 44 38 43 false, zm 45 44, gf 46 45 true 6 2, gl 47 45 true 46, gf 48 45 true 6 3, gl 49 45 true 48, zg 50 45 true (.call 18 [.t 47, .t 49]), yr 51 45 50 false, zm 52 51, gf 53 52 true 7 2, gl 54 52 true 53, gf 55 52 true 7 3, gl 56 52 true 55, gc 57 52 true .eql 54 56, yr 58 52 57 false, zm 59 58, gf 60 59 true 8 2, gl 61 59 true 60, gf 62 59 true 8 3, gl 63 59 true 62, zg 64 59 true (.cmb .eql (.t 61) (.t 63)), yr 65 59 64 false, zm 4 65] .ret), [.tmp 4]⟩
def x63 : XFn := ⟨52, zr [zs 3 (.box 28 (.t 0)), yb 6 false] (zr [yt 9 2 3, zm 10 1, zs 11 (.call 52 [.t 9, .t 10]), zm 7 11] (.seq (zr [zm 12 7, yk 13 .lss 12 0, zm 14 13, gf 15 14 false 1 3, gl 16 14 false 15, zh 17 14 false 7, gi 18 14 false 11 16 17, gf 19 14 false 9 18, gl 20 14 false 19, gk 21 14 false .neq 20 0, yq 22 14 true 21] (.cond (.t 22) (zr [yb 6 false] .ret) .skip)) (.seq (zr [yn 8 0] (.block 0 (.loop (.seq (zr [zm 23 8, yk 24 .lss 23 3] (.cond (.t 24) .skip (.exit 0))) (.seq (.block 1 (zr [zf 27 1 3, zl 28 27, zm 29 7, yi 30 11 28 29, zf 31 10 30, zl 32 31, zm 33 8, yi 34 3 32 33, zf 35 0 34, zl 36 35, yk 37 .neq 36 0, zm 38 37, gf 39 38 false 1 3, gl 40 38 false 39, zh 41 38 false 7, gi 42 38 false 11 40 41, gf 43 38 false 10 42, gl 44 38 false 43, zh 45 38 false 8, gi 46 38 false 3 44 45, gf 47 38 false 1 46, gl 48 38 false 47, zh 49 38 false 2, gc 50 38 false .neq 48 49, yq 51 38 true 50] (.cond (.t 51) (zr [yb 6 false] .ret) .skip))) (.reg [zm 25 8, yp 26 25, zm 8 26])))))) (zr [yb 6 true] .ret)))), [.tmp 6]⟩
def x64 : XFn := ⟨37, zr [zs 6 (.mov (.c (.str ⟨#[]⟩))), yb 7 false] (zr [zm 11 0, zm 12 1, zm 13 2, zs 14 (.call 101 [.t 11, .t 12, .t 13]), zm 10 14, yx 15 10 0, yx 16 10 1, zs 8 (.alloc 83 [.int .i64 0, .str ⟨#[]⟩, .v (.slice none 0 0)]), ys 3 8 15, zm 9 16] (.seq (zr [zm 17 9, yo 18 17, zm 19 18, zh 20 19 false 0, zh 21 19 false 1, zg 22 19 false (.call 17 [.t 20, .t 21]), gk 23 19 false .neq 22 0, yq 24 19 true 23, zm 25 24, gf 26 25 false 0 8, gl 27 25 false 26, gk 28 25 false .neq 27 0, zh 29 25 false 28, gf 30 29 true 0 8, gl 31 29 true 30, gk 32 29 true .neq 31 3, zg 33 25 false (.pick (.t 29) (.t 32) (.c (.bl false))), yq 34 25 true 33] (.cond (.t 34) (zr [zs 6 (.mov (.c (.str ⟨#[]⟩))), yb 7 false] .ret) .skip)) (zr [zf 35 1 8, zl 36 35, zm 6 36, yb 7 true] .ret))), [.tmp 6, .tmp 7]⟩
def x65 : XFn := ⟨26, zr [yb 4 false] (.seq (zr [zm 6 0, yl 7 6, zm 8 1, yl 9 8, yc 10 .neq 7 9] (.cond (.t 10) (zr [yb 4 false] .ret) .skip)) (.seq (zr [yn 5 0] (.block 0 (.loop (.seq (zr [zm 11 5, zm 12 0, yl 13 12, yc 14 .lss 11 13] (.cond (.t 14) .skip (.exit 0))) (.seq (.block 1 (.seq (.dreg (.take 0 (zm 17 0) (.take 1 (zm 18 5) (.take 2 (yi 19 4 17 18) (.take 3 (yt 20 4 19) (.take 4 (zm 21 1) (.take 5 (zm 22 5) (.take 6 (yi 23 4 21 22) (.take 7 (yt 24 4 23) (.take 8 (zs 25 (.cms true [1, 1, 0, 0] (.t 20) (.t 24))) .nil))))))))) 0 [0, 1]) (.cond (.t 25) (zr [yb 4 false] .ret) .skip))) (.reg [zm 15 5, yp 16 15, zm 5 16])))))) (zr [yb 4 true] .ret))), [.tmp 4]⟩
def x66 : XFn := ⟨19, zr [zs 6 (.mov (.c (.v (.slice none 0 0))))] (zr [zm 10 0, zm 11 1, zm 12 2, zs 13 (.call 101 [.t 10, .t 11, .t 12]), zm 9 13, yx 14 9 0, yx 15 9 1, zs 7 (.alloc 83 [.int .i64 0, .str ⟨#[]⟩, .v (.slice none 0 0)]), ys 3 7 14, zm 8 15] (zr [zf 16 2 7, zl 17 16, zs 18 (.call 102 [.t 17]), zm 6 18] .ret)), [.tmp 6]⟩
def x67 : XFn := ⟨27, zr [zs 3 (.box 128 (.t 1)), yn 4 0] (.seq (.dreg (.take 0 (zm 6 0) (.take 1 (zs 7 (.nck (.t 6))) (.take 2 (zf 8 1 7) (.take 3 (zl 9 8) (.take 4 (zf 10 0 3) (.take 5 (zl 11 10) (.fork (.eff 6 0 true (zs 12 (.plk none false (.v (.pointer none)) (.t 9) (.t 11))) (.eff 7 0 true (zs 5 (.alloc 76 [.v (.pointer none)])) (.eff 8 1 false (ys 1 5 12) (.phase [3, 5] .nil)))) (.eff 7 0 true (zs 5 (.alloc 76 [.v (.pointer none)])) (.eff 6 0 false (zs 12 (.plk none false (.v (.pointer none)) (.t 9) (.t 11))) (.eff 8 1 false (ys 1 5 12) (.phase [3, 5] .nil))))))))))) 1 [0, 3]) (zr [zs 13 (.mkf 103 [.t 5]), zs 14 (.bld [.int .i64 0, .v .nilFunc] [(0, (1, .c (.int .i64 4))), (1, (1, .t 13))]), zs 15 (.mkf 104 [.t 3]), zs 16 (.bld [.int .i64 0, .v .nilFunc] [(0, (1, .c (.int .i64 3))), (1, (1, .t 15))]), zs 17 (.mkf 105 [.t 3]), zs 18 (.bld [.int .i64 0, .v .nilFunc] [(0, (1, .c (.int .i64 1))), (1, (1, .t 17))]), zs 19 (.mkf 107 [.t 5, .t 3]), zs 20 (.bld [.int .i64 0, .v .nilFunc] [(0, (1, .c (.int .i64 9))), (1, (1, .t 19))]), zs 21 (.mkf 109 [.t 5, .t 3]), zs 22 (.bld [.int .i64 0, .v .nilFunc] [(0, (1, .c (.int .i64 8))), (1, (1, .t 21))]), zs 23 (.mkf 111 [.t 3, .t 5]), zs 24 (.bld [.int .i64 0, .v .nilFunc] [(0, (1, .c (.int .i64 6))), (1, (1, .t 23))]), zs 25 (.bsl 136 2 6 [.int .i64 0, .v .nilFunc] [(0, .t 14), (1, .t 16), (2, .t 18), (3, .t 20), (4, .t 22), (5, .t 24)]), zs 26 (.call 70 [.t 25]), zm 4 26] .ret)), [.tmp 4]⟩
def x68 : XFn := ⟨36, zr [yb 2 false] (.seq (zr [zm 4 0, yz 5 4, yk 6 .lss 5 1, zm 7 6, zh 8 7 false 0, gz 9 7 false 8, gk 10 7 false .gtr 9 16, yq 11 7 true 10] (.cond (.t 11) (zr [yb 2 false] .ret) .skip)) (.seq (zr [zm 12 0, yz 13 12, yn 14 0] (.block 0 (.loop (zr [yc 15 .lss 14 13] (.seq (.cond (.t 15) .skip (.exit 0)) (.seq (.block 1 (zr [zm 16 14, zm 3 16] (zr [zm 17 0, zm 18 3, zs 19 (.idx (.t 17) (.t 18)), zs 20 (.call 114 [.t 19]), yo 21 20, zm 22 21, zh 23 22 true 0, zh 24 22 true 3, zg 25 22 true (.idx (.t 23) (.t 24)), zg 26 22 true (.call 115 [.t 25]), go 27 22 true 26, yr 28 22 27 false, zm 29 28, zh 30 29 true 0, zh 31 29 true 3, zg 32 29 true (.idx (.t 30) (.t 31)), zg 33 29 true (.cmp .neq (.t 32) (.c (.int .u8 45))), yr 34 29 33 false] (.cond (.t 34) (zr [yb 2 false] .ret) .skip)))) (.reg [yp 35 14, zm 14 35]))))))) (zr [yb 2 true] .ret))), [.tmp 2]⟩
def x69 : XFn := ⟨16, zr [zs 4 (.mov (.c (.str ⟨#[]⟩)))] (zr [zm 9 0, zm 10 1, zs 11 (.call 116 [.t 9, .t 10]), zm 8 11, yx 12 8 0, yx 13 8 1, yx 14 8 2, zm 5 12, zm 6 13, zm 7 14] (zr [zm 15 5, zm 4 15] .ret)), [.tmp 4]⟩
def x70 : XFn := ⟨17, zr [yn 2 0] (.seq (zr [zm 5 0, yl 6 5, yn 7 0] (.block 0 (.loop (zr [yc 8 .lss 7 6] (.seq (.cond (.t 8) .skip (.exit 0)) (.seq (.block 1 (zr [yi 9 2 5 7, yt 10 2 9, zs 4 (.alloc 136 [.int .i64 0, .v .nilFunc]), ys 2 4 10] (zr [zf 11 1 4, zl 12 11, zs 13 (.cav (.t 12) [])] (.cond (.t 13) (zr [zf 14 0 4, zl 15 14, zm 2 15] .ret) .skip)))) (.reg [yp 16 7, zm 7 16]))))))) (zr [yn 2 0] .ret)), [.tmp 2]⟩
def x71 : XFn := ⟨13, zr [yb 3 false] (zr [zl 4 0, yt 5 9 1, zs 6 (.call 72 [.t 4, .t 5]), yo 7 6, zm 8 7, gl 9 8 false 2, zg 10 8 false (.call 68 [.t 9]), go 11 8 false 10, yq 12 8 true 11, zm 3 12] .ret), [.tmp 3]⟩
def x72 : XFn := ⟨85, zr [zs 3 (.box 33 (.t 1)), yb 4 false] (.seq (zr [zf 8 0 3, zl 9 8, zs 10 (.call 68 [.t 9]), yo 11 10, zm 12 11, gf 13 12 false 2 3, gl 14 12 false 13, zg 15 12 false (.call 68 [.t 14]), go 16 12 false 15, yq 17 12 true 16, zm 18 17, gf 19 18 false 3 3, gl 20 18 false 19, zg 21 18 false (.call 68 [.t 20]), go 22 18 false 21, yq 23 18 true 22, zm 24 23, gf 25 24 false 4 3, gl 26 24 false 25, zg 27 24 false (.call 68 [.t 26]), go 28 24 false 27, yq 29 24 true 28] (.cond (.t 29) (zr [yb 4 false] .ret) .skip)) (.seq (.seq (.dreg (.take 0 (zf 30 1 3) (.take 1 (zl 31 30) (.take 2 (zm 32 0) (.take 3 (zs 33 (.nck (.t 32))) (.take 4 (zf 34 0 33) (.take 5 (zl 35 34) (.take 6 (yc 36 .neq 31 35) (.take 7 (zm 37 36) (.take 8 (gf 38 37 false 7 3) (.take 9 (gl 39 37 false 38) (.eff 10 0 false (zg 40 37 false (.call 106 [.t 39])) (.phase [1, 5, 9] (.take 11 (go 41 37 false 40) (.take 12 (yq 42 37 true 41) .nil)))))))))))))) 0 [3, 0]) (.cond (.t 42) (zr [yb 4 false] .ret) .skip)) (.seq (zr [zf 43 5 3, zl 44 43, yl 45 44, yk 46 .lss 45 1, zm 47 46, gf 48 47 false 5 3, gl 49 47 false 48, ge 50 47 false 49, gk 51 47 false .gtr 50 64, yq 52 47 true 51, zm 53 52, gf 54 53 false 6 3, gl 55 53 false 54, ge 56 53 false 55, gk 57 53 false .gtr 56 64, yq 58 53 true 57] (.cond (.t 58) (zr [yb 4 false] .ret) .skip)) (zr [zf 59 5 3, zl 60 59, yl 61 60, zs 62 (.mkr 106 (.t 61)), zm 5 62] (.seq (zr [zf 63 5 3, zl 64 63, yl 65 64, yn 66 0] (.block 0 (.loop (zr [yc 67 .lss 66 65] (.seq (.cond (.t 67) .skip (.exit 0)) (.seq (.block 1 (zr [yi 68 1 64 66, zl 69 68, zm 7 69] (.seq (zr [zm 70 7, zs 71 (.call 117 [.t 70]), yo 72 71, zm 73 72, zh 74 73 false 5, zh 75 73 false 7, zg 76 73 false (.lkp none false (.bl false) (.t 74) (.t 75)), yq 77 73 true 76] (.cond (.t 77) (zr [yb 4 false] .ret) .skip)) (.reg [zm 78 5, zm 79 7, zn (.upd none (.t 78) (.t 79) (.c (.bl true)))])))) (.reg [yp 80 66, zm 66 80]))))))) (zr [zf 81 6 3, zl 82 81, zs 83 (.call 38 [.t 82, .c (.clo 118 [])]), yo 84 83, zm 4 84] .ret)))))), [.tmp 4]⟩
def x73 : XFn := ⟨11, zr [yb 2 false] (.seq (.dreg (.take 0 (zl 3 0) (.take 1 (zs 4 (.nck (.t 3))) (.take 2 (zf 5 1 4) (.take 3 (zl 6 5) (.take 4 (zf 7 0 1) (.take 5 (zl 8 7) (.eff 6 0 false (zs 9 (.plk none false (.v (.pointer none)) (.t 6) (.t 8))) (.phase [0, 3, 5] (.take 7 (zs 10 (.cmn true (.t 9))) (.take 8 (zm 2 10) .nil)))))))))) 0 [0, 1]) .ret), [.tmp 2]⟩
def x74 : XFn := ⟨7, zr [yb 2 false] (zr [zf 3 5 0, zl 4 3, zs 5 (.mkf 75 [.t 1]), zs 6 (.call 38 [.t 4, .t 5]), zm 2 6] .ret), [.tmp 2]⟩
def x75 : XFn := ⟨13, zr [yb 3 false] (zr [zl 7 1, zm 8 0, zs 9 (.call 56 [.t 7, .t 8]), zm 6 9, yx 10 6 0, yx 11 6 1, zm 4 10, zm 5 11] (zr [zm 12 5, zm 3 12] .ret)), [.tmp 3]⟩
def x76 : XFn := ⟨8, zr [yb 1 false] (zr [zl 2 0, zs 3 (.nck (.t 2)), zf 4 1 3, zl 5 4, zs 6 (.lenm (.t 5)), yk 7 .geq 6 256, zm 1 7] .ret), [.tmp 1]⟩
def x77 : XFn := ⟨44, zr [zs 10 (.mov (.c (.v (.slice none 0 0)))), yn 11 0] (zr [zm 14 0, zm 15 1, zm 16 2, zm 17 3, zm 18 4, zs 19 (.bld [.str ⟨#[]⟩, .int .i64 0, .int .i64 0, .str ⟨#[]⟩, .int .i64 0, .int .i64 0, .bl false, .bl false] [(0, (1, .t 15)), (1, (1, .t 16)), (3, (1, .t 17)), (4, (1, .c (.int .i64 0))), (5, (1, .t 18)), (6, (1, .c (.bl true)))]), zs 20 (.call 67 [.t 14, .t 19]), zm 12 20] (.seq (zr [zm 21 12, yk 22 .neq 21 0] (.cond (.t 22) (zr [zm 23 12, zs 10 (.mov (.c (.v (.slice none 0 0)))), zm 11 23] .ret) .skip)) (zr [zm 24 0, zs 25 (.nck (.t 24)), zf 26 1 25, zl 27 26, zm 28 1, zs 29 (.plk none false (.v (.pointer none)) (.t 27) (.t 28)), zm 13 29] (zr [zm 30 13, zs 31 (.call 119 [.t 30, .c (.int .i64 1)])] (zr [zm 32 13, zm 33 2, zs 34 (.nck (.t 32)), zf 35 10 34, zs 36 (.aia 3 3 (.t 35) (.t 33)), zf 37 0 36, zn (.st 1 (.t 37) (.c (.int .i64 1)))] (zr [zm 38 13, zs 39 (.nck (.t 38)), zf 40 0 39, zf 41 5 40, zl 42 41, zs 43 (.call 84 [.t 42]), zm 10 43, yn 11 0] .ret)))))), [.tmp 10, .tmp 11]⟩
def x78 : XFn := ⟨30, zr [yn 8 0] (zr [zm 10 0, zm 11 1, zm 12 2, zm 13 3, zs 14 (.bld [.str ⟨#[]⟩, .int .i64 0, .int .i64 0, .str ⟨#[]⟩, .int .i64 0, .int .i64 0, .bl false, .bl false] [(0, (1, .t 11)), (1, (1, .t 12)), (3, (1, .t 13)), (4, (1, .c (.int .i64 0)))]), zs 15 (.call 67 [.t 10, .t 14]), zm 9 15] (.seq (zr [zm 16 9, yk 17 .eql 16 0] (.cond (.t 17) (.reg [zm 18 0, zs 19 (.nck (.t 18)), zf 20 1 19, zl 21 20, zm 22 1, zs 23 (.plk none false (.v (.pointer none)) (.t 21) (.t 22)), zm 24 2, zs 25 (.nck (.t 23)), zf 26 10 25, zs 27 (.aia 3 3 (.t 26) (.t 24)), zf 28 0 27, zn (.st 1 (.t 28) (.c (.int .i64 3)))]) .skip)) (zr [zm 29 9, zm 8 29] .ret))), [.tmp 8]⟩
def x79 : XFn := ⟨33, zr [yn 10 0] (zr [zm 12 0, zm 13 1, zm 14 2, zm 15 3, zm 16 4, zs 17 (.bld [.str ⟨#[]⟩, .int .i64 0, .int .i64 0, .str ⟨#[]⟩, .int .i64 0, .int .i64 0, .bl false, .bl false] [(0, (1, .t 13)), (1, (1, .t 14)), (3, (1, .t 15)), (4, (1, .c (.int .i64 3))), (5, (1, .t 16)), (6, (1, .c (.bl true)))]), zs 18 (.call 67 [.t 12, .t 17]), zm 11 18] (.seq (zr [zm 19 11, yk 20 .eql 19 0] (.cond (.t 20) (.reg [zm 21 0, zs 22 (.nck (.t 21)), zf 23 1 22, zl 24 23, zm 25 1, zs 26 (.plk none false (.v (.pointer none)) (.t 24) (.t 25)), zm 27 2, zs 28 (.nck (.t 26)), zf 29 10 28, zs 30 (.aia 3 3 (.t 29) (.t 27)), zf 31 0 30, zn (.st 1 (.t 31) (.c (.int .i64 0)))]) .skip)) (zr [zm 32 11, zm 10 32] .ret))), [.tmp 10]⟩
def x80 : XFn := ⟨26, zr [yn 8 0] (zr [zm 10 0, zm 11 1, zm 12 2, zm 13 3, zs 14 (.bld [.str ⟨#[]⟩, .int .i64 0, .int .i64 0, .str ⟨#[]⟩, .int .i64 0, .int .i64 0, .bl false, .bl false] [(0, (1, .t 11)), (1, (1, .c (.int .i64 (-1)))), (2, (1, .c (.int .i64 (-1)))), (3, (1, .t 12)), (4, (1, .c (.int .i64 0))), (5, (1, .t 13)), (6, (1, .c (.bl true)))]), zs 15 (.call 67 [.t 10, .t 14]), zm 9 15] (.seq (zr [zm 16 9, yk 17 .eql 16 0] (.cond (.t 17) (.reg [zm 18 0, zs 19 (.nck (.t 18)), zf 20 1 19, zl 21 20, zm 22 1, zs 23 (.plk none false (.v (.pointer none)) (.t 21) (.t 22)), zs 24 (.call 119 [.t 23, .c (.int .i64 4)])]) .skip)) (zr [zm 25 9, zm 8 25] .ret))), [.tmp 8]⟩
def x81 : XFn := ⟨67, zr [zs 3 (.box 28 (.t 0)), zs 4 (.box 33 (.t 1)), zs 6 (.alloc 28 [.str ⟨#[]⟩, .v (.slice none 0 0)]), yn 7 0] (.seq (zr [zf 10 0 3, zl 11 10, yt 12 9 4, zs 13 (.call 120 [.t 11, .t 12]), yo 14 13, zm 15 14, zh 16 15 false 2, zg 17 15 false (.call 91 [.t 16]), go 18 15 false 17, yq 19 15 true 18] (.cond (.t 19) (zr [yt 20 2 3, ys 2 6 20, yn 7 1] .ret) .skip)) (.seq (zr [yt 21 2 3, zf 22 0 4, zl 23 22, zs 24 (.call 52 [.t 21, .t 23]), yk 25 .geq 24 0] (.cond (.t 25) (zr [yt 26 2 3, ys 2 6 26, yn 7 5] .ret) .skip)) (.seq (zr [yn 8 0] (.block 0 (.loop (.seq (zr [zm 27 8, zf 28 5 4, zl 29 28, yl 30 29, yc 31 .lss 27 30] (.cond (.t 31) .skip (.exit 0))) (.seq (.block 1 (.seq (.dreg (.take 0 (yt 34 2 3) (.take 1 (zf 35 5 4) (.take 2 (zl 36 35) (.take 3 (zm 37 8) (.take 4 (yi 38 1 36 37) (.take 5 (zl 39 38) (.eff 6 0 false (zs 40 (.call 57 [.t 34, .t 39])) (.phase [0, 2, 5] (.take 7 (yk 41 .geq 40 0) .nil))))))))) 0 [3, 4]) (.cond (.t 41) (zr [yt 42 2 3, ys 2 6 42, yn 7 9] .ret) .skip))) (.reg [zm 32 8, yp 33 32, zm 8 33])))))) (.seq (zr [zf 43 1 3, zl 44 43, yl 45 44, yk 46 .geq 45 256] (.cond (.t 46) (zr [yt 47 2 3, ys 2 6 47, yn 7 7] .ret) .skip)) (zr [zm 48 2, zs 49 (.bld [.int .i64 0, .str ⟨#[]⟩, .v (.slice none 0 0)] [(0, (1, .c (.int .i64 0))), (1, (1, .t 48))]), zm 50 2, zs 51 (.bld [.int .i64 0, .str ⟨#[]⟩, .v (.slice none 0 0)] [(0, (1, .c (.int .i64 0))), (1, (1, .t 50))]), zm 52 2, zs 53 (.bld [.int .i64 0, .str ⟨#[]⟩, .v (.slice none 0 0)] [(0, (1, .c (.int .i64 0))), (1, (1, .t 52))]), zs 54 (.bsl 120 3 3 [.int .i64 0, .str ⟨#[]⟩, .v (.slice none 0 0)] [(0, .t 49), (1, .t 51), (2, .t 53)]), zm 9 54] (.seq (.dreg (.take 1 (zf 56 1 3) (.take 2 (zl 57 56) (.take 4 (yt 59 9 4) (.take 6 (zm 61 9) (.eff 0 0 true (zs 55 (.bsl 56 11 0 [.str ⟨#[]⟩, .str ⟨#[]⟩, .str ⟨#[]⟩, .str ⟨#[]⟩, .str ⟨#[]⟩, .v (.slice none 0 0), .v (.slice none 0 0), .int .i64 0, .bl false, .int .i64 0, .v (.slice none 0 0)] [])) (.eff 3 1 true (zs 58 (.app 26 26 56 11 176 (.t 55) (.t 57))) (.eff 5 2 false (zs 60 (.call 121 [.t 59])) (.take 7 (zs 62 (.bld [.str ⟨#[]⟩, .str ⟨#[]⟩, .str ⟨#[]⟩, .str ⟨#[]⟩, .str ⟨#[]⟩, .v (.slice none 0 0), .v (.slice none 0 0), .int .i64 0, .bl false, .int .i64 0, .v (.slice none 0 0)] [(0, (9, .t 60)), (9, (1, .c (.int .i64 0))), (10, (1, .t 61))])) (.eff 8 2 false (zs 63 (.bsl 56 11 1 [.str ⟨#[]⟩, .str ⟨#[]⟩, .str ⟨#[]⟩, .str ⟨#[]⟩, .str ⟨#[]⟩, .v (.slice none 0 0), .v (.slice none 0 0), .int .i64 0, .bl false, .int .i64 0, .v (.slice none 0 0)] [(0, .t 62)])) (.phase [2, 4] (.eff 9 3 false (zs 64 (.app 26 26 56 11 176 (.t 58) (.t 63))) (.phase [2, 4] (.take 10 (zf 65 1 3) (.eff 11 4 false (ys 1 65 64) (.phase [2, 4] .nil))))))))))))))) 4 [3, 4]) (zr [yt 66 2 3, ys 2 6 66, yn 7 0] .ret))))))), [.cell 6 true 2, .tmp 7]⟩
def x82 : XFn := ⟨139, zr [zs 2 (.box 28 (.t 0)), zs 3 (.box 73 (.t 1)), yn 4 0] (zr [yt 12 2 2, zf 13 3 3, zl 14 13, zs 15 (.call 52 [.t 12, .t 14]), zm 5 15] (.seq (zr [zm 16 5, yk 17 .lss 16 0] (.cond (.t 17) (zr [yn 4 4] .ret) .skip)) (.seq (zr [zf 18 0 3, zl 19 18, yk 20 .neq 19 5, zm 21 20, gf 22 21 true 1 3, gl 23 21 true 22, gk 24 21 true .lss 23 0, zh 25 21 true 24, gf 26 25 false 1 3, gl 27 25 false 26, gk 28 25 false .gtr 27 2, zg 29 21 true (.pick (.t 25) (.c (.bl true)) (.t 28)), yr 30 21 29 false, zm 31 30, gf 32 31 true 0 3, gl 33 31 true 32, gk 34 31 true .eql 33 1, zh 35 31 true 34, gf 36 35 true 1 3, gl 37 35 true 36, gk 38 35 true .eql 37 (-1), zg 39 31 true (.pick (.t 35) (.t 38) (.c (.bl false))), go 40 31 true 39, yr 41 31 40 false] (.cond (.t 41) (zr [yn 4 3] .ret) .skip)) (.seq (zr [zf 42 0 3, zl 43 42, yk 44 .neq 43 3, zm 45 44, gf 46 45 true 2 3, gl 47 45 true 46, zg 48 45 true (.call 122 [.t 47]), go 49 45 true 48, yr 50 45 49 false, zm 51 50, gf 52 51 false 0 3, gl 53 51 false 52, gk 54 51 false .eql 53 1, zh 55 51 false 54, gf 56 55 true 5 3, gl 57 55 true 56, zg 58 55 true (.call 91 [.t 57]), go 59 55 true 58, zh 60 55 true 59, gf 61 60 false 5 3, gl 62 60 false 61, gf 63 60 false 4 3, gl 64 60 false 63, gc 65 60 false .eql 62 64, zg 66 55 true (.pick (.t 60) (.c (.bl true)) (.t 65)), zg 67 51 false (.pick (.t 55) (.t 66) (.c (.bl false))), yq 68 51 true 67] (.cond (.t 68) (zr [yn 4 1] .ret) .skip)) (.seq (.dreg (.take 0 (zf 69 1 2) (.take 1 (zl 70 69) (.take 2 (zm 71 5) (.take 3 (yi 72 11 70 71) (.take 4 (yt 73 11 72) (.take 5 (yt 74 15 3) (.fork (.eff 6 0 true (zs 75 (.call 83 [.t 74])) (.eff 7 0 true (zs 6 (.alloc 56 [.str ⟨#[]⟩, .str ⟨#[]⟩, .str ⟨#[]⟩, .str ⟨#[]⟩, .str ⟨#[]⟩, .v (.slice none 0 0), .v (.slice none 0 0), .int .i64 0, .bl false, .int .i64 0, .v (.slice none 0 0)])) (.eff 8 1 false (ys 11 6 73) (.phase [1, 4, 5] (.take 9 (zm 7 75) (.take 10 (yn 8 0) .nil)))))) (.eff 7 0 true (zs 6 (.alloc 56 [.str ⟨#[]⟩, .str ⟨#[]⟩, .str ⟨#[]⟩, .str ⟨#[]⟩, .str ⟨#[]⟩, .v (.slice none 0 0), .v (.slice none 0 0), .int .i64 0, .bl false, .int .i64 0, .v (.slice none 0 0)])) (.eff 6 0 true (zs 75 (.call 83 [.t 74])) (.eff 8 1 false (ys 11 6 73) (.phase [1, 4, 5] (.take 9 (zm 7 75) (.take 10 (yn 8 0) .nil))))))))))))) 1 [2, 3]) (.seq (zr [zf 76 0 3, zl 77 76, yk 78 .eql 77 4] (.cond (.t 78) (.reg [yn 8 3]) .skip)) (.seq (zr [yn 9 0] (.block 0 (.loop (.seq (zr [zm 79 9, zm 80 7, yl 81 80, yc 82 .lss 79 81] (.cond (.t 82) .skip (.exit 0))) (.seq (.block 1 (.seq (.dreg (.take 0 (zf 85 9 6) (.take 1 (zl 86 85) (.take 2 (yk 87 .neq 86 0) (.take 3 (zm 88 87) (.take 4 (gf 89 88 false 10 6) (.take 5 (gl 90 88 false 89) (.take 6 (zh 91 88 false 7) (.take 7 (zh 92 88 false 9) (.take 8 (gi 93 88 false 1 91 92) (.take 9 (gl 94 88 false 93) (.take 10 (gi 95 88 false 3 90 94) (.take 11 (gf 96 88 false 0 95) (.take 12 (gl 97 88 false 96) (.take 13 (zh 98 88 false 8) (.take 14 (gc 99 88 false .neq 97 98) (.take 15 (yq 100 88 true 99) .nil)))))))))))))))) 0 [6, 7]) (.cond (.t 100) (zr [yn 4 9] .ret) .skip))) (.reg [zm 83 9, yp 84 83, zm 9 84])))))) (.seq (zr [yn 10 0] (.block 2 (.loop (.seq (zr [zm 101 10, zm 102 7, yl 103 102, yc 104 .lss 101 103] (.cond (.t 104) .skip (.exit 2))) (.seq (.block 3 (.seq (.dreg (.take 0 (zf 107 10 6) (.take 1 (zl 108 107) (.take 2 (zm 109 7) (.take 3 (zm 110 10) (.take 4 (yi 111 1 109 110) (.take 5 (zl 112 111) (.take 6 (yi 113 3 108 112) (.take 7 (zf 114 1 113) (.take 8 (zl 115 114) (.take 9 (zf 116 4 3) (.take 10 (zl 117 116) (.take 11 (yc 118 .neq 115 117) .nil)))))))))))) 0 [6, 7, 3]) (.cond (.t 118) (zr [yn 4 8] .ret) .skip))) (.reg [zm 105 10, yp 106 105, zm 10 106])))))) (.seq (zr [yn 11 0] (.block 4 (.loop (.seq (zr [zm 119 11, zm 120 7, yl 121 120, yc 122 .lss 119 121] (.cond (.t 122) .skip (.exit 4))) (.seq (.block 5 (.seq (.dreg (.take 0 (zf 125 0 3) (.take 1 (zl 126 125) (.take 2 (yk 127 .neq 126 3) (.take 3 (zm 128 127) (.take 4 (gf 129 128 true 2 3) (.take 5 (gl 130 128 true 129) (.take 6 (zg 131 128 true (.ld true 11 (.t 6))) (.take 7 (zh 132 128 true 7) (.take 8 (zh 133 128 true 11) (.take 9 (gi 134 128 true 1 132 133) (.take 10 (gl 135 128 true 134) (.eff 11 0 true (zg 136 128 true (.call 123 [.t 131, .t 135])) (.take 12 (gc 137 128 true .lss 130 136) (.take 13 (yr 138 128 137 false) .nil)))))))))))))) 0 [3, 6, 7]) (.cond (.t 138) (zr [yn 4 6] .ret) .skip))) (.reg [zm 123 11, yp 124 123, zm 11 124])))))) (zr [yn 4 0] .ret)))))))))), [.tmp 4]⟩
def x83 : XFn := ⟨20, zr [zs 1 (.box 73 (.t 0)), zs 2 (.mov (.c (.v (.slice none 0 0))))] (.seq (zr [zf 3 0 1, zl 4 3, yk 5 .eql 4 5, zm 6 5, gf 7 6 false 0 1, gl 8 6 false 7, gk 9 6 false .eql 8 1, zh 10 6 false 9, gf 11 10 true 1 1, gl 12 10 true 11, gk 13 10 true .eql 12 (-1), zg 14 6 false (.pick (.t 10) (.t 13) (.c (.bl false))), yq 15 6 true 14] (.cond (.t 15) (zr [zs 16 (.bsl 3 1 3 [.int .i64 0] [(0, .c (.int .i64 0)), (1, .c (.int .i64 1)), (2, .c (.int .i64 2))]), zm 2 16] .ret) .skip)) (zr [zf 17 1 1, zl 18 17, zs 19 (.bsl 3 1 1 [.int .i64 0] [(0, .t 18)]), zm 2 19] .ret)), [.tmp 2]⟩
def x84 : XFn := ⟨8, zr [zs 2 (.mov (.c (.v (.slice none 0 0))))] (.seq (zr [zm 3 0, zs 4 (.nils false (.t 3))] (.cond (.t 4) (zr [zs 2 (.mov (.c (.v (.slice none 0 0))))] .ret) .skip)) (zr [zs 5 (.bsl 9 1 0 [.str ⟨#[]⟩] []), zm 6 0, zs 7 (.app 31 31 9 1 16 (.t 5) (.t 6)), zm 2 7] .ret)), [.tmp 2]⟩
def x85 : XFn := ⟨19, zr [yn 4 0] (.seq (zr [zm 6 0, yl 7 6, yn 8 0] (.block 0 (.loop (zr [yc 9 .lss 8 7] (.seq (.cond (.t 9) .skip (.exit 0)) (.seq (.block 1 (zr [zm 10 8, zm 5 10] (zr [zm 11 1, zm 12 0, zm 13 5, yi 14 1 12 13, zl 15 14, zs 16 (.cav (.t 11) [.t 15])] (.cond (.t 16) (zr [zm 17 5, zm 4 17] .ret) .skip)))) (.reg [yp 18 8, zm 8 18]))))))) (zr [yn 4 (-1)] .ret)), [.tmp 4]⟩
def x86 : XFn := ⟨11, zr [yn 5 0] (zr [zm 6 0, zl 7 1, zl 8 2, zl 9 3, zs 10 (.call 80 [.t 6, .t 7, .t 8, .t 9]), zm 5 10] .ret), [.tmp 5]⟩
def x87 : XFn := ⟨9, zr [yn 4 0] (zr [zm 5 0, yt 6 9 1, zl 7 2, zs 8 (.call 32 [.t 5, .t 6, .t 7]), zm 4 8] .ret), [.tmp 4]⟩
def x88 : XFn := ⟨63, zr [zs 2 (.mov (.c (.v (.pointer none))))] (zr [zm 8 0, zs 9 (.nck (.t 8)), zf 10 0 9, zl 11 10, zs 12 (.call 31 [.t 11]), zm 3 12] (.seq (zr [zm 13 0, zs 14 (.nck (.t 13)), zf 15 1 14, zl 16 15, zs 17 (.rng (.t 16))] (.block 0 (.loop (zr [zs 18 (.nxt (.t 17)), yx 19 18 0] (.seq (.cond (.t 19) .skip (.exit 0)) (.block 1 (zr [zs 20 (.ent (.t 17)), yx 21 20 0, yx 22 20 1, zm 4 21, zm 5 22] (.seq (.dreg (.take 0 (zm 23 5) (.take 1 (zs 24 (.nck (.t 23))) (.take 2 (zf 25 0 24) (.take 3 (yt 26 9 25) (.take 5 (zm 28 5) (.take 6 (zs 29 (.nck (.t 28))) (.take 7 (zf 30 9 29) (.take 8 (zl 31 30) (.take 9 (zm 32 5) (.take 10 (zs 33 (.nck (.t 32))) (.take 11 (zf 34 10 33) (.take 12 (yt 35 9 34) (.eff 4 0 true (zs 27 (.call 35 [.t 26])) (.take 13 (zs 36 (.bld [.str ⟨#[]⟩, .str ⟨#[]⟩, .str ⟨#[]⟩, .str ⟨#[]⟩, .str ⟨#[]⟩, .v (.slice none 0 0), .v (.slice none 0 0), .int .i64 0, .bl false, .int .i64 0, .int .i64 0, .str ⟨#[]⟩, .v (.slice none 0 0), .int .i64 0, .str ⟨#[]⟩, .v (.slice none 0 0), .int .i64 0, .str ⟨#[]⟩, .v (.slice none 0 0)] [(0, (9, .t 27)), (9, (1, .t 31)), (10, (9, .t 35))])) (.eff 14 0 false (zs 37 (.box 86 (.t 36))) (.phase [3, 8, 12] (.take 15 (zm 6 37) .nil))))))))))))))))) 1 [5]) (.seq (zr [yn 38 0] (.block 2 (.loop (zr [yk 39 .lss 38 3] (.seq (.cond (.t 39) .skip (.exit 2)) (.seq (.block 3 (zr [zm 40 38, zm 7 40] (.dreg (.take 0 (zm 41 6) (.take 1 (zm 42 7) (.take 2 (zm 43 6) (.take 3 (zm 44 7) (.take 4 (zs 45 (.nck (.t 43))) (.take 5 (zf 46 10 45) (.take 6 (zs 47 (.aia 3 3 (.t 46) (.t 44))) (.take 7 (zf 48 2 47) (.take 8 (zl 49 48) (.take 10 (zs 51 (.nck (.t 41))) (.take 11 (zf 52 10 51) (.eff 9 0 false (zs 50 (.call 102 [.t 49])) (.take 12 (zs 53 (.aia 3 3 (.t 52) (.t 42))) (.take 13 (zf 54 2 53) (.eff 14 0 false (ys 1 54 50) (.phase [8] .nil)))))))))))))))) 0 [6]))) (.reg [yp 55 38, zm 38 55]))))))) (.reg [zm 56 3, zs 57 (.nck (.t 56)), zf 58 1 57, zl 59 58, zm 60 4, zm 61 6, zn (.pup none (.t 59) (.t 60) (.t 61))])))))))))) (zr [zm 62 3, zm 2 62] .ret))), [.tmp 2]⟩
def x89 : XFn := ⟨18, zr [yb 2 false] (.seq (zr [yn 3 0] (.block 0 (.loop (.seq (zr [zm 4 3, zm 5 0, yl 6 5, yc 7 .lss 4 6] (.cond (.t 7) .skip (.exit 0))) (.seq (.block 1 (.seq (.dreg (.take 0 (zm 10 0) (.take 1 (zm 11 3) (.take 2 (zs 12 (.sli 1 (.t 10) none (some (.t 11)))) (.take 3 (zm 13 0) (.take 4 (zm 14 3) (.take 5 (yi 15 1 13 14) (.take 6 (zl 16 15) (.eff 7 0 false (zs 17 (.call 53 [.t 12, .t 16])) (.phase [6] .nil))))))))) 0 [0]) (.cond (.t 17) (zr [yb 2 false] .ret) .skip))) (.reg [zm 8 3, yp 9 8, zm 3 9])))))) (zr [yb 2 true] .ret)), [.tmp 2]⟩
def x90 : XFn := ⟨50, zr [yb 4 false] (zr [zs 8 (.bsl 9 1 0 [.str ⟨#[]⟩] []), zm 5 8] (.seq (zr [yn 6 0] (.block 0 (.loop (.seq (zr [zm 9 6, zm 10 1, yl 11 10, yc 12 .lss 9 11] (.cond (.t 12) .skip (.exit 0))) (.seq (.block 1 (.seq (zr [zm 15 1, zm 16 6, yi 17 1 15 16, zl 18 17, yl 19 18, yk 20 .eql 19 0] (.cond (.t 20) (zr [yb 4 false] .ret) .skip)) (.reg [zm 21 5, zm 22 1, zm 23 6, yi 24 1 22 23, zl 25 24, zs 26 (.app 31 31 9 1 16 (.t 21) (.t 25)), zm 5 26]))) (.reg [zm 13 6, yp 14 13, zm 6 14])))))) (.seq (zr [zm 27 5, yl 28 27, zm 29 0, yl 30 29, yc 31 .neq 28 30, zm 32 31, zh 33 32 false 5, zg 34 32 false (.call 89 [.t 33]), go 35 32 false 34, yq 36 32 true 35] (.cond (.t 36) (zr [yb 4 false] .ret) .skip)) (.seq (zr [yn 7 0] (.block 2 (.loop (.seq (zr [zm 37 7, zm 38 5, yl 39 38, yc 40 .lss 37 39] (.cond (.t 40) .skip (.exit 2))) (.seq (.block 3 (zr [zm 43 0, zm 44 5, zm 45 7, yi 46 1 44 45, zl 47 46, zs 48 (.call 53 [.t 43, .t 47]), yo 49 48] (.cond (.t 49) (zr [yb 4 false] .ret) .skip))) (.reg [zm 41 7, yp 42 41, zm 7 42])))))) (zr [yb 4 true] .ret))))), [.tmp 4]⟩
def x91 : XFn := ⟨36, zr [yb 2 false] (.seq (zr [yn 3 0] (.block 0 (.loop (.seq (zr [zm 4 3, zm 5 0, yz 6 5, yc 7 .lss 4 6] (.cond (.t 7) .skip (.exit 0))) (.seq (.block 1 (zr [zm 10 0, zm 11 3, zs 12 (.idx (.t 10) (.t 11)), zs 13 (.call 124 [.t 12]), yo 14 13, zm 15 14, zh 16 15 true 0, zh 17 15 true 3, zg 18 15 true (.idx (.t 16) (.t 17)), zg 19 15 true (.call 125 [.t 18]), go 20 15 true 19, yr 21 15 20 false, zm 22 21, zh 23 22 true 0, zh 24 22 true 3, zg 25 22 true (.idx (.t 23) (.t 24)), zg 26 22 true (.cmp .neq (.t 25) (.c (.int .u8 45))), yr 27 22 26 false] (.cond (.t 27) (zr [yb 2 false] .ret) .skip))) (.reg [zm 8 3, yp 9 8, zm 3 9])))))) (zr [zm 28 0, yz 29 28, yk 30 .geq 29 1, zm 31 30, zh 32 31 true 0, gz 33 31 true 32, gk 34 31 true .leq 33 16, yr 35 31 34 false, zm 2 35] .ret)), [.tmp 2]⟩
def x92 : XFn := ⟨51, zr [zs 5 (.box 28 (.t 0)), zs 10 (.alloc 28 [.str ⟨#[]⟩, .v (.slice none 0 0)]), yn 11 0] (zr [yt 18 2 5, zm 19 1, zm 20 2, zm 21 3, zs 22 (.call 126 [.t 18, .t 19, .t 20, .t 21]), zm 17 22, yx 23 17 0, yx 24 17 1, zs 12 (.alloc 28 [.str ⟨#[]⟩, .v (.slice none 0 0)]), ys 2 12 23, zm 13 24] (.seq (zr [zm 25 13, yk 26 .neq 25 0] (.cond (.t 26) (zr [yt 27 2 5, zm 28 13, ys 2 10 27, zm 11 28] .ret) .skip)) (.seq (zr [yn 14 0] (.block 0 (.loop (.seq (zr [zm 29 14, zm 30 4, yl 31 30, yc 32 .lss 29 31] (.cond (.t 32) .skip (.exit 0))) (.seq (.block 1 (.seq (.dreg (.take 0 (yt 36 2 12) (.take 1 (zm 37 4) (.take 2 (zm 38 14) (.take 3 (yi 39 9 37 38) (.take 4 (yt 40 9 39) (.take 5 (zm 41 2) (.fork (.eff 6 0 true (zs 42 (.call 81 [.t 36, .t 40, .t 41])) (.take 7 (zm 35 42) (.take 8 (yx 43 35 0) (.take 9 (yx 44 35 1) (.eff 10 0 true (zs 15 (.alloc 28 [.str ⟨#[]⟩, .v (.slice none 0 0)])) (.eff 11 1 false (ys 2 15 43) (.take 12 (zm 16 44) .nil))))))) (.eff 10 0 true (zs 15 (.alloc 28 [.str ⟨#[]⟩, .v (.slice none 0 0)])) (.eff 6 0 false (zs 42 (.call 81 [.t 36, .t 40, .t 41])) (.take 7 (zm 35 42) (.take 8 (yx 43 35 0) (.take 9 (yx 44 35 1) (.eff 11 1 false (ys 2 15 43) (.take 12 (zm 16 44) .nil)))))))))))))) 1 [12, 4]) (.seq (zr [zm 45 16, yk 46 .neq 45 0] (.cond (.t 46) (zr [yt 47 2 5, zm 48 16, ys 2 10 47, zm 11 48] .ret) .skip)) (.reg [yt 49 2 15, ys 2 12 49])))) (.reg [zm 33 14, yp 34 33, zm 14 34])))))) (zr [yt 50 2 12, ys 2 10 50, yn 11 0] .ret)))), [.cell 10 true 2, .tmp 11]⟩
def x95 : XFn := ⟨18, zr [yb 3 false] (.seq (.dreg (.take 0 (zm 4 0) (.take 1 (zs 5 (.nck (.t 4))) (.take 2 (zf 6 9 5) (.take 3 (zl 7 6) (.take 4 (yk 8 .eql 7 0) (.take 5 (zm 9 8) (.take 6 (zh 10 9 true 0) (.take 7 (zg 11 9 true (.nck (.t 10))) (.take 8 (gf 12 9 true 0 11) (.take 9 (gf 13 9 true 5 12) (.take 10 (gl 14 9 true 13) (.take 11 (gl 15 9 true 1) (.eff 12 0 false (zg 16 9 true (.call 96 [.t 14, .t 15])) (.phase [3, 10, 11] (.take 13 (yr 17 9 16 false) (.take 14 (zm 3 17) .nil)))))))))))))))) 0 [0, 1]) .ret), [.tmp 3]⟩
def x96 : XFn := ⟨9, zr [yb 4 false] (zr [zm 5 0, zm 6 1, zs 7 (.call 138 [.t 5, .t 6]), yk 8 .geq 7 0, zm 4 8] .ret), [.tmp 4]⟩
def x97 : XFn := ⟨18, zr [yb 4 false] (.seq (zr [yn 5 0] (.block 0 (.loop (.seq (zr [zm 6 5, zm 7 0, yl 8 7, yc 9 .lss 6 8] (.cond (.t 9) .skip (.exit 0))) (.seq (.block 1 (zr [zm 12 0, zm 13 5, yi 14 1 12 13, zl 15 14, zm 16 1, yc 17 .eql 15 16] (.cond (.t 17) (zr [yb 4 true] .ret) .skip))) (.reg [zm 10 5, yp 11 10, zm 5 11])))))) (zr [yb 4 false] .ret)), [.tmp 4]⟩
def x98 : XFn := ⟨32, zr [zs 4 (.mov (.c (.v (.slice none 0 0))))] (zr [yn 5 0] (.seq (.block 0 (.loop (.seq (zr [zm 6 5, zm 7 0, yl 8 7, yc 9 .lss 6 8, zm 10 9, zh 11 10 true 0, zh 12 10 true 5, gi 13 10 true 1 11 12, gl 14 10 true 13, zh 15 10 true 1, gc 16 10 true .lss 14 15, yr 17 10 16 false] (.cond (.t 17) .skip (.exit 0))) (.block 1 (.reg [zm 18 5, yp 19 18, zm 5 19]))))) (.seq (.dreg (.take 1 (zm 21 0) (.take 2 (zm 22 5) (.take 3 (zs 23 (.sli 1 (.t 21) none (some (.t 22)))) (.take 5 (zm 25 1) (.take 8 (zm 28 0) (.take 9 (zm 29 5) (.take 10 (zs 30 (.sli 1 (.t 28) (some (.t 29)) none)) (.fork (.eff 0 0 false (zs 20 (.bsl 9 1 0 [.str ⟨#[]⟩] [])) (.fork (.eff 4 1 false (zs 24 (.app 31 31 9 1 16 (.t 20) (.t 23))) (.eff 6 2 false (zs 26 (.bsl 9 1 1 [.str ⟨#[]⟩] [(0, .t 25)])) (.eff 7 3 false (zs 27 (.app 31 31 9 1 16 (.t 24) (.t 26))) (.eff 11 4 false (zs 31 (.app 31 31 9 1 16 (.t 27) (.t 30))) (.take 12 (zm 4 31) .nil))))) (.eff 6 2 false (zs 26 (.bsl 9 1 1 [.str ⟨#[]⟩] [(0, .t 25)])) (.eff 4 1 false (zs 24 (.app 31 31 9 1 16 (.t 20) (.t 23))) (.eff 7 3 false (zs 27 (.app 31 31 9 1 16 (.t 24) (.t 26))) (.eff 11 4 false (zs 31 (.app 31 31 9 1 16 (.t 27) (.t 30))) (.take 12 (zm 4 31) .nil))))))) (.eff 6 2 false (zs 26 (.bsl 9 1 1 [.str ⟨#[]⟩] [(0, .t 25)])) (.eff 0 0 false (zs 20 (.bsl 9 1 0 [.str ⟨#[]⟩] [])) (.eff 4 1 false (zs 24 (.app 31 31 9 1 16 (.t 20) (.t 23))) (.eff 7 3 false (zs 27 (.app 31 31 9 1 16 (.t 24) (.t 26))) (.eff 11 4 false (zs 31 (.app 31 31 9 1 16 (.t 27) (.t 30))) (.take 12 (zm 4 31) .nil)))))))))))))) 5 []) .ret))), [.tmp 4]⟩
def x99 : XFn := ⟨14, zr [yb 3 false] (zr [zm 4 0, zs 5 (.nck (.t 4)), zf 6 9 5, zl 7 6, yk 8 .eql 7 0, zm 9 8, zh 10 9 true 0, zg 11 9 true (.mkf 100 [.t 1]), zg 12 9 true (.call 36 [.t 10, .c (.int .i64 (-1)), .t 11]), yr 13 9 12 false, zm 3 13] .ret), [.tmp 3]⟩
def x100 : XFn := ⟨13, zr [zs 2 (.box 83 (.t 0)), yb 3 false] (zr [zf 4 0 2, zl 5 4, yk 6 .eql 5 0, zm 7 6, gf 8 7 true 1 2, gl 9 7 true 8, gl 10 7 true 1, gc 11 7 true .eql 9 10, yr 12 7 11 false, zm 3 12] .ret), [.tmp 3]⟩
def x101 : XFn := ⟨32, zr [zs 6 (.alloc 83 [.int .i64 0, .str ⟨#[]⟩, .v (.slice none 0 0)]), yb 7 false] (zr [zm 9 0, zs 10 (.nck (.t 9)), zf 11 1 10, zl 12 11, zm 13 1, zs 14 (.plk none false (.v (.pointer none)) (.t 12) (.t 13)), zm 8 14] (.seq (zr [zm 15 8, zs 16 (.cmn false (.t 15)), zm 17 16, zh 18 17 false 2, gk 19 17 false .lss 18 0, yq 20 17 true 19, zm 21 20, zh 22 21 false 2, gk 23 21 false .geq 22 3, yq 24 21 true 23] (.cond (.t 24) (zr [zs 25 (.bld [.int .i64 0, .str ⟨#[]⟩, .v (.slice none 0 0)] []), ys 3 6 25, yb 7 false] .ret) .skip)) (zr [zm 26 8, zm 27 2, zs 28 (.nck (.t 26)), zf 29 10 28, zs 30 (.aia 3 3 (.t 29) (.t 27)), yt 31 3 30, ys 3 6 31, yb 7 true] .ret))), [.cell 6 true 3, .tmp 7]⟩
def x102 : XFn := ⟨8, zr [zs 2 (.mov (.c (.v (.slice none 0 0))))] (.seq (zr [zm 3 0, zs 4 (.nils false (.t 3))] (.cond (.t 4) (zr [zs 2 (.mov (.c (.v (.slice none 0 0))))] .ret) .skip)) (zr [zs 5 (.bsl 131 4 0 [.str ⟨#[]⟩, .str ⟨#[]⟩, .int .i64 0, .int .i64 0] []), zm 6 0, zs 7 (.app 81 81 131 4 48 (.t 5) (.t 6)), zm 2 7] .ret)), [.tmp 2]⟩
def x103 : XFn := ⟨4, zr [yb 1 false] (zr [zl 2 0, zs 3 (.cmn false (.t 2)), zm 1 3] .ret), [.tmp 1]⟩
def x104 : XFn := ⟨12, zr [yb 1 false] (zr [zf 2 1 0, zl 3 2, zf 4 2 0, zl 5 4, yc 6 .lss 3 5, zm 7 6, gf 8 7 false 1 0, gl 9 7 false 8, gk 10 7 false .geq 9 3, yq 11 7 true 10, zm 1 11] .ret), [.tmp 1]⟩
def x105 : XFn := ⟨14, zr [yb 1 false] (zr [zf 2 7 0, zl 3 2, zm 4 3, gf 5 4 false 6 0, gl 6 4 false 5, zh 7 4 false 6, gf 8 7 true 5 0, gl 9 7 true 8, zg 10 7 true (.call 106 [.t 9]), go 11 7 true 10, zg 12 4 false (.pick (.t 7) (.t 11) (.c (.bl false))), yq 13 4 true 12, zm 1 13] .ret), [.tmp 1]⟩
def x106 : XFn := ⟨9, zr [yb 2 false] (zr [zm 3 0, yk 4 .geq 3 0, zm 5 4, zh 6 5 true 0, gk 7 5 true .leq 6 1048576, yr 8 5 7 false, zm 2 8] .ret), [.tmp 2]⟩
def x107 : XFn := ⟨15, zr [yb 2 false] (zr [zl 3 0, zs 4 (.nck (.t 3)), zf 5 9 4, zl 6 5, yk 7 .neq 6 0, zm 8 7, gl 9 8 false 0, gf 10 8 false 1 1, gl 11 8 false 10, zg 12 8 false (.mkf 108 [.t 1]), zg 13 8 false (.call 36 [.t 9, .t 11, .t 12]), yq 14 8 true 13, zm 2 14] .ret), [.tmp 2]⟩
def x108 : XFn := ⟨9, zr [zs 2 (.box 83 (.t 0)), yb 3 false] (zr [zf 4 0 2, zl 5 4, zf 6 4 1, zl 7 6, yc 8 .neq 5 7, zm 3 8] .ret), [.tmp 3]⟩
def x109 : XFn := ⟨8, zr [yb 2 false] (zr [zl 3 0, zf 4 1 1, zl 5 4, zs 6 (.mkf 110 [.t 1]), zs 7 (.call 36 [.t 3, .t 5, .t 6]), zm 2 7] .ret), [.tmp 2]⟩
def x110 : XFn := ⟨9, zr [zs 2 (.box 83 (.t 0)), yb 3 false] (zr [zf 4 1 2, zl 5 4, zf 6 3 1, zl 7 6, yc 8 .neq 5 7, zm 3 8] .ret), [.tmp 3]⟩
def x111 : XFn := ⟨12, zr [yb 2 false] (zr [zf 3 6 0, zl 4 3, zm 5 4, gl 6 5 true 1, gf 7 5 true 1 0, gl 8 5 true 7, zg 9 5 true (.mkf 112 [.t 0, .t 1]), zg 10 5 true (.call 36 [.t 6, .t 8, .t 9]), yr 11 5 10 false, zm 2 11] .ret), [.tmp 2]⟩
def x112 : XFn := ⟨15, zr [zs 3 (.box 83 (.t 0)), yb 4 false] (.seq (.dreg (.take 0 (zf 5 5 1) (.take 1 (zl 6 5) (.take 2 (yt 7 3 3) (.take 3 (zl 8 2) (.take 4 (zs 9 (.nck (.t 8))) (.take 5 (zf 10 0 9) (.take 6 (zf 11 7 10) (.take 7 (zl 12 11) (.eff 8 0 true (zs 13 (.call 113 [.t 7, .t 12])) (.take 9 (yc 14 .lss 6 13) (.take 10 (zm 4 14) .nil))))))))))) 0 [1, 3, 2]) .ret), [.tmp 4]⟩
def x113 : XFn := ⟨19, zr [zs 2 (.box 83 (.t 0)), yn 4 0] (.seq (zr [zf 5 2 2, zl 6 5, yl 7 6, yk 8 .eql 7 0] (.cond (.t 8) (zr [zm 9 1, zm 4 9] .ret) .skip)) (zr [zf 10 2 2, zl 11 10, zf 12 2 2, zl 13 12, yl 14 13, zs 15 (.ari .sub .i64 (.t 14) (.c (.int .i64 1))), yi 16 4 11 15, zf 17 3 16, zl 18 17, zm 4 18] .ret)), [.tmp 4]⟩
def x114 : XFn := ⟨9, zr [yb 2 false] (zr [zm 3 0, zs 4 (.cmp .geq (.t 3) (.c (.int .u8 97))), zm 5 4, zh 6 5 true 0, zg 7 5 true (.cmp .leq (.t 6) (.c (.int .u8 122))), yr 8 5 7 false, zm 2 8] .ret), [.tmp 2]⟩
def x115 : XFn := ⟨9, zr [yb 2 false] (zr [zm 3 0, zs 4 (.cmp .geq (.t 3) (.c (.int .u8 48))), zm 5 4, zh 6 5 true 0, zg 7 5 true (.cmp .leq (.t 6) (.c (.int .u8 57))), yr 8 5 7 false, zm 2 8] .ret), [.tmp 2]⟩
def x116 : XFn := ⟨42, zr [zs 4 (.mov (.c (.str ⟨#[]⟩))), yn 5 0, yn 6 0] (.scope (.seq (zr [zm 8 0, zs 9 (.call 68 [.t 8]), yo 10 9] (.cond (.t 10) (zr [zs 4 (.mov (.c (.str ⟨#[]⟩))), yn 5 0, yn 6 1] .ret) .skip)) (zr [zm 11 0, zm 4 11] (.seq (.label 0) (.seq (zr [zm 12 1, yl 13 12, yn 14 0] (.block 0 (.loop (zr [yc 15 .lss 14 13] (.seq (.cond (.t 15) .skip (.exit 0)) (.seq (.block 1 (zr [zm 16 14, zm 7 16] (.seq (.dreg (.take 0 (zm 17 4) (.take 1 (zm 18 1) (.take 2 (zm 19 7) (.take 3 (zs 20 (.sli 4 (.t 18) none (some (.t 19)))) (.take 4 (zm 21 1) (.take 5 (zm 22 7) (.take 6 (yi 23 4 21 22) (.take 7 (yt 24 4 23) (.eff 8 0 false (zs 25 (.call 139 [.t 17, .t 20, .t 24])) (.phase [7] (.take 9 (zm 6 25) .nil))))))))))) 0 [1]) (.seq (zr [zm 26 6, yk 27 .neq 26 0] (.cond (.t 27) (zr [zm 28 7, zm 5 28] (.exit 0)) .skip)) (.reg [zm 29 1, zm 30 7, yi 31 4 29 30, zf 32 1 31, zl 33 32, zm 4 33]))))) (.reg [yp 34 14, zm 14 34]))))))) (.seq (zr [zm 35 6, yk 36 .neq 35 0] (.cond (.t 36) (zr [zm 37 5, zm 38 6, zs 4 (.mov (.c (.str ⟨#[]⟩))), zm 5 37, zm 6 38] .ret) .skip)) (zr [zm 39 4, zm 40 1, yl 41 40, zm 4 39, zm 5 41, yn 6 0] .ret))))))), [.tmp 4, .tmp 5, .tmp 6]⟩
def x117 : XFn := ⟨18, zr [yb 2 false] (.seq (zr [zm 4 0, yz 5 4, yk 6 .neq 5 12] (.cond (.t 6) (zr [yb 2 false] .ret) .skip)) (zr [zm 7 0, zs 8 (.call 140 [.t 7]), zm 3 8] (.seq (.dreg (.take 0 (zm 9 3) (.take 1 (yk 10 .geq 9 0) (.take 2 (zm 11 10) (.take 3 (zh 12 11 true 0) (.take 4 (zg 13 11 true (.sls (.t 12) (some (.c (.int .i64 10))) none)) (.take 5 (zh 14 11 true 3) (.eff 6 0 false (zg 15 11 true (.call 141 [.t 14, .c (.int .i64 2)])) (.take 7 (gc 16 11 true .eql 13 15) (.take 8 (yr 17 11 16 false) (.take 9 (zm 2 17) .nil)))))))))) 0 []) .ret))), [.tmp 2]⟩
def x118 : XFn := ⟨6, zr [yb 2 false] (zr [zm 3 0, zs 4 (.call 68 [.t 3]), yo 5 4, zm 2 5] .ret), [.tmp 2]⟩
def x119 : XFn := ⟨19, zr [zm 5 0, zm 6 1, zs 7 (.nck (.t 5)), zf 8 9 7, ys 1 8 6] (zr [yn 9 0] (.block 0 (.loop (zr [yk 10 .lss 9 3] (.seq (.cond (.t 10) .skip (.exit 0)) (.seq (.block 1 (zr [zm 11 9, zm 4 11] (.reg [zm 12 0, zm 13 4, zs 14 (.nck (.t 12)), zf 15 10 14, zs 16 (.aia 3 3 (.t 15) (.t 13)), zf 17 0 16, zn (.st 1 (.t 17) (.c (.int .i64 2)))]))) (.reg [yp 18 9, zm 9 18]))))))), []⟩
def x120 : XFn := ⟨79, zr [zs 3 (.box 33 (.t 1)), yb 4 false] (.seq (zr [zf 6 0 3, zl 7 6, zf 8 2 3, zl 9 8, zf 10 3 3, zl 11 10, zf 12 4 3, zl 13 12, zs 14 (.bsl 9 1 4 [.str ⟨#[]⟩] [(0, .t 7), (1, .t 9), (2, .t 11), (3, .t 13)]), zs 15 (.call 142 [.t 14]), yo 16 15, zm 17 16, gf 18 17 false 1 3, gl 19 17 false 18, zh 20 17 false 0, gc 21 17 false .neq 19 20, yq 22 17 true 21, zm 23 22, gf 24 23 false 5 3, gl 25 23 false 24, ge 26 23 false 25, gk 27 23 false .lss 26 1, yq 28 23 true 27, zm 29 28, gf 30 29 false 5 3, gl 31 29 false 30, ge 32 29 false 31, gk 33 29 false .gtr 32 64, yq 34 29 true 33, zm 35 34, gf 36 35 false 6 3, gl 37 35 false 36, ge 38 35 false 37, gk 39 35 false .gtr 38 64, yq 40 35 true 39, zm 41 40, gf 42 41 false 6 3, gl 43 41 false 42, zg 44 41 false (.call 142 [.t 43]), go 45 41 false 44, yq 46 41 true 45, zm 47 46, gf 48 47 false 7 3, gl 49 47 false 48, zg 50 47 false (.call 122 [.t 49]), go 51 47 false 50, yq 52 47 true 51] (.cond (.t 52) (zr [yb 4 false] .ret) .skip)) (.seq (zr [yn 5 0] (.block 0 (.loop (.seq (zr [zm 53 5, zf 54 5 3, zl 55 54, yl 56 55, yc 57 .lss 53 56] (.cond (.t 57) .skip (.exit 0))) (.seq (.block 1 (.seq (.dreg (.take 0 (zf 60 5 3) (.take 1 (zl 61 60) (.take 2 (zm 62 5) (.take 3 (yi 63 1 61 62) (.take 4 (zl 64 63) (.eff 5 0 false (zs 65 (.call 143 [.t 64])) (.phase [1, 4, 9, 13, 16] (.take 6 (yo 66 65) (.take 7 (zm 67 66) (.take 8 (gf 68 67 false 5 3) (.take 9 (gl 69 67 false 68) (.take 10 (zh 70 67 false 5) (.take 11 (zg 71 67 false (.sli 1 (.t 69) none (some (.t 70)))) (.take 12 (gf 72 67 false 5 3) (.take 13 (gl 73 67 false 72) (.take 14 (zh 74 67 false 5) (.take 15 (gi 75 67 false 1 73 74) (.take 16 (gl 76 67 false 75) (.eff 17 0 false (zg 77 67 false (.call 97 [.t 71, .t 76])) (.phase [1, 4, 9, 13, 16] (.take 18 (yq 78 67 true 77) .nil))))))))))))))))))))) 0 [3]) (.cond (.t 78) (zr [yb 4 false] .ret) .skip))) (.reg [zm 58 5, yp 59 58, zm 5 59])))))) (zr [yb 4 true] .ret))), [.tmp 4]⟩
def x121 : XFn := ⟨14, zr [zs 1 (.box 33 (.t 0)), zs 2 (.alloc 33 [.str ⟨#[]⟩, .str ⟨#[]⟩, .str ⟨#[]⟩, .str ⟨#[]⟩, .str ⟨#[]⟩, .v (.slice none 0 0), .v (.slice none 0 0), .int .i64 0, .bl false])] (zr [zs 3 (.bsl 9 1 0 [.str ⟨#[]⟩] []), zf 4 5 1, zl 5 4, zs 6 (.app 31 31 9 1 16 (.t 3) (.t 5)), zf 7 5 1, ys 1 7 6] (zr [zs 8 (.bsl 9 1 0 [.str ⟨#[]⟩] []), zf 9 6 1, zl 10 9, zs 11 (.app 31 31 9 1 16 (.t 8) (.t 10)), zf 12 6 1, ys 1 12 11] (zr [yt 13 9 1, ys 9 2 13] .ret))), [.cell 2 true 9]⟩
def x122 : XFn := ⟨9, zr [yb 2 false] (zr [zm 3 0, yk 4 .geq 3 0, zm 5 4, zh 6 5 true 0, gk 7 5 true .leq 6 1048576, yr 8 5 7 false, zm 2 8] .ret), [.tmp 2]⟩
def x123 : XFn := ⟨29, zr [zs 2 (.box 56 (.t 0)), yn 4 0] (.seq (zr [zf 6 10 2, zl 7 6, zm 8 1, yi 9 3 7 8, zf 10 2 9, zl 11 10, yl 12 11, zm 5 12] (zr [zm 13 5, yk 14 .gtr 13 0] (.cond (.t 14) (zr [zf 15 10 2, zl 16 15, zm 17 1, yi 18 3 16 17, zf 19 2 18, zl 20 19, zm 21 5, zs 22 (.ari .sub .i64 (.t 21) (.c (.int .i64 1))), yi 23 4 20 22, zf 24 3 23, zl 25 24, zm 4 25] .ret) .skip))) (zr [zf 26 0 2, zf 27 7 26, zl 28 27, zm 4 28] .ret)), [.tmp 4]⟩
def x124 : XFn := ⟨9, zr [yb 2 false] (zr [zm 3 0, zs 4 (.cmp .geq (.t 3) (.c (.int .u8 97))), zm 5 4, zh 6 5 true 0, zg 7 5 true (.cmp .leq (.t 6) (.c (.int .u8 122))), yr 8 5 7 false, zm 2 8] .ret), [.tmp 2]⟩
def x125 : XFn := ⟨9, zr [yb 2 false] (zr [zm 3 0, zs 4 (.cmp .geq (.t 3) (.c (.int .u8 48))), zm 5 4, zh 6 5 true 0, zg 7 5 true (.cmp .leq (.t 6) (.c (.int .u8 57))), yr 8 5 7 false, zm 2 8] .ret), [.tmp 2]⟩
def x126 : XFn := ⟨37, zr [zs 4 (.box 28 (.t 0)), zs 8 (.alloc 28 [.str ⟨#[]⟩, .v (.slice none 0 0)]), yn 9 0] (.seq (zr [yn 10 0] (.block 0 (.loop (.seq (zr [zm 13 10, zm 14 1, yl 15 14, yc 16 .lss 13 15] (.cond (.t 16) .skip (.exit 0))) (.seq (.block 1 (.seq (.dreg (.take 0 (yt 20 2 4) (.take 1 (zm 21 1) (.take 2 (zm 22 10) (.take 3 (yi 23 1 21 22) (.take 4 (zl 24 23) (.take 5 (zm 25 2) (.take 6 (zm 26 3) (.take 7 (zs 27 (.bld [.int .i64 0, .int .i64 0, .int .i64 0, .str ⟨#[]⟩, .str ⟨#[]⟩, .str ⟨#[]⟩, .str ⟨#[]⟩, .str ⟨#[]⟩, .str ⟨#[]⟩, .str ⟨#[]⟩, .str ⟨#[]⟩, .v (.slice none 0 0), .v (.slice none 0 0), .int .i64 0, .bl false] [(0, (1, .c (.int .i64 5))), (3, (1, .t 24)), (4, (1, .t 25)), (2, (1, .t 26))])) (.fork (.eff 8 0 true (zs 28 (.call 34 [.t 20, .t 27])) (.take 9 (zm 19 28) (.take 10 (yx 29 19 0) (.take 11 (yx 30 19 1) (.eff 12 0 true (zs 11 (.alloc 28 [.str ⟨#[]⟩, .v (.slice none 0 0)])) (.eff 13 1 false (ys 2 11 29) (.take 14 (zm 12 30) .nil))))))) (.eff 12 0 true (zs 11 (.alloc 28 [.str ⟨#[]⟩, .v (.slice none 0 0)])) (.eff 8 0 false (zs 28 (.call 34 [.t 20, .t 27])) (.take 9 (zm 19 28) (.take 10 (yx 29 19 0) (.take 11 (yx 30 19 1) (.eff 13 1 false (ys 2 11 29) (.take 14 (zm 12 30) .nil)))))))))))))))) 1 [4, 1]) (.seq (zr [zm 31 12, yk 32 .neq 31 0] (.cond (.t 32) (zr [yt 33 2 4, zm 34 12, ys 2 8 33, zm 9 34] .ret) .skip)) (.reg [yt 35 2 11, ys 2 4 35])))) (.reg [zm 17 10, yp 18 17, zm 10 18])))))) (zr [yt 36 2 4, ys 2 8 36, yn 9 0] .ret)), [.cell 8 true 2, .tmp 9]⟩
def x138 : XFn := ⟨19, zr [yn 4 0] (.seq (zr [zm 6 0, yl 7 6, yn 8 0] (.block 0 (.loop (zr [yc 9 .lss 8 7] (.seq (.cond (.t 9) .skip (.exit 0)) (.seq (.block 1 (zr [zm 10 8, zm 5 10] (zr [zm 11 1, zm 12 0, zm 13 5, yi 14 1 12 13, zl 15 14, yc 16 .eql 11 15] (.cond (.t 16) (zr [zm 17 5, zm 4 17] .ret) .skip)))) (.reg [yp 18 8, zm 8 18]))))))) (zr [yn 4 (-1)] .ret)), [.tmp 4]⟩
def x139 : XFn := ⟨36, zr [zs 5 (.box 131 (.t 2)), yn 6 0] (.seq (zr [yt 7 4 5, zs 8 (.call 150 [.t 7]), yo 9 8] (.cond (.t 9) (zr [yn 6 2] .ret) .skip)) (.seq (zr [zm 10 1, zs 11 (.call 151 [.t 10])] (.cond (.t 11) (zr [yn 6 9] .ret) .skip)) (.seq (zr [zm 12 1, zs 13 (.call 152 [.t 12]), yo 14 13, zm 15 14, gf 16 15 true 0 5, gl 17 15 true 16, zh 18 15 true 0, gc 19 15 true .neq 17 18, yr 20 15 19 false] (.cond (.t 20) (zr [yn 6 8] .ret) .skip)) (.seq (.seq (.dreg (.take 0 (zm 21 1) (.take 1 (yl 22 21) (.take 2 (yk 23 .gtr 22 0) (.take 3 (zm 24 23) (.take 4 (gf 25 24 true 3 5) (.take 5 (gl 26 24 true 25) (.take 6 (zh 27 24 true 1) (.take 7 (zh 28 24 true 1) (.take 8 (ge 29 24 true 28) (.take 9 (zg 30 24 true (.ari .sub .i64 (.t 29) (.c (.int .i64 1)))) (.take 10 (gi 31 24 true 4 27 30) (.take 11 (gf 32 24 true 3 31) (.take 12 (gl 33 24 true 32) (.take 13 (gc 34 24 true .lss 26 33) (.take 14 (yr 35 24 34 false) .nil))))))))))))))) 0 [1, 5]) (.cond (.t 35) (zr [yn 6 6] .ret) .skip)) (zr [yn 6 0] .ret))))), [.tmp 6]⟩
def x140 : XFn := ⟨50, zr [yn 2 0] (.seq (zr [zm 6 0, yz 7 6, yk 8 .lss 7 10] (.cond (.t 8) (zr [yn 2 (-1)] .ret) .skip)) (zr [yn 3 0] (.seq (zr [yn 9 0] (.block 0 (.loop (zr [yk 10 .lss 9 10] (.seq (.cond (.t 10) .skip (.exit 0)) (.seq (.block 1 (zr [zm 11 9, zm 4 11] (zr [yn 5 0] (.seq (.block 2 (zr [zm 13 4, yk 14 .lss 13 4, zm 15 14, zh 16 15 true 0, zh 17 15 true 4, zg 18 15 true (.idx (.t 16) (.t 17)), zg 19 15 true (.call 114 [.t 18]), yr 20 15 19 false, zm 12 20] (.cond (.t 12) (.reg [zm 21 0, zm 22 4, zs 23 (.idx (.t 21) (.t 22)), zs 24 (.ari .sub .u8 (.t 23) (.c (.int .u8 97))), zs 25 (.cvi .i64 (.t 24)), yp 26 25, zm 5 26]) (zr [zm 28 4, yk 29 .geq 28 4, zm 30 29, zh 31 30 true 0, zh 32 30 true 4, zg 33 30 true (.idx (.t 31) (.t 32)), zg 34 30 true (.call 115 [.t 33]), yr 35 30 34 false, zm 27 35] (.cond (.t 27) (.reg [zm 36 0, zm 37 4, zs 38 (.idx (.t 36) (.t 37)), zs 39 (.ari .sub .u8 (.t 38) (.c (.int .u8 48))), zs 40 (.cvi .i64 (.t 39)), zm 5 40]) (zr [yn 2 (-1)] .ret)))))) (.reg [zm 41 3, zm 42 5, zm 43 4, yp 44 43, ya 45 .mul .i64 42 44, ya 46 .add .i64 41 45, zm 3 46]))))) (.reg [yp 47 9, zm 9 47]))))))) (zr [zm 48 3, zs 49 (.ari .rem .i64 (.t 48) (.c (.int .i64 97))), zm 2 49] .ret)))), [.tmp 2]⟩
def x141 : XFn := ⟨15, zr [zs 4 (.mov (.c (.str ⟨#[]⟩)))] (zr [zm 6 0, zs 7 (.call 153 [.t 6]), zm 5 7] (.seq (.block 0 (.loop (.seq (zr [zm 8 5, yz 9 8, zm 10 1, yc 11 .lss 9 10] (.cond (.t 11) .skip (.exit 0))) (.block 1 (.reg [zm 12 5, zs 13 (.ari .add .i64 (.c (.str ⟨#[48]⟩)) (.t 12)), zm 5 13]))))) (zr [zm 14 5, zm 4 14] .ret))), [.tmp 4]⟩
def x142 : XFn := ⟨16, zr [yb 2 false] (.seq (zr [yn 3 0] (.block 0 (.loop (.seq (zr [zm 4 3, zm 5 0, yl 6 5, yc 7 .lss 4 6] (.cond (.t 7) .skip (.exit 0))) (.seq (.block 1 (zr [zm 10 0, zm 11 3, yi 12 1 10 11, zl 13 12, zs 14 (.call 91 [.t 13]), yo 15 14] (.cond (.t 15) (zr [yb 2 false] .ret) .skip))) (.reg [zm 8 3, yp 9 8, zm 3 9])))))) (zr [yb 2 true] .ret)), [.tmp 2]⟩
def x143 : XFn := ⟨35, zr [yb 2 false] (.seq (.dreg (.take 0 (zm 3 0) (.take 1 (yz 4 3) (.take 2 (yk 5 .eql 4 12) (.take 3 (zm 6 5) (.take 4 (zh 7 6 true 0) (.eff 5 0 false (zg 8 6 true (.call 154 [.t 7])) (.take 6 (yr 9 6 8 false) (.take 7 (zm 10 9) (.take 8 (zh 11 10 true 0) (.take 9 (zg 12 10 true (.idx (.t 11) (.c (.int .i64 10)))) (.eff 10 0 false (zg 13 10 true (.call 125 [.t 12])) (.take 11 (yr 14 10 13 false) (.take 12 (zm 15 14) (.take 13 (zh 16 15 true 0) (.take 14 (zg 17 15 true (.idx (.t 16) (.c (.int .i64 11)))) (.eff 15 0 false (zg 18 15 true (.call 125 [.t 17])) (.take 16 (yr 19 15 18 false) (.take 17 (zm 20 19) (.take 18 (zh 21 20 true 0) (.take 20 (zh 23 20 true 0) (.take 21 (zg 24 20 true (.idx (.t 23) (.c (.int .i64 10)))) (.take 22 (zg 25 20 true (.cvi .i64 (.t 24))) (.take 23 (zg 26 20 true (.ari .sub .i64 (.t 25) (.c (.int .i64 48)))) (.take 24 (zg 27 20 true (.ari .mul .i64 (.c (.int .i64 10)) (.t 26))) (.take 25 (zh 28 20 true 0) (.take 26 (zg 29 20 true (.idx (.t 28) (.c (.int .i64 11)))) (.take 27 (zg 30 20 true (.cvi .i64 (.t 29))) (.take 28 (ga 31 20 true .add .i64 27 30) (.take 29 (zg 32 20 true (.ari .sub .i64 (.t 31) (.c (.int .i64 48)))) (.eff 19 0 false (zg 22 20 true (.call 155 [.t 21])) (.take 30 (gc 33 20 true .eql 22 32) (.take 31 (yr 34 20 33 false) (.take 32 (zm 2 34) .nil))))))))))))))))))))))))))))))))) 0 [0]) .ret), [.tmp 2]⟩
def x150 : XFn := ⟨37, zr [zs 1 (.box 131 (.t 0)), yb 2 false] (.seq (zr [zf 3 0 1, zl 4 3, zs 5 (.call 68 [.t 4]), yo 6 5, zm 7 6, gf 8 7 false 3 1, gl 9 7 false 8, gk 10 7 false .lss 9 0, yq 11 7 true 10, zm 12 11, gf 13 12 false 3 1, gl 14 12 false 13, gk 15 12 false .gtr 14 1048576, yq 16 12 true 15] (.cond (.t 16) (zr [yb 2 false] .ret) .skip)) (.seq (zr [zf 17 2 1, zl 18 17] (.block 0 (zr [yk 20 .eql 18 1, zm 19 20] (.cond (.t 19) (zr [zf 21 1 1, zl 22 21, zs 23 (.cmp .eql (.t 22) (.c (.str ⟨#[]⟩))), zm 2 23] .ret) (.seq (zr [yk 25 .eql 18 0, zm 24 25] (.cond (.t 24) .skip (.reg [yk 26 .eql 18 2, zm 24 26]))) (.cond (.t 24) (zr [zf 27 1 1, zl 28 27, zs 29 (.call 68 [.t 28]), zm 30 29, gf 31 30 true 1 1, gl 32 30 true 31, gf 33 30 true 0 1, gl 34 30 true 33, gc 35 30 true .neq 32 34, yr 36 30 35 false, zm 2 36] .ret) .skip)))))) (zr [yb 2 false] .ret))), [.tmp 2]⟩
def x151 : XFn := ⟨16, zr [yb 2 false] (zr [zm 3 0, yl 4 3, yk 5 .gtr 4 0, zm 6 5, zh 7 6 true 0, zh 8 6 true 0, ge 9 6 true 8, zg 10 6 true (.ari .sub .i64 (.t 9) (.c (.int .i64 1))), gi 11 6 true 4 7 10, gf 12 6 true 2 11, gl 13 6 true 12, gk 14 6 true .eql 13 2, yr 15 6 14 false, zm 2 15] .ret), [.tmp 2]⟩
def x152 : XFn := ⟨16, zr [yb 2 false] (zr [zm 3 0, yl 4 3, yk 5 .gtr 4 0, zm 6 5, zh 7 6 true 0, zh 8 6 true 0, ge 9 6 true 8, zg 10 6 true (.ari .sub .i64 (.t 9) (.c (.int .i64 1))), gi 11 6 true 4 7 10, gf 12 6 true 2 11, gl 13 6 true 12, gk 14 6 true .eql 13 1, yr 15 6 14 false, zm 2 15] .ret), [.tmp 2]⟩
def x154 : XFn := ⟨31, zr [yb 2 false] (.seq (zr [zm 4 0, yz 5 4, yk 6 .lss 5 10] (.cond (.t 6) (zr [yb 2 false] .ret) .skip)) (.seq (zr [yn 3 0] (.block 0 (.loop (.seq (zr [zm 7 3, yk 8 .lss 7 10] (.cond (.t 8) .skip (.exit 0))) (.seq (.block 1 (zr [zm 11 3, yk 12 .lss 11 4, zm 13 12, zh 14 13 true 0, zh 15 13 true 3, zg 16 13 true (.idx (.t 14) (.t 15)), zg 17 13 true (.call 124 [.t 16]), go 18 13 true 17, yr 19 13 18 false, zm 20 19, zh 21 20 false 3, gk 22 20 false .geq 21 4, zh 23 20 false 22, zh 24 23 true 0, zh 25 23 true 3, zg 26 23 true (.idx (.t 24) (.t 25)), zg 27 23 true (.call 125 [.t 26]), go 28 23 true 27, zg 29 20 false (.pick (.t 23) (.t 28) (.c (.bl false))), yq 30 20 true 29] (.cond (.t 30) (zr [yb 2 false] .ret) .skip))) (.reg [zm 9 3, yp 10 9, zm 3 10])))))) (zr [yb 2 true] .ret))), [.tmp 2]⟩
def x155 : XFn := ⟨33, zr [yn 2 0] (.seq (zr [zm 6 0, zs 7 (.call 154 [.t 6]), yo 8 7] (.cond (.t 8) (zr [yn 2 (-1)] .ret) .skip)) (zr [yn 3 0] (.seq (zr [yn 4 0] (.block 0 (.loop (.seq (zr [zm 9 4, yk 10 .lss 9 10] (.cond (.t 10) .skip (.exit 0))) (.seq (.block 1 (zr [zm 13 0, zm 14 4, zs 15 (.idx (.t 13) (.t 14)), zs 16 (.cvi .i64 (.t 15)), zs 17 (.ari .sub .i64 (.t 16) (.c (.int .i64 48))), zm 5 17] (.seq (zr [zm 18 4, yk 19 .lss 18 4] (.cond (.t 19) (.reg [zm 20 0, zm 21 4, zs 22 (.idx (.t 20) (.t 21)), zs 23 (.cvi .i64 (.t 22)), zs 24 (.ari .sub .i64 (.t 23) (.c (.int .i64 96))), zm 5 24]) .skip)) (.reg [zm 25 3, zm 26 5, zm 27 4, yp 28 27, ya 29 .mul .i64 26 28, ya 30 .add .i64 25 29, zm 3 30])))) (.reg [zm 11 4, yp 12 11, zm 4 12])))))) (zr [zm 31 3, zs 32 (.ari .rem .i64 (.t 31) (.c (.int .i64 97))), zm 2 32] .ret)))), [.tmp 2]⟩
set_option maxHeartbeats 1000000
set_option maxRecDepth 100000
theorem K_of {K : AV → List Ent → Prop} {x y : AV} {H : List Ent} (h : K y H) (e : x = y) : K x H := e ▸ h
theorem K_bl {K : AV → List Ent → Prop} {b c : Bool} {H : List Ent} (h : K (.bl c) H) (e : b = c) : K (.bl b) H := e ▸ h
theorem K_i {K : AV → List Ent → Prop} {b c : Int} {H : List Ent} (h : K (.i c) H) (e : b = c) : K (.i b) H := e ▸ h
def ByC (g : Int → Bool) : Ctr := spec (fun z : Int => [.int .u8 z]) (fun _ => []) (fun _ => True) (fun z => .bl (g z)) fun _ => []
theorem isLetter_body (P : Program) : BodyOk P x114 (ByC letB) := by
 intro args H K hc
 obtain ⟨z, rfl, rfl, _, hK⟩ := hc
 refine ⟨nb9, ?_⟩
 dsimp only at hK ⊢
 cbv; repeat' ((first | refine .mk (fun h => ?_) fun h => ?_ | fail) <;> cbv)
 all_goals exact FinK.mk ⟨_, Gh.refl _, .inl (.v9 (K_bl hK (by (unfold letB; simp; omega))))⟩
theorem isDigit_body (P : Program) : BodyOk P x115 (ByC digB) := by
 intro args H K hc
 obtain ⟨z, rfl, rfl, _, hK⟩ := hc
 refine ⟨nb9, ?_⟩
 dsimp only at hK ⊢
 cbv; repeat' ((first | refine .mk (fun h => ?_) fun h => ?_ | fail) <;> cbv)
 all_goals exact FinK.mk ⟨_, Gh.refl _, .inl (.v9 (K_bl hK (by (unfold digB; simp; omega))))⟩
theorem rletter_body (P : Program) : BodyOk P x124 (ByC letB) := by
 intro args H K hc
 obtain ⟨z, rfl, rfl, _, hK⟩ := hc
 refine ⟨nb9, ?_⟩
 dsimp only at hK ⊢
 cbv; repeat' ((first | refine .mk (fun h => ?_) fun h => ?_ | fail) <;> cbv)
 all_goals exact FinK.mk ⟨_, Gh.refl _, .inl (.v9 (K_bl hK (by (unfold letB; simp; omega))))⟩
theorem rdigit_body (P : Program) : BodyOk P x125 (ByC digB) := by
 intro args H K hc
 obtain ⟨z, rfl, rfl, _, hK⟩ := hc
 refine ⟨nb9, ?_⟩
 dsimp only at hK ⊢
 cbv; repeat' ((first | refine .mk (fun h => ?_) fun h => ?_ | fail) <;> cbv)
 all_goals exact FinK.mk ⟨_, Gh.refl _, .inl (.v9 (K_bl hK (by (unfold digB; simp; omega))))⟩
def StrC (p : ByteArray → Prop) (g : ByteArray → Bool) : Ctr := spec (fun s : ByteArray => [.str s]) (fun _ => []) p (fun s => .bl (g s)) fun _ => []
theorem ch_or {c : UInt8} {z : Int} (hz : z = c.toNat) : chB c = (letB z || digB z || decide (z = 45)) := by subst hz; rfl
theorem nameB_short {s : ByteArray} (h : s.size < 1 ∨ 16 < s.size) : nameB s = false := by
 unfold nameB
 rcases h with h | h
 ·rw [decide_eq_false (by omega)]; rfl
 ·rw [decide_eq_false (p := s.size ≤ 16) (by omega)]; simp
theorem nameB_long {s : ByteArray} (h : firstAll s s.size) (h1 : 1 ≤ s.size) (h2 : s.size ≤ 16) : nameB s = true := by rw [nameB_all h]; simp [h1, h2]
theorem name_body (P : Program) (hl : FnOk P 114 (ByC letB)) (hd : FnOk P 115 (ByC digB)) : BodyOk P x68 (StrC (fun _ => True) nameB) := by
 intro args H K hc
 obtain ⟨s, rfl, rfl, _, hK⟩ := hc
 refine ⟨nb9, ?_⟩
 dsimp only at hK ⊢
 cbv; repeat' ((first | refine .mk (fun h => ?_) fun h => ?_ | refine .k fun z hz => ?_ | fail) <;> cbv)
 ·exact FinK.mk ⟨_, Gh.refl _, .inl (.v9 (K_bl hK (by (rw [nameB_short om9]))))⟩
 ·exact FinK.mk ⟨_, Gh.refl _, .inl (.v9 (K_bl hK (by (rw [nameB_short om9]))))⟩
 obtain ⟨n, hn⟩ : ∃ n, n = s.size := ⟨_, rfl⟩
 refine xloopV [] (fun p : { k : Nat // k ≤ s.size ∧ firstAll s k } => [(14, .i (nI p.1))]) (fun _ => []) (fun p => lft n p.1) ⟨0, Nat.zero_le _, firstAll_zero s⟩ ?_
 rintro ⟨k, hk, hf⟩
 dsimp only
 cbv; repeat' ((first | refine .mk (fun h => ?_) fun h => ?_ | fail) <;> cbv)
 rotate_left
 ·obtain rfl : k = s.size := om9
  exact FinK.mk ⟨_, Gh.refl _, .inl (.v9 (K_bl hK (by (rw [nameB_long hf om9 om9]))))⟩
 have hks : k < s.size := om9
 refine askByte_nI hks fun z hz => ?_
 have hch := ch_or (c := s[k]) hz
 cbv
 (refine c09 hl z trivial ?_; try dsimp only)
 cases h1 : letB z with
 | true =>
  cbv; repeat' ((first | refine .k fun z hz => ?_ | fail) <;> cbv)
  obtain rfl := hz
  exact roundV ⟨k + 1, hks, firstAll_succ hks hf (by rw [hch, h1]; rfl)⟩ (lft_lt (by omega))
 | false =>
  cbv
  refine askByte_nI hks fun z2 hz2 => ?_
  obtain rfl : z = z2 := hz.trans hz2.symm
  cbv
  (refine c09 hd z trivial ?_; try dsimp only)
  cases h2 : digB z with
  | true =>
   cbv; repeat' ((first | refine .k fun z hz => ?_ | fail) <;> cbv)
   obtain rfl := hz
   exact roundV ⟨k + 1, hks, firstAll_succ hks hf (by rw [hch, h1, h2]; rfl)⟩ (lft_lt (by omega))
  | false =>
   cbv
   refine askByte_nI hks fun z2 hz2 => ?_
   obtain rfl : z = z2 := hz.trans hz2.symm
   cbv; repeat' ((first | refine .mk (fun h => ?_) fun h => ?_ | refine .k fun z hz => ?_ | fail) <;> cbv)
   ·obtain rfl := hz
    exact roundV ⟨k + 1, hks, firstAll_succ hks hf (by rw [hch, h1, h2]; simp [h])⟩ (lft_lt (by omega))
   ·exact FinK.mk ⟨_, Gh.refl _, .inl (.v9 (K_bl hK (by (rw [nameB_not hks (by rw [hch, h1, h2]; simp [h])]))))⟩
def x153 : XFn := ⟨5, zr [zs 2 (.mov (.c (.str ⟨#[]⟩)))] (zr [zm 3 0, zs 4 (.call 157 [.t 3]), zm 2 4] .ret), [.tmp 2]⟩
def x157 : XFn := ⟨5, zr [zs 2 (.mov (.c (.str ⟨#[]⟩)))] (zr [zm 3 0, zs 4 (.call 158 [.t 3, .c (.int .i64 10)]), zm 2 4] .ret), [.tmp 2]⟩
def x158 : XFn := ⟨54, zr [zs 4 (.mov (.c (.str ⟨#[]⟩)))] (.seq (zr [zm 10 1, yk 11 .eql 10 10] (.cond (.t 11) (.seq (zr [zm 12 0, zs 13 (.cmp .leq (.c (.int .i64 0)) (.t 12)), zm 14 13, zh 15 14 true 0, gk 16 14 true .lss 15 100, yr 17 14 16 false] (.cond (.t 17) (zr [zm 18 0, zs 19 (.call 159 [.t 18]), zm 4 19] .ret) .skip)) (zr [zs 5 (.alloc 195 [.int .u8 0, .int .u8 0, .int .u8 0, .int .u8 0, .int .u8 0, .int .u8 0, .int .u8 0, .int .u8 0, .int .u8 0, .int .u8 0, .int .u8 0, .int .u8 0, .int .u8 0, .int .u8 0, .int .u8 0, .int .u8 0, .int .u8 0, .int .u8 0, .int .u8 0, .int .u8 0, .int .u8 0, .int .u8 0, .int .u8 0, .int .u8 0])] (zr [zm 20 0, zs 21 (.cvi .u64 (.t 20)), zm 6 21] (.seq (zr [zm 22 0, yk 23 .lss 22 0] (.cond (.t 23) (.reg [zm 24 6, zs 25 (.neg .u64 (.t 24)), zm 6 25]) .skip)) (zr [zm 26 6, zs 27 (.call 160 [.t 26]), zm 7 27] (zr [zm 28 7, zs 29 (.ari .add .i64 (.c (.int .i64 1)) (.t 28)), zs 30 (.bad), zm 31 6, zs 32 (.call 161 [.t 30, .t 31])] (.seq (zr [zm 33 0, yk 34 .lss 33 0] (.cond (.t 34) (zr [zs 35 (.aia 1 24 (.t 5) (.c (.int .i64 0))), zn (.st 1 (.t 35) (.c (.int .u8 45)))] (zr [zm 36 7, zs 37 (.ari .add .i64 (.c (.int .i64 1)) (.t 36)), zs 38 (.bad), zs 39 (.b2s (.t 38)), zm 4 39] .ret)) .skip)) (zr [zm 40 7, zs 41 (.ari .add .i64 (.c (.int .i64 1)) (.t 40)), zs 42 (.bad), zs 43 (.b2s (.t 42)), zm 4 43] .ret)))))))) .skip)) (zr [zm 45 0, zs 46 (.cvi .u64 (.t 45)), zm 47 1, zm 48 0, yk 49 .lss 48 0, zs 50 (.call 162 [.c (.v (.slice none 0 0)), .t 46, .t 47, .t 49, .c (.bl false)]), zm 44 50, yx 51 44 0, yx 52 44 1, zm 8 51, zm 9 52] (zr [zm 53 9, zm 4 53] .ret))), [.tmp 4]⟩
def x159 : XFn := ⟨15, zr [zs 2 (.mov (.c (.str ⟨#[]⟩)))] (.seq (zr [zm 3 0, yk 4 .lss 3 10] (.cond (.t 4) (zr [zm 5 0, zm 6 0, yp 7 6, zs 8 (.sls (.c (.str ⟨#[48, 49, 50, 51, 52, 53, 54, 55, 56, 57, 97, 98, 99, 100, 101, 102, 103, 104, 105, 106, 107, 108, 109, 110, 111, 112, 113, 114, 115, 116, 117, 118, 119, 120, 121, 122]⟩)) (some (.t 5)) (some (.t 7))), zm 2 8] .ret) .skip)) (zr [zm 9 0, zs 10 (.ari .mul .i64 (.t 9) (.c (.int .i64 2))), zm 11 0, zs 12 (.ari .mul .i64 (.t 11) (.c (.int .i64 2))), zs 13 (.ari .add .i64 (.t 12) (.c (.int .i64 2))), zs 14 (.sls (.c (.str ⟨#[48, 48, 48, 49, 48, 50, 48, 51, 48, 52, 48, 53, 48, 54, 48, 55, 48, 56, 48, 57, 49, 48, 49, 49, 49, 50, 49, 51, 49, 52, 49, 53, 49, 54, 49, 55, 49, 56, 49, 57, 50, 48, 50, 49, 50, 50, 50, 51, 50, 52, 50, 53, 50, 54, 50, 55, 50, 56, 50, 57, 51, 48, 51, 49, 51, 50, 51, 51, 51, 52, 51, 53, 51, 54, 51, 55, 51, 56, 51, 57, 52, 48, 52, 49, 52, 50, 52, 51, 52, 52, 52, 53, 52, 54, 52, 55, 52, 56, 52, 57, 53, 48, 53, 49, 53, 50, 53, 51, 53, 52, 53, 53, 53, 54, 53, 55, 53, 56, 53, 57, 54, 48, 54, 49, 54, 50, 54, 51, 54, 52, 54, 53, 54, 54, 54, 55, 54, 56, 54, 57, 55, 48, 55, 49, 55, 50, 55, 51, 55, 52, 55, 53, 55, 54, 55, 55, 55, 56, 55, 57, 56, 48, 56, 49, 56, 50, 56, 51, 56, 52, 56, 53, 56, 54, 56, 55, 56, 56, 56, 57, 57, 48, 57, 49, 57, 50, 57, 51, 57, 52, 57, 53, 57, 54, 57, 55, 57, 56, 57, 57]⟩)) (some (.t 10)) (some (.t 13))), zm 2 14] .ret)), [.tmp 2]⟩
def itoS (n : Nat) : ByteArray := if n < 10 then ⟨#[UInt8.ofNat (48 + n)]⟩ else ⟨#[UInt8.ofNat (48 + n / 10), UInt8.ofNat (48 + n % 10)]⟩
def digS (n : Nat) : ByteArray := ⟨#[UInt8.ofNat (48 + n / 10), UInt8.ofNat (48 + n % 10)]⟩
def SmallC : Ctr := spec (fun n : Nat => [.i n]) (fun _ => []) (fun n => n < 100) (fun n => .str (itoS n)) fun _ => []
def FmtC : Ctr := spec (fun n : Nat => [.i n, .i 10]) (fun _ => []) (fun n => n < 100) (fun n => .str (itoS n)) fun _ => []
theorem K_str {K : AV → List Ent → Prop} {b c : ByteArray} {H : List Ent} (h : K (.str c) H) (e : b = c) : K (.str b) H := e ▸ h
theorem small_body (P : Program) : BodyOk P x159 SmallC := by
 intro args H K hc; obtain ⟨n, rfl, rfl, hp, hK⟩ := hc; refine ⟨nb9, ?_⟩; dsimp only at hp hK ⊢
 cbv; repeat' ((first | refine .mk (fun h => ?_) fun h => ?_ | refine .k fun z hz => ?_ | fail) <;> cbv)
 ·refine ⟨⟨by exact om9, by exact om9, by subst hz; show Int.ofNat n + 1 ≤ 36; omega⟩, fun u hu => ?_⟩
  cbv
  exact FinK.mk ⟨_, Gh.refl _, .inl (.v9 (K_str hK (by subst hu hz; clear hK; revert hp h; revert n; decide +kernel)))⟩
 ·refine ⟨⟨by exact om9, by exact om9, by subst_vars; show Int.ofNat n * 2 + 2 ≤ 200; ((try simp only [vn] at *) <;> omega)⟩, fun u hu => ?_⟩
  cbv
  exact FinK.mk ⟨_, Gh.refl _, .inl (.v9 (K_str hK (by subst_vars; clear hK; revert hp h; revert n; decide +kernel)))⟩
theorem fmt_body (P : Program) (hsm : FnOk P 159 SmallC) : BodyOk P x158 FmtC := by
 intro args H K hc; obtain ⟨n, rfl, rfl, hp, hK⟩ := hc; refine ⟨nb9, ?_⟩; dsimp only at hp hK ⊢
 cbv; repeat' ((first | refine .y fun h => ?_ | fail) <;> cbv)
 ·(refine c09 hsm n hp ?_; try dsimp only)
  obtain ⟨s, hs⟩ : ∃ x, x = (itoS n) := ⟨_, rfl⟩
  rw [← hs] at hK ⊢
  cbv
  exact FinK.mk ⟨_, Gh.refl _, .inl (.v9 hK)⟩
theorem itoa2_body (P : Program) (hf : FnOk P 158 FmtC) : BodyOk P x157 SmallC := by
 intro args H K hc; obtain ⟨n, rfl, rfl, hp, hK⟩ := hc; refine ⟨nb9, ?_⟩; dsimp only at hp hK ⊢
 cbv
 (refine c09 hf n hp ?_; try dsimp only)
 obtain ⟨s, hs⟩ : ∃ x, x = (itoS n) := ⟨_, rfl⟩
 rw [← hs] at hK ⊢
 cbv
 exact FinK.mk ⟨_, Gh.refl _, .inl (.v9 hK)⟩
theorem itoa_body (P : Program) (hf : FnOk P 157 SmallC) : BodyOk P x153 SmallC := by
 intro args H K hc; obtain ⟨n, rfl, rfl, hp, hK⟩ := hc; refine ⟨nb9, ?_⟩; dsimp only at hp hK ⊢
 cbv
 (refine c09 hf n hp ?_; try dsimp only)
 obtain ⟨s, hs⟩ : ∃ x, x = (itoS n) := ⟨_, rfl⟩
 rw [← hs] at hK ⊢
 cbv
 exact FinK.mk ⟨_, Gh.refl _, .inl (.v9 hK)⟩
def DigC : Ctr := spec (fun n : Nat => [.i n, .i 2]) (fun _ => []) (fun n => n < 100) (fun n => .str (digS n)) fun _ => []
theorem num_lt2 {n i j : Nat} (h : i < n) (hj : i < j) : (lft n j).val < (lft n i).val := by unfold Ms.val; dsimp only; omega
theorem itoS_facts : ∀ n, n < 100 → (itoS n).size < 2 ∧ (⟨#[48]⟩ : ByteArray) ++ itoS n = digS n ∧ (itoS n).size = 1 ∨ 2 ≤ (itoS n).size ∧ itoS n = digS n := by decide +kernel
theorem digS_size (n : Nat) : (digS n).size = 2 := rfl
theorem digits_body (P : Program) (hf : FnOk P 153 SmallC) : BodyOk P x141 DigC := by
 intro args H K hc; obtain ⟨n, rfl, rfl, hp, hK⟩ := hc; refine ⟨nb9, ?_⟩; dsimp only at hp hK ⊢
 cbv
 (refine c09 hf n hp ?_; try dsimp only)
 have hfa := itoS_facts n hp
 have hds := digS_size n
 obtain ⟨s, hs⟩ : ∃ x, x = (itoS n) := ⟨_, rfl⟩
 obtain ⟨t, ht⟩ : ∃ x, x = (digS n) := ⟨_, rfl⟩
 rw [← hs] at hfa ⊢
 rw [← ht] at hfa hds hK
 cbv
 refine xloopV [] (fun p : { p : ByteArray × Nat // p.2 ≤ 1 ∧ (p.1 = s ∧ p.2 = 0 ∨ p.1 = t) } => [(5, .str p.1.1)]) (fun _ => []) (fun p => lft 2 p.1.2) ⟨(s, 0), Nat.zero_le _, .inl ⟨rfl, rfl⟩⟩ ?_
 rintro ⟨⟨u, q⟩, hq, hu⟩
 dsimp only at hq hu ⊢
 cbv; repeat' ((first | refine .mk (fun h => ?_) fun h => ?_ | refine .k fun z hz => ?_ | fail) <;> cbv)
 ·rcases hfa with ⟨h1, h2, h3⟩ | ⟨h1, h2⟩
  ·rcases hu with ⟨rfl, rfl⟩ | rfl
   ·refine CatK.mk' (by (show 1 + u.size ≤ maxLen); unfold maxLen; omega) fun v hv hvl => ?_
    cbv
    obtain rfl : v = t := by rw [hv]; exact h2
    exact roundV ⟨(v, 1), Nat.le_refl _, .inr rfl⟩ (lft_lt (by decide))
   ·exfalso; ((try simp only [vn] at *) <;> omega)
  ·exfalso
   subst h2
   rcases hu with ⟨rfl, _⟩ | rfl <;> ((try simp only [vn] at *) <;> omega)
 ·obtain rfl : u = t := by
   rcases hfa with ⟨h1, h2, h3⟩ | ⟨h1, h2⟩
   ·rcases hu with ⟨rfl, _⟩ | rfl
    ·exfalso; ((try simp only [vn] at *) <;> omega)
    ·rfl
   ·rcases hu with ⟨rfl, _⟩ | rfl
    ·exact h2
    ·rfl
  exact FinK.mk ⟨_, Gh.refl _, .inl (.v9 hK)⟩
def vM (c : UInt8) (i : Nat) : Option Int := if i < 4 then if letB c.toNat then some ((c.toNat : Int) - 96) else none else if digB c.toNat then some ((c.toNat : Int) - 48) else none
def accM (s : ByteArray) : Nat → Option Int
 | 0 => some 0
 | k + 1 => match accM s k, s.data[k]? with
  | some a, some c => (vM c k).map fun v => a + v * ((k : Int) + 1)
  | _, _ => none
def sumM (s : ByteArray) : Int := match accM s 10 with
 | some a => a.tmod 97
 | none => -1
theorem vM_bd {c : UInt8} {i : Nat} {v : Int} (h : vM c i = some v) : 0 ≤ v ∧ v ≤ 26 := by
 unfold vM letB digB at h
 split at h
 ·split at h
  ·rename_i h1; simp at h1; cases h; omega
  ·cases h
 ·split at h
  ·rename_i h1; simp at h1; cases h; omega
  ·cases h
theorem accM_bd {s : ByteArray} : ∀ {k : Nat} {a : Int}, accM s k = some a → k ≤ 10 → 0 ≤ a ∧ a ≤ 260 * k
 | 0, a, h, _ => by cases h; omega
 | k + 1, a, h, hk => by
  unfold accM at h
  split at h
  ·rename_i b c hb hc
   obtain ⟨h1, h2⟩ := accM_bd hb (by omega)
   simp only [Option.map_eq_some_iff] at h
   obtain ⟨v, hv, rfl⟩ := h
   obtain ⟨h3, h4⟩ := vM_bd hv
   have h5 : 0 ≤ v * ((k : Int) + 1) := Int.mul_nonneg h3 (by omega)
   have h6 : v * ((k : Int) + 1) ≤ 26 * 10 := Int.mul_le_mul h4 (by omega) (by omega) (by omega)
   constructor <;> push_cast <;> omega
  ·cases h
theorem accM_none {s : ByteArray} {k : Nat} (h : accM s k = none) : ∀ m, accM s (k + m) = none
 | 0 => h
 | m + 1 => by
  show accM s (k + m + 1) = none
  unfold accM
  rw [accM_none h m]
theorem accM_at {s : ByteArray} {k : Nat} (hk : k < s.size) {a : Int} (ha : accM s k = some a) : accM s (k + 1) = (vM s[k] k).map fun v => a + v * ((k : Int) + 1) := by
 conv => lhs; unfold accM
 rw [ha]
 have : s.data[k]? = some s[k] := Array.getElem?_eq_getElem hk
 rw [this]
theorem sumM_not {s : ByteArray} {k : Nat} (hk : k < 10) (hs : k < s.size) {a : Int} (ha : accM s k = some a) (hv : vM s[k] k = none) : sumM s = -1 := by
 have h1 : accM s (k + 1) = none := by rw [accM_at hs ha, hv]; rfl
 have h2 := accM_none h1 (9 - k)
 rw [show k + 1 + (9 - k) = 10 by omega] at h2
 unfold sumM
 rw [h2]
theorem accM_short {s : ByteArray} : ∀ {k : Nat}, s.size < k → accM s k = none
 | 0, h => by omega
 | k + 1, h => by
  unfold accM
  have : s.data[k]? = none := Array.getElem?_eq_none (by show s.size ≤ k; omega)
  rw [this]
  split
  ·rename_i h1; cases h1
  ·rfl
theorem sumM_short {s : ByteArray} (h : s.size < 10) : sumM s = -1 := by
 unfold sumM
 rw [accM_short h]
theorem sumM_all {s : ByteArray} {a : Int} (h : accM s 10 = some a) : sumM s = a.tmod 97 := by unfold sumM; rw [h]
theorem sumM_bd (s : ByteArray) : -1 ≤ sumM s ∧ sumM s < 97 := by
 unfold sumM
 split
 ·rename_i a ha
  have := (accM_bd ha (Nat.le_refl _)).1
  have h1 := Int.tmod_nonneg 97 this
  have h2 := Int.tmod_lt_of_pos a (show (0 : Int) < 97 by decide)
  omega
 ·omega
def SumC : Ctr := spec (fun s : ByteArray => [.str s]) (fun _ => []) (fun _ => True) (fun s => .i (sumM s)) fun _ => []
theorem mul_bd {a b : Int} (h : 0 ≤ a ∧ a ≤ 26) (h2 : 0 ≤ b ∧ b ≤ 10) : 0 ≤ a * b ∧ a * b ≤ 260 := ⟨Int.mul_nonneg h.1 h2.1, Int.mul_le_mul h.2 h2.2 h2.1 (by decide)⟩
theorem sum_body (P : Program) (hl : FnOk P 114 (ByC letB)) (hd : FnOk P 115 (ByC digB)) : BodyOk P x140 SumC := by
 intro args H K hc; obtain ⟨s, rfl, rfl, hp, hK⟩ := hc; refine ⟨nb9, ?_⟩; dsimp only at hp hK ⊢
 obtain ⟨u, hu⟩ : ∃ x, x = (sumM s) := ⟨_, rfl⟩
 rw [← hu] at hK
 cbv; repeat' ((first | refine .mk (fun h => ?_) fun h => ?_ | refine .k fun z hz => ?_ | fail) <;> cbv)
 ·exact FinK.mk ⟨_, Gh.refl _, .inl (.v9 (K_i hK (by (rw [hu, sumM_short om9]))))⟩
 refine xloopV [] (fun p : { p : Nat × Int // p.1 ≤ 10 ∧ accM s p.1 = some p.2 } => [(9, .i (nI p.1.1)), (3, .i p.1.2)]) (fun _ => []) (fun p => lft 10 p.1.1) ⟨(0, 0), Nat.zero_le _, rfl⟩ ?_
 rintro ⟨⟨k, a⟩, hk, ha⟩
 dsimp only at hk ha ⊢
 have hbd := accM_bd ha hk
 have hsz : 10 ≤ s.size := om9
 clear hz
 rcases Nat.lt_or_ge k 10 with hk10 | hk10
 rotate_left
 ·obtain rfl : k = 10 := by omega
  have hs := sumM_all ha
  have hs0 := Int.tmod_nonneg 97 hbd.1
  cbv; repeat' ((first | refine .n fun h => ?_ | refine .q fun z hz hz0 hz1 => ?_ | fail) <;> cbv)
  exact FinK.mk ⟨_, Gh.refl _, .inl (.v9 (K_i hK (by (rw [hu, hs]; assumption))))⟩
 have hks : k < s.size := by omega
 have hat := accM_at hks ha
 rcases Nat.lt_or_ge k 4 with hk4 | hk4
 ·cbv; repeat' ((first | refine .y fun h => ?_ | fail) <;> cbv)
  refine askByte_nI hks fun z hz => ?_
  cbv
  (refine c09 hl z trivial ?_; try dsimp only)
  cases h1 : letB z with
  | true =>
   have hzr : 97 ≤ z ∧ z ≤ 122 := by unfold letB at h1; simpa using h1
   have hv : vM s[k] k = some (z - 96) := by rw [hz] at h1 ⊢; unfold vM; rw [if_pos hk4, if_pos (show letB (s[k].toNat : Int) = true from h1)]; rfl
   rw [hv] at hat
   cbv
   refine askByte_nI hks fun z2 hz2 => ?_
   obtain rfl : z = z2 := hz.trans hz2.symm
   obtain ⟨c, hc⟩ : ∃ c, c = z := ⟨_, rfl⟩
   have e := IntWalk.u8_in (z - 97) (by omega)
   cbv; repeat' ((first | refine .k fun z hz => ?_ | refine .o ?_ | fail) <;> cbv)
   rename_i w hw v hvv
   obtain rfl : v = c - 96 := by omega
   obtain rfl : z = (k : Int) + 1 := om9
   have hm2 := mul_bd (a := c - 96) (b := (k : Int) + 1) (by omega) (by omega)
   refine MulK.k (fun m hm => ?_) (by omega)
   rw [← hm] at hm2
   cbv; repeat' ((first | refine .k fun z hz => ?_ | fail) <;> cbv)
   rename_i z4 hz4
   obtain rfl : z = nI (k + 1) := om9
   exact roundV ⟨(k + 1, z4), by dsimp only; omega, by rw [hat, hz4, hm, hc]; rfl⟩ (lft_lt (by omega))
  | false =>
   cbv; repeat' ((first | refine .n fun h => ?_ | fail) <;> cbv)
   have hv : vM s[k] k = none := by rw [hz] at h1; unfold vM; rw [if_pos hk4, if_neg (by rw [show letB ((s[k].toNat : Nat) : Int) = false from h1]; decide)]
   exact FinK.mk ⟨_, Gh.refl _, .inl (.v9 (K_i hK (by (rw [hu, sumM_not hk10 hks ha hv]))))⟩
 ·cbv; repeat' ((first | refine .n fun h => ?_ | refine .y fun h => ?_ | fail) <;> cbv)
  refine askByte_nI hks fun z hz => ?_
  cbv
  (refine c09 hd z trivial ?_; try dsimp only)
  cases h1 : digB z with
  | true =>
   have hzr : 48 ≤ z ∧ z ≤ 57 := by unfold digB at h1; simpa using h1
   have hv : vM s[k] k = some (z - 48) := by rw [hz] at h1 ⊢; unfold vM; rw [if_neg (by omega), if_pos (show digB (s[k].toNat : Int) = true from h1)]; rfl
   rw [hv] at hat
   cbv
   refine askByte_nI hks fun z2 hz2 => ?_
   obtain rfl : z = z2 := hz.trans hz2.symm
   obtain ⟨c, hc⟩ : ∃ c, c = z := ⟨_, rfl⟩
   have e := IntWalk.u8_in (z - 48) (by omega)
   cbv; repeat' ((first | refine .k fun z hz => ?_ | refine .o ?_ | fail) <;> cbv)
   rename_i w hw
   obtain rfl : w = c - 48 := by omega
   obtain rfl : z = (k : Int) + 1 := om9
   have hm2 := mul_bd (a := c - 48) (b := (k : Int) + 1) (by omega) (by omega)
   refine MulK.k (fun m hm => ?_) (by omega)
   rw [← hm] at hm2
   cbv; repeat' ((first | refine .k fun z hz => ?_ | fail) <;> cbv)
   rename_i z4 hz4
   obtain rfl : z = nI (k + 1) := om9
   exact roundV ⟨(k + 1, z4), by dsimp only; omega, by rw [hat, hz4, hm, hc]; rfl⟩ (lft_lt (by omega))
  | false =>
   cbv
   have hv : vM s[k] k = none := by rw [hz] at h1; unfold vM; rw [if_neg (by omega), if_neg (by rw [show digB ((s[k].toNat : Nat) : Int) = false from h1]; decide)]
   exact FinK.mk ⟨_, Gh.refl _, .inl (.v9 (K_i hK (by (rw [hu, sumM_not hk10 hks ha hv]))))⟩
end Go.Proofs.YtagcjileaknjnaaGreatDoor
end
