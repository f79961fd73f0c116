/-
  Texts of this proof, joined: VH, VI, VJ, VK, VL, VM, Name, X, RA, Y, RB, RC, RD, VN, RE, RF.
-/
import Derived.Test.YtjnmaicofgjplaaGreatDoorJ2
import Derived.IntWalk
import Derived.KernelRfl
set_option linter.unusedVariables false
set_option linter.unusedSimpArgs false
/-
 At a function's end: of the new entries only those that count are told, by new numbers.
-/
namespace Go.Proofs.YtjnmaicofgjplaaGreatDoor
open Go.RowKit

/-! ### What may be told for what is known -/
inductive Le1 : AV → AV → Prop
 | refl (x : AV) : Le1 x x
 | nil (sz : Nat) : Le1 (.v (.slice none 0 0)) (.sl sz [])
inductive LeL : List AV → List AV → Prop
 | nil : LeL [] []
 | cons {x y : AV} {l m : List AV} (h : Le1 x y) (hl : LeL l m) : LeL (x :: l) (y :: m)
inductive Le0 : AV → AV → Prop
 | one {x y : AV} (h : Le1 x y) : Le0 x y
 | agg {l m : List AV} (h : LeL l m) : Le0 (.agg l) (.agg m)
inductive LeL0 : List AV → List AV → Prop
 | nil : LeL0 [] []
 | cons {x y : AV} {l m : List AV} (h : Le0 x y) (hl : LeL0 l m) : LeL0 (x :: l) (y :: m)
inductive Le : AV → AV → Prop
 | one {x y : AV} (h : Le0 x y) : Le x y
 | tup {l m : List AV} (h : LeL0 l m) : Le (.tup l) (.tup m)
inductive LeE : Ent → Ent → Prop
 | refl (e : Ent) : LeE e e
 | blk {t : TypeId} {l m : List AV} (h : LeL l m) : LeE (.blk t l) (.blk t m)
 | row {t : TypeId} {sz : Nat} {l m : List AV} (h : LeL0 l m) : LeE (.row t sz l) (.row t sz m)
inductive LeH : List Ent → List Ent → Prop
 | nil : LeH [] []
 | cons {x y : Ent} {l m : List Ent} (h : LeE x y) (hl : LeH l m) : LeH (x :: l) (y :: m)
section
variable {pub : Pub} {w : World} {r : Rho}
theorem Le.refl (x : AV) : Le x x := .one (.one (.refl x))
theorem LeH.refl : ∀ l, LeH l l
 | [] => .nil
 | e :: l => .cons (.refl e) (LeH.refl l)
theorem Le1.to {x y : AV} (h : Le1 x y) {v : Value} (hv : VRel pub w r x v) : VRel pub w r y v := by
 cases h with
 | refl => exact hv
 | nil sz =>
  cases hv
  exact .sl (A := none) (c := 0) (xs := []) (Nat.le_refl _) (by unfold maxLen; omega) (fun _ => ⟨rfl, rfl⟩) (fun x hx => by cases hx) (fun _ _ => undef) (fun i x j u hx => by simp at hx) (fun i x j u hx => by simp at hx)
theorem LeL.to {l m : List AV} (h : LeL l m) : ∀ {us : List Value}, VRels pub w r l us → VRels pub w r m us := by
 induction h with
 | nil => exact fun h => h
 | cons h1 _ ih =>
  intro us hu
  obtain ⟨u, us', rfl, h2, h3⟩ := hu.cons_inv
  exact .cons (h1.to h2) (ih h3)
theorem Le0.to {x y : AV} (h : Le0 x y) {v : Value} (hv : VRel pub w r x v) : VRel pub w r y v := by
 cases h with
 | one h => exact h.to hv
 | agg h =>
  cases hv with
  | agg hl h1 =>
   have := h.to (us := _) ⟨(Array.length_toList).trans hl, fun i x u hx hu => h1 i x u hx (by simpa using hu)⟩
   exact .agg (by simpa using this.len) fun i x u hx hu => this.at_ i x u hx (by simpa using hu)
theorem LeL0.to {l m : List AV} (h : LeL0 l m) : ∀ {us : List Value}, VRels pub w r l us → VRels pub w r m us := by
 induction h with
 | nil => exact fun h => h
 | cons h1 _ ih =>
  intro us hu
  obtain ⟨u, us', rfl, h2, h3⟩ := hu.cons_inv
  exact .cons (h1.to h2) (ih h3)
theorem Le.to {x y : AV} (h : Le x y) {v : Value} (hv : VRel pub w r x v) : VRel pub w r y v := by
 cases h with
 | one h => exact h.to hv
 | tup h =>
  cases hv with
  | tup hl h1 =>
   have := h.to (us := _) ⟨(Array.length_toList).trans hl, fun i x u hx hu => h1 i x u hx (by simpa using hu)⟩
   exact .tup (by simpa using this.len) fun i x u hx hu => this.at_ i x u hx (by simpa using hu)
theorem LeL.refl : ∀ l, LeL l l
 | [] => .nil
 | x :: l => .cons (.refl x) (LeL.refl l)
theorem LeL.app {a b : List AV} (h : LeL a b) {c d : List AV} (k : LeL c d) : LeL (a ++ c) (b ++ d) := by
 induction h with
 | nil => exact k
 | cons h1 _ ih => exact .cons h1 ih
theorem LeL.len {a b : List AV} (h : LeL a b) : b.length = a.length := by
 induction h with
 | nil => rfl
 | cons _ _ ih => simp [ih]
theorem LeL.one {a b : List AV} (h : LeL a b) : a.all AV.one = true → b.all AV.one = true := by
 induction h with
 | nil => exact fun h => h
 | cons h1 _ ih =>
  intro h2
  simp only [List.all_cons, Bool.and_eq_true] at h2 ⊢
  exact ⟨by cases h1 with | refl => exact h2.1 | nil => rfl, ih h2.2⟩
theorem Le0.cells {x y : AV} (h : Le0 x y) : LeL x.cells y.cells := by
 cases h with
 | one h => cases h with
  | refl => exact LeL.refl _
  | nil sz => exact .cons (.nil sz) .nil
 | agg h => exact h
theorem LeL0.flat {a b : List AV} (h : LeL0 a b) : LeL (a.flatMap AV.cells) (b.flatMap AV.cells) := by
 induction h with
 | nil => exact .nil
 | cons h1 _ ih => simp only [List.flatMap_cons]; exact h1.cells.app ih
theorem LeL0.len {a b : List AV} (h : LeL0 a b) : b.length = a.length := by
 induction h with
 | nil => rfl
 | cons _ _ ih => simp [ih]
theorem LeL0.each {a b : List AV} (h : LeL0 a b) {sz : Nat} : (∀ x ∈ a, x.cells.length = sz ∧ x.cells.all AV.one = true) → ∀ x ∈ b, x.cells.length = sz ∧ x.cells.all AV.one = true := by
 induction h with
 | nil => exact fun h => h
 | cons h1 _ ih =>
  intro h2 y hy
  rcases List.mem_cons.1 hy with rfl | hy
  ·have := h2 _ (List.mem_cons_self ..)
   exact ⟨by rw [h1.cells.len]; exact this.1, h1.cells.one this.2⟩
  ·exact ih (fun x hx => h2 x (List.mem_cons_of_mem _ hx)) y hy
theorem LeE.to {x y : Ent} (h : LeE x y) {v : Option Value} (hv : ERel pub w r v x) : ERel pub w r v y := by
 cases h with
 | refl => exact hv
 | blk h => cases hv with | blk hb hc hp => exact .blk hb (h.to hc) hp
 | row h => cases hv with | row ho hc hs hp => rw [← h.len] at ho ⊢; exact .row ho (h.flat.to hc) (h.each hs) hp
theorem LeH.get {l m : List Ent} (h : LeH l m) : ∀ {i : Nat} {e : Ent}, m[i]? = some e → ∃ d, l[i]? = some d ∧ LeE d e := by
 induction h with
 | nil => intro i e h; simp at h
 | cons h1 _ ih =>
  intro i e he
  cases i with
  | zero => simp at he; subst he; exact ⟨_, rfl, h1⟩
  | succ i => simpa using ih (by simpa using he)
theorem LeH.len {l m : List Ent} (h : LeH l m) : m.length = l.length := by
 induction h with
 | nil => rfl
 | cons _ _ ih => simp [ih]
theorem Mod.le {H H2 : List Ent} (h : Mod pub w r H) (hl : LeH H H2) : Mod pub w r H2 := by
 refine ⟨fun i e he => ?_, fun i hi => h.none_ i (by rw [← hl.len]; exact hi), h.disj, h.fresh, h.there⟩
 obtain ⟨d, hd, hde⟩ := hl.get he
 exact hde.to (h.ent i d hd)
end
/-- A place may be told by another only where a list lies. -/
def selOk (s : List Nat) : Nat → List Ent → Bool
 | _, [] => true
 | n, e :: H => ((match s[n]? with | some k => k == n | none => false) || e.turns) && selOk s (n + 1) H
theorem selOk_at {s : List Nat} : ∀ {n : Nat} {H : List Ent}, selOk s n H = true → ∀ (k : Nat) (e : Ent), H[k]? = some e → s[n + k]? = some (n + k) ∨ e.turns = true
 | n, [], h, k, e, he => by simp at he
 | n, d :: H, h, k, e, he => by
  unfold selOk at h
  simp only [Bool.and_eq_true] at h
  cases k with
  | zero =>
   simp at he
   subst he
   rw [Bool.or_eq_true] at h
   rcases h.1 with h1 | h1
   ·left
    split at h1
    ·rename_i q hq; simp at h1; subst h1; exact hq
    ·cases h1
   ·exact .inr h1
  | succ k =>
   have := selOk_at h.2 k e (by simpa using he)
   rw [show n + (k + 1) = n + 1 + k by omega]
   exact this
/-- What is told: the entries named by s, by their places in s. -/
structure CutK (H : List Ent) (K : AV → List Ent → Prop) (x : AV) (H' : List Ent) : Prop where
 out : ∃ (s : List Nat) (x2 : AV) (H2 : List Ent) (x3 : AV) (H3 : List Ent), x = x2.ren s 0 ∧ s.map (fun k => H'[k]?) = (renH s 0 H2).map some ∧ s.Nodup ∧ selOk s 0 H = true ∧ H.length ≤ s.length ∧ x2.bnd H2.length = true ∧ bndH H2.length H2 = true ∧ Le x2 x3 ∧ LeH H2 H3 ∧ K x3 H3
theorem FnPost.cut {K : AV → List Ent → Prop} {H : List Ent} {w w' : World} {r : Rho} {pub : Pub} {e : Ending} (hm : Mod pub w r H) (h : FnPost (CutK H K) H w r pub e w') : FnPost K H w r pub e w' := by
 obtain ⟨v, x, H', r1, pub', rfl, ⟨⟨s, x2, H2, x3, H3, rfl, hH, hnd, htk, hM, hbx, hbH, hx3, hH3, hK⟩⟩, hvx, hm1, hfr, hown, hstab, hlen'⟩ := h
 have hlen : s.length = H2.length := by have := congrArg List.length hH; simpa [renH_map] using this
 have hsi : ∀ i (hi : i < s.length), sigma s 0 i = s[i] := fun i hi => sigma_lt hi
 let r0 : Rho := fun i => if i < s.length then r1 (sigma s 0 i) else none
 have hr0 : ∀ i y, r0 i = some y → i < s.length ∧ r1 (sigma s 0 i) = some y := fun i y hy => by
  by_cases hi : i < s.length
  ·simp only [r0, if_pos hi] at hy; exact ⟨hi, hy⟩
  ·simp only [r0, if_neg hi] at hy; cases hy
 have hr0' : ∀ i, i < s.length → r0 i = r1 (sigma s 0 i) := fun i hi => if_pos hi
 have hinj : ∀ i j, i < s.length → j < s.length → sigma s 0 i = sigma s 0 j → i = j := fun i j hi hj e => by
  rw [hsi i hi, hsi j hj] at e
  exact nodup_inj hnd e
 have hent : ∀ i e, H2[i]? = some e → H'[sigma s 0 i]? = some (e.ren s 0) := fun i e he => by
  have hi : i < s.length := by rw [hlen]; exact (List.getElem?_eq_some_iff.1 he).1
  have h1 := congrArg (fun l => l[i]?) hH
  simp only [List.getElem?_map, renH_map, he, Option.map_some, List.getElem?_eq_getElem hi] at h1
  rw [hsi i hi]
  simpa using h1
 have hm0 : Mod pub' w' r0 H2 := by
  refine ⟨fun i e he => ?_, fun i hi => if_neg (by omega), fun i j x y hij hx hy => ?_, hm1.fresh, hm1.there⟩
  ·have hi : i < s.length := by rw [hlen]; exact (List.getElem?_eq_some_iff.1 he).1
   have he1 := hm1.ent _ _ (hent i e he)
   have hbe := bndH_get hbH i e he
   rw [hr0' i hi]
   exact he1.unren hbe fun k y hkb hy => by rw [hr0' k (by omega)]; exact hy
  ·obtain ⟨hi, hx⟩ := hr0 i x hx
   obtain ⟨hj, hy⟩ := hr0 j y hy
   exact hm1.disj _ _ x y (fun e => hij (hinj i j hi hj e)) hx hy
 refine ⟨v, x3, H3, r0, pub', rfl, hK, hx3.to (hvx.unren x2 rfl fun k y hk hy => ?_), hm0.le hH3, hfr, fun b ⟨k, y, hy, hb⟩ => hown b ⟨_, y, (hr0 k y hy).2, hb⟩, fun k y hy hs => ?_, by have := hH3.len; omega⟩
 ·have hkb := AV.bnd_has _ hbx hk
  rw [hr0' k (by omega)]
  exact hy
 ·have h1 := hstab k y hy hs
  have hk : k < H.length := by
   rcases Nat.lt_or_ge k H.length with h2 | h2
   ·exact h2
   ·rw [hm.none_ k h2] at hy; cases hy
  have he := List.getElem?_eq_getElem hk
  rcases selOk_at htk k _ he with h2 | h2
  ·rw [Nat.zero_add] at h2
   have hks := (List.getElem?_eq_some_iff.1 h2)
   obtain ⟨h3, h4⟩ := hks
   rw [hr0' k h3, hsi k h3, h4]
   exact h1
  ·exfalso
   have h3 := hm.ent k _ he
   rw [hy] at h3
   generalize H[k] = en at h2 h3
   cases h3 <;> first | (cases h2; done) | (cases hs; done)
theorem sigma_range {n k : Nat} (h : k < n) : sigma (List.range n) 0 k = k := by
 rw [sigma_lt (by rw [List.length_range]; exact h), List.getElem_range]
mutual
theorem AV.ren_range {n : Nat} : ∀ (x : AV), x.bnd n = true → x.ren (List.range n) 0 = x
 | .any, _ => by unfold AV.ren; rfl
 | .bl _, _ => by unfold AV.ren; rfl
 | .int _ _, _ => by unfold AV.ren; rfl
 | .str _, _ => by unfold AV.ren; rfl
 | .v _, _ => by unfold AV.ren; rfl
 | .sl _ _, _ => by unfold AV.ren; rfl
 | .rp _ _, _ => by unfold AV.ren; rfl
 | .ptr k o, h => by unfold AV.ren; rw [sigma_range (by simpa [AV.bnd] using h)]
 | .hd k, h => by unfold AV.ren; rw [sigma_range (by simpa [AV.bnd] using h)]
 | .ph k, h => by unfold AV.ren; rw [sigma_range (by simpa [AV.bnd] using h)]
 | .re k _ _ _, h => by unfold AV.ren; rw [sigma_range (by simpa [AV.bnd] using h)]
 | .agg l, h => by unfold AV.ren; rw [AV.renL_range l (by simpa [AV.bnd] using h)]
 | .tup l, h => by unfold AV.ren; rw [AV.renL_range l (by simpa [AV.bnd] using h)]
 | .clo f l, h => by unfold AV.ren; rw [AV.renL_range l (by simpa [AV.bnd] using h)]
theorem AV.renL_range {n : Nat} : ∀ (l : List AV), AV.bndL n l = true → AV.renL (List.range n) 0 l = l
 | [], _ => by unfold AV.renL; rfl
 | x :: l, h => by
  simp only [AV.bndL, Bool.and_eq_true] at h
  unfold AV.renL
  rw [AV.ren_range x h.1, AV.renL_range l h.2]
end
theorem renH_range {n : Nat} : ∀ (l : List Ent), bndH n l = true → renH (List.range n) 0 l = l
 | [], _ => by unfold renH; rfl
 | e :: l, h => by
  simp only [bndH, Bool.and_eq_true] at h
  unfold renH
  rw [renH_range l h.2]
  congr 1
  cases e with
  | blk t cs => show Ent.blk t (AV.renL (List.range n) 0 cs) = _; rw [AV.renL_range cs (by simpa [bndE] using h.1)]
  | hrow t sz m cs => show Ent.hrow t sz m (AV.renL (List.range n) 0 cs) = _; rw [AV.renL_range cs (by simpa [bndE] using h.1)]
  | iter x a b => show Ent.iter (AV.ren (List.range n) 0 x) a b = _; rw [AV.ren_range x (by simpa [bndE] using h.1)]
  | pool t es outs =>
   show Ent.pool t es (outs.map fun p => (p.1, AV.ren (List.range n) 0 p.2)) = _
   have h1 : AV.bndL n (outs.map fun (p : Nat × AV) => p.2) = true := h.1
   clear h
   congr 1
   induction outs with
   | nil => rfl
   | cons p outs ih =>
    simp only [List.map_cons, AV.bndL, Bool.and_eq_true] at h1 ⊢
    rw [ih h1.2, AV.ren_range p.2 h1.1]
  | _ => rfl
/-- The first entries are told. -/
theorem CutK.pre {H : List Ent} {K : AV → List Ent → Prop} {x : AV} {H' : List Ent} (H2 : List Ent) {x3 : AV} {H3 : List Ent} (hH : H'.take H2.length = H2) (hM : H.length ≤ H2.length) (hb : x.bnd H2.length = true) (hbH : bndH H2.length H2 = true) (hx : Le x x3) (hl : LeH H2 H3) (hK : K x3 H3) : CutK H K x H' := by
 refine ⟨⟨List.range H2.length, x, H2, x3, H3, (AV.ren_range x hb).symm, ?_, List.nodup_range, ?_, by rw [List.length_range]; exact hM, hb, hbH, hx, hl, hK⟩⟩
 ·rw [renH_range _ hbH]
  refine List.ext_getElem? fun i => ?_
  rw [List.getElem?_map, List.getElem?_map]
  by_cases hi : i < H2.length
  ·rw [List.getElem?_range hi]
   have := congrArg (fun l => l[i]?) hH
   simp only [List.getElem?_take, if_pos hi] at this
   rw [List.getElem?_eq_getElem hi] at this ⊢
   simpa using this
  ·rw [List.getElem?_eq_none (by rw [List.length_range]; omega), List.getElem?_eq_none (by omega)]
   rfl
 ·have key : ∀ (n : Nat) (L : List Ent), n + L.length ≤ H2.length → selOk (List.range H2.length) n L = true := fun n L => by
   induction L generalizing n with
   | nil => intro _; rfl
   | cons e L ih =>
    intro hl
    simp only [List.length_cons] at hl
    unfold selOk
    rw [List.getElem?_range (by omega), ih (n + 1) (by omega)]
    simp
  exact key 0 H (by omega)
/-- No entry is told. -/
theorem CutK.val {K : AV → List Ent → Prop} {x : AV} {H' : List Ent} {x3 : AV} (hb : x.bnd 0 = true) (hx : Le x x3) (hK : K x3 []) : CutK [] K x H' := .pre [] (by simp) (Nat.le_refl _) hb rfl hx .nil hK
/-- What is to be shown of a function's code. -/
def BodyOk (P : Program) (x : XFn) (c : Ctr) : Prop := ∀ args H K, c args H K → args.length ≤ x.n ∧ XW P x.n H.length x.body (FinQ H.length x.res (CutK H K)) ⟨numT 0 args, H⟩
theorem body_ok {P : Program} {f : Nat} {x : XFn} {c : Ctr} (hx : cFn P f = some x) (h : BodyOk P x c) : FnOk P f c := fun args H K hc w r pub vals hm hv =>
 Calls.mono (fn_ok (fun args H K' => ∃ K, c args H K ∧ K' = CutK H K) hx (fun args H K' ⟨K, hc, e⟩ => by subst e; exact h args H K hc) args H _ ⟨K, hc, rfl⟩ w r pub vals hm hv) fun _ _ hp => FnPost.cut hm hp
/-- The same without its steps. -/
def BodyOkS (P : Program) (x : XFn) (c : Ctr) : Prop := ∀ args H K, c args H K → args.length ≤ x.n ∧ SemW P x.n H.length x.body (FinQ H.length x.res (CutK H K)) ⟨numT 0 args, H⟩
theorem body_okS {P : Program} {f : Nat} {x : XFn} {c : Ctr} (hx : cFn P f = some x) (h : BodyOkS P x c) : FnOk P f c := fun args H K hc w r pub vals hm hv =>
 Calls.mono (fn_okS (fun args H K' => ∃ K, c args H K ∧ K' = CutK H K) hx (fun args H K' ⟨K, hc, e⟩ => by subst e; exact h args H K hc) args H _ ⟨K, hc, rfl⟩ w r pub vals hm hv) fun _ _ hp => FnPost.cut hm hp
/-- A list's image, as cbv leaves it. -/
noncomputable abbrev mapA {α β : Type} (f : α → β) (l : List α) : List β := List.rec (motive := fun _ => List β) [] (fun a _ => List.cons (f a)) l
theorem mapA_eq {α β : Type} (f : α → β) (l : List α) : mapA f l = l.map f := by
 induction l with
 | nil => rfl
 | cons a l ih =>
  show f a :: mapA f l = f a :: l.map f
  rw [ih]
theorem mapA_len {α β : Type} (f : α → β) (l : List α) : (mapA f l).length = l.length := by rw [mapA_eq]; exact List.length_map f
theorem mapA_app {α β : Type} (f : α → β) (l m : List α) : mapA f (l ++ m) = mapA f l ++ mapA f m := by rw [mapA_eq, mapA_eq, mapA_eq]; exact List.map_append
theorem mapA_one {α β : Type} (f : α → β) (x : α) : mapA f [x] = [f x] := rfl
theorem mapA_nil {α β : Type} (f : α → β) : mapA f [] = [] := rfl
/-- A call that is handed no entry, and leaves new ones. -/
theorem callG_new {P : Program} {f : Nat} {ι : Type} {a : ι → List AV} {p : ι → Prop} {r : ι → AV} {h' : ι → List Ent} (hf : FnOk P f (spec a (fun _ => []) p r h')) (i : ι) {keep : List Nat} {st : St} {K : AV → St → Prop} (hp : p i) (hb : AV.bndL 0 (a i) = true) (hk : (keep.all fun k => Nat.blt k st.H.length) = true)
  (hK : K ((r i).ren [] st.H.length) ⟨st.T, st.H ++ renH [] st.H.length (h' i)⟩) : CallG P keep f (a i) st K := by
 refine callG_of hf [] (args0 := a i) (H0 := []) (AV.renL_id _ hb).symm rfl List.nodup_nil (by simp) rfl hb rfl (fun k hkk => ⟨by simp, by have := List.all_eq_true.1 hk k hkk; simpa [Nat.blt_eq] using this⟩) ⟨i, rfl, rfl, hp, ?_⟩
 simpa [rowIds, killTs, killHs, putE] using hK
/-- A loop that leaves the entries as they are. -/
theorem xloopT {P : Program} {N M : Nat} {c : XCode} {Q : XEx → St → Prop} {T : List (Nat × AV)} {H : List Ent} {ι : Type} (F : ι → List (Nat × AV)) (μ : ι → Ms) (i0 : ι) (hw : weakT T (F i0)) (hb : bndT H.length (F i0) = true) (hbH : bndH H.length H = true) (hM : M ≤ H.length)
  (hr : ∀ i, XW P N M c (XRound M (fun i => ⟨F i, H⟩) μ (μ i) Q) ⟨F i, H⟩) : XLoopG P N M c Q ⟨T, H⟩ :=
 xloop (fun i => ⟨F i, H⟩) μ i0 (Gh.weak hw (by simp) hb hbH hM) hr
/-- .. behind a round. -/
theorem roundT {ι : Type} {M : Nat} {F : ι → List (Nat × AV)} {H : List Ent} {μ : ι → Ms} {n : Ms} {T : List (Nat × AV)} (j : ι) (hw : weakT T (F j)) (hb : bndT H.length (F j) = true) (hbH : bndH H.length H = true) (hM : M ≤ H.length) (hl : (μ j).val < n.val) : RoundK M (fun i => ⟨F i, H⟩) μ n ⟨T, H⟩ :=
 ⟨_, j, Gh.weak hw (by simp) hb hbH hM, rfl, hl⟩
/-- A place as a number, as cbv leaves it. -/
abbrev nI (n : Nat) : Int := Int.ofNat n
theorem nI_eq (n : Nat) : nI n = (n : Int) := rfl
theorem nI_succ (n : Nat) : nI (n + 1) = nI n + 1 := rfl
theorem mapA_get {α β : Type} (f : α → β) (l : List α) {i : Nat} (h : i < l.length) : (mapA f l)[i]? = some (f l[i]) := by
 rw [mapA_eq, List.getElem?_map, List.getElem?_eq_getElem h]; rfl
theorem mapA_set {α β : Type} (f : α → β) (l : List α) {i : Nat} (h : i < l.length) {x : β} (hx : x = f l[i]) : (mapA f l).set i x = mapA f l := by
 subst hx; rw [mapA_eq]; exact List.ext_getElem? fun j => by
  rw [List.getElem?_set]
  split
  ·rename_i e; subst e
   rw [List.getElem?_map, List.getElem?_eq_getElem h, List.length_map, if_pos h]; rfl
  ·rfl
/-- What is left, as cbv leaves it. -/
abbrev lft (n i : Nat) : Ms := ⟨n, i⟩
theorem lft_lt {n i : Nat} (h : i < n) : (lft n (i + 1)).val < (lft n i).val := by unfold Ms.val; dsimp only; omega
theorem num_lt {n m : Nat} (h : n < m) : (lft n 0).val < (lft m 0).val := by unfold Ms.val; dsimp only; omega
theorem round_ok {ι : Type} {M : Nat} {F : ι → St} {μ : ι → Ms} {n : Ms} {st : St} (j : ι) (hg : Gh M st (F j)) (hl : (μ j).val < n.val) : RoundK M F μ n st := ⟨_, j, hg, rfl, hl⟩
/-- A list turned from the left: one more. -/
theorem upd_step {α : Type} (f : α → α) (L a : List α) {i : Nat} (hi : i < L.length) (ha : (L.take i).map f ++ L.drop i = a) : a.length = L.length ∧ a[i]? = some L[i] ∧ (L.take (i + 1)).map f ++ L.drop (i + 1) = a.set i (f L[i]) := by
 subst ha
 have hl : ((L.take i).map f).length = i := by rw [List.length_map, List.length_take]; omega
 refine ⟨by rw [List.length_append, hl, List.length_drop]; omega, by rw [List.getElem?_append_right (by omega), hl, List.getElem?_drop, Nat.sub_self, Nat.add_zero, List.getElem?_eq_getElem hi], ?_⟩
 rw [List.take_succ_eq_append_getElem hi, List.map_append, List.append_assoc, List.set_append, if_neg (by omega), hl, Nat.sub_self]
 congr 1
 rw [List.drop_eq_getElem_cons hi]
 rfl
theorem mapA_set_ {α β : Type} (f : α → β) (l : List α) (i : Nat) (y : α) : (mapA f l).set i (f y) = mapA f (l.set i y) := by rw [mapA_eq, mapA_eq, List.map_set]
theorem jump_ok {ι : Type} {M : Nat} {F : ι → St} {st : St} (j : ι) (hg : Gh M st (F j)) : JumpK M F st := ⟨_, j, hg, rfl⟩
end Go.Proofs.YtjnmaicofgjplaaGreatDoor
/-
 Calls by contract, more roads: entries handed by number; a row published ahead of it; a block that is only read.
-/
namespace Go.Proofs.YtjnmaicofgjplaaGreatDoor
open Go.RowKit

/-- A call that is handed entries. -/
theorem callG_spec {P : Program} {f : Nat} {ι : Type} {a : ι → List AV} {h : ι → List Ent} {p : ι → Prop} {r : ι → AV} {h' : ι → List Ent} (hf : FnOk P f (spec a h p r h')) (i : ι) (sel : List Nat) {keep : List Nat} {args : List AV} {st : St} {K : AV → St → Prop}
  (hp : p i) (ha : args = AV.renL sel st.H.length (a i)) (hlen : sel.length = (h i).length) (hnd : sel.Nodup) (hlt : (sel.all fun k => Nat.blt k st.H.length) = true) (hH : sel.map (fun k => st.H[k]?) = (renH sel st.H.length (h i)).map some)
  (hb : AV.bndL (h i).length (a i) = true) (hbH : bndH (h i).length (h i) = true) (hkeep : (keep.all fun k => !sel.contains k && Nat.blt k st.H.length) = true)
  (hK : K ((r i).ren sel st.H.length) ⟨killTs st.T (rowIds sel (h i)), putE (killHs st.H (rowIds sel (h i))) sel (renH sel st.H.length (h' i))⟩) : CallG P keep f args st K :=
 callG_of hf sel ha hlen hnd (fun k hk => by simpa [Nat.blt_eq] using List.all_eq_true.1 hlt k hk) hH hb hbH (fun k hk => by
  have := List.all_eq_true.1 hkeep k hk
  simp only [Bool.and_eq_true, Bool.not_eq_true', Nat.blt_eq] at this
  exact ⟨fun h => by rw [List.contains_eq_mem] at this; simp [h] at this, this.2⟩) ⟨i, rfl, rfl, hp, hK⟩
/-- A row is published ahead of a call. -/
theorem callG_publish {P : Program} {f : Nat} {keep : List Nat} {args : List AV} {st : St} {K : AV → St → Prop} (k : Nat) {t sz : Nat} {xs : List AV} (hk : isRowE st.H[k]? = some (t, sz, xs))
  (h : CallG P keep f (args.map (St.view ⟨st.T, st.H.set k (.tip t sz xs)⟩)) ⟨st.T, st.H.set k (.tip t sz xs)⟩ K) : CallG P keep f args st K := by
 refine ⟨fun C a w r pub vals hh hv => ?_⟩
 have hk' : st.H[k]? = some (.row t sz xs) := by
  unfold isRowE at hk
  split at hk
  ·rename_i e he; cases hk; exact he
  ·cases hk
 obtain ⟨pub', h1, he⟩ := hh.publish hk'
 have hv1 : VRels pub' w r (args.map (St.view ⟨st.T, st.H.set k (.tip t sz xs)⟩)) vals.toList := ⟨by rw [List.length_map]; exact hv.len, fun i x u hx hu => by
  rw [List.getElem?_map] at hx
  cases hq : args[i]? with
  | none => rw [hq] at hx; cases hx
  | some q => rw [hq] at hx; cases hx; exact h1.view ((hv.at_ i q u hq hu).ext he)⟩
 refine (h.out C a w r pub' vals h1 hv1).mono fun e w' ⟨v, x, st', r', pub2, e1, e2, e3, e4, e5, e6⟩ => ⟨v, x, st', r', pub2, e1, e2, e3, e4, he.trans e5, e6⟩
/-- A cell as it may be read: what a handle is, is not told. -/
def roCell (st : St) (x : Nat → Value) (j : Nat) (c : AV) : AV := match st.view1 c with
 | .ptr .. => .v (x j)
 | .hd _ => .v (x j)
 | .ph _ => .v (x j)
 | .re .. => .v (x j)
 | .clo .. => .v (x j)
 | y => y
def roCells (st : St) (x : Nat → Value) : Nat → List AV → List AV
 | _, [] => []
 | j, c :: l => roCell st x j c :: roCells st x (j + 1) l
def isScal : AV → Bool
 | .bl _ => true
 | .int _ _ => true
 | .str _ => true
 | .v _ => true
 | _ => false
theorem isScal_rel {pub pub' : Pub} {w w' : World} {r r' : Rho} {x : AV} {v : Value} (hs : isScal x = true) (h : VRel pub w r x v) : VRel pub' w' r' x v := by
 cases h with
 | bl b => exact .bl b
 | int k n => exact .int k n
 | str s => exact .str s
 | v => exact .v _ (by assumption)
 | _ => cases hs
theorem roCells_get (st : St) (x : Nat → Value) : ∀ (l : List AV) (j i : Nat), (roCells st x j l)[i]? = (l[i]?).map (roCell st x (j + i))
 | [], j, i => by simp [roCells]
 | c :: l, j, 0 => by simp [roCells]
 | c :: l, j, i + 1 => by simp [roCells, roCells_get st x l (j + 1) i]; rw [show j + 1 + i = j + (i + 1) by omega]
theorem roCells_len (st : St) (x : Nat → Value) : ∀ (l : List AV) (j : Nat), (roCells st x j l).length = l.length
 | [], j => rfl
 | c :: l, j => by simp [roCells, roCells_len st x l (j + 1)]
/-- A call that only reads a block that it is handed. -/
theorem callG_ro {P : Program} {f : Nat} {ι : Type} {a : ι → List AV} {p : ι → Prop} {r : ι → AV} (hf : FnOk P f (spec a (fun _ => []) p r fun _ => [])) (k : Nat) {keep : List Nat} {rest : List AV} {st : St} {K : AV → St → Prop} (i : (Nat → Value) → ι) {t : TypeId} {cs : List AV}
  (hk : st.H[k]? = some (.blk t cs)) (hcs : cs.all AV.one = true) (hbr : AV.bndL 0 rest = true) (_hkeep : (keep.all fun k => Nat.blt k st.H.length) = true) (hres : ∀ x, isScal (r (i x)) = true)
  (h : ∀ x : Nat → Value, (∀ j, (x j).oneCell' = true) → a (i x) = .rp (roCells st x 0 cs) 0 :: rest ∧ p (i x) ∧ K (r (i x)) st) : CallG P keep f (.ptr k 0 :: rest) st K := by
 refine ⟨fun C act w rh pub vals hh hv => ?_⟩
 obtain ⟨b, arr, hr, hb, hc, hp⟩ := hh.ent_blk hk
 obtain ⟨v0, vs, hvals, hv0, hvs⟩ := hv.cons_inv
 have hv0' : v0 = .pointer (some ⟨b, 0, none⟩) := by
  cases hv0 with
  | ptr off h1 => rw [hr] at h1; simp only [Option.some.injEq, Value.pointer.injEq, Addr.mk.injEq, and_true] at h1; subst h1; rfl
 subst hv0'
 let x : Nat → Value := fun j => if (arr.toList.getD j undef).oneCell' = true then arr.toList.getD j undef else .bool true
 have hx : ∀ j, (x j).oneCell' = true := fun j => by
  dsimp only [x]
  split
  ·assumption
  ·rfl
 obtain ⟨ha, hpi, hKi⟩ := h x hx
 let pub0 : Pub := fun q => if q = b then cs.length else pub q
 have hal : arr.size = cs.length := by have := hc.len; simpa using this
 have hcell : ∀ q, w.cell? ⟨b, q, none⟩ = arr[q]? := fun q => hb.all q
 have hblt : b < w.heap.size := hb.lt
 have ext0 : Ext pub w pub0 w := ⟨fun q => by dsimp only [pub0]; split; (· rename_i e; subst e; omega); exact Nat.le_refl _, fun _ _ _ _ h => h⟩
 have rel0 : ∀ (c : AV) (u : Value) (j : Nat), AV.one c = true → cs[j]? = some c → arr.toList[j]? = some u → VRel pub w rh c u → VRel pub0 w rho0 (roCell st x j c) u := fun c u j h1 hcj huj hcu => by
  have hone := hcu.one_ h1
  have hxj : x j = u := by
   dsimp only [x]
   rw [List.getD_eq_getElem?_getD, huj]
   exact if_pos hone
  have hvw := hh.view1 hcu
  unfold roCell
  generalize st.view1 c = c' at hvw
  cases hvw with
  | any => exact .any _
  | bl => exact .bl _
  | int => exact .int _ _
  | str => exact .str _
  | v _ h => exact .v _ h
  | agg hl hq => cases hone
  | tup hl hq => cases hone
  | ptr off h => rw [hxj]; exact .v _ rfl
  | hd h hh1 => rw [hxj]; exact .v _ hone
  | ph h h0 hh1 => rw [hxj]; exact .v _ hone
  | sl hc1 hm1 hn1 hs1 g hr1 hg1 => exact (VRel.sl (r := rho0) hc1 hm1 hn1 hs1 g hr1 hg1).ext ext0
  | rp j ho g hr1 hg1 => exact (VRel.rp (r := rho0) j ho g hr1 hg1).ext ext0
  | re sz i j h => rw [hxj]; exact .v _ rfl
  | clo f hl h => rw [hxj]; exact .v _ hone
 have hroOne : (roCells st x 0 cs).all AV.one = true := by
  rw [List.all_eq_true]
  intro y hy
  obtain ⟨j, hj⟩ := List.getElem?_of_mem hy
  rw [roCells_get] at hj
  cases hq : cs[j]? with
  | none => rw [hq] at hj; cases hj
  | some c =>
   rw [hq] at hj
   have hc1 := (List.all_eq_true.1 hcs) c (List.mem_of_getElem? hq)
   obtain ⟨u, hu, hcu⟩ := hc.get hq
   have := rel0 c u j hc1 hq hu hcu
   simp only [Option.map_some, Option.some.injEq, Nat.zero_add] at hj
   rw [← hj]
   have hvw := hh.view1 hcu
   unfold roCell
   have hv1 : (st.view1 c).one = true := by
    unfold St.view1
    split
    ·split <;> rfl
    ·exact hc1
   revert hv1
   cases st.view1 c <;> intro hv1 <;> first | rfl | exact hv1
 have hrp : VRel pub0 w rho0 (.rp (roCells st x 0 cs) 0) (.pointer (some ⟨b, 0, none⟩)) := by
  refine .rp (o := 0) 0 hroOne (fun j => arr.toList.getD j undef) (fun j u hj => ?_) (fun j u hj => ?_)
  ·rw [roCells_get] at hj
   cases hq : cs[j]? with
   | none => rw [hq] at hj; cases hj
   | some c =>
    rw [hq] at hj
    simp only [Option.map_some, Option.some.injEq, Nat.zero_add] at hj
    subst hj
    obtain ⟨u, hu, hcu⟩ := hc.get hq
    have := rel0 c u j ((List.all_eq_true.1 hcs) c (List.mem_of_getElem? hq)) hq hu hcu
    rw [List.getD_eq_getElem?_getD, hu]
    exact this
  ·have hj1 := (List.getElem?_eq_some_iff.1 hj).1
   rw [roCells_len] at hj1
   refine ⟨by dsimp only [pub0]; rw [if_pos rfl]; omega, ?_⟩
   rw [Nat.zero_add, hcell, List.getD_eq_getElem?_getD, Array.getElem?_toList, Array.getElem?_eq_getElem (by omega)]
   rfl
 have hvs0 : VRels pub0 w rho0 (a (i x)) vals.toList := by
  rw [ha, hvals]
  refine .cons hrp ?_
  have h1 : VRels pub w rho0 rest vs := hvs.congr (fun n hn => by have := AV.bndL_has _ hbr hn; omega)
  exact h1.ext ext0
 have hm0 : Mod pub0 w rho0 [] := by
  refine ⟨fun k e he => by simp at he, fun _ _ => rfl, fun _ _ _ _ _ h => (by cases h), fun q hq => ?_, fun q j hj => ?_⟩
  ·dsimp only [pub0]
   rw [if_neg (by rintro rfl; omega)]
   exact hh.mod.fresh q hq
  ·dsimp only [pub0] at hj
   split at hj
   ·rename_i e; subst e
    exact ⟨arr[j]'(by omega), by rw [hcell]; exact Array.getElem?_eq_getElem _⟩
   ·exact hh.mod.there q j hj
 refine (hf (a (i x)) [] (fun y H' => y = r (i x) ∧ H' = []) ⟨i x, rfl, rfl, hpi, rfl, rfl⟩ w rho0 pub0 vals hm0 hvs0).mono fun e w' hpost => ?_
 obtain ⟨v, y, H', r1, pub1, rfl, ⟨rfl, rfl⟩, hvy, hm1, hfr, _, _, _⟩ := hpost
 have hnf : ∀ q, ¬ Foot rho0 q := fun q ⟨_, _, hh1, _⟩ => by cases hh1
 let pub2 : Pub := fun q => if q = b then pub b else pub1 q
 have hkeepw : ∀ q, q < w.heap.size → w'.heap[q]? = w.heap[q]? ∧ pub2 q = pub q := fun q hq => by
  obtain ⟨h1, h2⟩ := hfr.keep q hq (hnf q)
  refine ⟨h1, ?_⟩
  dsimp only [pub2]
  split
  ·rename_i e; rw [e]
  ·rename_i e; rw [h2]; dsimp only [pub0]; rw [if_neg e]
 have hfr2 : Fr (fun _ => False) pub w pub2 w' := by
  refine ⟨hfr.os, hfr.tape, hfr.output, hfr.size, fun q hq _ => hkeepw q hq, fun q => ?_, fun q j u hj hu => ?_⟩
  ·rcases Nat.lt_or_ge q w.heap.size with h1 | h1
   ·rw [(hkeepw q h1).2]; exact Nat.le_refl _
   ·rw [hh.mod.fresh q h1]; exact Nat.zero_le _
  ·have hq := World.block_lt_of_cell? w _ hu
   rw [World.cell?_of_block (w := w) (a := ⟨q, j, none⟩) (hkeepw q hq).1]
   exact hu
 have hmod2 : Mod pub2 w' rh st.H := hh.mod.frm hfr2 (fun _ _ _ _ _ h => h) (fun q hq => by
   dsimp only [pub2]
   rw [if_neg (by rintro rfl; have := hfr.size; omega)]
   exact hm1.fresh q hq) (fun q j hj => by
   dsimp only [pub2] at hj
   split at hj
   ·rename_i e; subst e
    obtain ⟨u, hu⟩ := hh.mod.there q j hj
    exact ⟨u, hfr2.ext.cell q j u hj hu⟩
   ·exact hm1.there q j hj)
 refine ⟨v, _, st, rh, pub2, rfl, isScal_rel (hres x) hvy, hKi, ⟨hmod2, hh.own, hh.fr.trans hfr2 (fun _ h => h.elim), hh.slots.ext hfr2.ext, hh.defers, hh.size, hh.stab, hh.low⟩, hfr2.ext, fun q hq => ⟨rfl, fun y hy b' hb' => (hkeepw b' (hh.mod.foot_lt hy b' hb')).1⟩⟩
end Go.Proofs.YtjnmaicofgjplaaGreatDoor
/-
 Contracts by other roads: of functions that were walked without entries; weaker ones.
-/
namespace Go.Proofs.YtjnmaicofgjplaaGreatDoor
open Go.RowKit

theorem rho_none {pub : Pub} {w : World} {r : Rho} (h : Mod pub w r []) : r = rho0 := funext fun k => h.none_ k (Nat.zero_le _)
/-- A function that makes nothing and turns nothing. -/
theorem fn_pure {P : Program} {f : Nat} {ι : Type} {a : ι → List AV} {p : ι → Prop} {r : ι → AV}
  (h : ∀ i, p i → ∀ (pub : Pub) (w : World) (vals : Array Value), VRels pub w rho0 (a i) vals.toList → Calls P f vals w fun e w' => w' = w ∧ ∃ v, e = .returned v ∧ VRel pub w rho0 (r i) v) :
  FnOk P f (spec a (fun _ => []) p r fun _ => []) := by
 intro args H K ⟨i, ha, hH, hp, hK⟩ w rh pub vals hm hv
 subst ha
 subst hH
 have := rho_none hm
 subst this
 refine (h i hp pub w vals hv).mono fun e w' ⟨hw, v, he, hr⟩ => ?_
 subst hw
 exact ⟨v, r i, [], rho0, pub, he, hK, hr, hm, Fr.refl _ _ _, fun b hb => .inl hb, fun _ _ h _ => h, Nat.le_refl _⟩
theorem VRels.str_inv {pub : Pub} {w : World} {r : Rho} {s : ByteArray} {l : List AV} {us : List Value} (h : VRels pub w r (.str s :: l) us) : ∃ us', us = .string s :: us' ∧ VRels pub w r l us' := by
 obtain ⟨u, us', rfl, h1, h2⟩ := h.cons_inv
 cases h1
 exact ⟨us', rfl, h2⟩
theorem VRels.int_inv {pub : Pub} {w : World} {r : Rho} {k : IntKind} {n : Int} {l : List AV} {us : List Value} (h : VRels pub w r (.int k n :: l) us) : ∃ us', us = .int k n :: us' ∧ VRels pub w r l us' := by
 obtain ⟨u, us', rfl, h1, h2⟩ := h.cons_inv
 cases h1
 exact ⟨us', rfl, h2⟩
theorem fn_weak {P : Program} {f : Nat} {c c' : Ctr} (h : FnOk P f c) (hc : ∀ args H K, c' args H K → c args H K) : FnOk P f c' := fun args H K hh => h args H K (hc args H K hh)
/-- A text in, yes or no out. -/
theorem fn_strB {P : Program} {f : Nat} {p : ByteArray → Prop} {g : ByteArray → Bool} (h : ∀ s w, p s → Calls P f #[.string s] w fun e w' => e = .returned (.bool (g s)) ∧ w = w') :
  FnOk P f (spec (fun s : ByteArray => [.str s]) (fun _ => []) p (fun s => .bl (g s)) fun _ => []) := fn_pure fun s hp pub w vals hv => by
 obtain ⟨us, h1, h2⟩ := hv.str_inv
 have h3 := h2.nil_inv
 subst h3
 have h4 : vals = #[.string s] := Array.toList_inj.1 (by simpa using h1)
 subst h4
 exact (h s w hp).mono fun e w' ⟨h1, h2⟩ => ⟨h2.symm, _, h1, .bl _⟩
/-- A slice of nothing in a block's cell becomes a row of its own. -/
theorem Gh.adoptC {M : Nat} {st : St} (k j t sz : Nat) {t0 : TypeId} {cs : List AV} (hk : st.H[k]? = some (.blk t0 cs)) (hj : cs[j]? = some (.v (.slice none 0 0))) :
  Gh M st ⟨st.T, (st.H ++ [Ent.row t sz []]).set k (.blk t0 (cs.set j (.hd st.H.length)))⟩ := fun C a w r pub _ h => by
 have hkl := (List.getElem?_eq_some_iff.1 hk).1
 have hd := h.room 1
 have hq : (st.H ++ List.replicate 1 Ent.dead)[st.H.length]? = some .dead := by simp
 have h1 := hd.adopt hq t sz
 have hset : (st.H ++ List.replicate 1 Ent.dead).set st.H.length (.row t sz []) = st.H ++ [.row t sz []] := by simp
 dsimp only at h1
 rw [hset] at h1
 have hk1 : (st.H ++ [Ent.row t sz []])[k]? = some (.blk t0 cs) := by rw [List.getElem?_append_left hkl]; exact hk
 obtain ⟨b, arr, hr, hb, hc, hp⟩ := h1.ent_blk hk1
 have he : ERel pub w (rset r st.H.length (.slice none 0 0)) (some (.pointer (some ⟨b, 0, none⟩))) (.blk t0 (cs.set j (.hd st.H.length))) := by
  refine .blk hb ⟨by rw [List.length_set]; exact hc.len, fun i x u hx hu => ?_⟩ hp
  rw [List.getElem?_set] at hx
  split at hx
  ·rename_i e
   subst e
   have := hc.at_ j _ u hj hu
   cases this
   split at hx
   ·cases hx; exact .hd (rset_self _ _ _) rfl
   ·cases hx
  ·exact hc.at_ i x u hx hu
 exact ⟨_, pub, h1.mod.set hr (Fr.refl (fun _ => False) _ _) (fun b hb => hb.elim) h1.mod.fresh h1.mod.there he, h1.own, h1.fr, h1.slots, h1.defers, h1.size, h1.stab, by simpa using h1.low⟩
end Go.Proofs.YtjnmaicofgjplaaGreatDoor
/-
 Loops: the slots that a round does not write stay without being named.
-/
namespace Go.Proofs.YtjnmaicofgjplaaGreatDoor
open Go.RowKit

def stepD (s : XStep) : List Nat := match s.d with
 | some d => [d]
 | none => []
def XPlan.wr : XPlan → List Nat
 | .nil => []
 | .take _ s p => stepD s ++ p.wr
 | .eff _ _ _ s p => stepD s ++ p.wr
 | .fork p q => p.wr ++ q.wr
 | .phase _ p => p.wr
def wrL : List XStep → List Nat
 | [] => []
 | s :: l => stepD s ++ wrL l
/-- The slots that code may write. -/
def XCode.wr : XCode → List Nat
 | .reg l => wrL l
 | .dreg p _ _ => p.wr
 | .seq a b => a.wr ++ b.wr
 | .cond _ a b => a.wr ++ b.wr
 | .block _ a => a.wr
 | .loop a => a.wr
 | .scope a => a.wr
 | _ => []
def hasAny : List Nat → AV → Bool
 | [], _ => false
 | h :: l, x => x.has h || hasAny l x
/-- The slots that stay: not written, and none of these entries named. -/
def keepT (hs : List Nat) : List Nat → List (Nat × AV) → List (Nat × AV)
 | _, [] => []
 | ws, (n, x) :: T => if ws.contains n = true then keepT hs ws T else if hasAny hs x = true then keepT hs (n :: ws) T else (n, x) :: keepT hs (n :: ws) T
def weakG (T T' : List (Nat × AV)) : Prop := ∀ m, tget T' m = .any ∨ tget T' m = tget T m
theorem keepT_get (hs : List Nat) : ∀ (T : List (Nat × AV)) (ws : List Nat) (m : Nat), tget (keepT hs ws T) m = .any ∨ (m ∉ ws ∧ tget (keepT hs ws T) m = tget T m)
 | [], ws, m => .inl rfl
 | (n, x) :: T, ws, m => by
  unfold keepT
  split
  ·rename_i h
   rw [List.contains_eq_mem] at h
   simp only [decide_eq_true_eq] at h
   rcases keepT_get hs T ws m with h1 | ⟨h1, h2⟩
   ·exact .inl h1
   ·refine .inr ⟨h1, h2.trans ?_⟩
    show _ = if n = m then x else tget T m
    rw [if_neg (by rintro rfl; exact h1 h)]
  ·rename_i h
   rw [List.contains_eq_mem] at h
   simp only [decide_eq_true_eq] at h
   split
   ·rcases keepT_get hs T (n :: ws) m with h1 | ⟨h1, h2⟩
    ·exact .inl h1
    ·simp only [List.mem_cons, not_or] at h1
     refine .inr ⟨h1.2, h2.trans ?_⟩
     show _ = if n = m then x else tget T m
     rw [if_neg (fun e => h1.1 e.symm)]
   ·show (if n = m then x else tget (keepT hs (n :: ws) T) m) = .any ∨ m ∉ ws ∧ (if n = m then x else tget (keepT hs (n :: ws) T) m) = if n = m then x else tget T m
    by_cases e : n = m
    ·subst e
     rw [if_pos rfl, if_pos rfl]
     exact .inr ⟨h, rfl⟩
    ·rw [if_neg e, if_neg e]
     rcases keepT_get hs T (n :: ws) m with h1 | ⟨h1, h2⟩
     ·exact .inl h1
     ·simp only [List.mem_cons, not_or] at h1
      exact .inr ⟨h1.2, h2⟩
theorem weakG_app {T F G : List (Nat × AV)} (h : weakT T F) (hg : weakG T G) : weakG T (F ++ G) := by
 induction F with
 | nil => exact hg
 | cons p F ih =>
  obtain ⟨n, x⟩ := p
  intro m
  show (if n = m then x else tget (F ++ G) m) = .any ∨ (if n = m then x else tget (F ++ G) m) = tget T m
  split
  ·rename_i e
   subst e
   rcases h.1 with h1 | h1
   ·exact .inr h1.symm
   ·exact .inl h1
  ·exact ih h.2 m
theorem Gh.weakG {M : Nat} {st st' : St} (hT : weakG st.T st'.T) (hH : st.H.take st'.H.length = st'.H) (hb : bndT st'.H.length st'.T = true) (hbH : bndH st'.H.length st'.H = true) (hM : M ≤ st'.H.length) : Gh M st st' := fun C a w r pub hCm h => by
 obtain ⟨r', pub', h1⟩ := Gh.weak (M := M) (st := ⟨[], st.H⟩) (st' := ⟨[], st'.H⟩) trivial hH rfl hbH hM C a w r pub hCm ⟨h.mod, h.own, h.fr, fun n => .any _, h.defers, h.size, h.stab, h.low⟩
 have hget : ∀ k e, st'.H[k]? = some e → st.H[k]? = some e := fun k e he => by
  have hk := (List.getElem?_eq_some_iff.1 he).1
  rw [← hH, List.getElem?_take, if_pos hk] at he
  exact he
 let r2 : Rho := fun k => if k < st'.H.length then r k else none
 have hr2 : ∀ k, k < st'.H.length → r2 k = r k := fun k hk => if_pos hk
 have hsome : ∀ k y, r2 k = some y → r k = some y := fun k y hy => by
  by_cases hk : k < st'.H.length
  ·rw [hr2 k hk] at hy; exact hy
  ·simp only [r2, if_neg hk] at hy; cases hy
 refine ⟨r2, pub, ⟨fun k e he => ?_, fun k hk => if_neg (by omega), fun i j x y hij hx hy => h.mod.disj i j x y hij (hsome _ _ hx) (hsome _ _ hy), h.mod.fresh, h.mod.there⟩, fun k x hx => h.own k x (hsome _ _ hx), h.fr, fun m => ?_, h.defers, h.size, fun k y hy hs => ?_, ⟨h.low.1, by omega⟩⟩
 ·have hk := (List.getElem?_eq_some_iff.1 he).1
  have h0 := h.mod.ent k e (hget k e he)
  have hbe := bndH_get hbH k e he
  rw [hr2 k hk]
  exact h0.congr hbe hr2
 ·rcases hT m with e | e
  ·rw [e]; exact .any _
  ·have hbm := bndT_get hb m
   rw [e] at hbm ⊢
   exact (h.slots m).congr fun n hn => hr2 n (AV.bnd_has _ hbm hn)
 ·have hk : k < st'.H.length := by
   rcases Nat.lt_or_ge k C.m with h1 | h1
   ·omega
   ·rw [h.low.1 k h1] at hy; cases hy
  rw [hr2 k hk]
  exact h.stab k y hy hs
theorem CutK.sel {H : List Ent} {K : AV → List Ent → Prop} {x : AV} {H' : List Ent} (s : List Nat) (H2 : List Ent) (x2 : AV) {x3 : AV} {H3 : List Ent} (hx : x = x2.ren s 0) (hH : s.map (fun k => H'[k]?) = (renH s 0 H2).map some) (hnd : s.Nodup) (hs : selOk s 0 H = true) (hl : H.length ≤ s.length)
  (hb : x2.bnd H2.length = true) (hbH : bndH H2.length H2 = true) (h1 : Le x2 x3) (h2 : LeH H2 H3) (hK : K x3 H3) : CutK H K x H' := ⟨s, x2, H2, x3, H3, hx, hH, hnd, hs, hl, hb, hbH, h1, h2, hK⟩
/-- Less is told of a call's arguments. -/
theorem callG_le {P : Program} {keep : List Nat} {f : Nat} {args : List AV} (args2 : List AV) {st : St} {K : AV → St → Prop} (h : LeL0 args args2) (hc : CallG P keep f args2 st K) : CallG P keep f args st K :=
 ⟨fun C a w r pub vals hh hv => hc.out C a w r pub vals hh (h.to hv)⟩
/-- A loop: F the slots that turn, G the entries; hs the entries that an append may turn. -/
theorem xloopK {P : Program} {N M : Nat} {c : XCode} {Q : XEx → St → Prop} {T : List (Nat × AV)} {H : List Ent} {ι : Type} (hs : List Nat) (F : ι → List (Nat × AV)) (G : ι → List Ent) (μ : ι → Ms) (i0 : ι)
  (hw : weakT T (F i0)) (hH : H.take (G i0).length = G i0) (hb : bndT (G i0).length (F i0 ++ keepT hs c.wr T) = true) (hbH : bndH (G i0).length (G i0) = true) (hM : M ≤ (G i0).length)
  (hr : ∀ i, XW P N M c (XRound M (fun i => ⟨F i ++ keepT hs c.wr T, G i⟩) μ (μ i) Q) ⟨F i ++ keepT hs c.wr T, G i⟩) : XLoopG P N M c Q ⟨T, H⟩ :=
 xloop (fun i => ⟨F i ++ keepT hs c.wr T, G i⟩) μ i0 (Gh.weakG (weakG_app hw fun m => by rcases keepT_get hs T c.wr m with h | h; (· exact .inl h); exact .inr h.2) hH hb hbH hM) hr
/-- .. behind steps in thought. -/
theorem xloopG {P : Program} {N M : Nat} {c : XCode} {Q : XEx → St → Prop} {st st1 : St} (hg : Gh M st st1) (h : XLoopG P N M c Q st1) : XLoopG P N M c Q st :=
 ⟨fun code C a w r pub hc hN hM hh => by
  obtain ⟨r1, p1, h1⟩ := hg C a w r pub hM hh
  exact h.out code C a w r1 p1 hc hN hM h1⟩
theorem roundW {ι : Type} {M : Nat} {F : ι → St} {μ : ι → Ms} {n : Ms} {st : St} (j : ι) (hw : weakT st.T (F j).T) (hH : st.H.take (F j).H.length = (F j).H) (hb : bndT (F j).H.length (F j).T = true) (hbH : bndH (F j).H.length (F j).H = true) (hM : M ≤ (F j).H.length) (hl : (μ j).val < n.val) : RoundK M F μ n st :=
 ⟨_, j, Gh.weak hw hH hb hbH hM, rfl, hl⟩
theorem roundG {ι : Type} {M : Nat} {F : ι → St} {μ : ι → Ms} {n : Ms} {st st1 : St} (hg : Gh M st st1) (h : RoundK M F μ n st1) : RoundK M F μ n st := by
 obtain ⟨⟨st', j, h1, h2, h3⟩⟩ := h
 exact ⟨st', j, hg.trans h1, h2, h3⟩
theorem AppK.mk' {xs ys : List AV} {bytes : Nat} {K : List AV → Prop} (owed : xs.length + ys.length ≤ maxLen ∧ (xs.length + ys.length) * bytes ≤ 140737488355328) (rest : ∀ zs, zs = xs ++ ys → zs.length = xs.length + ys.length → K zs) : AppK xs ys bytes K :=
 ⟨owed, fun zs h => rest zs h (by rw [h, List.length_append])⟩
theorem sliK_mapA {α : Type} {f : α → AV} {L : List α} {lo hi : Option Int} {K : List AV → Prop} (owed : 0 ≤ lo.getD 0 ∧ lo.getD 0 ≤ hi.getD L.length ∧ hi.getD L.length ≤ L.length)
  (rest : ∀ L', L' = (L.take (hi.getD L.length).toNat).drop (lo.getD 0).toNat → (L'.length : Int) = hi.getD L.length - lo.getD 0 → K (mapA f L')) : SliK (mapA f L) lo hi K := by
 refine ⟨by rw [mapA_len]; exact owed, fun ys hys => ?_⟩
 rw [mapA_len, mapA_eq, ← List.map_take, ← List.map_drop, ← mapA_eq] at hys
 subst hys
 refine rest _ rfl ?_
 rw [List.length_drop, List.length_take]
 omega
theorem appK_mapA {α : Type} {f : α → AV} {L L2 : List α} {bytes : Nat} {K : List AV → Prop} (owed : L.length + L2.length ≤ maxLen ∧ (L.length + L2.length) * bytes ≤ 140737488355328)
  (rest : ∀ L', L' = L ++ L2 → L'.length = L.length + L2.length → K (mapA f L')) : AppK (mapA f L) (mapA f L2) bytes K :=
 ⟨by rw [mapA_len, mapA_len]; exact owed, fun zs h => by rw [h, ← mapA_app]; exact rest _ rfl List.length_append⟩
theorem appK_nilA {α : Type} {f : α → AV} {L2 : List α} {bytes : Nat} {K : List AV → Prop} (owed : L2.length ≤ maxLen ∧ L2.length * bytes ≤ 140737488355328)
  (rest : K (mapA f L2)) : AppK [] (mapA f L2) bytes K :=
 ⟨by rw [mapA_len, List.length_nil, Nat.zero_add]; exact owed, fun zs h => by rw [h, List.nil_append]; exact rest⟩
theorem RemK.pos {m n : Int} {K : Int → Prop} (hm : 0 ≤ m) (hn : 0 < n) (rest : ∀ z, z = m.tmod n → 0 ≤ z → z < n → K z) : RemK m n K :=
 ⟨by omega, fun z hz => rest z hz (by rw [hz]; exact Int.tmod_nonneg _ hm) (by rw [hz]; exact Int.tmod_lt_of_pos _ hn)⟩
theorem QuoK.pos {m n : Int} {K : Int → Prop} (hm : 0 ≤ m) (hn : 0 < n) (hM : m ≤ 9223372036854775807) (rest : ∀ z, z = m.tdiv n → 0 ≤ z → z ≤ m → K z) : QuoK .i64 m n K := by
 have h0 : 0 ≤ m.tdiv n := Int.tdiv_nonneg hm (by omega)
 have h1 : m.tdiv n ≤ m := Int.tdiv_le_self _ hm
 exact ⟨⟨by omega, IntWalk.i64_in _ (by omega)⟩, fun z hz => rest z hz (by omega) (by omega)⟩
theorem BytK.of {xs : List AV} {K : ByteArray → Prop} (ns : List Int) (h : bytesA xs = some ns) (hk : ∀ s, s = strOf ns → s.size = ns.length → K s) : BytK 1 xs K :=
 ⟨ns, rfl, h, fun s hs => hk s hs (by rw [hs]; simp [strOf, ByteArray.size])⟩
theorem CatK.mk' {s t : ByteArray} {K : ByteArray → Prop} (owed : s.size + t.size ≤ maxLen) (rest : ∀ u, u = s ++ t → u.size = s.size + t.size → K u) : CatK s t K :=
 ⟨owed, fun u hu => rest u hu (by rw [hu, ByteArray.size_append])⟩
/-- An element by its place. -/
theorem askEl_mapA {α : Type} {f : α → AV} {L : List α} {i : Nat} {K : Nat → AV → Prop} (h : i < L.length) (hk : K i (f L[i])) : AskEl (mapA f L) (nI i) K :=
 ⟨i, _, rfl, mapA_get f L h, hk⟩
theorem askEl_some {α : Type} {f : α → AV} {L : List α} {i : Nat} {l : α} {K : Nat → AV → Prop} (h : L[i]? = some l) (hk : K i (f l)) : AskEl (mapA f L) (nI i) K :=
 ⟨i, _, rfl, by rw [mapA_eq, List.getElem?_map, h]; rfl, hk⟩
theorem askIdx_some {α : Type} {f : α → AV} {L : List α} {i : Nat} {l : α} {K : Nat → Prop} (h : L[i]? = some l) (hk : K i) : AskIdx (mapA f L) (nI i) K :=
 ⟨i, rfl, by rw [mapA_len]; exact (List.getElem?_eq_some_iff.1 h).1, hk⟩
theorem take_some {α : Type} {L : List α} {i : Nat} {l : α} (h : L[i]? = some l) : L.take (i + 1) = L.take i ++ [l] := by
 obtain ⟨hi, rfl⟩ := List.getElem?_eq_some_iff.1 h
 exact List.take_succ_eq_append_getElem hi
theorem mem_some {α : Type} {L : List α} {i : Nat} {l : α} (h : L[i]? = some l) : l ∈ L := List.mem_of_getElem? h
theorem some_at {α : Type} {L : List α} {i : Nat} (h : i < L.length) : ∃ l, L[i]? = some l := ⟨_, List.getElem?_eq_getElem h⟩
theorem askIdx_mapA {α : Type} {f : α → AV} {L : List α} {i : Nat} {K : Nat → Prop} (h : i < L.length) (hk : K i) : AskIdx (mapA f L) (nI i) K :=
 ⟨i, rfl, by rw [mapA_len]; exact h, hk⟩
theorem askByte_nI {s : ByteArray} {i : Nat} {K : Int → Prop} (h : i < s.size) (hk : ∀ z : Int, z = (s.data[i]'h).toNat → K z) : AskByte s (nI i) K :=
 ⟨i, rfl, h, fun c hc z hz => hk z (by rw [Array.getElem?_eq_getElem h] at hc; cases hc; exact hz)⟩
/-- What a tip holds is told wherever its handle stands. -/
theorem Gh.freeze {M : Nat} {st : St} (k : Nat) {t sz : Nat} {xs : List AV} (hk : st.H[k]? = some (.tip t sz xs)) : Gh M st ⟨tkill k (.sl sz xs) st.T, st.H.map (Ent.kill k (.sl sz xs))⟩ := fun C a w r pub _ h => by
 have hy : ∀ z, r k = some z → VRel pub w r (.sl sz xs) z := fun z hz => by
  obtain ⟨A, c, us, hr, _⟩ := h.ent_tip hk
  rw [hr] at hz
  cases hz
  have h1 := h.view1 (x := .hd k) (.hd hr rfl)
  simp only [St.view1, hk] at h1
  exact h1
 refine ⟨r, pub, ⟨fun j e he => ?_, fun j hj => h.mod.none_ j (by simpa using hj), h.mod.disj, h.mod.fresh, h.mod.there⟩, h.own, h.fr, h.slots.kill (fun _ _ => rfl) hy, h.defers, h.size, h.stab, by simpa using h.low⟩
 rw [List.getElem?_map] at he
 cases hj : st.H[j]? with
 | none => rw [hj] at he; cases he
 | some e0 =>
  rw [hj] at he
  cases he
  exact (h.mod.ent j e0 hj).kill (Fr.refl (fun _ => False) _ _) (fun _ _ _ _ h => h) (fun _ _ => rfl) hy
theorem Gh.cast {M : Nat} {T : List (Nat × AV)} {H : List Ent} (H2 : List Ent) (h : H = H2) : Gh M ⟨T, H⟩ ⟨T, H2⟩ := by subst h; exact Gh.refl _
/-- Less is told of the entries. -/
theorem Gh.le {M : Nat} {st : St} (H2 : List Ent) (hl : LeH st.H H2) : Gh M st ⟨st.T, H2⟩ := fun C a w r pub _ h =>
 ⟨r, pub, h.mod.le hl, h.own, h.fr, h.slots, h.defers, h.size, h.stab, h.low.1, by rw [hl.len]; exact h.low.2⟩
/-- A row becomes a plain list. -/
theorem Gh.plain {M : Nat} {st : St} (k : Nat) {t sz : Nat} {xs : List AV} (hk : isRowE st.H[k]? = some (t, sz, xs)) : Gh M st ⟨tkill k (.sl sz xs) st.T, (st.H.set k (.tip t sz xs)).map (Ent.kill k (.sl sz xs))⟩ :=
 (Gh.publish k hk).trans (Gh.freeze (st := ⟨st.T, st.H.set k (.tip t sz xs)⟩) (t := t) k (by
  have hl : k < st.H.length := by
   unfold isRowE at hk
   split at hk
   ·rename_i he; exact (List.getElem?_eq_some_iff.1 he).1
   ·cases hk
  exact List.getElem?_set_self hl))
/-! ### Short roads of the walk: what is owed is shown by the numbers in sight -/
theorem vn : (∀ n : Nat, (NatCast.natCast n : Int) = (n : Int)) ∧ (∀ {α β : Type} (f : α → β) (l : List α), (mapA f l).length = l.length) ∧ (∀ n : Nat, nI n = (n : Int)) ∧ (∀ {α : Type}, ([] : List α).length = 0) ∧
  (∀ {α : Type} (a : α) (l : List α), (a :: l).length = l.length + 1) ∧ (∀ {α : Type} (a b : α), (some a).getD b = a) ∧ (∀ {α : Type} (b : α), (none : Option α).getD b = b) :=
 ⟨fun _ => rfl, fun f l => mapA_len f l, fun _ => rfl, rfl, fun _ _ => rfl, fun _ _ => rfl, fun _ => rfl⟩
section
variable {a b : Unit → Prop} {x1 x2 : Int} {K : Int → Prop}
theorem BrEq.n (k : x1 ≠ x2 → b ()) (d : x1 ≠ x2 := by (try simp only [vn] at *) <;> omega) : BrEq x1 x2 a b := ⟨fun h => absurd h d, k⟩
theorem BrEq.y (k : x1 = x2 → a ()) (d : x1 = x2 := by (try simp only [vn] at *) <;> omega) : BrEq x1 x2 a b := ⟨k, fun h => absurd d h⟩
theorem BrLt.n (k : x2 ≤ x1 → b ()) (d : x2 ≤ x1 := by (try simp only [vn] at *) <;> omega) : BrLt x1 x2 a b := ⟨fun h => absurd h (by omega), k⟩
theorem BrLt.y (k : x1 < x2 → a ()) (d : x1 < x2 := by (try simp only [vn] at *) <;> omega) : BrLt x1 x2 a b := ⟨k, fun h => absurd h (by omega)⟩
theorem BrLe.n (k : x2 < x1 → b ()) (d : x2 < x1 := by (try simp only [vn] at *) <;> omega) : BrLe x1 x2 a b := ⟨fun h => absurd h (by omega), k⟩
theorem BrLe.y (k : x1 ≤ x2 → a ()) (d : x1 ≤ x2 := by (try simp only [vn] at *) <;> omega) : BrLe x1 x2 a b := ⟨k, fun h => absurd h (by omega)⟩
theorem BrB.n {s t : Bool} (k : s ≠ t → b ()) (d : s ≠ t := by decide) : BrB s t a b := ⟨fun h => absurd h d, k⟩
theorem BrB.y {s t : Bool} (k : s = t → a ()) (d : s = t := by decide) : BrB s t a b := ⟨k, fun h => absurd d h⟩
theorem LenL.k {xs : List AV} (k : ∀ z : Int, z = (xs.length : Int) → K z) : LenL xs K := ⟨k⟩
theorem LenM.k {xs : List (AV × AV)} (k : ∀ z : Int, z = (xs.length : Int) → K z) : LenM xs K := ⟨k⟩
theorem LenS.k {s : ByteArray} (k : ∀ z : Int, z = (s.size : Int) → K z) : LenS s K := ⟨k⟩
theorem AddK.k (k : ∀ z, z = x1 + x2 → K z) (d : -9223372036854775808 ≤ x1 + x2 ∧ x1 + x2 ≤ 9223372036854775807 := by (try simp only [vn] at *) <;> omega) : AddK .i64 x1 x2 K := ⟨IntWalk.i64_in _ d, k⟩
theorem SubK.k (k : ∀ z, z = x1 - x2 → K z) (d : -9223372036854775808 ≤ x1 - x2 ∧ x1 - x2 ≤ 9223372036854775807 := by (try simp only [vn] at *) <;> omega) : SubK .i64 x1 x2 K := ⟨IntWalk.i64_in _ d, k⟩
theorem NegK.k (k : ∀ z, z = -x1 → K z) (d : -9223372036854775808 ≤ -x1 ∧ -x1 ≤ 9223372036854775807 := by (try simp only [vn] at *) <;> omega) : NegK .i64 x1 K := ⟨IntWalk.i64_in _ d, k⟩
theorem CvK.o {K : Prop} (k : K) (d : -9223372036854775808 ≤ x1 ∧ x1 ≤ 9223372036854775807 := by (try simp only [vn] at *) <;> omega) : CvK .i64 x1 K := ⟨IntWalk.i64_in _ d, k⟩
theorem MinK.k (k : ∀ z, z = min x1 x2 → K z) : MinK x1 x2 K := ⟨k⟩
theorem MaxK.k (k : ∀ z, z = max x1 x2 → K z) : MaxK x1 x2 K := ⟨k⟩
theorem WCvK.k {i : IntKind} (k : ∀ z, z = i.wrap x1 → K z) : WCvK i x1 K := ⟨k⟩
theorem WAddK.k {i : IntKind} (k : ∀ z, z = i.wrap (x1 + x2) → K z) : WAddK i x1 x2 K := ⟨k⟩
theorem WSubK.k {i : IntKind} (k : ∀ z, z = i.wrap (x1 - x2) → K z) : WSubK i x1 x2 K := ⟨k⟩
theorem WMulK.k {i : IntKind} (k : ∀ z, z = i.wrap (x1 * x2) → K z) : WMulK i x1 x2 K := ⟨k⟩
theorem RemK.q (k : ∀ z, z = x1.tmod x2 → 0 ≤ z → z < x2 → K z) (d : 0 ≤ x1 ∧ 0 < x2 := by (try simp only [vn] at *) <;> omega) : RemK x1 x2 K := .pos d.1 d.2 k
theorem QuoK.q (k : ∀ z, z = x1.tdiv x2 → 0 ≤ z → z ≤ x1 → K z) (d : 0 ≤ x1 ∧ 0 < x2 ∧ x1 ≤ 9223372036854775807 := by (try simp only [vn] at *) <;> omega) : QuoK .i64 x1 x2 K := .pos d.1 d.2.1 d.2.2 k
theorem AppN.o {ys : List AV} {bytes : Nat} {K : Unit → Prop} (k : K ()) (d : ys.length ≤ maxLen ∧ ys.length * bytes ≤ 140737488355328 := by (try simp only [vn] at *) <;> (try unfold maxLen) <;> omega) : AppN ys bytes K := ⟨d, k⟩
theorem AppK.o {α : Type} {f : α → AV} {L2 : List α} {bytes : Nat} {K : List AV → Prop} (k : K (mapA f L2)) (d : L2.length ≤ maxLen ∧ L2.length * bytes ≤ 140737488355328 := by (try simp only [vn] at *) <;> (try unfold maxLen) <;> omega) : AppK [] (mapA f L2) bytes K := appK_nilA d k
theorem AppK.l {α : Type} {f : α → AV} {L L2 : List α} {bytes : Nat} {K : List AV → Prop} (k : ∀ L', L' = L ++ L2 → L'.length = L.length + L2.length → K (mapA f L')) (d : L.length + L2.length ≤ maxLen ∧ (L.length + L2.length) * bytes ≤ 140737488355328 := by (try simp only [vn] at *) <;> (try unfold maxLen) <;> omega) : AppK (mapA f L) (mapA f L2) bytes K := appK_mapA d k
theorem AppK.zl {xs ys : List AV} {bytes : Nat} {K : List AV → Prop} (k : ∀ zs, zs = xs ++ ys → zs.length = xs.length + ys.length → K zs) (d : xs.length + ys.length ≤ maxLen ∧ (xs.length + ys.length) * bytes ≤ 140737488355328 := by (try simp only [vn] at *) <;> (try unfold maxLen) <;> omega) : AppK xs ys bytes K := .mk' d k
theorem CatK.u {s t : ByteArray} {K : ByteArray → Prop} (k : ∀ u, u = s ++ t → u.size = s.size + t.size → K u) (d : s.size + t.size ≤ maxLen := by (try simp only [vn] at *) <;> (try unfold maxLen) <;> omega) : CatK s t K := .mk' d k
theorem SetK.z {xs : List AV} {i : Nat} {x2 : AV} {K : List AV → Prop} (k : ∀ zs, zs = xs.set i x2 → K zs) : SetK xs i x2 K := ⟨k⟩
theorem SetM.ms {es : List (AV × AV)} {i : Nat} {e : AV × AV} {K : List (AV × AV) → Prop} (k : ∀ ms, ms = es.set i e → K ms) : SetM es i e K := ⟨k⟩
theorem AppM.ms {es : List (AV × AV)} {e : AV × AV} {K : List (AV × AV) → Prop} (k : ∀ ms, ms = es ++ [e] → K ms) : AppM es e K := ⟨k⟩
theorem DelM.ms {es : List (AV × AV)} {i : Nat} {K : List (AV × AV) → Prop} (k : ∀ ms, ms = es.eraseIdx i → K ms) : DelM es i K := ⟨k⟩
theorem SliK.l {α : Type} {f : α → AV} {L : List α} {lo hi : Option Int} {K : List AV → Prop} (k : ∀ L', L' = (L.take (hi.getD L.length).toNat).drop (lo.getD 0).toNat → (L'.length : Int) = hi.getD L.length - lo.getD 0 → K (mapA f L'))
  (d : 0 ≤ lo.getD 0 ∧ lo.getD 0 ≤ hi.getD L.length ∧ hi.getD L.length ≤ L.length := by (try dsimp only [Option.getD]); (try simp only [vn] at *) <;> omega) : SliK (mapA f L) lo hi K := sliK_mapA d k
theorem SliK.z {xs : List AV} {lo hi : Option Int} {K : List AV → Prop} (k : ∀ ys, ys = (xs.take (hi.getD xs.length).toNat).drop (lo.getD 0).toNat → K ys)
  (d : 0 ≤ lo.getD 0 ∧ lo.getD 0 ≤ hi.getD xs.length ∧ hi.getD xs.length ≤ xs.length := by (try dsimp only [Option.getD]); (try simp only [vn] at *) <;> omega) : SliK xs lo hi K := ⟨d, k⟩
theorem SlsK.u {s : ByteArray} {lo hi : Option Int} {K : ByteArray → Prop} (k : ∀ u, u = s.extract (lo.getD 0).toNat (hi.getD s.size).toNat → (u.size : Int) = hi.getD s.size - lo.getD 0 → K u)
  (d : 0 ≤ lo.getD 0 ∧ lo.getD 0 ≤ hi.getD s.size ∧ hi.getD s.size ≤ s.size := by (try dsimp only [Option.getD]); (try simp only [vn] at *) <;> omega) : SlsK s lo hi K :=
 ⟨d, fun u hu => k u hu (by rw [hu, ByteArray.size_extract]; omega)⟩
theorem BytK.s {xs : List AV} {K : ByteArray → Prop} {ns : List Int} (k : ∀ s, s = strOf ns → s.size = ns.length → K s) (d : bytesA xs = some ns := by rfl) : BytK 1 xs K := .of ns d k
theorem AskEl.e {α : Type} {f : α → AV} {L : List α} {i : Nat} {l : α} {K : Nat → AV → Prop} (k : K i (f l)) (h : L[i]? = some l := by assumption) : AskEl (mapA f L) (nI i) K := askEl_some h k
theorem AskIdx.e {α : Type} {f : α → AV} {L : List α} {i : Nat} {l : α} {K : Nat → Prop} (k : K i) (h : L[i]? = some l := by assumption) : AskIdx (mapA f L) (nI i) K := askIdx_some h k
end
theorem askEl_int {α : Type} {f : α → AV} {L : List α} {z : Int} {K : Nat → AV → Prop} (h0 : 0 ≤ z) (h1 : z < L.length) (k : ∀ i l, z = nI i → L[i]? = some l → K i (f l)) : AskEl (mapA f L) z K := by
 obtain ⟨i, rfl⟩ := Int.eq_ofNat_of_zero_le h0
 obtain ⟨l, hl⟩ := some_at (L := L) (i := i) (by omega)
 exact askEl_some hl (k i l rfl hl)
theorem roundV {ι : Type} {M : Nat} {F : ι → St} {μ : ι → Ms} {n : Ms} {st : St} (j : ι) (hl : (μ j).val < n.val) (hw : weakT st.T (F j).T := by repeat' (first | exact trivial | refine ⟨.inl rfl, ?_⟩ | refine ⟨.inr rfl, ?_⟩))
  (hH : st.H.take (F j).H.length = (F j).H := by rfl) (hb : bndT (F j).H.length (F j).T = true := by rfl) (hbH : bndH (F j).H.length (F j).H = true := by rfl) (hM : M ≤ (F j).H.length := by exact Nat.le_of_ble_eq_true rfl) : RoundK M F μ n st :=
 roundW j hw hH hb hbH hM hl
theorem xloopV {P : Program} {N M : Nat} {c : XCode} {Q : XEx → St → Prop} {T : List (Nat × AV)} {H : List Ent} {ι : Type} (hs : List Nat) (F : ι → List (Nat × AV)) (G : ι → List Ent) (μ : ι → Ms) (i0 : ι)
  (hr : ∀ i, XW P N M c (XRound M (fun i => ⟨F i ++ keepT hs c.wr T, G i⟩) μ (μ i) Q) ⟨F i ++ keepT hs c.wr T, G i⟩)
  (hw : weakT T (F i0) := by repeat' (first | exact trivial | refine ⟨.inl rfl, ?_⟩ | refine ⟨.inr rfl, ?_⟩)) (hH : H.take (G i0).length = G i0 := by rfl) (hb : bndT (G i0).length (F i0 ++ keepT hs c.wr T) = true := by rfl) (hbH : bndH (G i0).length (G i0) = true := by rfl) (hM : M ≤ (G i0).length := by exact Nat.le_of_ble_eq_true rfl) : XLoopG P N M c Q ⟨T, H⟩ :=
 xloopK hs F G μ i0 hw hH hb hbH hM hr
theorem finV {P : Prop} (h : P) : P := h
end Go.Proofs.YtjnmaicofgjplaaGreatDoor
namespace Go.Proofs.YtjnmaicofgjplaaGreatDoor
/-! The entries' names turn, behind a round. -/
def renT (s : List Nat) : List (Nat × AV) → List (Nat × AV)
 | [] => []
 | (n, x) :: l => (n, x.ren s 0) :: renT s l
theorem tget_renT (s : List Nat) (n : Nat) : ∀ T : List (Nat × AV), tget (renT s T) n = (tget T n).ren s 0
 | [] => by unfold renT tget AV.ren; rfl
 | (m, x) :: T => by
  show (if m = n then x.ren s 0 else tget (renT s T) n) = (if m = n then x else tget T n).ren s 0
  split
  ·rfl
  ·exact tget_renT s n T
theorem bndT_tget {n : Nat} (m : Nat) : ∀ T : List (Nat × AV), bndT n T = true → (tget T m).bnd n = true
 | [], _ => by unfold tget AV.bnd; rfl
 | (k, x) :: T, h => by
  simp only [bndT, Bool.and_eq_true] at h
  show (if k = m then x else tget T m).bnd n = true
  split
  ·exact h.1
  ·exact bndT_tget m T h.2
theorem Gh.sel {st st' : St} (s : List Nat) (hw : weakT st.T (renT s st'.T)) (hH : s.map (fun k => st.H[k]?) = (renH s 0 st'.H).map some) (hnd : s.Nodup) (hbT : bndT st'.H.length st'.T = true) (hbH : bndH st'.H.length st'.H = true) : Gh 0 st st' := fun C a w r pub hCm h => by
 have hlen : s.length = st'.H.length := by have := congrArg List.length hH; simpa [renH_map] using this
 have hsi : ∀ i (hi : i < s.length), sigma s 0 i = s[i] := fun i hi => sigma_lt hi
 let r0 : Rho := fun i => if i < s.length then r (sigma s 0 i) else none
 have hr0 : ∀ i y, r0 i = some y → i < s.length ∧ r (sigma s 0 i) = some y := fun i y hy => by
  by_cases hi : i < s.length
  ·simp only [r0, if_pos hi] at hy; exact ⟨hi, hy⟩
  ·simp only [r0, if_neg hi] at hy; cases hy
 have hr0' : ∀ i, i < s.length → r0 i = r (sigma s 0 i) := fun i hi => if_pos hi
 have hinj : ∀ i j, i < s.length → j < s.length → sigma s 0 i = sigma s 0 j → i = j := fun i j hi hj e => by
  rw [hsi i hi, hsi j hj] at e
  exact nodup_inj hnd e
 have hent : ∀ i e, st'.H[i]? = some e → st.H[sigma s 0 i]? = some (e.ren s 0) := fun i e he => by
  have hi : i < s.length := by rw [hlen]; exact (List.getElem?_eq_some_iff.1 he).1
  have h1 := congrArg (fun l => l[i]?) hH
  simp only [List.getElem?_map, renH_map, he, Option.map_some, List.getElem?_eq_getElem hi] at h1
  rw [hsi i hi]
  simpa using h1
 refine ⟨r0, pub, ⟨fun i e he => ?_, fun i hi => if_neg (by omega), fun i j x y hij hx hy => ?_, h.mod.fresh, h.mod.there⟩, fun k x hx => h.own _ x (hr0 k x hx).2, h.fr, fun m => ?_, h.defers, h.size, fun k y hy _ => ?_, h.low.1, by omega⟩
 ·have hi : i < s.length := by rw [hlen]; exact (List.getElem?_eq_some_iff.1 he).1
  have he1 := h.mod.ent _ _ (hent i e he)
  have hbe := bndH_get hbH i e he
  rw [hr0' i hi]
  exact he1.unren hbe fun k y hkb hy => by rw [hr0' k (by omega)]; exact hy
 ·obtain ⟨hi, hx⟩ := hr0 i x hx
  obtain ⟨hj, hy⟩ := hr0 j y hy
  exact h.mod.disj _ _ x y (fun e => hij (hinj i j hi hj e)) hx hy
 ·rcases weakT_get hw m with h1 | h1
  ·rw [tget_renT] at h1
   have : tget st'.T m = .any := by
    cases hx : tget st'.T m <;> rw [hx] at h1 <;> unfold AV.ren at h1 <;> first | rfl | cases h1
   rw [this]
   exact .any _
  ·have h2 := h.slots m
   rw [← h1, tget_renT] at h2
   refine h2.unren _ rfl fun k y hk hy => ?_
   have hkb := AV.bnd_has _ (bndT_tget m _ hbT) hk
   rw [hr0' k (by omega)]
   exact hy
 ·rw [h.low.1 k (by omega)] at hy
  cases hy
/-- The end of a round that left new entries in the places of old ones. -/
theorem roundS {ι : Type} {F : ι → St} {μ : ι → Ms} {n : Ms} {st : St} (s : List Nat) (j : ι) (hl : (μ j).val < n.val) (hw : weakT st.T (renT s (F j).T) := by repeat' (first | exact trivial | refine ⟨.inl rfl, ?_⟩ | refine ⟨.inr rfl, ?_⟩))
  (hH : s.map (fun k => st.H[k]?) = (renH s 0 (F j).H).map some := by rfl) (hnd : s.Nodup := by decide) (hbT : bndT (F j).H.length (F j).T = true := by rfl) (hbH : bndH (F j).H.length (F j).H = true := by rfl) : RoundK 0 F μ n st :=
 ⟨_, j, Gh.sel s hw hH hnd hbT hbH, rfl, hl⟩
end Go.Proofs.YtjnmaicofgjplaaGreatDoor
/-
 An element of a map, its memory put back into the map.
-/
namespace Go.Proofs.YtjnmaicofgjplaaGreatDoor
open Go.RowKit

def dieH : List Ent → List Nat → List Ent
 | H, [] => H
 | H, q :: s => dieH (H.set q .dead) s
theorem dieH_len : ∀ (s : List Nat) (H : List Ent), (dieH H s).length = H.length
 | [], H => rfl
 | q :: s, H => by unfold dieH; rw [dieH_len s, List.length_set]
theorem dieH_get : ∀ (s : List Nat) (H : List Ent) (n : Nat) (e : Ent), (dieH H s)[n]? = some e → (n ∈ s ∧ e = .dead) ∨ (n ∉ s ∧ H[n]? = some e)
 | [], H, n, e, h => .inr ⟨by simp, h⟩
 | q :: s, H, n, e, h => by
  unfold dieH at h
  rcases dieH_get s _ n e h with ⟨h1, h2⟩ | ⟨h1, h2⟩
  ·exact .inl ⟨List.mem_cons_of_mem _ h1, h2⟩
  ·by_cases hq : q = n
   ·subst hq
    have hl := (List.getElem?_eq_some_iff.1 h2).1
    rw [List.length_set] at hl
    rw [List.getElem?_set_self hl] at h2
    cases h2
    exact .inl ⟨List.mem_cons_self .., rfl⟩
   ·rw [List.getElem?_set_ne hq] at h2
    refine .inr ⟨fun hm => ?_, h2⟩
    rcases List.mem_cons.1 hm with hm | hm
    ·exact hq hm.symm
    ·exact h1 hm
theorem flat_nodup {α : Type} (f : α → List Nat) : ∀ (l : List α), (∀ (i : Nat) (x : α), l[i]? = some x → (f x).Nodup) → (∀ (i j : Nat) (x y : α), i ≠ j → l[i]? = some x → l[j]? = some y → ∀ b ∈ f x, b ∉ f y) → (l.flatMap f).Nodup
 | [], _, _ => by simp
 | z :: l, h1, h2 => by
  rw [List.flatMap_cons, List.nodup_append]
  refine ⟨h1 0 z rfl, flat_nodup f l (fun i x hx => h1 (i + 1) x (by simpa using hx)) (fun i j x y hij hx hy => h2 (i + 1) (j + 1) x y (by omega) (by simpa using hx) (by simpa using hy)), fun b hb c hc e => ?_⟩
  subst e
  obtain ⟨u, hu, hb'⟩ := List.mem_flatMap.1 hc
  obtain ⟨q, hq⟩ := List.getElem?_of_mem hu
  exact h2 0 (q + 1) z u (by omega) rfl (by simpa using hq) b hb hb'
theorem foot1_nodup (v : Value) : (foot1 v).Nodup := by
 cases v with
 | pointer A => cases A <;> simp [foot1]
 | slice A _ _ => cases A <;> simp [foot1]
 | map b => cases b <;> simp [foot1]
 | _ => simp [foot1]
def plainE : Ent → Bool
 | .dead => false
 | .pool .. => false
 | _ => true
theorem ERel.plain_ {pub : Pub} {w : World} {r : Rho} {h : Option Value} {e : Ent} (he : ERel pub w r h e) (hp : plainE e = true) : ∃ y, h = some y ∧ isTup y = false := by
 cases he <;> first | exact ⟨_, rfl, rfl⟩ | cases hp
/-- The element's memory goes back into the map. -/
theorem Gh.putIn {M : Nat} {st : St} (k p : Nat) (sel : List Nat) (hd : AV) (l : List Ent) {t : TypeId} {es : List PEl} {outs : List (Nat × AV)} {i : Nat} {x key : AV} (hk : st.H[k]? = some (.pool t es outs)) (ho : outs[p]? = some (i, x)) (hu : ∀ y, (i, y) ∉ outs.eraseIdx p)
  (hke : (es[i]?).map (·.1) = some key) (hx : x = hd.ren sel 0) (hH : sel.map (fun q => st.H[q]?) = (renH sel 0 l).map some) (hnd : sel.Nodup) (hsel : sel.all (fun q => Nat.ble M q && q != k) = true) (hb : hd.bnd sel.length = true) (hbH : bndH sel.length l = true) (hpl : l.all plainE = true) :
  Gh M st ⟨killTs st.T sel, dieH (killHs (st.H.set k (.pool t (es.set i (key, hd, l)) (outs.eraseIdx p))) sel) sel⟩ := fun C a w r pub hCm h => by
 have hlen : sel.length = l.length := by have := congrArg List.length hH; simpa [renH_map] using this
 have hkl : k < st.H.length := (List.getElem?_eq_some_iff.1 hk).1
 have hksel : k ∉ sel := fun hm => by have := List.all_eq_true.1 hsel k hm; simp at this
 obtain ⟨b, ms, inner, hrk, R⟩ := h.ent_pool hk
 have hom : (i, x) ∈ outs := List.mem_of_getElem? ho
 obtain ⟨hi0, hix⟩ := R.hout i x hom
 have hil : i < es.length := by rw [← R.hn]; exact (List.getElem?_eq_some_iff.1 hi0).1
 obtain ⟨mi, hmi⟩ : ∃ m, ms[i]? = some m := ⟨_, Array.getElem?_eq_getElem (by rw [R.hl]; exact hil)⟩
 have hsi : ∀ j (hj : j < sel.length), sigma sel 0 j = sel[j] := fun j hj => sigma_lt hj
 have hent : ∀ j d, l[j]? = some d → ∃ (hj : j < sel.length), st.H[sel[j]]? = some (d.ren sel 0) := fun j d hd0 => by
  have hj : j < sel.length := by rw [hlen]; exact (List.getElem?_eq_some_iff.1 hd0).1
  have h1 := congrArg (fun l => l[j]?) hH
  simp only [List.getElem?_map, renH_map, hd0, Option.map_some, List.getElem?_eq_getElem hj] at h1
  exact ⟨hj, by simpa using h1⟩
 have hval : ∀ j (hj : j < sel.length), ∃ y, r sel[j] = some y ∧ isTup y = false := fun j hj => by
  have hjl : j < l.length := by omega
  obtain ⟨_, h1⟩ := hent j _ (List.getElem?_eq_getElem hjl)
  have h2 := h.mod.ent _ _ h1
  refine h2.plain_ ?_
  have := List.all_eq_true.1 hpl _ (List.getElem_mem hjl)
  revert this
  cases l[j] <;> exact fun h => h
 obtain ⟨vs, hvs⟩ : ∃ vs : List Value, vs = sel.map fun q => (r q).getD undef := ⟨_, rfl⟩
 have hvl : vs.length = sel.length := by rw [hvs, List.length_map]
 have hvg : ∀ j (hj : j < sel.length), vs[j]? = r sel[j] := fun j hj => by
  obtain ⟨y, hy, _⟩ := hval j hj
  rw [hvs, List.getElem?_map, List.getElem?_eq_getElem hj, Option.map_some, hy]
  rfl
 have hvt : ∀ v ∈ vs, ∃ j, ∃ (hj : j < sel.length), r sel[j] = some v ∧ isTup v = false := fun v hv => by
  obtain ⟨j, hj⟩ := List.getElem?_of_mem hv
  have hjl : j < sel.length := by rw [← hvl]; exact (List.getElem?_eq_some_iff.1 hj).1
  obtain ⟨y, hy, ht⟩ := hval j hjl
  rw [hvg j hjl, hy] at hj
  cases hj
  exact ⟨j, hjl, hy, ht⟩
 have hvt2 : ∀ v ∈ vs, isTup v = false := fun v hv => by obtain ⟨_, _, _, h⟩ := hvt v hv; exact h
 have hunr : ∀ q y, q < sel.length → r (sigma sel 0 q) = some y → rhoL vs q = some y := fun q y hq hy => by
  rw [hsi q hq] at hy
  exact (hvg q hq).trans hy
 have hfo : ∀ n, n ∈ foot (superH b (inner.set i vs)) → n ∈ foot (superH b inner) ∨ ∃ j, ∃ (hj : j < sel.length), ∃ y, r sel[j] = some y ∧ n ∈ foot y := fun n hn => by
  rcases foot_super_mem.1 hn with h1 | ⟨j, us, v, h1, h2, h3⟩
  ·exact .inl (foot_super_mem.2 (.inl h1))
  ·by_cases e : i = j
   ·subst e
    rw [List.getElem?_set_self (by rw [R.hn]; exact hil)] at h1
    cases h1
    obtain ⟨j, hj, h4, h5⟩ := hvt v h2
    exact .inr ⟨j, hj, v, h4, by rw [foot_one h5]; exact h3⟩
   ·rw [List.getElem?_set_ne e] at h1
    exact .inl (foot_super_mem.2 (.inr ⟨j, us, v, h1, h2, h3⟩))
 have hP : ERel pub w r (some (superH b (inner.set i vs))) (.pool t (es.set i (key, hd, l)) (outs.eraseIdx p)) := by
  have hmem : ∀ {j : Nat} {y : AV}, (j, y) ∈ outs.eraseIdx p → (j, y) ∈ outs := fun hm => List.mem_of_mem_eraseIdx hm
  have hne : ∀ {j : Nat} {y : AV}, (j, y) ∈ outs.eraseIdx p → i ≠ j := fun {j y} hm e => by subst e; exact hu y hm
  have hback : ∀ {j : Nat}, i ≠ j → (∀ y, (j, y) ∉ outs.eraseIdx p) → ∀ y, (j, y) ∉ outs := fun {j} hij hn y hy => by
   obtain ⟨q, hq⟩ := List.getElem?_of_mem hy
   have hqp : q ≠ p := by rintro rfl; rw [ho] at hq; cases hq; exact hij rfl
   refine hn y ?_
   rcases Nat.lt_or_ge q p with h1 | h1
   ·exact List.mem_of_getElem? (i := q) (by rw [List.getElem?_eraseIdx, if_pos h1]; exact hq)
   ·exact List.mem_of_getElem? (i := q - 1) (by rw [List.getElem?_eraseIdx, if_neg (by omega)]; rw [show q - 1 + 1 = q by omega]; exact hq)
  have hndo := R.hnd
  rw [foot_super, List.nodup_cons] at hndo
  refine .pool R.hb (by rw [List.length_set]; exact R.hl) (by rw [List.length_set, List.length_set]; exact R.hn) R.hborn ?_ (fun j y hy => ?_) (fun j e us m hno he hus hm => ?_) (fun j e us q d hno he hus hd0 => ?_) ?_ R.hp
  ·have : (es.set i (key, hd, l)).map (·.1) = es.map (·.1) := by
    rw [List.map_set]
    have h1 : (es.map (·.1))[i]? = some key := by rw [List.getElem?_map]; exact hke
    exact List.ext_getElem? fun q => by
     rw [List.getElem?_set]
     split
     ·rename_i e; subst e; rw [List.length_map, if_pos hil, h1]
     ·rfl
   rw [this]
   exact R.hk
  ·have hij := hne hy
   rw [List.getElem?_set_ne hij]
   exact R.hout j y (hmem hy)
  ·by_cases hij : i = j
   ·subst hij
    rw [List.getElem?_set_self hil] at he
    rw [List.getElem?_set_self (by rw [R.hn]; exact hil)] at hus
    cases he
    cases hus
    rw [hmi] at hm
    cases hm
    refine ⟨by rw [hvl, hlen], hvt2, ?_⟩
    refine (hix mi hmi).unren hd hx fun q y hq hy => hunr q y (AV.bnd_has _ hb hq) hy
   ·rw [List.getElem?_set_ne hij] at he hus
    exact R.hin j e us m (hback hij hno) he hus hm
  ·by_cases hij : i = j
   ·subst hij
    rw [List.getElem?_set_self hil] at he
    rw [List.getElem?_set_self (by rw [R.hn]; exact hil)] at hus
    cases he
    cases hus
    obtain ⟨hql, h1⟩ := hent q d hd0
    have h2 := h.mod.ent _ _ h1
    rw [hvg q hql]
    exact h2.unren (bndH_get hbH q d hd0) fun q y hq hy => hunr q y hq hy
   ·rw [List.getElem?_set_ne hij] at he hus
    exact R.hie j e us q d (hback hij hno) he hus hd0
  ·have hself : ∀ (j : Nat) (us : List Value), (inner.set i vs)[j]? = some us → (i = j ∧ us = vs) ∨ (i ≠ j ∧ inner[j]? = some us) := fun j us hus => by
    by_cases hij : i = j
    ·subst hij
     rw [List.getElem?_set_self (by rw [R.hn]; exact hil)] at hus
     cases hus
     exact .inl ⟨rfl, rfl⟩
    ·rw [List.getElem?_set_ne hij] at hus
     exact .inr ⟨hij, hus⟩
   have hfar : ∀ n, n ∈ vs.flatMap foot1 → n ∉ foot (superH b inner) := fun n hn hn2 => by
    obtain ⟨v, hv, h1⟩ := List.mem_flatMap.1 hn
    obtain ⟨j, hj, h2, h3⟩ := hvt v hv
    exact h.mod.disj k sel[j] _ _ (fun e => hksel (by rw [e]; exact List.getElem_mem hj)) hrk h2 n hn2 (by rw [foot_one h3]; exact h1)
   have hin2 : ∀ (j : Nat) (us : List Value) (n : Nat), inner[j]? = some us → n ∈ us.flatMap foot1 → n ∈ foot (superH b inner) := fun j us n hus hn => by
    obtain ⟨v, hv, h1⟩ := List.mem_flatMap.1 hn
    exact foot_super_mem.2 (.inr ⟨j, us, v, hus, hv, h1⟩)
   rw [foot_super, List.nodup_cons]
   refine ⟨fun hm => ?_, flat_nodup _ _ (fun j us hus => ?_) (fun j j' us us' hjj hus hus' n hn hn' => ?_)⟩
   ·obtain ⟨us, hus, h1⟩ := List.mem_flatMap.1 hm
    obtain ⟨j, hj⟩ := List.getElem?_of_mem hus
    rcases hself j us hj with ⟨_, rfl⟩ | ⟨_, h2⟩
    ·exact hfar b h1 (foot_super_mem.2 (.inl rfl))
    ·exact hndo.1 (List.mem_flatMap.2 ⟨us, List.mem_of_getElem? h2, h1⟩)
   ·rcases hself j us hus with ⟨_, rfl⟩ | ⟨_, h2⟩
    ·refine flat_nodup _ _ (fun q v _ => foot1_nodup v) (fun q q' v v' hqq hv hv' n hn hn' => ?_)
     have hql : q < sel.length := by rw [← hvl]; exact (List.getElem?_eq_some_iff.1 hv).1
     have hql' : q' < sel.length := by rw [← hvl]; exact (List.getElem?_eq_some_iff.1 hv').1
     have ht := hvt2 v (List.mem_of_getElem? hv)
     have ht' := hvt2 v' (List.mem_of_getElem? hv')
     rw [hvg q hql] at hv
     rw [hvg q' hql'] at hv'
     exact h.mod.disj sel[q] sel[q'] v v' (fun e => hqq (nodup_inj hnd e)) hv hv' n (by rw [foot_one ht]; exact hn) (by rw [foot_one ht']; exact hn')
    ·have : (us.flatMap foot1).Sublist (inner.flatMap fun vs => vs.flatMap foot1) := List.sublist_flatten_of_mem (List.mem_map.2 ⟨us, List.mem_of_getElem? h2, rfl⟩)
     exact this.nodup hndo.2
   ·rcases hself j us hus with ⟨e1, rfl⟩ | ⟨e1, h2⟩
    ·rcases hself j' us' hus' with ⟨e2, rfl⟩ | ⟨e2, h2'⟩
     ·omega
     ·exact hfar n hn (hin2 j' us' n h2' hn')
    ·rcases hself j' us' hus' with ⟨e2, rfl⟩ | ⟨e2, h2'⟩
     ·exact hfar n hn' (hin2 j us n h2 hn)
     ·exact flat_disj _ _ hndo.2 j j' us us' hjj h2 h2' n hn hn'
 let r' : Rho := fun q => if q = k then some (superH b (inner.set i vs)) else without r sel q
 have rk : r' k = some (superH b (inner.set i vs)) := if_pos rfl
 have rw_ : ∀ q, q ≠ k → r' q = without r sel q := fun q hq => if_neg hq
 have rold : ∀ q, q ≠ k → q ∉ sel → r' q = r q := fun q h1 h2 => by rw [rw_ q h1]; simp [without, h2]
 have rsel : ∀ q, q ∈ sel → r' q = none := fun q hq => by rw [rw_ q (by rintro rfl; exact hksel hq)]; simp [without, hq]
 have hwk : without r sel k = some (superH b inner) := by simp [without, hksel, hrk]
 obtain ⟨a1, q1, q2⟩ := superH_zero b inner
 obtain ⟨a2, q3, q4⟩ := superH_zero b (inner.set i vs)
 have hsub : ∀ z v, VRel pub w (without r sel) z v → VRel pub w r' z v := fun z v hv => hv.super (by rw [hwk, q1]) (by rw [rk, q3]) (q4.trans q2.symm) (fun q y hq hy => by rw [rw_ q hq]; exact hy)
 have hsome : ∀ q y, r' q = some y → (q = k ∧ y = superH b (inner.set i vs)) ∨ (q ≠ k ∧ q ∉ sel ∧ r q = some y) := fun q y hy => by
  by_cases h1 : q = k
  ·subst h1; rw [rk] at hy; cases hy; exact .inl ⟨rfl, rfl⟩
  ·by_cases h2 : q ∈ sel
   ·rw [rsel q h2] at hy; cases hy
   ·rw [rold q h1 h2] at hy; exact .inr ⟨h1, h2, hy⟩
 have hkill := killHs_len sel (st.H.set k (.pool t (es.set i (key, hd, l)) (outs.eraseIdx p)))
 refine ⟨r', pub, ⟨⟨fun q e he => ?_, fun q hq => ?_, fun p' q y z hpq hy hz n hn hn2 => ?_, h.mod.fresh, h.mod.there⟩, fun q y hy n hn => ?_, h.fr, fun n => hsub _ _ (killTs_get sel st.T r (h.slots n)), h.defers, h.size, fun q y hy hs => ?_, ⟨h.low.1, ?_⟩⟩⟩
 ·rcases dieH_get sel _ q e he with ⟨hq, rfl⟩ | ⟨hq, he⟩
  ·rw [rsel q hq]; exact .dead
  ·by_cases h1 : q = k
   ·subst h1
    obtain ⟨e0, h2, h3⟩ := killHs_get (pub := pub) (w := w) (hd := some (superH b (inner.set i vs))) sel _ r q e he
    rw [List.getElem?_set_self hkl] at h2
    cases h2
    rw [rk]
    exact (h3 hP).sub hsub
   ·obtain ⟨e0, h2, h3⟩ := killHs_get (pub := pub) (w := w) (hd := r q) sel _ r q e he
    rw [List.getElem?_set_ne (Ne.symm h1)] at h2
    rw [rold q h1 hq]
    exact (h3 (h.mod.ent q e0 h2)).sub hsub
 ·rw [dieH_len, hkill, List.length_set] at hq
  rw [rw_ q (by omega)]
  unfold without
  split
  ·rfl
  ·exact h.mod.none_ q hq
 ·rcases hsome p' y hy with ⟨rfl, rfl⟩ | ⟨h1, h2, h3⟩
  ·rcases hsome q z hz with ⟨rfl, rfl⟩ | ⟨h4, h5, h6⟩
   ·exact hpq rfl
   ·rcases hfo n hn with h7 | ⟨j, hj, y, h7, h8⟩
    ·exact h.mod.disj _ _ _ _ hpq hrk h6 n h7 hn2
    ·exact h.mod.disj _ _ _ _ (fun e => h5 (by rw [← e]; exact List.getElem_mem hj)) h7 h6 n h8 hn2
  ·rcases hsome q z hz with ⟨rfl, rfl⟩ | ⟨h4, h5, h6⟩
   ·rcases hfo n hn2 with h7 | ⟨j, hj, y, h7, h8⟩
    ·exact h.mod.disj _ _ _ _ (Ne.symm hpq) hrk h3 n h7 hn
    ·exact h.mod.disj _ _ _ _ (fun e => h2 (by rw [← e]; exact List.getElem_mem hj)) h7 h3 n h8 hn
   ·exact h.mod.disj _ _ _ _ hpq h3 h6 n hn hn2
 ·rcases hsome q y hy with ⟨rfl, rfl⟩ | ⟨h1, h2, h3⟩
  ·rcases hfo n hn with h7 | ⟨j, hj, y, h7, h8⟩
   ·exact h.own _ _ hrk n h7
   ·exact h.own _ _ h7 n h8
  ·exact h.own q y h3 n hn
 ·have h1 := h.stab q y hy hs
  have hqm : q < C.m := by
   rcases Nat.lt_or_ge q C.m with h2 | h2
   ·exact h2
   ·rw [h.low.1 q h2] at hy; cases hy
  have hqk : q ≠ k := by
   rintro rfl
   rw [hrk] at h1
   cases h1
   cases hs
  have hqs : q ∉ sel := fun hm => by
   have := List.all_eq_true.1 hsel q hm
   simp only [Bool.and_eq_true, Nat.ble_eq] at this
   omega
  rw [rold q hqk hqs]
  exact h1
 ·have := h.low.2
  dsimp only
  rw [dieH_len, hkill, List.length_set]
  exact this
end Go.Proofs.YtjnmaicofgjplaaGreatDoor
/-
 Names: the test (no program in sight).
-/
namespace Go.Proofs.YtjnmaicofgjplaaGreatDoor
open Go.RowKit

def letB (n : Int) : Bool := decide (97 ≤ n) && decide (n ≤ 122)
def digB (n : Int) : Bool := decide (48 ≤ n) && decide (n ≤ 57)
def chB (c : UInt8) : Bool := letB c.toNat || digB c.toNat || decide ((c.toNat : Int) = 45)
def nameB (s : ByteArray) : Bool := decide (1 ≤ s.size) && decide (s.size ≤ 16) && s.data.toList.all chB
def firstAll (s : ByteArray) (k : Nat) : Prop := ∀ j (h : j < s.size), j < k → chB s[j] = true
theorem firstAll_zero (s : ByteArray) : firstAll s 0 := fun _ _ h => absurd h (by omega)
theorem firstAll_succ {s : ByteArray} {k : Nat} (hk : k < s.size) (h : firstAll s k) (hc : chB s[k] = true) : firstAll s (k + 1) := fun j hj hjk => by
 by_cases e : j = k
 ·subst e; exact hc
 ·exact h j hj (by omega)
theorem nameB_all {s : ByteArray} (h : firstAll s s.size) : nameB s = (decide (1 ≤ s.size) && decide (s.size ≤ 16)) := by
 have : s.data.toList.all chB = true := by
  rw [List.all_eq_true]
  intro c hc
  obtain ⟨j, hj, rfl⟩ := List.getElem_of_mem hc
  exact h j (by simpa using hj) (by simpa using hj)
 simp [nameB, this]
theorem nameB_not {s : ByteArray} {k : Nat} (hk : k < s.size) (h : chB s[k] = false) : nameB s = false := by
 have : s.data.toList.all chB = false := by
  rw [← Bool.not_eq_true, List.all_eq_true]
  intro hh
  have := hh (s[k]) (by exact List.getElem_mem (l := s.data.toList) (by simpa using hk))
  rw [h] at this
  cases this
 simp [nameB, this]

/-- A byte is of one of three kinds, or of none. -/
theorem ch_ways (c : UInt8) : (letB c.toNat = true ∧ chB c = true) ∨ (letB c.toNat = false ∧ digB c.toNat = true ∧ chB c = true) ∨ (letB c.toNat = false ∧ digB c.toNat = false ∧ (c.toNat : Int) = 45 ∧ chB c = true) ∨ (letB c.toNat = false ∧ digB c.toNat = false ∧ (c.toNat : Int) ≠ 45 ∧ chB c = false) := by
 unfold chB
 cases letB c.toNat <;> cases digB c.toNat <;> by_cases h : (c.toNat : Int) = 45 <;> simp [h]

end Go.Proofs.YtjnmaicofgjplaaGreatDoor
/-
  Functions of the program as code on abstract values (printed by xgen.sh).
-/
namespace Go.Proofs.YtjnmaicofgjplaaGreatDoor
def zs (d : Nat) (o : XOp) : XStep := ⟨some d, none, o⟩
def zm (d a : Nat) : XStep := ⟨some d, none, .mov (.t a)⟩
def zf (d f a : Nat) : XStep := ⟨some d, none, .fad f (.t a)⟩
def zl (d a : Nat) : XStep := ⟨some d, none, .ld false 1 (.t a)⟩
def zg (d g : Nat) (b : Bool) (o : XOp) : XStep := ⟨some d, some (g, b), o⟩
def zh (d g : Nat) (b : Bool) (a : Nat) : XStep := ⟨some d, some (g, b), .mov (.t a)⟩
def zn (o : XOp) : XStep := ⟨none, none, o⟩
def x12 : XFn := ⟨61, .seq (.reg [(zs 0 (.mov (.c (.bl false))))]) (.seq (.reg [(zs 7 (.call 26 [.c (.str ⟨#[99]⟩)])), (zm 1 7)]) (.seq (.seq (.reg [(zm 8 1), (zs 9 (.cmn false (.t 8)))]) (.cond (.t 9) (.seq (.reg [(zs 0 (.mov (.c (.bl false))))]) .ret) .skip)) (.seq (.reg [(zm 10 1), (zs 11 (.bsl 9 1 1 [.str ⟨#[]⟩] [(0, .c (.str ⟨#[97, 97, 97, 97, 48, 48, 48, 48, 48, 49, 50, 48]⟩))])), (zs 12 (.bld [.str ⟨#[]⟩, .str ⟨#[]⟩, .str ⟨#[]⟩, .str ⟨#[]⟩, .str ⟨#[]⟩, .v (.slice none 0 0), .v (.slice none 0 0), .int .i64 0, .bl false] [(0, (1, .c (.str ⟨#[98, 108]⟩))), (1, (1, .c (.str ⟨#[99]⟩))), (2, (1, .c (.str ⟨#[115]⟩))), (3, (1, .c (.str ⟨#[102]⟩))), (4, (1, .c (.str ⟨#[116]⟩))), (5, (1, .t 11))])), (zs 13 (.call 17 [.t 10, .t 12, .c (.str ⟨#[115]⟩)])), (zm 2 13)]) (.seq (.reg [(zm 14 1), (zs 15 (.call 18 [.t 14, .c (.str ⟨#[98, 108]⟩), .c (.int .i64 (-1)), .c (.str ⟨#[115]⟩), .c (.str ⟨#[107]⟩), .c (.int .i64 1)])), (zm 16 1), (zs 17 (.call 18 [.t 16, .c (.str ⟨#[98, 108]⟩), .c (.int .i64 (-1)), .c (.str ⟨#[107]⟩), .c (.str ⟨#[121]⟩), .c (.int .i64 1)])), (zm 3 15), (zm 4 17)]) (.seq (.reg [(zm 19 1), (zs 20 (.call 19 [.t 19, .c (.str ⟨#[98, 108]⟩), .c (.int .i64 1), .c (.str ⟨#[121]⟩), .c (.int .i64 2)])), (zm 18 20), (zs 21 (.ext (.t 18) 0)), (zs 22 (.ext (.t 18) 1)), (zm 5 21), (zm 6 22)]) (.seq (.reg [(zm 23 2), (zs 24 (.cmp .eql (.t 23) (.c (.int .i64 0)))), (zm 25 24), (zh 26 25 true 3), (zg 27 25 true (.cmp .eql (.t 26) (.c (.int .i64 0)))), (zs 28 (.pick (.t 25) (.t 27) (.c (.bl false)))), (zm 29 28), (zh 30 29 true 4), (zg 31 29 true (.cmp .eql (.t 30) (.c (.int .i64 0)))), (zs 32 (.pick (.t 29) (.t 31) (.c (.bl false)))), (zm 33 32), (zh 34 33 true 6), (zg 35 33 true (.cmp .eql (.t 34) (.c (.int .i64 0)))), (zs 36 (.pick (.t 33) (.t 35) (.c (.bl false)))), (zm 37 36), (zh 38 37 true 5), (zg 39 37 true (.lenl (.t 38))), (zg 40 37 true (.cmp .eql (.t 39) (.c (.int .i64 1)))), (zs 41 (.pick (.t 37) (.t 40) (.c (.bl false)))), (zm 42 41), (zh 43 42 true 1), (zg 44 42 true (.call 15 [.t 43, .c (.str ⟨#[98, 108]⟩)])), (zg 45 42 true (.cmp .eql (.t 44) (.c (.int .i64 1)))), (zs 46 (.pick (.t 42) (.t 45) (.c (.bl false)))), (zm 47 46), (zh 48 47 true 1), (zg 49 47 true (.call 23 [.t 48, .c (.str ⟨#[98, 108]⟩)])), (zg 50 47 true (.lenl (.t 49))), (zg 51 47 true (.cmp .eql (.t 50) (.c (.int .i64 3)))), (zs 52 (.pick (.t 47) (.t 51) (.c (.bl false)))), (zm 53 52), (zh 54 53 true 1), (zg 55 53 true (.call 23 [.t 54, .c (.str ⟨#[98, 108]⟩)])), (zg 56 53 true (.iad 4 (.t 55) (.c (.int .i64 0)))), (zg 57 53 true (.fad 2 (.t 56))), (zg 58 53 true (.ld false 1 (.t 57))), (zg 59 53 true (.cmp .eql (.t 58) (.c (.int .i64 2)))), (zs 60 (.pick (.t 53) (.t 59) (.c (.bl false)))), (zm 0 60)]) .ret)))))), [.tmp 0]⟩
def x13 : XFn := ⟨26, .seq (.reg [(zs 2 (.mov (.c (.bl false))))]) (.seq (.seq (.reg [(zs 3 (.mov (.c (.int .i64 0))))]) (.block 0 (.loop (.seq (.seq (.reg [(zm 4 3), (zm 5 0), (zs 6 (.lenl (.t 5))), (zs 7 (.cmp .lss (.t 4) (.t 6)))]) (.cond (.t 7) .skip (.exit 0))) (.seq (.block 1 (.seq (.reg [(zm 10 0), (zm 11 3), (zs 12 (.iad 15 (.t 10) (.t 11))), (zf 13 0 12), (zl 14 13), (zs 15 (.cmp .lss (.t 14) (.c (.int .i64 0)))), (zm 16 15), (zh 17 16 false 0), (zh 18 16 false 3), (zg 19 16 false (.iad 15 (.t 17) (.t 18))), (zg 20 16 false (.fad 0 (.t 19))), (zg 21 16 false (.ld false 1 (.t 20))), (zg 22 16 false (.cmp .gtr (.t 21) (.c (.int .i64 5)))), (zs 23 (.pick (.t 16) (.c (.bl true)) (.t 22)))]) (.cond (.t 23) (.seq (.reg [(zs 2 (.mov (.c (.bl false))))]) .ret) .skip))) (.reg [(zm 8 3), (zs 9 (.ari .add .i64 (.t 8) (.c (.int .i64 1)))), (zm 3 9)])))))) (.seq (.reg [(zm 24 0), (zs 25 (.call 38 [.t 24])), (zm 2 25)]) .ret)), [.tmp 2]⟩
def x14 : XFn := ⟨37, .seq (.reg [(zs 2 (.mov (.c (.v (.pointer none))))), (zs 3 (.alloc 28 [.str ⟨#[]⟩, .v (.slice none 0 0)]))]) (.seq (.reg [(zs 9 (.call 26 [.c (.str ⟨#[99]⟩)])), (zs 10 (.bld [.str ⟨#[]⟩, .v (.slice none 0 0)] [(0, (1, .c (.str ⟨#[99]⟩)))])), (zs 5 (.alloc 28 [.str ⟨#[]⟩, .v (.slice none 0 0)])), (zm 4 9), (zn (.st 2 (.t 5) (.t 10)))]) (.seq (.seq (.reg [(zs 6 (.mov (.c (.int .i64 0))))]) (.block 0 (.loop (.seq (.seq (.reg [(zm 11 4), (zs 12 (.cmn true (.t 11))), (zm 13 12), (zh 14 13 true 6), (zh 15 13 true 0), (zg 16 13 true (.lenl (.t 15))), (zg 17 13 true (.cmp .lss (.t 14) (.t 16))), (zs 18 (.pick (.t 13) (.t 17) (.c (.bl false))))]) (.cond (.t 18) .skip (.exit 0))) (.seq (.block 1 (.seq (.dreg (.take 0 (zm 22 4) (.take 1 (zs 23 (.ld true 2 (.t 5))) (.take 2 (zm 24 0) (.take 3 (zm 25 6) (.take 4 (zs 26 (.iad 15 (.t 24) (.t 25))) (.take 5 (zs 27 (.ld true 15 (.t 26))) (.fork (.eff 6 0 true (zs 28 (.call 27 [.t 22, .t 23, .t 27])) (.take 7 (zm 21 28) (.take 8 (zs 29 (.ext (.t 21) 0)) (.take 9 (zs 30 (.ext (.t 21) 1)) (.eff 10 0 true (zs 7 (.alloc 28 [.str ⟨#[]⟩, .v (.slice none 0 0)])) (.eff 11 1 false (zn (.st 2 (.t 7) (.t 29))) (.take 12 (zm 8 30) .nil))))))) (.eff 10 0 true (zs 7 (.alloc 28 [.str ⟨#[]⟩, .v (.slice none 0 0)])) (.eff 6 0 false (zs 28 (.call 27 [.t 22, .t 23, .t 27])) (.take 7 (zm 21 28) (.take 8 (zs 29 (.ext (.t 21) 0)) (.take 9 (zs 30 (.ext (.t 21) 1)) (.eff 11 1 false (zn (.st 2 (.t 7) (.t 29))) (.take 12 (zm 8 30) .nil)))))))))))))) 1 [5, 0]) (.seq (.reg [(zs 31 (.ld true 2 (.t 7))), (zn (.st 2 (.t 5) (.t 31)))]) (.seq (.reg [(zm 32 8), (zs 33 (.not (.t 32)))]) (.cond (.t 33) (.seq (.dreg (.take 0 (zs 34 (.ld true 2 (.t 5))) (.take 1 (zs 2 (.mov (.c (.v (.pointer none))))) (.eff 2 0 false (zn (.st 2 (.t 3) (.t 34))) (.phase [0] .nil)))) 0 [5]) .ret) .skip))))) (.reg [(zm 19 6), (zs 20 (.ari .add .i64 (.t 19) (.c (.int .i64 1)))), (zm 6 20)])))))) (.seq (.dreg (.take 0 (zm 35 4) (.take 1 (zs 36 (.ld true 2 (.t 5))) (.take 2 (zm 2 35) (.eff 3 0 false (zn (.st 2 (.t 3) (.t 36))) (.phase [1] .nil))))) 0 [5]) .ret))), [.tmp 2, .cell 3 true 2]⟩
def x15 : XFn := ⟨18, .seq (.reg [(zs 4 (.mov (.c (.int .i64 0))))]) (.seq (.reg [(zm 6 0), (zs 7 (.nck (.t 6))), (zf 8 1 7), (zl 9 8), (zm 10 1), (zs 11 (.plk none false (.v (.pointer none)) (.t 9) (.t 10))), (zm 5 11)]) (.seq (.seq (.reg [(zm 12 5), (zs 13 (.cmn false (.t 12)))]) (.cond (.t 13) (.seq (.reg [(zs 4 (.mov (.c (.int .i64 (-1)))))]) .ret) .skip)) (.seq (.reg [(zm 14 5), (zs 15 (.nck (.t 14))), (zf 16 9 15), (zl 17 16), (zm 4 17)]) .ret))), [.tmp 4]⟩
def x16 : XFn := ⟨21, .seq (.reg [(zs 4 (.alloc 34 [.str ⟨#[]⟩, .str ⟨#[]⟩, .str ⟨#[]⟩, .str ⟨#[]⟩, .str ⟨#[]⟩, .v (.slice none 0 0), .v (.slice none 0 0), .int .i64 0, .bl false])), (zs 5 (.mov (.c (.bl false))))]) (.seq (.reg [(zm 7 0), (zs 8 (.nck (.t 7))), (zf 9 1 8), (zl 10 9), (zm 11 1), (zs 12 (.plk none false (.v (.pointer none)) (.t 10) (.t 11))), (zm 6 12)]) (.seq (.seq (.reg [(zm 13 6), (zs 14 (.cmn false (.t 13)))]) (.cond (.t 14) (.seq (.reg [(zs 15 (.bld [.str ⟨#[]⟩, .str ⟨#[]⟩, .str ⟨#[]⟩, .str ⟨#[]⟩, .str ⟨#[]⟩, .v (.slice none 0 0), .v (.slice none 0 0), .int .i64 0, .bl false] [])), (zn (.st 9 (.t 4) (.t 15))), (zs 5 (.mov (.c (.bl false))))]) .ret) .skip)) (.seq (.reg [(zm 16 6), (zs 17 (.nck (.t 16))), (zf 18 0 17), (zs 19 (.ld true 9 (.t 18))), (zs 20 (.call 39 [.t 19])), (zn (.st 9 (.t 4) (.t 20))), (zs 5 (.mov (.c (.bl true))))]) .ret))), [.cell 4 true 9, .tmp 5]⟩
def x17 : XFn := ⟨45, .seq (.reg [(zs 3 (.box 25 (.t 0))), (zs 4 (.box 34 (.t 1))), (zs 5 (.box 9 (.t 2))), (zs 6 (.mov (.c (.int .i64 0))))]) (.seq (.reg [(zs 10 (.mkf 41 [.t 3, .t 4, .t 5])), (zs 11 (.bld [.int .i64 0, .v .nilFunc] [(0, (1, .c (.int .i64 1))), (1, (1, .t 10))])), (zs 12 (.mkf 44 [.t 3, .t 4])), (zs 13 (.bld [.int .i64 0, .v .nilFunc] [(0, (1, .c (.int .i64 5))), (1, (1, .t 12))])), (zs 14 (.mkf 45 [.t 4, .t 3])), (zs 15 (.bld [.int .i64 0, .v .nilFunc] [(0, (1, .c (.int .i64 9))), (1, (1, .t 14))])), (zs 16 (.mkf 48 [.t 3])), (zs 17 (.bld [.int .i64 0, .v .nilFunc] [(0, (1, .c (.int .i64 7))), (1, (1, .t 16))])), (zs 18 (.bsl 91 2 4 [.int .i64 0, .v .nilFunc] [(0, .t 11), (1, .t 13), (2, .t 15), (3, .t 17)])), (zs 19 (.call 40 [.t 18])), (zm 7 19)]) (.seq (.seq (.reg [(zm 20 7), (zs 21 (.cmp .neq (.t 20) (.c (.int .i64 0))))]) (.cond (.t 21) (.seq (.reg [(zm 22 7), (zm 6 22)]) .ret) .skip)) (.seq (.reg [(zs 23 (.ld true 9 (.t 4))), (zs 24 (.call 39 [.t 23])), (zs 25 (.bld [.str ⟨#[]⟩, .str ⟨#[]⟩, .str ⟨#[]⟩, .str ⟨#[]⟩, .str ⟨#[]⟩, .v (.slice none 0 0), .v (.slice none 0 0), .int .i64 0, .bl false, .int .i64 0, .int .i64 0, .str ⟨#[]⟩, .v (.slice none 0 0), .int .i64 0, .str ⟨#[]⟩, .v (.slice none 0 0), .int .i64 0, .str ⟨#[]⟩, .v (.slice none 0 0)] [(0, (9, .t 24)), (9, (1, .c (.int .i64 0)))])), (zs 26 (.box 85 (.t 25))), (zm 8 26)]) (.seq (.seq (.reg [(zs 27 (.mov (.c (.int .i64 0))))]) (.block 0 (.loop (.seq (.reg [(zs 28 (.cmp .lss (.t 27) (.c (.int .i64 3))))]) (.seq (.cond (.t 28) .skip (.exit 0)) (.seq (.block 1 (.seq (.reg [(zm 29 27), (zm 9 29)]) (.dreg (.take 0 (zm 30 8) (.take 1 (zm 31 9) (.take 2 (zl 32 5) (.take 3 (zs 33 (.bld [.int .i64 0, .str ⟨#[]⟩, .v (.slice none 0 0)] [(0, (1, .c (.int .i64 0))), (1, (1, .t 32))])) (.take 4 (zs 34 (.nck (.t 30))) (.take 5 (zf 35 10 34) (.take 6 (zs 36 (.aia 3 3 (.t 35) (.t 31))) (.eff 7 0 false (zn (.st 3 (.t 36) (.t 33))) (.phase [2] .nil))))))))) 0 [5]))) (.reg [(zs 37 (.ari .add .i64 (.t 27) (.c (.int .i64 1)))), (zm 27 37)]))))))) (.seq (.dreg (.take 0 (zl 38 3) (.take 1 (zs 39 (.nck (.t 38))) (.take 2 (zf 40 1 39) (.take 3 (zl 41 40) (.take 4 (zf 42 0 4) (.take 5 (zl 43 42) (.take 6 (zm 44 8) (.eff 7 0 false (zn (.pup none (.t 41) (.t 43) (.t 44))) (.phase [0, 3, 5] .nil))))))))) 0 [3, 4]) (.seq (.reg [(zs 6 (.mov (.c (.int .i64 0))))]) .ret)))))), [.tmp 6]⟩
def x18 : XFn := ⟨82, .seq (.reg [(zs 12 (.mov (.c (.int .i64 0))))]) (.seq (.reg [(zm 18 0), (zm 19 1), (zm 20 2), (zm 21 3), (zm 22 5), (zm 23 4), (zs 24 (.call 43 [.t 23])), (zs 25 (.not (.t 24))), (zm 26 25), (zh 27 26 false 4), (zh 28 26 false 3), (zg 29 26 false (.cmp .eql (.t 27) (.t 28))), (zs 30 (.pick (.t 26) (.c (.bl true)) (.t 29))), (zs 31 (.bld [.str ⟨#[]⟩, .int .i64 0, .int .i64 0, .str ⟨#[]⟩, .int .i64 0, .int .i64 0, .bl false, .bl false] [(0, (1, .t 19)), (1, (1, .t 20)), (2, (1, .c (.int .i64 (-1)))), (3, (1, .t 21)), (4, (1, .c (.int .i64 0))), (5, (1, .t 22)), (6, (1, .c (.bl true))), (7, (1, .t 30))])), (zs 32 (.call 49 [.t 18, .t 31])), (zm 13 32)]) (.seq (.seq (.reg [(zm 33 13), (zs 34 (.cmp .neq (.t 33) (.c (.int .i64 0))))]) (.cond (.t 34) (.seq (.reg [(zm 35 13), (zm 12 35)]) .ret) .skip)) (.seq (.reg [(zm 36 0), (zs 37 (.nck (.t 36))), (zf 38 1 37), (zl 39 38), (zm 40 1), (zs 41 (.plk none false (.v (.pointer none)) (.t 39) (.t 40))), (zm 14 41)]) (.seq (.seq (.reg [(zs 42 (.mov (.c (.int .i64 0))))]) (.block 0 (.loop (.seq (.reg [(zs 43 (.cmp .lss (.t 42) (.c (.int .i64 3))))]) (.seq (.cond (.t 43) .skip (.exit 0)) (.seq (.block 1 (.seq (.reg [(zm 44 42), (zm 15 44)]) (.seq (.reg [(zm 45 2), (zs 46 (.cmp .eql (.t 45) (.c (.int .i64 (-1))))), (zm 47 46), (zh 48 47 false 2), (zh 49 47 false 15), (zg 50 47 false (.cmp .eql (.t 48) (.t 49))), (zs 51 (.pick (.t 47) (.c (.bl true)) (.t 50)))]) (.cond (.t 51) (.seq (.reg [(zm 52 14), (zm 53 15), (zs 54 (.nck (.t 52))), (zf 55 10 54), (zs 56 (.aia 3 3 (.t 55) (.t 53))), (zm 16 56)]) (.seq (.reg [(zm 57 3), (zm 58 4), (zm 59 5), (zs 60 (.bld [.str ⟨#[]⟩, .str ⟨#[]⟩, .int .i64 0, .int .i64 0] [(0, (1, .t 57)), (1, (1, .t 58)), (2, (1, .c (.int .i64 0))), (3, (1, .t 59))])), (zs 17 (.alloc 98 [.str ⟨#[]⟩, .str ⟨#[]⟩, .int .i64 0, .int .i64 0])), (zn (.st 4 (.t 17) (.t 60)))]) (.seq (.dreg (.take 0 (zm 61 16) (.take 1 (zm 62 16) (.take 2 (zs 63 (.nck (.t 62))) (.take 3 (zf 64 2 63) (.take 4 (zl 65 64) (.take 5 (zs 66 (.ld true 4 (.t 17))) (.eff 6 0 true (zs 67 (.bsl 98 4 1 [.str ⟨#[]⟩, .str ⟨#[]⟩, .int .i64 0, .int .i64 0] [(0, .t 66)])) (.eff 7 1 false (zs 68 (.app 60 60 98 4 48 (.t 65) (.t 67))) (.take 8 (zs 69 (.nck (.t 61))) (.take 9 (zf 70 2 69) (.eff 10 2 false (zn (.st 1 (.t 70) (.t 68))) (.phase [4, 5] .nil)))))))))))) 2 [16, 17]) (.dreg (.take 0 (zm 71 16) (.take 1 (zm 72 16) (.take 2 (zs 73 (.nck (.t 72))) (.take 3 (zf 74 1 73) (.take 4 (zl 75 74) (.take 5 (zs 76 (.ld true 4 (.t 17))) (.eff 6 0 true (zs 77 (.bsl 98 4 1 [.str ⟨#[]⟩, .str ⟨#[]⟩, .int .i64 0, .int .i64 0] [(0, .t 76)])) (.eff 7 1 false (zs 78 (.call 50 [.t 75, .t 77])) (.take 8 (zs 79 (.nck (.t 71))) (.take 9 (zf 80 1 79) (.eff 10 1 false (zn (.st 1 (.t 80) (.t 78))) (.phase [4, 5] .nil)))))))))))) 1 [16, 17])))) .skip)))) (.reg [(zs 81 (.ari .add .i64 (.t 42) (.c (.int .i64 1)))), (zm 42 81)]))))))) (.seq (.reg [(zs 12 (.mov (.c (.int .i64 0))))]) .ret))))), [.tmp 12]⟩
def x19 : XFn := ⟨44, .seq (.reg [(zs 10 (.mov (.c (.v (.slice none 0 0))))), (zs 11 (.mov (.c (.int .i64 0))))]) (.seq (.reg [(zm 14 0), (zm 15 1), (zm 16 2), (zm 17 3), (zm 18 4), (zs 19 (.bld [.str ⟨#[]⟩, .int .i64 0, .int .i64 0, .str ⟨#[]⟩, .int .i64 0, .int .i64 0, .bl false, .bl false] [(0, (1, .t 15)), (1, (1, .t 16)), (3, (1, .t 17)), (4, (1, .c (.int .i64 0))), (5, (1, .t 18)), (6, (1, .c (.bl true)))])), (zs 20 (.call 49 [.t 14, .t 19])), (zm 12 20)]) (.seq (.seq (.reg [(zm 21 12), (zs 22 (.cmp .neq (.t 21) (.c (.int .i64 0))))]) (.cond (.t 22) (.seq (.reg [(zm 23 12), (zs 10 (.mov (.c (.v (.slice none 0 0))))), (zm 11 23)]) .ret) .skip)) (.seq (.reg [(zm 24 0), (zs 25 (.nck (.t 24))), (zf 26 1 25), (zl 27 26), (zm 28 1), (zs 29 (.plk none false (.v (.pointer none)) (.t 27) (.t 28))), (zm 13 29)]) (.seq (.reg [(zm 30 13), (zs 31 (.call 51 [.t 30, .c (.int .i64 1)]))]) (.seq (.reg [(zm 32 13), (zm 33 2), (zs 34 (.nck (.t 32))), (zf 35 10 34), (zs 36 (.aia 3 3 (.t 35) (.t 33))), (zf 37 0 36), (zn (.st 1 (.t 37) (.c (.int .i64 1))))]) (.seq (.reg [(zm 38 13), (zs 39 (.nck (.t 38))), (zf 40 0 39), (zf 41 5 40), (zl 42 41), (zs 43 (.call 52 [.t 42])), (zm 10 43), (zs 11 (.mov (.c (.int .i64 0))))]) .ret)))))), [.tmp 10, .tmp 11]⟩
def x20 : XFn := ⟨30, .seq (.reg [(zs 8 (.mov (.c (.int .i64 0))))]) (.seq (.reg [(zm 10 0), (zm 11 1), (zm 12 2), (zm 13 3), (zs 14 (.bld [.str ⟨#[]⟩, .int .i64 0, .int .i64 0, .str ⟨#[]⟩, .int .i64 0, .int .i64 0, .bl false, .bl false] [(0, (1, .t 11)), (1, (1, .t 12)), (3, (1, .t 13)), (4, (1, .c (.int .i64 0)))])), (zs 15 (.call 49 [.t 10, .t 14])), (zm 9 15)]) (.seq (.seq (.reg [(zm 16 9), (zs 17 (.cmp .eql (.t 16) (.c (.int .i64 0))))]) (.cond (.t 17) (.reg [(zm 18 0), (zs 19 (.nck (.t 18))), (zf 20 1 19), (zl 21 20), (zm 22 1), (zs 23 (.plk none false (.v (.pointer none)) (.t 21) (.t 22))), (zm 24 2), (zs 25 (.nck (.t 23))), (zf 26 10 25), (zs 27 (.aia 3 3 (.t 26) (.t 24))), (zf 28 0 27), (zn (.st 1 (.t 28) (.c (.int .i64 3))))]) .skip)) (.seq (.reg [(zm 29 9), (zm 8 29)]) .ret))), [.tmp 8]⟩
def x21 : XFn := ⟨33, .seq (.reg [(zs 10 (.mov (.c (.int .i64 0))))]) (.seq (.reg [(zm 12 0), (zm 13 1), (zm 14 2), (zm 15 3), (zm 16 4), (zs 17 (.bld [.str ⟨#[]⟩, .int .i64 0, .int .i64 0, .str ⟨#[]⟩, .int .i64 0, .int .i64 0, .bl false, .bl false] [(0, (1, .t 13)), (1, (1, .t 14)), (3, (1, .t 15)), (4, (1, .c (.int .i64 3))), (5, (1, .t 16)), (6, (1, .c (.bl true)))])), (zs 18 (.call 49 [.t 12, .t 17])), (zm 11 18)]) (.seq (.seq (.reg [(zm 19 11), (zs 20 (.cmp .eql (.t 19) (.c (.int .i64 0))))]) (.cond (.t 20) (.reg [(zm 21 0), (zs 22 (.nck (.t 21))), (zf 23 1 22), (zl 24 23), (zm 25 1), (zs 26 (.plk none false (.v (.pointer none)) (.t 24) (.t 25))), (zm 27 2), (zs 28 (.nck (.t 26))), (zf 29 10 28), (zs 30 (.aia 3 3 (.t 29) (.t 27))), (zf 31 0 30), (zn (.st 1 (.t 31) (.c (.int .i64 0))))]) .skip)) (.seq (.reg [(zm 32 11), (zm 10 32)]) .ret))), [.tmp 10]⟩
def x22 : XFn := ⟨26, .seq (.reg [(zs 8 (.mov (.c (.int .i64 0))))]) (.seq (.reg [(zm 10 0), (zm 11 1), (zm 12 2), (zm 13 3), (zs 14 (.bld [.str ⟨#[]⟩, .int .i64 0, .int .i64 0, .str ⟨#[]⟩, .int .i64 0, .int .i64 0, .bl false, .bl false] [(0, (1, .t 11)), (1, (1, .c (.int .i64 (-1)))), (2, (1, .c (.int .i64 (-1)))), (3, (1, .t 12)), (4, (1, .c (.int .i64 0))), (5, (1, .t 13)), (6, (1, .c (.bl true)))])), (zs 15 (.call 49 [.t 10, .t 14])), (zm 9 15)]) (.seq (.seq (.reg [(zm 16 9), (zs 17 (.cmp .eql (.t 16) (.c (.int .i64 0))))]) (.cond (.t 17) (.reg [(zm 18 0), (zs 19 (.nck (.t 18))), (zf 20 1 19), (zl 21 20), (zm 22 1), (zs 23 (.plk none false (.v (.pointer none)) (.t 21) (.t 22))), (zs 24 (.call 51 [.t 23, .c (.int .i64 4)]))]) .skip)) (.seq (.reg [(zm 25 9), (zm 8 25)]) .ret))), [.tmp 8]⟩
def x23 : XFn := ⟨38, .seq (.reg [(zs 4 (.mov (.c (.v (.slice none 0 0)))))]) (.seq (.reg [(zm 9 0), (zs 10 (.nck (.t 9))), (zf 11 1 10), (zl 12 11), (zm 13 1), (zs 14 (.plk none false (.v (.pointer none)) (.t 12) (.t 13))), (zm 5 14)]) (.seq (.seq (.reg [(zm 15 5), (zs 16 (.cmn false (.t 15)))]) (.cond (.t 16) (.seq (.reg [(zs 4 (.mov (.c (.v (.slice none 0 0)))))]) .ret) .skip)) (.seq (.reg [(zs 17 (.mks 50 4 48 [.str ⟨#[]⟩, .int .i64 0, .int .i64 0, .str ⟨#[]⟩] (.c (.int .i64 0)) (.c (.int .i64 3)))), (zm 6 17)]) (.seq (.seq (.reg [(zm 18 5), (zs 19 (.nck (.t 18))), (zf 20 10 19), (zs 21 (.ld true 9 (.t 20))), (zs 22 (.mov (.c (.int .i64 0))))]) (.block 0 (.loop (.seq (.reg [(zs 23 (.cmp .lss (.t 22) (.c (.int .i64 3))))]) (.seq (.cond (.t 23) .skip (.exit 0)) (.seq (.block 1 (.seq (.reg [(zm 24 22), (zs 25 (.aix true 3 3 (.t 21) (.t 22))), (zs 8 (.alloc 82 [.int .i64 0, .str ⟨#[]⟩, .v (.slice none 0 0)])), (zm 7 24), (zn (.st 3 (.t 8) (.t 25)))]) (.reg [(zm 26 6), (zm 27 1), (zm 28 7), (zf 29 0 8), (zl 30 29), (zf 31 1 8), (zl 32 31), (zs 33 (.bld [.str ⟨#[]⟩, .int .i64 0, .int .i64 0, .str ⟨#[]⟩] [(0, (1, .t 27)), (1, (1, .t 28)), (2, (1, .t 30)), (3, (1, .t 32))])), (zs 34 (.bsl 50 4 1 [.str ⟨#[]⟩, .int .i64 0, .int .i64 0, .str ⟨#[]⟩] [(0, .t 33)])), (zs 35 (.app 47 47 50 4 48 (.t 26) (.t 34))), (zm 6 35)]))) (.reg [(zs 36 (.ari .add .i64 (.t 22) (.c (.int .i64 1)))), (zm 22 36)]))))))) (.seq (.reg [(zm 37 6), (zm 4 37)]) .ret))))), [.tmp 4]⟩
def x24 : XFn := ⟨16, .seq (.reg [(zs 3 (.box 9 (.t 1))), (zs 4 (.mov (.c (.str ⟨#[]⟩)))), (zs 5 (.mov (.c (.bl false))))]) (.seq (.reg [(zm 7 0), (zs 8 (.mkf 54 [.t 3])), (zs 9 (.call 53 [.t 7, .t 8])), (zm 6 9)]) (.seq (.seq (.reg [(zm 10 6), (zs 11 (.lenl (.t 10))), (zs 12 (.cmp .eql (.t 11) (.c (.int .i64 0))))]) (.cond (.t 12) (.seq (.reg [(zs 4 (.mov (.c (.str ⟨#[]⟩)))), (zs 5 (.mov (.c (.bl false))))]) .ret) .skip)) (.seq (.reg [(zm 13 6), (zs 14 (.iad 1 (.t 13) (.c (.int .i64 0)))), (zl 15 14), (zm 4 15), (zs 5 (.mov (.c (.bl true))))]) .ret))), [.tmp 4, .tmp 5]⟩
def x25 : XFn := ⟨5, .seq (.reg [(zs 2 (.mov (.c (.v (.slice none 0 0)))))]) (.seq (.reg [(zm 3 0), (zs 4 (.call 53 [.t 3, .c (.clo 56 [])])), (zm 2 4)]) .ret), [.tmp 2]⟩
def x26 : XFn := ⟨7, .seq (.reg [(zs 2 (.mov (.c (.v (.pointer none)))))]) (.seq (.reg [(zm 3 0), (zs 4 (.mkp 78)), (zs 5 (.bld [.str ⟨#[]⟩, .v (.map none)] [(0, (1, .t 3)), (1, (1, .t 4))])), (zs 6 (.box 80 (.t 5))), (zm 2 6)]) .ret), [.tmp 2]⟩
def x27 : XFn := ⟨127, .seq (.reg [(zs 4 (.box 28 (.t 1))), (zs 5 (.box 38 (.t 2))), (zs 6 (.alloc 28 [.str ⟨#[]⟩, .v (.slice none 0 0)])), (zs 7 (.mov (.c (.bl false))))]) (.seq (.reg [(zs 14 (.ld true 2 (.t 4))), (zs 15 (.ld true 15 (.t 5))), (zs 16 (.call 57 [.t 14, .t 15])), (zm 13 16), (zs 17 (.ext (.t 13) 0)), (zs 18 (.ext (.t 13) 1)), (zs 8 (.alloc 28 [.str ⟨#[]⟩, .v (.slice none 0 0)])), (zn (.st 2 (.t 8) (.t 17))), (zm 9 18)]) (.seq (.reg [(zs 10 (.mov (.c (.int .i64 0))))]) (.seq (.seq (.reg [(zf 19 0 5), (zl 20 19)]) (.block 0 (.seq (.reg [(zs 23 (.cmp .eql (.t 20) (.c (.int .i64 0)))), (zm 22 23)]) (.cond (.t 22) (.reg [(zm 24 0), (zf 25 6 5), (zs 26 (.ld true 9 (.t 25))), (zf 27 5 5), (zl 28 27), (zs 29 (.call 17 [.t 24, .t 26, .t 28])), (zm 10 29)]) (.seq (.reg [(zs 31 (.cmp .eql (.t 20) (.c (.int .i64 1)))), (zm 30 31)]) (.cond (.t 30) (.reg [(zm 32 0), (zf 33 3 5), (zl 34 33), (zf 35 1 5), (zl 36 35), (zf 37 4 5), (zl 38 37), (zf 39 5 5), (zl 40 39), (zf 41 2 5), (zl 42 41), (zs 43 (.call 18 [.t 32, .t 34, .t 36, .t 38, .t 40, .t 42])), (zm 10 43)]) (.seq (.reg [(zs 45 (.cmp .eql (.t 20) (.c (.int .i64 2)))), (zm 44 45)]) (.cond (.t 44) (.seq (.reg [(zm 47 0), (zf 48 3 5), (zl 49 48), (zf 50 1 5), (zl 51 50), (zf 52 4 5), (zl 53 52), (zf 54 2 5), (zl 55 54), (zs 56 (.call 19 [.t 47, .t 49, .t 51, .t 53, .t 55])), (zm 46 56), (zs 57 (.ext (.t 46) 0)), (zs 58 (.ext (.t 46) 1)), (zm 11 57), (zm 12 58)]) (.seq (.reg [(zm 59 12), (zm 10 59)]) (.seq (.dreg (.take 0 (zm 60 12) (.take 1 (zs 61 (.cmp .neq (.t 60) (.c (.int .i64 0)))) (.take 2 (zm 62 61) (.take 3 (zh 63 62 true 11) (.take 4 (zg 64 62 true (.lenl (.t 63))) (.take 5 (zg 65 62 true (.cmp .neq (.t 64) (.c (.int .i64 0)))) (.take 6 (zs 66 (.pick (.t 62) (.t 65) (.c (.bl false)))) (.take 7 (zm 67 66) (.take 8 (zh 68 67 false 12) (.take 9 (zg 69 67 false (.cmp .eql (.t 68) (.c (.int .i64 0)))) (.take 10 (zh 70 67 false 69) (.take 11 (zh 71 70 true 9) (.take 12 (zg 72 70 true (.cmp .eql (.t 71) (.c (.int .i64 0)))) (.take 13 (zg 73 67 false (.pick (.t 70) (.t 72) (.c (.bl false)))) (.take 14 (zh 74 67 false 73) (.take 15 (zh 75 74 true 11) (.take 16 (zg 76 74 true (.fad 1 (.t 8))) (.take 17 (zg 77 74 true (.ld false 1 (.t 76))) (.take 18 (zg 78 74 true (.ld true 2 (.t 8))) (.take 19 (zg 79 74 true (.fad 3 (.t 5))) (.take 20 (zg 80 74 true (.ld false 1 (.t 79))) (.eff 21 0 true (zg 81 74 true (.call 36 [.t 78, .t 80])) (.take 22 (zg 82 74 true (.iad 11 (.t 77) (.t 81))) (.take 23 (zg 83 74 true (.fad 0 (.t 82))) (.take 24 (zg 84 74 true (.fad 5 (.t 83))) (.phase [17, 18, 20, 25] (.take 25 (zg 85 74 true (.ld false 1 (.t 84))) (.eff 26 0 false (zg 86 74 true (.call 58 [.t 75, .t 85])) (.phase [17, 18, 20, 25] (.take 27 (zg 87 74 true (.not (.t 86))) (.take 28 (zg 88 67 false (.pick (.t 74) (.t 87) (.c (.bl false)))) (.take 29 (zs 89 (.pick (.t 67) (.c (.bl true)) (.t 88))) .nil)))))))))))))))))))))))))))))))) 0 [11, 8, 5]) (.cond (.t 89) (.seq (.reg [(zs 90 (.ld true 2 (.t 8))), (zn (.st 2 (.t 6) (.t 90))), (zs 7 (.mov (.c (.bl false))))]) .ret) .skip)))) (.seq (.reg [(zs 92 (.cmp .eql (.t 20) (.c (.int .i64 3)))), (zm 91 92)]) (.cond (.t 91) (.reg [(zm 93 0), (zf 94 3 5), (zl 95 94), (zf 96 1 5), (zl 97 96), (zf 98 4 5), (zl 99 98), (zs 100 (.call 20 [.t 93, .t 95, .t 97, .t 99])), (zm 10 100)]) (.seq (.reg [(zs 102 (.cmp .eql (.t 20) (.c (.int .i64 4)))), (zm 101 102)]) (.cond (.t 101) (.reg [(zm 103 0), (zf 104 3 5), (zl 105 104), (zf 106 1 5), (zl 107 106), (zf 108 4 5), (zl 109 108), (zf 110 2 5), (zl 111 110), (zs 112 (.call 21 [.t 103, .t 105, .t 107, .t 109, .t 111])), (zm 10 112)]) (.seq (.reg [(zs 114 (.cmp .eql (.t 20) (.c (.int .i64 5)))), (zm 113 114)]) (.cond (.t 113) (.reg [(zm 115 0), (zf 116 3 5), (zl 117 116), (zf 118 4 5), (zl 119 118), (zf 120 2 5), (zl 121 120), (zs 122 (.call 22 [.t 115, .t 117, .t 119, .t 121])), (zm 10 122)]) (.seq (.reg [(zs 21 (.ld true 2 (.t 4))), (zn (.st 2 (.t 6) (.t 21))), (zs 7 (.mov (.c (.bl true))))]) .ret))))))))))))))) (.seq (.reg [(zs 123 (.ld true 2 (.t 8))), (zm 124 10), (zm 125 9), (zs 126 (.cmp .eql (.t 124) (.t 125))), (zn (.st 2 (.t 6) (.t 123))), (zm 7 126)]) .ret)))), [.cell 6 true 2, .tmp 7]⟩
def x28 : XFn := ⟨19, .seq (.reg [(zs 6 (.mov (.c (.v (.slice none 0 0)))))]) (.seq (.reg [(zm 10 0), (zm 11 1), (zm 12 2), (zs 13 (.call 59 [.t 10, .t 11, .t 12])), (zm 9 13), (zs 14 (.ext (.t 9) 0)), (zs 15 (.ext (.t 9) 1)), (zs 7 (.alloc 82 [.int .i64 0, .str ⟨#[]⟩, .v (.slice none 0 0)])), (zn (.st 3 (.t 7) (.t 14))), (zm 8 15)]) (.seq (.reg [(zf 16 2 7), (zl 17 16), (zs 18 (.call 60 [.t 17])), (zm 6 18)]) .ret)), [.tmp 6]⟩
def x29 : XFn := ⟨42, .seq (.reg [(zs 4 (.mov (.c (.str ⟨#[]⟩)))), (zs 5 (.mov (.c (.int .i64 0)))), (zs 6 (.mov (.c (.int .i64 0))))]) (.scope (.seq (.seq (.reg [(zm 8 0), (zs 9 (.call 43 [.t 8])), (zs 10 (.not (.t 9)))]) (.cond (.t 10) (.seq (.reg [(zs 4 (.mov (.c (.str ⟨#[]⟩)))), (zs 5 (.mov (.c (.int .i64 0)))), (zs 6 (.mov (.c (.int .i64 1))))]) .ret) .skip)) (.seq (.reg [(zm 11 0), (zm 4 11)]) (.seq (.label 0) (.seq (.seq (.reg [(zm 12 1), (zs 13 (.lenl (.t 12))), (zs 14 (.mov (.c (.int .i64 0))))]) (.block 0 (.loop (.seq (.reg [(zs 15 (.cmp .lss (.t 14) (.t 13)))]) (.seq (.cond (.t 15) .skip (.exit 0)) (.seq (.block 1 (.seq (.reg [(zm 16 14), (zm 7 16)]) (.seq (.dreg (.take 0 (zm 17 4) (.take 1 (zm 18 1) (.take 2 (zm 19 7) (.take 3 (zs 20 (.sli 4 (.t 18) none (some (.t 19)))) (.take 4 (zm 21 1) (.take 5 (zm 22 7) (.take 6 (zs 23 (.iad 4 (.t 21) (.t 22))) (.take 7 (zs 24 (.ld true 4 (.t 23))) (.eff 8 0 false (zs 25 (.call 61 [.t 17, .t 20, .t 24])) (.phase [7] (.take 9 (zm 6 25) .nil))))))))))) 0 [1]) (.seq (.seq (.reg [(zm 26 6), (zs 27 (.cmp .neq (.t 26) (.c (.int .i64 0))))]) (.cond (.t 27) (.seq (.reg [(zm 28 7), (zm 5 28)]) (.exit 0)) .skip)) (.reg [(zm 29 1), (zm 30 7), (zs 31 (.iad 4 (.t 29) (.t 30))), (zf 32 1 31), (zl 33 32), (zm 4 33)]))))) (.reg [(zs 34 (.ari .add .i64 (.t 14) (.c (.int .i64 1)))), (zm 14 34)]))))))) (.seq (.seq (.reg [(zm 35 6), (zs 36 (.cmp .neq (.t 35) (.c (.int .i64 0))))]) (.cond (.t 36) (.seq (.reg [(zm 37 5), (zm 38 6), (zs 4 (.mov (.c (.str ⟨#[]⟩)))), (zm 5 37), (zm 6 38)]) .ret) .skip)) (.seq (.reg [(zm 39 4), (zm 40 1), (zs 41 (.lenl (.t 40))), (zm 4 39), (zm 5 41), (zs 6 (.mov (.c (.int .i64 0))))]) .ret))))))), [.tmp 4, .tmp 5, .tmp 6]⟩
def x30 : XFn := ⟨16, .seq (.reg [(zs 2 (.mov (.c (.bl false))))]) (.seq (.reg [(zm 3 0), (zs 4 (.lenl (.t 3))), (zs 5 (.cmp .gtr (.t 4) (.c (.int .i64 0)))), (zm 6 5), (zh 7 6 true 0), (zh 8 6 true 0), (zg 9 6 true (.lenl (.t 8))), (zg 10 6 true (.ari .sub .i64 (.t 9) (.c (.int .i64 1)))), (zg 11 6 true (.iad 4 (.t 7) (.t 10))), (zg 12 6 true (.fad 2 (.t 11))), (zg 13 6 true (.ld false 1 (.t 12))), (zg 14 6 true (.cmp .eql (.t 13) (.c (.int .i64 1)))), (zs 15 (.pick (.t 6) (.t 14) (.c (.bl false)))), (zm 2 15)]) .ret), [.tmp 2]⟩
def x31 : XFn := ⟨63, .seq (.reg [(zs 2 (.mov (.c (.v (.pointer none)))))]) (.seq (.reg [(zm 8 0), (zs 9 (.nck (.t 8))), (zf 10 0 9), (zl 11 10), (zs 12 (.call 26 [.t 11])), (zm 3 12)]) (.seq (.seq (.reg [(zm 13 0), (zs 14 (.nck (.t 13))), (zf 15 1 14), (zl 16 15), (zs 17 (.rng (.t 16)))]) (.block 0 (.loop (.seq (.reg [(zs 18 (.nxt (.t 17))), (zs 19 (.ext (.t 18) 0))]) (.seq (.cond (.t 19) .skip (.exit 0)) (.block 1 (.seq (.reg [(zs 20 (.ent (.t 17))), (zs 21 (.ext (.t 20) 0)), (zs 22 (.ext (.t 20) 1)), (zm 4 21), (zm 5 22)]) (.seq (.dreg (.take 0 (zm 23 5) (.take 1 (zs 24 (.nck (.t 23))) (.take 2 (zf 25 0 24) (.take 3 (zs 26 (.ld true 9 (.t 25))) (.take 5 (zm 28 5) (.take 6 (zs 29 (.nck (.t 28))) (.take 7 (zf 30 9 29) (.take 8 (zl 31 30) (.take 9 (zm 32 5) (.take 10 (zs 33 (.nck (.t 32))) (.take 11 (zf 34 10 33) (.take 12 (zs 35 (.ld true 9 (.t 34))) (.eff 4 0 true (zs 27 (.call 39 [.t 26])) (.take 13 (zs 36 (.bld [.str ⟨#[]⟩, .str ⟨#[]⟩, .str ⟨#[]⟩, .str ⟨#[]⟩, .str ⟨#[]⟩, .v (.slice none 0 0), .v (.slice none 0 0), .int .i64 0, .bl false, .int .i64 0, .int .i64 0, .str ⟨#[]⟩, .v (.slice none 0 0), .int .i64 0, .str ⟨#[]⟩, .v (.slice none 0 0), .int .i64 0, .str ⟨#[]⟩, .v (.slice none 0 0)] [(0, (9, .t 27)), (9, (1, .t 31)), (10, (9, .t 35))])) (.eff 14 0 false (zs 37 (.box 85 (.t 36))) (.phase [3, 8, 12] (.take 15 (zm 6 37) .nil))))))))))))))))) 1 [5]) (.seq (.seq (.reg [(zs 38 (.mov (.c (.int .i64 0))))]) (.block 2 (.loop (.seq (.reg [(zs 39 (.cmp .lss (.t 38) (.c (.int .i64 3))))]) (.seq (.cond (.t 39) .skip (.exit 2)) (.seq (.block 3 (.seq (.reg [(zm 40 38), (zm 7 40)]) (.dreg (.take 0 (zm 41 6) (.take 1 (zm 42 7) (.take 2 (zm 43 6) (.take 3 (zm 44 7) (.take 4 (zs 45 (.nck (.t 43))) (.take 5 (zf 46 10 45) (.take 6 (zs 47 (.aia 3 3 (.t 46) (.t 44))) (.take 7 (zf 48 2 47) (.take 8 (zl 49 48) (.take 10 (zs 51 (.nck (.t 41))) (.take 11 (zf 52 10 51) (.eff 9 0 false (zs 50 (.call 60 [.t 49])) (.take 12 (zs 53 (.aia 3 3 (.t 52) (.t 42))) (.take 13 (zf 54 2 53) (.eff 14 0 false (zn (.st 1 (.t 54) (.t 50))) (.phase [8] .nil)))))))))))))))) 0 [6]))) (.reg [(zs 55 (.ari .add .i64 (.t 38) (.c (.int .i64 1)))), (zm 38 55)]))))))) (.reg [(zm 56 3), (zs 57 (.nck (.t 56))), (zf 58 1 57), (zl 59 58), (zm 60 4), (zm 61 6), (zn (.pup none (.t 59) (.t 60) (.t 61)))])))))))))) (.seq (.reg [(zm 62 3), (zm 2 62)]) .ret))), [.tmp 2]⟩
def x32 : XFn := ⟨27, .seq (.reg [(zs 5 (.box 9 (.t 2))), (zs 6 (.mov (.c (.bl false))))]) (.seq (.reg [(zm 8 0), (zs 9 (.nck (.t 8))), (zf 10 1 9), (zl 11 10), (zm 12 1), (zs 13 (.plk none false (.v (.pointer none)) (.t 11) (.t 12))), (zm 7 13)]) (.seq (.seq (.reg [(zm 14 7), (zs 15 (.cmn false (.t 14))), (zm 16 15), (zh 17 16 false 7), (zg 18 16 false (.nck (.t 17))), (zg 19 16 false (.fad 9 (.t 18))), (zg 20 16 false (.ld false 1 (.t 19))), (zg 21 16 false (.cmp .neq (.t 20) (.c (.int .i64 0)))), (zs 22 (.pick (.t 16) (.c (.bl true)) (.t 21)))]) (.cond (.t 22) (.seq (.reg [(zs 6 (.mov (.c (.bl false))))]) .ret) .skip)) (.seq (.reg [(zm 23 7), (zs 24 (.mkf 63 [.t 5])), (zs 25 (.call 62 [.t 23, .c (.int .i64 (-1)), .t 24])), (zs 26 (.not (.t 25))), (zm 6 26)]) .ret))), [.tmp 6]⟩
def x33 : XFn := ⟨37, .seq (.reg [(zs 6 (.mov (.c (.str ⟨#[]⟩)))), (zs 7 (.mov (.c (.bl false))))]) (.seq (.reg [(zm 11 0), (zm 12 1), (zm 13 2), (zs 14 (.call 59 [.t 11, .t 12, .t 13])), (zm 10 14), (zs 15 (.ext (.t 10) 0)), (zs 16 (.ext (.t 10) 1)), (zs 8 (.alloc 82 [.int .i64 0, .str ⟨#[]⟩, .v (.slice none 0 0)])), (zn (.st 3 (.t 8) (.t 15))), (zm 9 16)]) (.seq (.seq (.reg [(zm 17 9), (zs 18 (.not (.t 17))), (zm 19 18), (zh 20 19 false 0), (zh 21 19 false 1), (zg 22 19 false (.call 15 [.t 20, .t 21])), (zg 23 19 false (.cmp .neq (.t 22) (.c (.int .i64 0)))), (zs 24 (.pick (.t 19) (.c (.bl true)) (.t 23))), (zm 25 24), (zg 26 25 false (.fad 0 (.t 8))), (zg 27 25 false (.ld false 1 (.t 26))), (zg 28 25 false (.cmp .neq (.t 27) (.c (.int .i64 0)))), (zh 29 25 false 28), (zg 30 29 true (.fad 0 (.t 8))), (zg 31 29 true (.ld false 1 (.t 30))), (zg 32 29 true (.cmp .neq (.t 31) (.c (.int .i64 3)))), (zg 33 25 false (.pick (.t 29) (.t 32) (.c (.bl false)))), (zs 34 (.pick (.t 25) (.c (.bl true)) (.t 33)))]) (.cond (.t 34) (.seq (.reg [(zs 6 (.mov (.c (.str ⟨#[]⟩)))), (zs 7 (.mov (.c (.bl false))))]) .ret) .skip)) (.seq (.reg [(zf 35 1 8), (zl 36 35), (zm 6 36), (zs 7 (.mov (.c (.bl true))))]) .ret))), [.tmp 6, .tmp 7]⟩
def x34 : XFn := ⟨26, .seq (.reg [(zs 4 (.mov (.c (.bl false))))]) (.seq (.seq (.reg [(zm 6 0), (zs 7 (.lenl (.t 6))), (zm 8 1), (zs 9 (.lenl (.t 8))), (zs 10 (.cmp .neq (.t 7) (.t 9)))]) (.cond (.t 10) (.seq (.reg [(zs 4 (.mov (.c (.bl false))))]) .ret) .skip)) (.seq (.seq (.reg [(zs 5 (.mov (.c (.int .i64 0))))]) (.block 0 (.loop (.seq (.seq (.reg [(zm 11 5), (zm 12 0), (zs 13 (.lenl (.t 12))), (zs 14 (.cmp .lss (.t 11) (.t 13)))]) (.cond (.t 14) .skip (.exit 0))) (.seq (.block 1 (.seq (.dreg (.take 0 (zm 17 0) (.take 1 (zm 18 5) (.take 2 (zs 19 (.iad 4 (.t 17) (.t 18))) (.take 3 (zs 20 (.ld true 4 (.t 19))) (.take 4 (zm 21 1) (.take 5 (zm 22 5) (.take 6 (zs 23 (.iad 4 (.t 21) (.t 22))) (.take 7 (zs 24 (.ld true 4 (.t 23))) (.take 8 (zs 25 (.cms true [1, 1, 0, 0] (.t 20) (.t 24))) .nil))))))))) 0 [0, 1]) (.cond (.t 25) (.seq (.reg [(zs 4 (.mov (.c (.bl false))))]) .ret) .skip))) (.reg [(zm 15 5), (zs 16 (.ari .add .i64 (.t 15) (.c (.int .i64 1)))), (zm 5 16)])))))) (.seq (.reg [(zs 4 (.mov (.c (.bl true))))]) .ret))), [.tmp 4]⟩
def x35 : XFn := ⟨216, .seq (.reg [(zs 5 (.box 28 (.t 1))), (zs 8 (.mov (.c (.str ⟨#[]⟩))))]) (.seq (.seq (.dreg (.take 0 (zm 22 0) (.take 2 (zs 24 (.ld true 2 (.t 5))) (.eff 1 0 true (zs 23 (.call 25 [.t 22])) (.eff 3 0 false (zs 25 (.call 64 [.t 24])) (.phase [2] (.eff 4 0 false (zs 26 (.call 58 [.t 23, .t 25])) (.phase [2, 10] (.take 5 (zs 27 (.not (.t 26))) (.take 6 (zm 28 27) (.take 7 (zh 29 28 false 0) (.take 8 (zh 30 28 false 2) (.take 10 (zg 32 28 false (.ld true 2 (.t 5))) (.take 11 (zh 33 28 false 2) (.eff 9 0 true (zg 31 28 false (.call 65 [.t 29, .t 30])) (.eff 12 0 false (zg 34 28 false (.call 66 [.t 32, .t 33])) (.phase [2, 10] (.eff 13 0 false (zg 35 28 false (.call 58 [.t 31, .t 34])) (.phase [2, 10] (.take 14 (zg 36 28 false (.not (.t 35))) (.take 15 (zs 37 (.pick (.t 28) (.c (.bl true)) (.t 36))) .nil)))))))))))))))))))) 0 [5]) (.cond (.t 37) (.seq (.reg [(zs 8 (.mov (.c (.str ⟨#[98, 105, 108, 108, 115]⟩))))]) .ret) .skip)) (.seq (.reg [(zs 38 (.ld true 2 (.t 5))), (zm 39 3), (zs 40 (.call 67 [.t 38, .t 39])), (zm 9 40)]) (.seq (.reg [(zm 42 0), (zm 43 3), (zs 44 (.call 24 [.t 42, .t 43])), (zm 41 44), (zs 45 (.ext (.t 41) 0)), (zs 46 (.ext (.t 41) 1)), (zm 10 45), (zm 11 46)]) (.seq (.seq (.reg [(zm 47 11), (zm 48 9), (zs 49 (.cmp .geq (.t 48) (.c (.int .i64 0)))), (zs 50 (.cmb .neq (.t 47) (.t 49))), (zm 51 50), (zh 52 51 false 11), (zh 53 51 false 52), (zh 54 53 true 10), (zg 55 53 true (.fad 1 (.t 5))), (zg 56 53 true (.ld false 1 (.t 55))), (zh 57 53 true 9), (zg 58 53 true (.iad 11 (.t 56) (.t 57))), (zg 59 53 true (.fad 0 (.t 58))), (zg 60 53 true (.fad 0 (.t 59))), (zg 61 53 true (.ld false 1 (.t 60))), (zg 62 53 true (.cmp .neq (.t 54) (.t 61))), (zg 63 51 false (.pick (.t 53) (.t 62) (.c (.bl false)))), (zs 64 (.pick (.t 51) (.c (.bl true)) (.t 63))), (zm 65 64), (zh 66 65 false 11), (zg 67 65 false (.not (.t 66))), (zh 68 65 false 67), (zh 69 68 true 10), (zg 70 68 true (.cmp .neq (.t 69) (.c (.str ⟨#[]⟩)))), (zg 71 65 false (.pick (.t 68) (.t 70) (.c (.bl false)))), (zs 72 (.pick (.t 65) (.c (.bl true)) (.t 71)))]) (.cond (.t 72) (.seq (.reg [(zs 8 (.mov (.c (.str ⟨#[98, 111, 120]⟩))))]) .ret) .skip)) (.seq (.seq (.reg [(zs 12 (.mov (.c (.int .i64 0))))]) (.block 0 (.loop (.seq (.seq (.reg [(zm 73 12), (zf 74 1 5), (zl 75 74), (zs 76 (.lenl (.t 75))), (zs 77 (.cmp .lss (.t 73) (.t 76)))]) (.cond (.t 77) .skip (.exit 0))) (.seq (.block 1 (.seq (.reg [(zf 80 1 5), (zl 81 80), (zm 82 12), (zs 83 (.iad 11 (.t 81) (.t 82))), (zs 84 (.ld true 11 (.t 83))), (zs 13 (.alloc 110 [.str ⟨#[]⟩, .str ⟨#[]⟩, .str ⟨#[]⟩, .str ⟨#[]⟩, .str ⟨#[]⟩, .v (.slice none 0 0), .v (.slice none 0 0), .int .i64 0, .bl false, .int .i64 0, .v (.slice none 0 0)])), (zn (.st 11 (.t 13) (.t 84)))]) (.seq (.reg [(zm 86 0), (zf 87 0 13), (zf 88 0 87), (zl 89 88), (zs 90 (.call 16 [.t 86, .t 89])), (zm 85 90), (zs 91 (.ext (.t 85) 0)), (zs 92 (.ext (.t 85) 1)), (zs 14 (.alloc 34 [.str ⟨#[]⟩, .str ⟨#[]⟩, .str ⟨#[]⟩, .str ⟨#[]⟩, .str ⟨#[]⟩, .v (.slice none 0 0), .v (.slice none 0 0), .int .i64 0, .bl false])), (zn (.st 9 (.t 14) (.t 91))), (zm 15 92)]) (.seq (.reg [(zm 93 0), (zf 94 0 13), (zf 95 0 94), (zl 96 95), (zs 97 (.call 23 [.t 93, .t 96])), (zm 16 97)]) (.seq (.seq (.dreg (.take 0 (zm 98 15) (.take 1 (zs 99 (.not (.t 98))) (.take 2 (zm 100 99) (.take 3 (zg 101 100 false (.ld true 9 (.t 14))) (.take 4 (zg 102 100 false (.fad 0 (.t 13))) (.take 5 (zg 103 100 false (.ld true 9 (.t 102))) (.eff 6 0 false (zg 104 100 false (.call 37 [.t 101, .t 103])) (.phase [3, 5, 13, 16, 28, 31, 34] (.take 7 (zg 105 100 false (.not (.t 104))) (.take 8 (zs 106 (.pick (.t 100) (.c (.bl true)) (.t 105))) (.take 9 (zm 107 106) (.take 10 (zh 108 107 false 0) (.take 11 (zg 109 107 false (.fad 0 (.t 13))) (.take 12 (zg 110 107 false (.fad 0 (.t 109))) (.take 13 (zg 111 107 false (.ld false 1 (.t 110))) (.take 15 (zg 113 107 false (.fad 9 (.t 13))) (.take 16 (zg 114 107 false (.ld false 1 (.t 113))) (.eff 14 0 true (zg 112 107 false (.call 15 [.t 108, .t 111])) (.take 17 (zg 115 107 false (.cmp .neq (.t 112) (.t 114))) (.take 18 (zs 116 (.pick (.t 107) (.c (.bl true)) (.t 115))) (.take 19 (zm 117 116) (.take 20 (zh 118 117 false 16) (.take 21 (zg 119 117 false (.lenl (.t 118))) (.take 22 (zg 120 117 false (.cmp .neq (.t 119) (.c (.int .i64 3)))) (.take 23 (zs 121 (.pick (.t 117) (.c (.bl true)) (.t 120))) (.take 24 (zm 122 121) (.take 25 (zh 123 122 false 0) (.take 26 (zg 124 122 false (.fad 0 (.t 13))) (.take 27 (zg 125 122 false (.fad 0 (.t 124))) (.take 28 (zg 126 122 false (.ld false 1 (.t 125))) (.take 29 (zh 127 122 false 2) (.take 31 (zg 129 122 false (.ld true 2 (.t 5))) (.take 32 (zg 130 122 false (.fad 0 (.t 13))) (.take 33 (zg 131 122 false (.fad 0 (.t 130))) (.take 34 (zg 132 122 false (.ld false 1 (.t 131))) (.take 35 (zh 133 122 false 2) (.eff 30 0 true (zg 128 122 false (.call 32 [.t 123, .t 126, .t 127])) (.eff 36 0 false (zg 134 122 false (.call 68 [.t 129, .t 132, .t 133])) (.phase [3, 5, 13, 16, 28, 31, 34] (.take 37 (zg 135 122 false (.cmb .neq (.t 128) (.t 134))) (.take 38 (zs 136 (.pick (.t 122) (.c (.bl true)) (.t 135))) .nil))))))))))))))))))))))))))))))))))))))))) 0 [14, 13, 16, 5]) (.cond (.t 136) (.seq (.reg [(zs 8 (.mov (.c (.str ⟨#[98, 105, 108, 108]⟩))))]) .ret) .skip)) (.seq (.reg [(zs 17 (.mov (.c (.int .i64 0))))]) (.block 2 (.loop (.seq (.seq (.reg [(zm 137 17), (zs 138 (.cmp .lss (.t 137) (.c (.int .i64 3))))]) (.cond (.t 138) .skip (.exit 2))) (.seq (.block 3 (.seq (.reg [(zf 141 10 13), (zl 142 141), (zm 143 17), (zs 144 (.iad 3 (.t 142) (.t 143))), (zs 145 (.ld true 3 (.t 144))), (zs 18 (.alloc 122 [.int .i64 0, .str ⟨#[]⟩, .v (.slice none 0 0)])), (zn (.st 3 (.t 18) (.t 145)))]) (.seq (.reg [(zm 147 0), (zf 148 0 13), (zf 149 0 148), (zl 150 149), (zm 151 17), (zs 152 (.call 33 [.t 147, .t 150, .t 151])), (zm 146 152), (zs 153 (.ext (.t 146) 0)), (zs 154 (.ext (.t 146) 1)), (zm 19 153), (zm 20 154)]) (.seq (.reg [(zf 155 9 13), (zl 156 155), (zs 157 (.cmp .eql (.t 156) (.c (.int .i64 0)))), (zm 158 157), (zg 159 158 true (.fad 0 (.t 18))), (zg 160 158 true (.ld false 1 (.t 159))), (zg 161 158 true (.cmp .eql (.t 160) (.c (.int .i64 0)))), (zh 162 158 true 161), (zg 163 162 false (.fad 0 (.t 18))), (zg 164 162 false (.ld false 1 (.t 163))), (zg 165 162 false (.cmp .eql (.t 164) (.c (.int .i64 3)))), (zg 166 158 true (.pick (.t 162) (.c (.bl true)) (.t 165))), (zs 167 (.pick (.t 158) (.t 166) (.c (.bl false)))), (zm 21 167)]) (.seq (.dreg (.take 0 (zm 168 16) (.take 1 (zm 169 17) (.take 2 (zs 170 (.iad 4 (.t 168) (.t 169))) (.take 3 (zs 171 (.ld true 4 (.t 170))) (.take 4 (zf 172 0 13) (.take 5 (zf 173 0 172) (.take 6 (zl 174 173) (.take 7 (zm 175 17) (.take 8 (zf 176 0 18) (.take 9 (zl 177 176) (.take 10 (zf 178 1 18) (.take 11 (zl 179 178) (.take 12 (zs 180 (.bld [.str ⟨#[]⟩, .int .i64 0, .int .i64 0, .str ⟨#[]⟩] [(0, (1, .t 174)), (1, (1, .t 175)), (2, (1, .t 177)), (3, (1, .t 179))])) (.take 13 (zs 181 (.cms true [1, 0, 0, 1] (.t 171) (.t 180))) (.take 14 (zm 182 181) (.take 15 (zh 183 182 false 20) (.take 16 (zh 184 182 false 21) (.take 17 (zg 185 182 false (.cmb .neq (.t 183) (.t 184))) (.take 18 (zs 186 (.pick (.t 182) (.c (.bl true)) (.t 185))) (.take 19 (zm 187 186) (.take 20 (zh 188 187 false 20) (.take 21 (zh 189 187 false 188) (.take 22 (zh 190 189 true 19) (.take 23 (zg 191 189 true (.fad 1 (.t 18))) (.take 24 (zg 192 189 true (.ld false 1 (.t 191))) (.take 25 (zg 193 189 true (.cmp .neq (.t 190) (.t 192))) (.take 26 (zg 194 187 false (.pick (.t 189) (.t 193) (.c (.bl false)))) (.take 27 (zs 195 (.pick (.t 187) (.c (.bl true)) (.t 194))) (.take 28 (zm 196 195) (.take 29 (zh 197 196 false 20) (.take 30 (zg 198 196 false (.not (.t 197))) (.take 31 (zh 199 196 false 198) (.take 32 (zh 200 199 true 19) (.take 33 (zg 201 199 true (.cmp .neq (.t 200) (.c (.str ⟨#[]⟩)))) (.take 34 (zg 202 196 false (.pick (.t 199) (.t 201) (.c (.bl false)))) (.take 35 (zs 203 (.pick (.t 196) (.c (.bl true)) (.t 202))) (.take 36 (zm 204 203) (.take 37 (zh 205 204 false 0) (.take 38 (zg 206 204 false (.fad 0 (.t 13))) (.take 39 (zg 207 204 false (.fad 0 (.t 206))) (.take 40 (zg 208 204 false (.ld false 1 (.t 207))) (.take 41 (zh 209 204 false 17) (.take 43 (zg 211 204 false (.fad 2 (.t 18))) (.take 44 (zg 212 204 false (.ld false 1 (.t 211))) (.eff 42 0 true (zg 210 204 false (.call 28 [.t 205, .t 208, .t 209])) (.eff 45 0 false (zg 213 204 false (.call 34 [.t 210, .t 212])) (.phase [3, 6, 9, 11, 24, 40, 44] (.take 46 (zg 214 204 false (.not (.t 213))) (.take 47 (zs 215 (.pick (.t 204) (.c (.bl true)) (.t 214))) .nil))))))))))))))))))))))))))))))))))))))))))))))))) 0 [16, 13, 18]) (.cond (.t 215) (.seq (.reg [(zs 8 (.mov (.c (.str ⟨#[111, 114, 105, 103, 105, 110, 97, 108]⟩))))]) .ret) .skip)))))) (.reg [(zm 139 17), (zs 140 (.ari .add .i64 (.t 139) (.c (.int .i64 1)))), (zm 17 140)]))))))))))) (.reg [(zm 78 12), (zs 79 (.ari .add .i64 (.t 78) (.c (.int .i64 1)))), (zm 12 79)])))))) (.seq (.reg [(zs 8 (.mov (.c (.str ⟨#[]⟩))))]) .ret)))))), [.tmp 8]⟩
def x36 : XFn := ⟨23, .seq (.reg [(zs 2 (.box 28 (.t 0))), (zs 4 (.mov (.c (.int .i64 0))))]) (.seq (.seq (.reg [(zs 5 (.mov (.c (.int .i64 0))))]) (.block 0 (.loop (.seq (.seq (.reg [(zm 6 5), (zf 7 1 2), (zl 8 7), (zs 9 (.lenl (.t 8))), (zs 10 (.cmp .lss (.t 6) (.t 9)))]) (.cond (.t 10) .skip (.exit 0))) (.seq (.block 1 (.seq (.reg [(zf 13 1 2), (zl 14 13), (zm 15 5), (zs 16 (.iad 11 (.t 14) (.t 15))), (zf 17 0 16), (zf 18 0 17), (zl 19 18), (zm 20 1), (zs 21 (.cmp .eql (.t 19) (.t 20)))]) (.cond (.t 21) (.seq (.reg [(zm 22 5), (zm 4 22)]) .ret) .skip))) (.reg [(zm 11 5), (zs 12 (.ari .add .i64 (.t 11) (.c (.int .i64 1)))), (zm 5 12)])))))) (.seq (.reg [(zs 4 (.mov (.c (.int .i64 (-1)))))]) .ret)), [.tmp 4]⟩
def x37 : XFn := ⟨66, .seq (.reg [(zs 2 (.box 34 (.t 0))), (zs 3 (.box 34 (.t 1))), (zs 4 (.mov (.c (.bl false))))]) (.seq (.reg [(zf 5 0 2), (zl 6 5), (zf 7 0 3), (zl 8 7), (zs 9 (.cmp .eql (.t 6) (.t 8))), (zm 10 9), (zg 11 10 true (.fad 1 (.t 2))), (zg 12 10 true (.ld false 1 (.t 11))), (zg 13 10 true (.fad 1 (.t 3))), (zg 14 10 true (.ld false 1 (.t 13))), (zg 15 10 true (.cmp .eql (.t 12) (.t 14))), (zs 16 (.pick (.t 10) (.t 15) (.c (.bl false)))), (zm 17 16), (zg 18 17 true (.fad 2 (.t 2))), (zg 19 17 true (.ld false 1 (.t 18))), (zg 20 17 true (.fad 2 (.t 3))), (zg 21 17 true (.ld false 1 (.t 20))), (zg 22 17 true (.cmp .eql (.t 19) (.t 21))), (zs 23 (.pick (.t 17) (.t 22) (.c (.bl false)))), (zm 24 23), (zg 25 24 true (.fad 3 (.t 2))), (zg 26 24 true (.ld false 1 (.t 25))), (zg 27 24 true (.fad 3 (.t 3))), (zg 28 24 true (.ld false 1 (.t 27))), (zg 29 24 true (.cmp .eql (.t 26) (.t 28))), (zs 30 (.pick (.t 24) (.t 29) (.c (.bl false)))), (zm 31 30), (zg 32 31 true (.fad 4 (.t 2))), (zg 33 31 true (.ld false 1 (.t 32))), (zg 34 31 true (.fad 4 (.t 3))), (zg 35 31 true (.ld false 1 (.t 34))), (zg 36 31 true (.cmp .eql (.t 33) (.t 35))), (zs 37 (.pick (.t 31) (.t 36) (.c (.bl false)))), (zm 38 37), (zg 39 38 true (.fad 5 (.t 2))), (zg 40 38 true (.ld false 1 (.t 39))), (zg 41 38 true (.fad 5 (.t 3))), (zg 42 38 true (.ld false 1 (.t 41))), (zg 43 38 true (.call 58 [.t 40, .t 42])), (zs 44 (.pick (.t 38) (.t 43) (.c (.bl false)))), (zm 45 44), (zg 46 45 true (.fad 6 (.t 2))), (zg 47 45 true (.ld false 1 (.t 46))), (zg 48 45 true (.fad 6 (.t 3))), (zg 49 45 true (.ld false 1 (.t 48))), (zg 50 45 true (.call 58 [.t 47, .t 49])), (zs 51 (.pick (.t 45) (.t 50) (.c (.bl false)))), (zm 52 51), (zg 53 52 true (.fad 7 (.t 2))), (zg 54 52 true (.ld false 1 (.t 53))), (zg 55 52 true (.fad 7 (.t 3))), (zg 56 52 true (.ld false 1 (.t 55))), (zg 57 52 true (.cmp .eql (.t 54) (.t 56))), (zs 58 (.pick (.t 52) (.t 57) (.c (.bl false)))), (zm 59 58), (zg 60 59 true (.fad 8 (.t 2))), (zg 61 59 true (.ld false 1 (.t 60))), (zg 62 59 true (.fad 8 (.t 3))), (zg 63 59 true (.ld false 1 (.t 62))), (zg 64 59 true (.cmb .eql (.t 61) (.t 63))), (zs 65 (.pick (.t 59) (.t 64) (.c (.bl false)))), (zm 4 65)]) .ret), [.tmp 4]⟩
def x38 : XFn := ⟨67, .seq (.reg [(zs 2 (.mov (.c (.bl false))))]) (.seq (.seq (.reg [(zs 3 (.mov (.c (.int .i64 0))))]) (.block 0 (.loop (.seq (.seq (.reg [(zm 5 3), (zm 6 0), (zs 7 (.lenl (.t 6))), (zs 8 (.cmp .lss (.t 5) (.t 7)))]) (.cond (.t 8) .skip (.exit 0))) (.seq (.block 1 (.seq (.reg [(zm 11 0), (zm 12 3), (zs 13 (.iad 15 (.t 11) (.t 12))), (zs 14 (.ld true 15 (.t 13))), (zs 4 (.alloc 38 [.int .i64 0, .int .i64 0, .int .i64 0, .str ⟨#[]⟩, .str ⟨#[]⟩, .str ⟨#[]⟩, .str ⟨#[]⟩, .str ⟨#[]⟩, .str ⟨#[]⟩, .str ⟨#[]⟩, .str ⟨#[]⟩, .v (.slice none 0 0), .v (.slice none 0 0), .int .i64 0, .bl false])), (zn (.st 15 (.t 4) (.t 14)))]) (.seq (.reg [(zm 15 3), (zs 16 (.cmp .gtr (.t 15) (.c (.int .i64 40)))), (zm 17 16), (zg 18 17 false (.fad 3 (.t 4))), (zg 19 17 false (.ld false 1 (.t 18))), (zg 20 17 false (.lens (.t 19))), (zg 21 17 false (.fad 4 (.t 4))), (zg 22 17 false (.ld false 1 (.t 21))), (zg 23 17 false (.lens (.t 22))), (zg 24 17 false (.ari .add .i64 (.t 20) (.t 23))), (zg 25 17 false (.fad 5 (.t 4))), (zg 26 17 false (.ld false 1 (.t 25))), (zg 27 17 false (.lens (.t 26))), (zg 28 17 false (.ari .add .i64 (.t 24) (.t 27))), (zg 29 17 false (.cmp .gtr (.t 28) (.c (.int .i64 200)))), (zs 30 (.pick (.t 17) (.c (.bl true)) (.t 29))), (zm 31 30), (zg 32 31 false (.fad 6 (.t 4))), (zg 33 31 false (.fad 5 (.t 32))), (zg 34 31 false (.ld false 1 (.t 33))), (zg 35 31 false (.lenl (.t 34))), (zg 36 31 false (.cmp .gtr (.t 35) (.c (.int .i64 70)))), (zs 37 (.pick (.t 31) (.c (.bl true)) (.t 36))), (zm 38 37), (zg 39 38 false (.fad 6 (.t 4))), (zg 40 38 false (.fad 6 (.t 39))), (zg 41 38 false (.ld false 1 (.t 40))), (zg 42 38 false (.lenl (.t 41))), (zg 43 38 false (.cmp .gtr (.t 42) (.c (.int .i64 70)))), (zs 44 (.pick (.t 38) (.c (.bl true)) (.t 43))), (zm 45 44), (zg 46 45 false (.fad 6 (.t 4))), (zg 47 45 false (.fad 0 (.t 46))), (zg 48 45 false (.ld false 1 (.t 47))), (zg 49 45 false (.lens (.t 48))), (zg 50 45 false (.fad 6 (.t 4))), (zg 51 45 false (.fad 2 (.t 50))), (zg 52 45 false (.ld false 1 (.t 51))), (zg 53 45 false (.lens (.t 52))), (zg 54 45 false (.ari .add .i64 (.t 49) (.t 53))), (zg 55 45 false (.fad 6 (.t 4))), (zg 56 45 false (.fad 3 (.t 55))), (zg 57 45 false (.ld false 1 (.t 56))), (zg 58 45 false (.lens (.t 57))), (zg 59 45 false (.ari .add .i64 (.t 54) (.t 58))), (zg 60 45 false (.fad 6 (.t 4))), (zg 61 45 false (.fad 4 (.t 60))), (zg 62 45 false (.ld false 1 (.t 61))), (zg 63 45 false (.lens (.t 62))), (zg 64 45 false (.ari .add .i64 (.t 59) (.t 63))), (zg 65 45 false (.cmp .gtr (.t 64) (.c (.int .i64 300)))), (zs 66 (.pick (.t 45) (.c (.bl true)) (.t 65)))]) (.cond (.t 66) (.seq (.reg [(zs 2 (.mov (.c (.bl false))))]) .ret) .skip)))) (.reg [(zm 9 3), (zs 10 (.ari .add .i64 (.t 9) (.c (.int .i64 1)))), (zm 3 10)])))))) (.seq (.reg [(zs 2 (.mov (.c (.bl true))))]) .ret)), [.tmp 2]⟩
def x39 : XFn := ⟨12, .seq (.reg [(zs 1 (.box 34 (.t 0))), (zs 2 (.alloc 34 [.str ⟨#[]⟩, .str ⟨#[]⟩, .str ⟨#[]⟩, .str ⟨#[]⟩, .str ⟨#[]⟩, .v (.slice none 0 0), .v (.slice none 0 0), .int .i64 0, .bl false]))]) (.seq (.reg [(zf 3 5 1), (zl 4 3), (zs 5 (.call 52 [.t 4])), (zf 6 5 1), (zn (.st 1 (.t 6) (.t 5)))]) (.seq (.reg [(zf 7 6 1), (zl 8 7), (zs 9 (.call 52 [.t 8])), (zf 10 6 1), (zn (.st 1 (.t 10) (.t 9)))]) (.seq (.reg [(zs 11 (.ld true 9 (.t 1))), (zn (.st 9 (.t 2) (.t 11)))]) .ret))), [.cell 2 true 9]⟩
def x40 : XFn := ⟨17, .seq (.reg [(zs 2 (.mov (.c (.int .i64 0))))]) (.seq (.seq (.reg [(zm 5 0), (zs 6 (.lenl (.t 5))), (zs 7 (.mov (.c (.int .i64 0))))]) (.block 0 (.loop (.seq (.reg [(zs 8 (.cmp .lss (.t 7) (.t 6)))]) (.seq (.cond (.t 8) .skip (.exit 0)) (.seq (.block 1 (.seq (.reg [(zs 9 (.iad 2 (.t 5) (.t 7))), (zs 10 (.ld true 2 (.t 9))), (zs 4 (.alloc 91 [.int .i64 0, .v .nilFunc])), (zn (.st 2 (.t 4) (.t 10)))]) (.seq (.reg [(zf 11 1 4), (zl 12 11), (zs 13 (.cav (.t 12) []))]) (.cond (.t 13) (.seq (.reg [(zf 14 0 4), (zl 15 14), (zm 2 15)]) .ret) .skip)))) (.reg [(zs 16 (.ari .add .i64 (.t 7) (.c (.int .i64 1)))), (zm 7 16)]))))))) (.seq (.reg [(zs 2 (.mov (.c (.int .i64 0))))]) .ret)), [.tmp 2]⟩
def x41 : XFn := ⟨13, .seq (.reg [(zs 3 (.mov (.c (.bl false))))]) (.seq (.reg [(zl 4 0), (zs 5 (.ld true 9 (.t 1))), (zs 6 (.call 42 [.t 4, .t 5])), (zs 7 (.not (.t 6))), (zm 8 7), (zg 9 8 false (.ld false 1 (.t 2))), (zg 10 8 false (.call 43 [.t 9])), (zg 11 8 false (.not (.t 10))), (zs 12 (.pick (.t 8) (.c (.bl true)) (.t 11))), (zm 3 12)]) .ret), [.tmp 3]⟩
def x42 : XFn := ⟨85, .seq (.reg [(zs 3 (.box 34 (.t 1))), (zs 4 (.mov (.c (.bl false))))]) (.seq (.seq (.reg [(zf 8 0 3), (zl 9 8), (zs 10 (.call 43 [.t 9])), (zs 11 (.not (.t 10))), (zm 12 11), (zg 13 12 false (.fad 2 (.t 3))), (zg 14 12 false (.ld false 1 (.t 13))), (zg 15 12 false (.call 43 [.t 14])), (zg 16 12 false (.not (.t 15))), (zs 17 (.pick (.t 12) (.c (.bl true)) (.t 16))), (zm 18 17), (zg 19 18 false (.fad 3 (.t 3))), (zg 20 18 false (.ld false 1 (.t 19))), (zg 21 18 false (.call 43 [.t 20])), (zg 22 18 false (.not (.t 21))), (zs 23 (.pick (.t 18) (.c (.bl true)) (.t 22))), (zm 24 23), (zg 25 24 false (.fad 4 (.t 3))), (zg 26 24 false (.ld false 1 (.t 25))), (zg 27 24 false (.call 43 [.t 26])), (zg 28 24 false (.not (.t 27))), (zs 29 (.pick (.t 24) (.c (.bl true)) (.t 28)))]) (.cond (.t 29) (.seq (.reg [(zs 4 (.mov (.c (.bl false))))]) .ret) .skip)) (.seq (.seq (.dreg (.take 0 (zf 30 1 3) (.take 1 (zl 31 30) (.take 2 (zm 32 0) (.take 3 (zs 33 (.nck (.t 32))) (.take 4 (zf 34 0 33) (.take 5 (zl 35 34) (.take 6 (zs 36 (.cmp .neq (.t 31) (.t 35))) (.take 7 (zm 37 36) (.take 8 (zg 38 37 false (.fad 7 (.t 3))) (.take 9 (zg 39 37 false (.ld false 1 (.t 38))) (.eff 10 0 false (zg 40 37 false (.call 69 [.t 39])) (.phase [1, 5, 9] (.take 11 (zg 41 37 false (.not (.t 40))) (.take 12 (zs 42 (.pick (.t 37) (.c (.bl true)) (.t 41))) .nil)))))))))))))) 0 [3, 0]) (.cond (.t 42) (.seq (.reg [(zs 4 (.mov (.c (.bl false))))]) .ret) .skip)) (.seq (.seq (.reg [(zf 43 5 3), (zl 44 43), (zs 45 (.lenl (.t 44))), (zs 46 (.cmp .lss (.t 45) (.c (.int .i64 1)))), (zm 47 46), (zg 48 47 false (.fad 5 (.t 3))), (zg 49 47 false (.ld false 1 (.t 48))), (zg 50 47 false (.lenl (.t 49))), (zg 51 47 false (.cmp .gtr (.t 50) (.c (.int .i64 64)))), (zs 52 (.pick (.t 47) (.c (.bl true)) (.t 51))), (zm 53 52), (zg 54 53 false (.fad 6 (.t 3))), (zg 55 53 false (.ld false 1 (.t 54))), (zg 56 53 false (.lenl (.t 55))), (zg 57 53 false (.cmp .gtr (.t 56) (.c (.int .i64 64)))), (zs 58 (.pick (.t 53) (.c (.bl true)) (.t 57)))]) (.cond (.t 58) (.seq (.reg [(zs 4 (.mov (.c (.bl false))))]) .ret) .skip)) (.seq (.reg [(zf 59 5 3), (zl 60 59), (zs 61 (.lenl (.t 60))), (zs 62 (.mkr 54 (.t 61))), (zm 5 62)]) (.seq (.seq (.reg [(zf 63 5 3), (zl 64 63), (zs 65 (.lenl (.t 64))), (zs 66 (.mov (.c (.int .i64 0))))]) (.block 0 (.loop (.seq (.reg [(zs 67 (.cmp .lss (.t 66) (.t 65)))]) (.seq (.cond (.t 67) .skip (.exit 0)) (.seq (.block 1 (.seq (.reg [(zs 68 (.iad 1 (.t 64) (.t 66))), (zl 69 68), (zm 7 69)]) (.seq (.seq (.reg [(zm 70 7), (zs 71 (.call 70 [.t 70])), (zs 72 (.not (.t 71))), (zm 73 72), (zh 74 73 false 5), (zh 75 73 false 7), (zg 76 73 false (.lkp none false (.bl false) (.t 74) (.t 75))), (zs 77 (.pick (.t 73) (.c (.bl true)) (.t 76)))]) (.cond (.t 77) (.seq (.reg [(zs 4 (.mov (.c (.bl false))))]) .ret) .skip)) (.reg [(zm 78 5), (zm 79 7), (zn (.upd none (.t 78) (.t 79) (.c (.bl true))))])))) (.reg [(zs 80 (.ari .add .i64 (.t 66) (.c (.int .i64 1)))), (zm 66 80)]))))))) (.seq (.reg [(zf 81 6 3), (zl 82 81), (zs 83 (.call 46 [.t 82, .c (.clo 71 [])])), (zs 84 (.not (.t 83))), (zm 4 84)]) .ret)))))), [.tmp 4]⟩
def x43 : XFn := ⟨36, .seq (.reg [(zs 2 (.mov (.c (.bl false))))]) (.seq (.seq (.reg [(zm 4 0), (zs 5 (.lens (.t 4))), (zs 6 (.cmp .lss (.t 5) (.c (.int .i64 1)))), (zm 7 6), (zh 8 7 false 0), (zg 9 7 false (.lens (.t 8))), (zg 10 7 false (.cmp .gtr (.t 9) (.c (.int .i64 16)))), (zs 11 (.pick (.t 7) (.c (.bl true)) (.t 10)))]) (.cond (.t 11) (.seq (.reg [(zs 2 (.mov (.c (.bl false))))]) .ret) .skip)) (.seq (.seq (.reg [(zm 12 0), (zs 13 (.lens (.t 12))), (zs 14 (.mov (.c (.int .i64 0))))]) (.block 0 (.loop (.seq (.reg [(zs 15 (.cmp .lss (.t 14) (.t 13)))]) (.seq (.cond (.t 15) .skip (.exit 0)) (.seq (.block 1 (.seq (.reg [(zm 16 14), (zm 3 16)]) (.seq (.reg [(zm 17 0), (zm 18 3), (zs 19 (.idx (.t 17) (.t 18))), (zs 20 (.call 72 [.t 19])), (zs 21 (.not (.t 20))), (zm 22 21), (zh 23 22 true 0), (zh 24 22 true 3), (zg 25 22 true (.idx (.t 23) (.t 24))), (zg 26 22 true (.call 73 [.t 25])), (zg 27 22 true (.not (.t 26))), (zs 28 (.pick (.t 22) (.t 27) (.c (.bl false)))), (zm 29 28), (zh 30 29 true 0), (zh 31 29 true 3), (zg 32 29 true (.idx (.t 30) (.t 31))), (zg 33 29 true (.cmp .neq (.t 32) (.c (.int .u8 45)))), (zs 34 (.pick (.t 29) (.t 33) (.c (.bl false))))]) (.cond (.t 34) (.seq (.reg [(zs 2 (.mov (.c (.bl false))))]) .ret) .skip)))) (.reg [(zs 35 (.ari .add .i64 (.t 14) (.c (.int .i64 1)))), (zm 14 35)]))))))) (.seq (.reg [(zs 2 (.mov (.c (.bl true))))]) .ret))), [.tmp 2]⟩
def x44 : XFn := ⟨11, .seq (.reg [(zs 2 (.mov (.c (.bl false))))]) (.seq (.dreg (.take 0 (zl 3 0) (.take 1 (zs 4 (.nck (.t 3))) (.take 2 (zf 5 1 4) (.take 3 (zl 6 5) (.take 4 (zf 7 0 1) (.take 5 (zl 8 7) (.eff 6 0 false (zs 9 (.plk none false (.v (.pointer none)) (.t 6) (.t 8))) (.phase [0, 3, 5] (.take 7 (zs 10 (.cmn true (.t 9))) (.take 8 (zm 2 10) .nil)))))))))) 0 [0, 1]) .ret), [.tmp 2]⟩
def x45 : XFn := ⟨7, .seq (.reg [(zs 2 (.mov (.c (.bl false))))]) (.seq (.reg [(zf 3 5 0), (zl 4 3), (zs 5 (.mkf 47 [.t 1])), (zs 6 (.call 46 [.t 4, .t 5])), (zm 2 6)]) .ret), [.tmp 2]⟩
def x46 : XFn := ⟨9, .seq (.reg [(zs 4 (.mov (.c (.bl false))))]) (.seq (.reg [(zm 5 0), (zm 6 1), (zs 7 (.call 74 [.t 5, .t 6])), (zs 8 (.cmp .geq (.t 7) (.c (.int .i64 0)))), (zm 4 8)]) .ret), [.tmp 4]⟩
def x47 : XFn := ⟨13, .seq (.reg [(zs 3 (.mov (.c (.bl false))))]) (.seq (.reg [(zl 7 1), (zm 8 0), (zs 9 (.call 24 [.t 7, .t 8])), (zm 6 9), (zs 10 (.ext (.t 6) 0)), (zs 11 (.ext (.t 6) 1)), (zm 4 10), (zm 5 11)]) (.seq (.reg [(zm 12 5), (zm 3 12)]) .ret)), [.tmp 3]⟩
def x48 : XFn := ⟨8, .seq (.reg [(zs 1 (.mov (.c (.bl false))))]) (.seq (.reg [(zl 2 0), (zs 3 (.nck (.t 2))), (zf 4 1 3), (zl 5 4), (zs 6 (.lenm (.t 5))), (zs 7 (.cmp .geq (.t 6) (.c (.int .i64 256)))), (zm 1 7)]) .ret), [.tmp 1]⟩
def x49 : XFn := ⟨27, .seq (.reg [(zs 3 (.box 95 (.t 1))), (zs 4 (.mov (.c (.int .i64 0))))]) (.seq (.dreg (.take 0 (zm 6 0) (.take 1 (zs 7 (.nck (.t 6))) (.take 2 (zf 8 1 7) (.take 3 (zl 9 8) (.take 4 (zf 10 0 3) (.take 5 (zl 11 10) (.fork (.eff 6 0 true (zs 12 (.plk none false (.v (.pointer none)) (.t 9) (.t 11))) (.eff 7 0 true (zs 5 (.alloc 77 [.v (.pointer none)])) (.eff 8 1 false (zn (.st 1 (.t 5) (.t 12))) (.phase [3, 5] .nil)))) (.eff 7 0 true (zs 5 (.alloc 77 [.v (.pointer none)])) (.eff 6 0 false (zs 12 (.plk none false (.v (.pointer none)) (.t 9) (.t 11))) (.eff 8 1 false (zn (.st 1 (.t 5) (.t 12))) (.phase [3, 5] .nil))))))))))) 1 [0, 3]) (.seq (.reg [(zs 13 (.mkf 75 [.t 5])), (zs 14 (.bld [.int .i64 0, .v .nilFunc] [(0, (1, .c (.int .i64 4))), (1, (1, .t 13))])), (zs 15 (.mkf 76 [.t 3])), (zs 16 (.bld [.int .i64 0, .v .nilFunc] [(0, (1, .c (.int .i64 3))), (1, (1, .t 15))])), (zs 17 (.mkf 77 [.t 3])), (zs 18 (.bld [.int .i64 0, .v .nilFunc] [(0, (1, .c (.int .i64 1))), (1, (1, .t 17))])), (zs 19 (.mkf 78 [.t 5, .t 3])), (zs 20 (.bld [.int .i64 0, .v .nilFunc] [(0, (1, .c (.int .i64 9))), (1, (1, .t 19))])), (zs 21 (.mkf 80 [.t 5, .t 3])), (zs 22 (.bld [.int .i64 0, .v .nilFunc] [(0, (1, .c (.int .i64 8))), (1, (1, .t 21))])), (zs 23 (.mkf 82 [.t 3, .t 5])), (zs 24 (.bld [.int .i64 0, .v .nilFunc] [(0, (1, .c (.int .i64 6))), (1, (1, .t 23))])), (zs 25 (.bsl 91 2 6 [.int .i64 0, .v .nilFunc] [(0, .t 14), (1, .t 16), (2, .t 18), (3, .t 20), (4, .t 22), (5, .t 24)])), (zs 26 (.call 40 [.t 25])), (zm 4 26)]) .ret)), [.tmp 4]⟩
def x50 : XFn := ⟨16, .seq (.reg [(zs 4 (.mov (.c (.str ⟨#[]⟩))))]) (.seq (.reg [(zm 9 0), (zm 10 1), (zs 11 (.call 29 [.t 9, .t 10])), (zm 8 11), (zs 12 (.ext (.t 8) 0)), (zs 13 (.ext (.t 8) 1)), (zs 14 (.ext (.t 8) 2)), (zm 5 12), (zm 6 13), (zm 7 14)]) (.seq (.reg [(zm 15 5), (zm 4 15)]) .ret)), [.tmp 4]⟩
def x51 : XFn := ⟨19, .seq (.reg [(zm 5 0), (zm 6 1), (zs 7 (.nck (.t 5))), (zf 8 9 7), (zn (.st 1 (.t 8) (.t 6)))]) (.seq (.reg [(zs 9 (.mov (.c (.int .i64 0))))]) (.block 0 (.loop (.seq (.reg [(zs 10 (.cmp .lss (.t 9) (.c (.int .i64 3))))]) (.seq (.cond (.t 10) .skip (.exit 0)) (.seq (.block 1 (.seq (.reg [(zm 11 9), (zm 4 11)]) (.reg [(zm 12 0), (zm 13 4), (zs 14 (.nck (.t 12))), (zf 15 10 14), (zs 16 (.aia 3 3 (.t 15) (.t 13))), (zf 17 0 16), (zn (.st 1 (.t 17) (.c (.int .i64 2))))]))) (.reg [(zs 18 (.ari .add .i64 (.t 9) (.c (.int .i64 1)))), (zm 9 18)]))))))), []⟩
def x52 : XFn := ⟨8, .seq (.reg [(zs 2 (.mov (.c (.v (.slice none 0 0)))))]) (.seq (.seq (.reg [(zm 3 0), (zs 4 (.nils false (.t 3)))]) (.cond (.t 4) (.seq (.reg [(zs 2 (.mov (.c (.v (.slice none 0 0)))))]) .ret) .skip)) (.seq (.reg [(zs 5 (.bsl 9 1 0 [.str ⟨#[]⟩] [])), (zm 6 0), (zs 7 (.app 32 32 9 1 16 (.t 5) (.t 6))), (zm 2 7)]) .ret)), [.tmp 2]⟩
def x53 : XFn := ⟨28, .seq (.reg [(zs 4 (.mov (.c (.v (.slice none 0 0)))))]) (.seq (.reg [(zs 5 (.mov (.c (.v (.slice none 0 0)))))]) (.seq (.seq (.reg [(zm 8 0), (zs 9 (.nck (.t 8))), (zf 10 1 9), (zl 11 10), (zs 12 (.rng (.t 11)))]) (.block 0 (.loop (.seq (.reg [(zs 13 (.nxt (.t 12))), (zs 14 (.ext (.t 13) 0))]) (.seq (.cond (.t 14) .skip (.exit 0)) (.block 1 (.seq (.reg [(zs 15 (.ent (.t 12))), (zs 16 (.ext (.t 15) 0)), (zs 17 (.ext (.t 15) 1)), (zm 6 16), (zm 7 17)]) (.seq (.reg [(zm 18 1), (zm 19 7), (zs 20 (.cav (.t 18) [.t 19]))]) (.cond (.t 20) (.reg [(zm 21 5), (zm 22 6), (zs 23 (.bsl 9 1 1 [.str ⟨#[]⟩] [(0, .t 22)])), (zs 24 (.app 32 32 9 1 16 (.t 21) (.t 23))), (zm 5 24)]) .skip))))))))) (.seq (.reg [(zm 25 5), (zs 26 (.call 85 [.t 25]))]) (.seq (.reg [(zm 27 5), (zm 4 27)]) .ret)))), [.tmp 4]⟩
def x54 : XFn := ⟨18, .seq (.reg [(zs 3 (.mov (.c (.bl false))))]) (.seq (.dreg (.take 0 (zm 4 0) (.take 1 (zs 5 (.nck (.t 4))) (.take 2 (zf 6 9 5) (.take 3 (zl 7 6) (.take 4 (zs 8 (.cmp .eql (.t 7) (.c (.int .i64 0)))) (.take 5 (zm 9 8) (.take 6 (zh 10 9 true 0) (.take 7 (zg 11 9 true (.nck (.t 10))) (.take 8 (zg 12 9 true (.fad 0 (.t 11))) (.take 9 (zg 13 9 true (.fad 5 (.t 12))) (.take 10 (zg 14 9 true (.ld false 1 (.t 13))) (.take 11 (zg 15 9 true (.ld false 1 (.t 1))) (.eff 12 0 false (zg 16 9 true (.call 55 [.t 14, .t 15])) (.phase [3, 10, 11] (.take 13 (zs 17 (.pick (.t 9) (.t 16) (.c (.bl false)))) (.take 14 (zm 3 17) .nil)))))))))))))))) 0 [0, 1]) .ret), [.tmp 3]⟩
def x55 : XFn := ⟨9, .seq (.reg [(zs 4 (.mov (.c (.bl false))))]) (.seq (.reg [(zm 5 0), (zm 6 1), (zs 7 (.call 86 [.t 5, .t 6])), (zs 8 (.cmp .geq (.t 7) (.c (.int .i64 0)))), (zm 4 8)]) .ret), [.tmp 4]⟩
def x56 : XFn := ⟨3, .seq (.reg [(zs 2 (.mov (.c (.bl false))))]) (.seq (.reg [(zs 2 (.mov (.c (.bl true))))]) .ret), [.tmp 2]⟩
def x57 : XFn := ⟨139, .seq (.reg [(zs 2 (.box 28 (.t 0))), (zs 3 (.box 38 (.t 1))), (zs 4 (.alloc 28 [.str ⟨#[]⟩, .v (.slice none 0 0)])), (zs 5 (.mov (.c (.int .i64 0))))]) (.seq (.seq (.reg [(zf 14 0 3), (zl 15 14), (zs 16 (.cmp .eql (.t 15) (.c (.int .i64 0))))]) (.cond (.t 16) (.seq (.reg [(zs 17 (.ld true 2 (.t 2))), (zf 18 6 3), (zs 19 (.ld true 9 (.t 18))), (zf 20 5 3), (zl 21 20), (zs 22 (.call 87 [.t 17, .t 19, .t 21])), (zs 23 (.ext (.t 22) 0)), (zs 24 (.ext (.t 22) 1)), (zn (.st 2 (.t 4) (.t 23))), (zm 5 24)]) .ret) .skip)) (.seq (.seq (.reg [(zs 25 (.ld true 2 (.t 2))), (zs 26 (.ld true 15 (.t 3))), (zs 27 (.call 88 [.t 25, .t 26])), (zm 6 27)]) (.seq (.reg [(zm 28 6), (zs 29 (.cmp .neq (.t 28) (.c (.int .i64 0))))]) (.cond (.t 29) (.seq (.reg [(zs 30 (.ld true 2 (.t 2))), (zm 31 6), (zn (.st 2 (.t 4) (.t 30))), (zm 5 31)]) .ret) .skip))) (.seq (.reg [(zs 32 (.ld true 2 (.t 2))), (zf 33 3 3), (zl 34 33), (zs 35 (.call 36 [.t 32, .t 34])), (zm 7 35)]) (.seq (.reg [(zf 36 1 2), (zl 37 36), (zm 38 7), (zs 39 (.iad 11 (.t 37) (.t 38))), (zs 40 (.ld true 11 (.t 39))), (zs 8 (.alloc 110 [.str ⟨#[]⟩, .str ⟨#[]⟩, .str ⟨#[]⟩, .str ⟨#[]⟩, .str ⟨#[]⟩, .v (.slice none 0 0), .v (.slice none 0 0), .int .i64 0, .bl false, .int .i64 0, .v (.slice none 0 0)])), (zn (.st 11 (.t 8) (.t 40)))]) (.seq (.reg [(zs 41 (.bsl 122 3 0 [.int .i64 0, .str ⟨#[]⟩, .v (.slice none 0 0)] [])), (zf 42 10 8), (zl 43 42), (zs 44 (.app 108 108 122 3 48 (.t 41) (.t 43))), (zm 9 44)]) (.seq (.reg [(zs 45 (.ld true 15 (.t 3))), (zs 46 (.call 89 [.t 45])), (zm 10 46)]) (.seq (.seq (.reg [(zs 11 (.mov (.c (.int .i64 0))))]) (.block 0 (.loop (.seq (.seq (.reg [(zm 47 11), (zm 48 10), (zs 49 (.lenl (.t 48))), (zs 50 (.cmp .lss (.t 47) (.t 49)))]) (.cond (.t 50) .skip (.exit 0))) (.seq (.block 1 (.seq (.reg [(zm 53 9), (zm 54 10), (zm 55 11), (zs 56 (.iad 1 (.t 54) (.t 55))), (zl 57 56), (zs 58 (.iad 3 (.t 53) (.t 57))), (zs 59 (.ld true 3 (.t 58))), (zs 12 (.alloc 122 [.int .i64 0, .str ⟨#[]⟩, .v (.slice none 0 0)])), (zn (.st 3 (.t 12) (.t 59)))]) (.seq (.seq (.reg [(zf 60 0 3), (zl 61 60)]) (.block 2 (.seq (.reg [(zs 63 (.cmp .eql (.t 61) (.c (.int .i64 1)))), (zm 62 63)]) (.cond (.t 62) (.seq (.reg [(zf 64 5 3), (zl 65 64), (zf 66 1 12), (zn (.st 1 (.t 66) (.t 65)))]) (.dreg (.take 1 (zf 68 2 12) (.take 2 (zl 69 68) (.take 4 (zf 71 4 3) (.take 5 (zl 72 71) (.take 6 (zf 73 5 3) (.take 7 (zl 74 73) (.take 8 (zf 75 2 3) (.take 9 (zl 76 75) (.take 10 (zs 77 (.bld [.str ⟨#[]⟩, .str ⟨#[]⟩, .int .i64 0, .int .i64 0] [(0, (1, .t 72)), (1, (1, .t 74)), (2, (1, .c (.int .i64 0))), (3, (1, .t 76))])) (.fork (.eff 0 0 true (zs 67 (.bsl 98 4 0 [.str ⟨#[]⟩, .str ⟨#[]⟩, .int .i64 0, .int .i64 0] [])) (.fork (.eff 3 1 true (zs 70 (.app 60 60 98 4 48 (.t 67) (.t 69))) (.eff 11 2 true (zs 78 (.bsl 98 4 1 [.str ⟨#[]⟩, .str ⟨#[]⟩, .int .i64 0, .int .i64 0] [(0, .t 77)])) (.eff 12 3 false (zs 79 (.app 60 60 98 4 48 (.t 70) (.t 78))) (.phase [2, 5, 7, 9] (.take 13 (zf 80 2 12) (.eff 14 4 false (zn (.st 1 (.t 80) (.t 79))) (.phase [2, 5, 7, 9] .nil))))))) (.eff 11 2 true (zs 78 (.bsl 98 4 1 [.str ⟨#[]⟩, .str ⟨#[]⟩, .int .i64 0, .int .i64 0] [(0, .t 77)])) (.eff 3 1 true (zs 70 (.app 60 60 98 4 48 (.t 67) (.t 69))) (.eff 12 3 false (zs 79 (.app 60 60 98 4 48 (.t 70) (.t 78))) (.phase [2, 5, 7, 9] (.take 13 (zf 80 2 12) (.eff 14 4 false (zn (.st 1 (.t 80) (.t 79))) (.phase [2, 5, 7, 9] .nil))))))))) (.eff 11 2 true (zs 78 (.bsl 98 4 1 [.str ⟨#[]⟩, .str ⟨#[]⟩, .int .i64 0, .int .i64 0] [(0, .t 77)])) (.eff 0 0 true (zs 67 (.bsl 98 4 0 [.str ⟨#[]⟩, .str ⟨#[]⟩, .int .i64 0, .int .i64 0] [])) (.eff 3 1 true (zs 70 (.app 60 60 98 4 48 (.t 67) (.t 69))) (.eff 12 3 false (zs 79 (.app 60 60 98 4 48 (.t 70) (.t 78))) (.phase [2, 5, 7, 9] (.take 13 (zf 80 2 12) (.eff 14 4 false (zn (.st 1 (.t 80) (.t 79))) (.phase [2, 5, 7, 9] .nil)))))))))))))))))) 4 [12, 3])) (.seq (.reg [(zs 82 (.cmp .eql (.t 61) (.c (.int .i64 3)))), (zm 81 82)]) (.cond (.t 81) (.reg [(zf 83 0 12), (zn (.st 1 (.t 83) (.c (.int .i64 3))))]) (.seq (.reg [(zs 85 (.cmp .eql (.t 61) (.c (.int .i64 4)))), (zm 84 85)]) (.cond (.t 84) (.reg [(zf 86 0 12), (zn (.st 1 (.t 86) (.c (.int .i64 0))))]) .skip)))))))) (.dreg (.take 0 (zm 87 9) (.take 1 (zm 88 10) (.take 2 (zm 89 11) (.take 3 (zs 90 (.iad 1 (.t 88) (.t 89))) (.take 4 (zl 91 90) (.take 5 (zs 92 (.ld true 3 (.t 12))) (.take 6 (zs 93 (.iad 3 (.t 87) (.t 91))) (.eff 7 0 false (zn (.st 3 (.t 93) (.t 92))) (.phase [4, 5] .nil))))))))) 0 [10, 12])))) (.reg [(zm 51 11), (zs 52 (.ari .add .i64 (.t 51) (.c (.int .i64 1)))), (zm 11 52)])))))) (.seq (.seq (.reg [(zf 94 0 3), (zl 95 94), (zs 96 (.cmp .eql (.t 95) (.c (.int .i64 2)))), (zm 97 96), (zg 98 97 false (.fad 0 (.t 3))), (zg 99 97 false (.ld false 1 (.t 98))), (zg 100 97 false (.cmp .eql (.t 99) (.c (.int .i64 5)))), (zs 101 (.pick (.t 97) (.c (.bl true)) (.t 100)))]) (.cond (.t 101) (.seq (.seq (.reg [(zs 13 (.mov (.c (.int .i64 0))))]) (.block 3 (.loop (.seq (.seq (.reg [(zm 102 13), (zs 103 (.cmp .lss (.t 102) (.c (.int .i64 3))))]) (.cond (.t 103) .skip (.exit 3))) (.seq (.block 4 (.reg [(zm 106 9), (zm 107 13), (zs 108 (.iad 3 (.t 106) (.t 107))), (zf 109 0 108), (zn (.st 1 (.t 109) (.c (.int .i64 2))))])) (.reg [(zm 104 13), (zs 105 (.ari .add .i64 (.t 104) (.c (.int .i64 1)))), (zm 13 105)])))))) (.reg [(zf 110 9 8), (zn (.st 1 (.t 110) (.c (.int .i64 4))))])) .skip)) (.seq (.seq (.reg [(zf 111 0 3), (zl 112 111), (zs 113 (.cmp .eql (.t 112) (.c (.int .i64 2))))]) (.cond (.t 113) (.seq (.reg [(zm 114 9), (zf 115 1 3), (zl 116 115), (zs 117 (.iad 3 (.t 114) (.t 116))), (zf 118 0 117), (zn (.st 1 (.t 118) (.c (.int .i64 1))))]) (.reg [(zf 119 9 8), (zn (.st 1 (.t 119) (.c (.int .i64 1))))])) .skip)) (.seq (.reg [(zm 120 9), (zf 121 10 8), (zn (.st 1 (.t 121) (.t 120)))]) (.seq (.dreg (.take 1 (zf 123 1 2) (.take 2 (zl 124 123) (.take 3 (zm 125 7) (.take 4 (zs 126 (.sli 11 (.t 124) none (some (.t 125)))) (.take 6 (zs 128 (.ld true 11 (.t 8))) (.take 9 (zf 131 1 2) (.take 10 (zl 132 131) (.take 11 (zm 133 7) (.take 12 (zs 134 (.ari .add .i64 (.t 133) (.c (.int .i64 1)))) (.take 13 (zs 135 (.sli 11 (.t 132) (some (.t 134)) none)) (.fork (.eff 0 0 true (zs 122 (.bsl 110 11 0 [.str ⟨#[]⟩, .str ⟨#[]⟩, .str ⟨#[]⟩, .str ⟨#[]⟩, .str ⟨#[]⟩, .v (.slice none 0 0), .v (.slice none 0 0), .int .i64 0, .bl false, .int .i64 0, .v (.slice none 0 0)] [])) (.fork (.eff 5 1 true (zs 127 (.app 26 26 110 11 176 (.t 122) (.t 126))) (.eff 7 2 true (zs 129 (.bsl 110 11 1 [.str ⟨#[]⟩, .str ⟨#[]⟩, .str ⟨#[]⟩, .str ⟨#[]⟩, .str ⟨#[]⟩, .v (.slice none 0 0), .v (.slice none 0 0), .int .i64 0, .bl false, .int .i64 0, .v (.slice none 0 0)] [(0, .t 128)])) (.eff 8 3 true (zs 130 (.app 26 26 110 11 176 (.t 127) (.t 129))) (.eff 14 4 false (zs 136 (.app 26 26 110 11 176 (.t 130) (.t 135))) (.phase [2, 6, 10] (.take 15 (zf 137 1 2) (.eff 16 5 false (zn (.st 1 (.t 137) (.t 136))) (.phase [2, 6, 10] .nil)))))))) (.eff 7 2 true (zs 129 (.bsl 110 11 1 [.str ⟨#[]⟩, .str ⟨#[]⟩, .str ⟨#[]⟩, .str ⟨#[]⟩, .str ⟨#[]⟩, .v (.slice none 0 0), .v (.slice none 0 0), .int .i64 0, .bl false, .int .i64 0, .v (.slice none 0 0)] [(0, .t 128)])) (.eff 5 1 true (zs 127 (.app 26 26 110 11 176 (.t 122) (.t 126))) (.eff 8 3 true (zs 130 (.app 26 26 110 11 176 (.t 127) (.t 129))) (.eff 14 4 false (zs 136 (.app 26 26 110 11 176 (.t 130) (.t 135))) (.phase [2, 6, 10] (.take 15 (zf 137 1 2) (.eff 16 5 false (zn (.st 1 (.t 137) (.t 136))) (.phase [2, 6, 10] .nil)))))))))) (.eff 7 2 true (zs 129 (.bsl 110 11 1 [.str ⟨#[]⟩, .str ⟨#[]⟩, .str ⟨#[]⟩, .str ⟨#[]⟩, .str ⟨#[]⟩, .v (.slice none 0 0), .v (.slice none 0 0), .int .i64 0, .bl false, .int .i64 0, .v (.slice none 0 0)] [(0, .t 128)])) (.eff 0 0 true (zs 122 (.bsl 110 11 0 [.str ⟨#[]⟩, .str ⟨#[]⟩, .str ⟨#[]⟩, .str ⟨#[]⟩, .str ⟨#[]⟩, .v (.slice none 0 0), .v (.slice none 0 0), .int .i64 0, .bl false, .int .i64 0, .v (.slice none 0 0)] [])) (.eff 5 1 true (zs 127 (.app 26 26 110 11 176 (.t 122) (.t 126))) (.eff 8 3 true (zs 130 (.app 26 26 110 11 176 (.t 127) (.t 129))) (.eff 14 4 false (zs 136 (.app 26 26 110 11 176 (.t 130) (.t 135))) (.phase [2, 6, 10] (.take 15 (zf 137 1 2) (.eff 16 5 false (zn (.st 1 (.t 137) (.t 136))) (.phase [2, 6, 10] .nil)))))))))))))))))))) 5 [2, 8]) (.seq (.reg [(zs 138 (.ld true 2 (.t 2))), (zn (.st 2 (.t 4) (.t 138))), (zs 5 (.mov (.c (.int .i64 0))))]) .ret)))))))))))), [.cell 4 true 2, .tmp 5]⟩
def x58 : XFn := ⟨26, .seq (.reg [(zs 4 (.mov (.c (.bl false))))]) (.seq (.seq (.reg [(zm 6 0), (zs 7 (.lenl (.t 6))), (zm 8 1), (zs 9 (.lenl (.t 8))), (zs 10 (.cmp .neq (.t 7) (.t 9)))]) (.cond (.t 10) (.seq (.reg [(zs 4 (.mov (.c (.bl false))))]) .ret) .skip)) (.seq (.seq (.reg [(zs 5 (.mov (.c (.int .i64 0))))]) (.block 0 (.loop (.seq (.seq (.reg [(zm 11 5), (zm 12 0), (zs 13 (.lenl (.t 12))), (zs 14 (.cmp .lss (.t 11) (.t 13)))]) (.cond (.t 14) .skip (.exit 0))) (.seq (.block 1 (.seq (.dreg (.take 0 (zm 17 0) (.take 1 (zm 18 5) (.take 2 (zs 19 (.iad 1 (.t 17) (.t 18))) (.take 3 (zl 20 19) (.take 4 (zm 21 1) (.take 5 (zm 22 5) (.take 6 (zs 23 (.iad 1 (.t 21) (.t 22))) (.take 7 (zl 24 23) (.take 8 (zs 25 (.cmp .neq (.t 20) (.t 24))) .nil))))))))) 0 [0, 1]) (.cond (.t 25) (.seq (.reg [(zs 4 (.mov (.c (.bl false))))]) .ret) .skip))) (.reg [(zm 15 5), (zs 16 (.ari .add .i64 (.t 15) (.c (.int .i64 1)))), (zm 5 16)])))))) (.seq (.reg [(zs 4 (.mov (.c (.bl true))))]) .ret))), [.tmp 4]⟩
def x59 : XFn := ⟨32, .seq (.reg [(zs 6 (.alloc 82 [.int .i64 0, .str ⟨#[]⟩, .v (.slice none 0 0)])), (zs 7 (.mov (.c (.bl false))))]) (.seq (.reg [(zm 9 0), (zs 10 (.nck (.t 9))), (zf 11 1 10), (zl 12 11), (zm 13 1), (zs 14 (.plk none false (.v (.pointer none)) (.t 12) (.t 13))), (zm 8 14)]) (.seq (.seq (.reg [(zm 15 8), (zs 16 (.cmn false (.t 15))), (zm 17 16), (zh 18 17 false 2), (zg 19 17 false (.cmp .lss (.t 18) (.c (.int .i64 0)))), (zs 20 (.pick (.t 17) (.c (.bl true)) (.t 19))), (zm 21 20), (zh 22 21 false 2), (zg 23 21 false (.cmp .geq (.t 22) (.c (.int .i64 3)))), (zs 24 (.pick (.t 21) (.c (.bl true)) (.t 23)))]) (.cond (.t 24) (.seq (.reg [(zs 25 (.bld [.int .i64 0, .str ⟨#[]⟩, .v (.slice none 0 0)] [])), (zn (.st 3 (.t 6) (.t 25))), (zs 7 (.mov (.c (.bl false))))]) .ret) .skip)) (.seq (.reg [(zm 26 8), (zm 27 2), (zs 28 (.nck (.t 26))), (zf 29 10 28), (zs 30 (.aia 3 3 (.t 29) (.t 27))), (zs 31 (.ld true 3 (.t 30))), (zn (.st 3 (.t 6) (.t 31))), (zs 7 (.mov (.c (.bl true))))]) .ret))), [.cell 6 true 3, .tmp 7]⟩
def x60 : XFn := ⟨8, .seq (.reg [(zs 2 (.mov (.c (.v (.slice none 0 0)))))]) (.seq (.seq (.reg [(zm 3 0), (zs 4 (.nils false (.t 3)))]) (.cond (.t 4) (.seq (.reg [(zs 2 (.mov (.c (.v (.slice none 0 0)))))]) .ret) .skip)) (.seq (.reg [(zs 5 (.bsl 98 4 0 [.str ⟨#[]⟩, .str ⟨#[]⟩, .int .i64 0, .int .i64 0] [])), (zm 6 0), (zs 7 (.app 60 60 98 4 48 (.t 5) (.t 6))), (zm 2 7)]) .ret)), [.tmp 2]⟩
def x61 : XFn := ⟨36, .seq (.reg [(zs 5 (.box 98 (.t 2))), (zs 6 (.mov (.c (.int .i64 0))))]) (.seq (.seq (.reg [(zs 7 (.ld true 4 (.t 5))), (zs 8 (.call 90 [.t 7])), (zs 9 (.not (.t 8)))]) (.cond (.t 9) (.seq (.reg [(zs 6 (.mov (.c (.int .i64 2))))]) .ret) .skip)) (.seq (.seq (.reg [(zm 10 1), (zs 11 (.call 91 [.t 10]))]) (.cond (.t 11) (.seq (.reg [(zs 6 (.mov (.c (.int .i64 9))))]) .ret) .skip)) (.seq (.seq (.reg [(zm 12 1), (zs 13 (.call 30 [.t 12])), (zs 14 (.not (.t 13))), (zm 15 14), (zg 16 15 true (.fad 0 (.t 5))), (zg 17 15 true (.ld false 1 (.t 16))), (zh 18 15 true 0), (zg 19 15 true (.cmp .neq (.t 17) (.t 18))), (zs 20 (.pick (.t 15) (.t 19) (.c (.bl false))))]) (.cond (.t 20) (.seq (.reg [(zs 6 (.mov (.c (.int .i64 8))))]) .ret) .skip)) (.seq (.seq (.dreg (.take 0 (zm 21 1) (.take 1 (zs 22 (.lenl (.t 21))) (.take 2 (zs 23 (.cmp .gtr (.t 22) (.c (.int .i64 0)))) (.take 3 (zm 24 23) (.take 4 (zg 25 24 true (.fad 3 (.t 5))) (.take 5 (zg 26 24 true (.ld false 1 (.t 25))) (.take 6 (zh 27 24 true 1) (.take 7 (zh 28 24 true 1) (.take 8 (zg 29 24 true (.lenl (.t 28))) (.take 9 (zg 30 24 true (.ari .sub .i64 (.t 29) (.c (.int .i64 1)))) (.take 10 (zg 31 24 true (.iad 4 (.t 27) (.t 30))) (.take 11 (zg 32 24 true (.fad 3 (.t 31))) (.take 12 (zg 33 24 true (.ld false 1 (.t 32))) (.take 13 (zg 34 24 true (.cmp .lss (.t 26) (.t 33))) (.take 14 (zs 35 (.pick (.t 24) (.t 34) (.c (.bl false)))) .nil))))))))))))))) 0 [1, 5]) (.cond (.t 35) (.seq (.reg [(zs 6 (.mov (.c (.int .i64 6))))]) .ret) .skip)) (.seq (.reg [(zs 6 (.mov (.c (.int .i64 0))))]) .ret))))), [.tmp 6]⟩
def x62 : XFn := ⟨30, .seq (.reg [(zs 6 (.mov (.c (.bl false))))]) (.seq (.seq (.reg [(zm 9 0), (zs 10 (.nck (.t 9))), (zf 11 10 10), (zs 12 (.ld true 9 (.t 11))), (zs 13 (.mov (.c (.int .i64 0))))]) (.block 0 (.loop (.seq (.reg [(zs 14 (.cmp .lss (.t 13) (.c (.int .i64 3))))]) (.seq (.cond (.t 14) .skip (.exit 0)) (.seq (.block 1 (.seq (.reg [(zm 15 13), (zs 16 (.aix true 3 3 (.t 12) (.t 13))), (zs 8 (.alloc 82 [.int .i64 0, .str ⟨#[]⟩, .v (.slice none 0 0)])), (zm 7 15), (zn (.st 3 (.t 8) (.t 16)))]) (.seq (.reg [(zm 17 1), (zs 18 (.cmp .eql (.t 17) (.c (.int .i64 (-1))))), (zm 19 18), (zh 20 19 false 1), (zh 21 19 false 7), (zg 22 19 false (.cmp .eql (.t 20) (.t 21))), (zs 23 (.pick (.t 19) (.c (.bl true)) (.t 22))), (zm 24 23), (zh 25 24 true 2), (zg 26 24 true (.ld true 3 (.t 8))), (zg 27 24 true (.cav (.t 25) [.t 26])), (zs 28 (.pick (.t 24) (.t 27) (.c (.bl false))))]) (.cond (.t 28) (.seq (.reg [(zs 6 (.mov (.c (.bl true))))]) .ret) .skip)))) (.reg [(zs 29 (.ari .add .i64 (.t 13) (.c (.int .i64 1)))), (zm 13 29)]))))))) (.seq (.reg [(zs 6 (.mov (.c (.bl false))))]) .ret)), [.tmp 6]⟩
def x63 : XFn := ⟨13, .seq (.reg [(zs 2 (.box 82 (.t 0))), (zs 3 (.mov (.c (.bl false))))]) (.seq (.reg [(zf 4 0 2), (zl 5 4), (zs 6 (.cmp .neq (.t 5) (.c (.int .i64 0)))), (zm 7 6), (zg 8 7 false (.fad 1 (.t 2))), (zg 9 7 false (.ld false 1 (.t 8))), (zg 10 7 false (.ld false 1 (.t 1))), (zg 11 7 false (.cmp .neq (.t 9) (.t 10))), (zs 12 (.pick (.t 7) (.c (.bl true)) (.t 11))), (zm 3 12)]) .ret), [.tmp 3]⟩
def x64 : XFn := ⟨23, .seq (.reg [(zs 1 (.box 28 (.t 0))), (zs 2 (.mov (.c (.v (.slice none 0 0)))))]) (.seq (.reg [(zs 5 (.bsl 9 1 0 [.str ⟨#[]⟩] [])), (zm 3 5)]) (.seq (.seq (.reg [(zs 4 (.mov (.c (.int .i64 0))))]) (.block 0 (.loop (.seq (.seq (.reg [(zm 6 4), (zf 7 1 1), (zl 8 7), (zs 9 (.lenl (.t 8))), (zs 10 (.cmp .lss (.t 6) (.t 9)))]) (.cond (.t 10) .skip (.exit 0))) (.seq (.block 1 (.reg [(zm 13 3), (zf 14 1 1), (zl 15 14), (zm 16 4), (zs 17 (.iad 11 (.t 15) (.t 16))), (zf 18 0 17), (zf 19 0 18), (zl 20 19), (zs 21 (.call 92 [.t 13, .t 20])), (zm 3 21)])) (.reg [(zm 11 4), (zs 12 (.ari .add .i64 (.t 11) (.c (.int .i64 1)))), (zm 4 12)])))))) (.seq (.reg [(zm 22 3), (zm 2 22)]) .ret))), [.tmp 2]⟩
def x65 : XFn := ⟨8, .seq (.reg [(zs 3 (.box 9 (.t 1))), (zs 4 (.mov (.c (.v (.slice none 0 0)))))]) (.seq (.reg [(zm 5 0), (zs 6 (.mkf 93 [.t 3])), (zs 7 (.call 53 [.t 5, .t 6])), (zm 4 7)]) .ret), [.tmp 4]⟩
def x66 : XFn := ⟨56, .seq (.reg [(zs 2 (.box 28 (.t 0))), (zs 4 (.mov (.c (.v (.slice none 0 0)))))]) (.seq (.reg [(zs 10 (.bsl 9 1 0 [.str ⟨#[]⟩] [])), (zm 5 10)]) (.seq (.seq (.reg [(zs 6 (.mov (.c (.int .i64 0))))]) (.block 0 (.loop (.seq (.seq (.reg [(zm 11 6), (zf 12 1 2), (zl 13 12), (zs 14 (.lenl (.t 13))), (zs 15 (.cmp .lss (.t 11) (.t 14)))]) (.cond (.t 15) .skip (.exit 0))) (.seq (.block 1 (.seq (.reg [(zf 18 1 2), (zl 19 18), (zm 20 6), (zs 21 (.iad 11 (.t 19) (.t 20))), (zs 22 (.ld true 11 (.t 21))), (zs 7 (.alloc 110 [.str ⟨#[]⟩, .str ⟨#[]⟩, .str ⟨#[]⟩, .str ⟨#[]⟩, .str ⟨#[]⟩, .v (.slice none 0 0), .v (.slice none 0 0), .int .i64 0, .bl false, .int .i64 0, .v (.slice none 0 0)])), (zn (.st 11 (.t 7) (.t 22)))]) (.seq (.reg [(zs 8 (.mov (.c (.bl false))))]) (.seq (.seq (.reg [(zs 9 (.mov (.c (.int .i64 0))))]) (.block 2 (.loop (.seq (.seq (.reg [(zm 23 9), (zs 24 (.cmp .lss (.t 23) (.c (.int .i64 3))))]) (.cond (.t 24) .skip (.exit 2))) (.seq (.block 3 (.seq (.reg [(zf 27 9 7), (zl 28 27), (zs 29 (.cmp .eql (.t 28) (.c (.int .i64 0)))), (zm 30 29), (zg 31 30 true (.fad 10 (.t 7))), (zg 32 30 true (.ld false 1 (.t 31))), (zh 33 30 true 9), (zg 34 30 true (.iad 3 (.t 32) (.t 33))), (zg 35 30 true (.fad 0 (.t 34))), (zg 36 30 true (.ld false 1 (.t 35))), (zg 37 30 true (.cmp .eql (.t 36) (.c (.int .i64 0)))), (zs 38 (.pick (.t 30) (.t 37) (.c (.bl false)))), (zm 39 38), (zg 40 39 true (.fad 10 (.t 7))), (zg 41 39 true (.ld false 1 (.t 40))), (zh 42 39 true 9), (zg 43 39 true (.iad 3 (.t 41) (.t 42))), (zg 44 39 true (.fad 1 (.t 43))), (zg 45 39 true (.ld false 1 (.t 44))), (zh 46 39 true 1), (zg 47 39 true (.cmp .eql (.t 45) (.t 46))), (zs 48 (.pick (.t 39) (.t 47) (.c (.bl false))))]) (.cond (.t 48) (.reg [(zs 8 (.mov (.c (.bl true))))]) .skip))) (.reg [(zm 25 9), (zs 26 (.ari .add .i64 (.t 25) (.c (.int .i64 1)))), (zm 9 26)])))))) (.seq (.reg [(zm 49 8)]) (.cond (.t 49) (.reg [(zm 50 5), (zf 51 0 7), (zf 52 0 51), (zl 53 52), (zs 54 (.call 92 [.t 50, .t 53])), (zm 5 54)]) .skip)))))) (.reg [(zm 16 6), (zs 17 (.ari .add .i64 (.t 16) (.c (.int .i64 1)))), (zm 6 17)])))))) (.seq (.reg [(zm 55 5), (zm 4 55)]) .ret))), [.tmp 4]⟩
def x67 : XFn := ⟨32, .seq (.reg [(zs 2 (.box 28 (.t 0))), (zs 4 (.mov (.c (.int .i64 0))))]) (.seq (.seq (.reg [(zs 5 (.mov (.c (.int .i64 0))))]) (.block 0 (.loop (.seq (.seq (.reg [(zm 6 5), (zf 7 1 2), (zl 8 7), (zs 9 (.lenl (.t 8))), (zs 10 (.cmp .lss (.t 6) (.t 9)))]) (.cond (.t 10) .skip (.exit 0))) (.seq (.block 1 (.seq (.reg [(zf 13 1 2), (zl 14 13), (zm 15 5), (zs 16 (.iad 11 (.t 14) (.t 15))), (zf 17 9 16), (zl 18 17), (zs 19 (.cmp .eql (.t 18) (.c (.int .i64 0)))), (zm 20 19), (zg 21 20 true (.fad 1 (.t 2))), (zg 22 20 true (.ld false 1 (.t 21))), (zh 23 20 true 5), (zg 24 20 true (.iad 11 (.t 22) (.t 23))), (zg 25 20 true (.fad 0 (.t 24))), (zg 26 20 true (.fad 5 (.t 25))), (zg 27 20 true (.ld false 1 (.t 26))), (zh 28 20 true 1), (zg 29 20 true (.call 95 [.t 27, .t 28])), (zs 30 (.pick (.t 20) (.t 29) (.c (.bl false))))]) (.cond (.t 30) (.seq (.reg [(zm 31 5), (zm 4 31)]) .ret) .skip))) (.reg [(zm 11 5), (zs 12 (.ari .add .i64 (.t 11) (.c (.int .i64 1)))), (zm 5 12)])))))) (.seq (.reg [(zs 4 (.mov (.c (.int .i64 (-1)))))]) .ret)), [.tmp 4]⟩
def x68 : XFn := ⟨52, .seq (.reg [(zs 3 (.box 28 (.t 0))), (zs 6 (.mov (.c (.bl false))))]) (.seq (.reg [(zs 9 (.ld true 2 (.t 3))), (zm 10 1), (zs 11 (.call 36 [.t 9, .t 10])), (zm 7 11)]) (.seq (.seq (.reg [(zm 12 7), (zs 13 (.cmp .lss (.t 12) (.c (.int .i64 0)))), (zm 14 13), (zg 15 14 false (.fad 1 (.t 3))), (zg 16 14 false (.ld false 1 (.t 15))), (zh 17 14 false 7), (zg 18 14 false (.iad 11 (.t 16) (.t 17))), (zg 19 14 false (.fad 9 (.t 18))), (zg 20 14 false (.ld false 1 (.t 19))), (zg 21 14 false (.cmp .neq (.t 20) (.c (.int .i64 0)))), (zs 22 (.pick (.t 14) (.c (.bl true)) (.t 21)))]) (.cond (.t 22) (.seq (.reg [(zs 6 (.mov (.c (.bl false))))]) .ret) .skip)) (.seq (.seq (.reg [(zs 8 (.mov (.c (.int .i64 0))))]) (.block 0 (.loop (.seq (.seq (.reg [(zm 23 8), (zs 24 (.cmp .lss (.t 23) (.c (.int .i64 3))))]) (.cond (.t 24) .skip (.exit 0))) (.seq (.block 1 (.seq (.reg [(zf 27 1 3), (zl 28 27), (zm 29 7), (zs 30 (.iad 11 (.t 28) (.t 29))), (zf 31 10 30), (zl 32 31), (zm 33 8), (zs 34 (.iad 3 (.t 32) (.t 33))), (zf 35 0 34), (zl 36 35), (zs 37 (.cmp .neq (.t 36) (.c (.int .i64 0)))), (zm 38 37), (zg 39 38 false (.fad 1 (.t 3))), (zg 40 38 false (.ld false 1 (.t 39))), (zh 41 38 false 7), (zg 42 38 false (.iad 11 (.t 40) (.t 41))), (zg 43 38 false (.fad 10 (.t 42))), (zg 44 38 false (.ld false 1 (.t 43))), (zh 45 38 false 8), (zg 46 38 false (.iad 3 (.t 44) (.t 45))), (zg 47 38 false (.fad 1 (.t 46))), (zg 48 38 false (.ld false 1 (.t 47))), (zh 49 38 false 2), (zg 50 38 false (.cmp .neq (.t 48) (.t 49))), (zs 51 (.pick (.t 38) (.c (.bl true)) (.t 50)))]) (.cond (.t 51) (.seq (.reg [(zs 6 (.mov (.c (.bl false))))]) .ret) .skip))) (.reg [(zm 25 8), (zs 26 (.ari .add .i64 (.t 25) (.c (.int .i64 1)))), (zm 8 26)])))))) (.seq (.reg [(zs 6 (.mov (.c (.bl true))))]) .ret)))), [.tmp 6]⟩
def x69 : XFn := ⟨9, .seq (.reg [(zs 2 (.mov (.c (.bl false))))]) (.seq (.reg [(zm 3 0), (zs 4 (.cmp .geq (.t 3) (.c (.int .i64 0)))), (zm 5 4), (zh 6 5 true 0), (zg 7 5 true (.cmp .leq (.t 6) (.c (.int .i64 1048576)))), (zs 8 (.pick (.t 5) (.t 7) (.c (.bl false)))), (zm 2 8)]) .ret), [.tmp 2]⟩
def x70 : XFn := ⟨18, .seq (.reg [(zs 2 (.mov (.c (.bl false))))]) (.seq (.seq (.reg [(zm 4 0), (zs 5 (.lens (.t 4))), (zs 6 (.cmp .neq (.t 5) (.c (.int .i64 12))))]) (.cond (.t 6) (.seq (.reg [(zs 2 (.mov (.c (.bl false))))]) .ret) .skip)) (.seq (.reg [(zm 7 0), (zs 8 (.call 96 [.t 7])), (zm 3 8)]) (.seq (.dreg (.take 0 (zm 9 3) (.take 1 (zs 10 (.cmp .geq (.t 9) (.c (.int .i64 0)))) (.take 2 (zm 11 10) (.take 3 (zh 12 11 true 0) (.take 4 (zg 13 11 true (.sls (.t 12) (some (.c (.int .i64 10))) none)) (.take 5 (zh 14 11 true 3) (.eff 6 0 false (zg 15 11 true (.call 97 [.t 14, .c (.int .i64 2)])) (.take 7 (zg 16 11 true (.cmp .eql (.t 13) (.t 15))) (.take 8 (zs 17 (.pick (.t 11) (.t 16) (.c (.bl false)))) (.take 9 (zm 2 17) .nil)))))))))) 0 []) .ret))), [.tmp 2]⟩
def x71 : XFn := ⟨6, .seq (.reg [(zs 2 (.mov (.c (.bl false))))]) (.seq (.reg [(zm 3 0), (zs 4 (.call 43 [.t 3])), (zs 5 (.not (.t 4))), (zm 2 5)]) .ret), [.tmp 2]⟩
def x72 : XFn := ⟨9, .seq (.reg [(zs 2 (.mov (.c (.bl false))))]) (.seq (.reg [(zm 3 0), (zs 4 (.cmp .geq (.t 3) (.c (.int .u8 97)))), (zm 5 4), (zh 6 5 true 0), (zg 7 5 true (.cmp .leq (.t 6) (.c (.int .u8 122)))), (zs 8 (.pick (.t 5) (.t 7) (.c (.bl false)))), (zm 2 8)]) .ret), [.tmp 2]⟩
def x73 : XFn := ⟨9, .seq (.reg [(zs 2 (.mov (.c (.bl false))))]) (.seq (.reg [(zm 3 0), (zs 4 (.cmp .geq (.t 3) (.c (.int .u8 48)))), (zm 5 4), (zh 6 5 true 0), (zg 7 5 true (.cmp .leq (.t 6) (.c (.int .u8 57)))), (zs 8 (.pick (.t 5) (.t 7) (.c (.bl false)))), (zm 2 8)]) .ret), [.tmp 2]⟩
def x74 : XFn := ⟨19, .seq (.reg [(zs 4 (.mov (.c (.int .i64 0))))]) (.seq (.seq (.reg [(zm 6 0), (zs 7 (.lenl (.t 6))), (zs 8 (.mov (.c (.int .i64 0))))]) (.block 0 (.loop (.seq (.reg [(zs 9 (.cmp .lss (.t 8) (.t 7)))]) (.seq (.cond (.t 9) .skip (.exit 0)) (.seq (.block 1 (.seq (.reg [(zm 10 8), (zm 5 10)]) (.seq (.reg [(zm 11 1), (zm 12 0), (zm 13 5), (zs 14 (.iad 1 (.t 12) (.t 13))), (zl 15 14), (zs 16 (.cav (.t 11) [.t 15]))]) (.cond (.t 16) (.seq (.reg [(zm 17 5), (zm 4 17)]) .ret) .skip)))) (.reg [(zs 18 (.ari .add .i64 (.t 8) (.c (.int .i64 1)))), (zm 8 18)]))))))) (.seq (.reg [(zs 4 (.mov (.c (.int .i64 (-1)))))]) .ret)), [.tmp 4]⟩
def x75 : XFn := ⟨4, .seq (.reg [(zs 1 (.mov (.c (.bl false))))]) (.seq (.reg [(zl 2 0), (zs 3 (.cmn false (.t 2))), (zm 1 3)]) .ret), [.tmp 1]⟩
def x76 : XFn := ⟨12, .seq (.reg [(zs 1 (.mov (.c (.bl false))))]) (.seq (.reg [(zf 2 1 0), (zl 3 2), (zf 4 2 0), (zl 5 4), (zs 6 (.cmp .lss (.t 3) (.t 5))), (zm 7 6), (zg 8 7 false (.fad 1 (.t 0))), (zg 9 7 false (.ld false 1 (.t 8))), (zg 10 7 false (.cmp .geq (.t 9) (.c (.int .i64 3)))), (zs 11 (.pick (.t 7) (.c (.bl true)) (.t 10))), (zm 1 11)]) .ret), [.tmp 1]⟩
def x77 : XFn := ⟨14, .seq (.reg [(zs 1 (.mov (.c (.bl false))))]) (.seq (.reg [(zf 2 7 0), (zl 3 2), (zm 4 3), (zg 5 4 false (.fad 6 (.t 0))), (zg 6 4 false (.ld false 1 (.t 5))), (zh 7 4 false 6), (zg 8 7 true (.fad 5 (.t 0))), (zg 9 7 true (.ld false 1 (.t 8))), (zg 10 7 true (.call 69 [.t 9])), (zg 11 7 true (.not (.t 10))), (zg 12 4 false (.pick (.t 7) (.t 11) (.c (.bl false)))), (zs 13 (.pick (.t 4) (.c (.bl true)) (.t 12))), (zm 1 13)]) .ret), [.tmp 1]⟩
def x78 : XFn := ⟨15, .seq (.reg [(zs 2 (.mov (.c (.bl false))))]) (.seq (.reg [(zl 3 0), (zs 4 (.nck (.t 3))), (zf 5 9 4), (zl 6 5), (zs 7 (.cmp .neq (.t 6) (.c (.int .i64 0)))), (zm 8 7), (zg 9 8 false (.ld false 1 (.t 0))), (zg 10 8 false (.fad 1 (.t 1))), (zg 11 8 false (.ld false 1 (.t 10))), (zg 12 8 false (.mkf 79 [.t 1])), (zg 13 8 false (.call 62 [.t 9, .t 11, .t 12])), (zs 14 (.pick (.t 8) (.c (.bl true)) (.t 13))), (zm 2 14)]) .ret), [.tmp 2]⟩
def x79 : XFn := ⟨9, .seq (.reg [(zs 2 (.box 82 (.t 0))), (zs 3 (.mov (.c (.bl false))))]) (.seq (.reg [(zf 4 0 2), (zl 5 4), (zf 6 4 1), (zl 7 6), (zs 8 (.cmp .neq (.t 5) (.t 7))), (zm 3 8)]) .ret), [.tmp 3]⟩
def x80 : XFn := ⟨8, .seq (.reg [(zs 2 (.mov (.c (.bl false))))]) (.seq (.reg [(zl 3 0), (zf 4 1 1), (zl 5 4), (zs 6 (.mkf 81 [.t 1])), (zs 7 (.call 62 [.t 3, .t 5, .t 6])), (zm 2 7)]) .ret), [.tmp 2]⟩
def x81 : XFn := ⟨9, .seq (.reg [(zs 2 (.box 82 (.t 0))), (zs 3 (.mov (.c (.bl false))))]) (.seq (.reg [(zf 4 1 2), (zl 5 4), (zf 6 3 1), (zl 7 6), (zs 8 (.cmp .neq (.t 5) (.t 7))), (zm 3 8)]) .ret), [.tmp 3]⟩
def x82 : XFn := ⟨12, .seq (.reg [(zs 2 (.mov (.c (.bl false))))]) (.seq (.reg [(zf 3 6 0), (zl 4 3), (zm 5 4), (zg 6 5 true (.ld false 1 (.t 1))), (zg 7 5 true (.fad 1 (.t 0))), (zg 8 5 true (.ld false 1 (.t 7))), (zg 9 5 true (.mkf 83 [.t 0, .t 1])), (zg 10 5 true (.call 62 [.t 6, .t 8, .t 9])), (zs 11 (.pick (.t 5) (.t 10) (.c (.bl false)))), (zm 2 11)]) .ret), [.tmp 2]⟩
def x83 : XFn := ⟨15, .seq (.reg [(zs 3 (.box 82 (.t 0))), (zs 4 (.mov (.c (.bl false))))]) (.seq (.dreg (.take 0 (zf 5 5 1) (.take 1 (zl 6 5) (.take 2 (zs 7 (.ld true 3 (.t 3))) (.take 3 (zl 8 2) (.take 4 (zs 9 (.nck (.t 8))) (.take 5 (zf 10 0 9) (.take 6 (zf 11 7 10) (.take 7 (zl 12 11) (.eff 8 0 true (zs 13 (.call 84 [.t 7, .t 12])) (.take 9 (zs 14 (.cmp .lss (.t 6) (.t 13))) (.take 10 (zm 4 14) .nil))))))))))) 0 [1, 3, 2]) .ret), [.tmp 4]⟩
def x84 : XFn := ⟨19, .seq (.reg [(zs 2 (.box 82 (.t 0))), (zs 4 (.mov (.c (.int .i64 0))))]) (.seq (.seq (.reg [(zf 5 2 2), (zl 6 5), (zs 7 (.lenl (.t 6))), (zs 8 (.cmp .eql (.t 7) (.c (.int .i64 0))))]) (.cond (.t 8) (.seq (.reg [(zm 9 1), (zm 4 9)]) .ret) .skip)) (.seq (.reg [(zf 10 2 2), (zl 11 10), (zf 12 2 2), (zl 13 12), (zs 14 (.lenl (.t 13))), (zs 15 (.ari .sub .i64 (.t 14) (.c (.int .i64 1)))), (zs 16 (.iad 4 (.t 11) (.t 15))), (zf 17 3 16), (zl 18 17), (zm 4 18)]) .ret)), [.tmp 4]⟩
def x86 : XFn := ⟨19, .seq (.reg [(zs 4 (.mov (.c (.int .i64 0))))]) (.seq (.seq (.reg [(zm 6 0), (zs 7 (.lenl (.t 6))), (zs 8 (.mov (.c (.int .i64 0))))]) (.block 0 (.loop (.seq (.reg [(zs 9 (.cmp .lss (.t 8) (.t 7)))]) (.seq (.cond (.t 9) .skip (.exit 0)) (.seq (.block 1 (.seq (.reg [(zm 10 8), (zm 5 10)]) (.seq (.reg [(zm 11 1), (zm 12 0), (zm 13 5), (zs 14 (.iad 1 (.t 12) (.t 13))), (zl 15 14), (zs 16 (.cmp .eql (.t 11) (.t 15)))]) (.cond (.t 16) (.seq (.reg [(zm 17 5), (zm 4 17)]) .ret) .skip)))) (.reg [(zs 18 (.ari .add .i64 (.t 8) (.c (.int .i64 1)))), (zm 8 18)]))))))) (.seq (.reg [(zs 4 (.mov (.c (.int .i64 (-1)))))]) .ret)), [.tmp 4]⟩
def x87 : XFn := ⟨67, .seq (.reg [(zs 3 (.box 28 (.t 0))), (zs 4 (.box 34 (.t 1))), (zs 6 (.alloc 28 [.str ⟨#[]⟩, .v (.slice none 0 0)])), (zs 7 (.mov (.c (.int .i64 0))))]) (.seq (.seq (.reg [(zf 10 0 3), (zl 11 10), (zs 12 (.ld true 9 (.t 4))), (zs 13 (.call 100 [.t 11, .t 12])), (zs 14 (.not (.t 13))), (zm 15 14), (zh 16 15 false 2), (zg 17 15 false (.call 101 [.t 16])), (zg 18 15 false (.not (.t 17))), (zs 19 (.pick (.t 15) (.c (.bl true)) (.t 18)))]) (.cond (.t 19) (.seq (.reg [(zs 20 (.ld true 2 (.t 3))), (zn (.st 2 (.t 6) (.t 20))), (zs 7 (.mov (.c (.int .i64 1))))]) .ret) .skip)) (.seq (.seq (.reg [(zs 21 (.ld true 2 (.t 3))), (zf 22 0 4), (zl 23 22), (zs 24 (.call 36 [.t 21, .t 23])), (zs 25 (.cmp .geq (.t 24) (.c (.int .i64 0))))]) (.cond (.t 25) (.seq (.reg [(zs 26 (.ld true 2 (.t 3))), (zn (.st 2 (.t 6) (.t 26))), (zs 7 (.mov (.c (.int .i64 5))))]) .ret) .skip)) (.seq (.seq (.reg [(zs 8 (.mov (.c (.int .i64 0))))]) (.block 0 (.loop (.seq (.seq (.reg [(zm 27 8), (zf 28 5 4), (zl 29 28), (zs 30 (.lenl (.t 29))), (zs 31 (.cmp .lss (.t 27) (.t 30)))]) (.cond (.t 31) .skip (.exit 0))) (.seq (.block 1 (.seq (.dreg (.take 0 (zs 34 (.ld true 2 (.t 3))) (.take 1 (zf 35 5 4) (.take 2 (zl 36 35) (.take 3 (zm 37 8) (.take 4 (zs 38 (.iad 1 (.t 36) (.t 37))) (.take 5 (zl 39 38) (.eff 6 0 false (zs 40 (.call 67 [.t 34, .t 39])) (.phase [0, 2, 5] (.take 7 (zs 41 (.cmp .geq (.t 40) (.c (.int .i64 0)))) .nil))))))))) 0 [3, 4]) (.cond (.t 41) (.seq (.reg [(zs 42 (.ld true 2 (.t 3))), (zn (.st 2 (.t 6) (.t 42))), (zs 7 (.mov (.c (.int .i64 9))))]) .ret) .skip))) (.reg [(zm 32 8), (zs 33 (.ari .add .i64 (.t 32) (.c (.int .i64 1)))), (zm 8 33)])))))) (.seq (.seq (.reg [(zf 43 1 3), (zl 44 43), (zs 45 (.lenl (.t 44))), (zs 46 (.cmp .geq (.t 45) (.c (.int .i64 256))))]) (.cond (.t 46) (.seq (.reg [(zs 47 (.ld true 2 (.t 3))), (zn (.st 2 (.t 6) (.t 47))), (zs 7 (.mov (.c (.int .i64 7))))]) .ret) .skip)) (.seq (.reg [(zm 48 2), (zs 49 (.bld [.int .i64 0, .str ⟨#[]⟩, .v (.slice none 0 0)] [(0, (1, .c (.int .i64 0))), (1, (1, .t 48))])), (zm 50 2), (zs 51 (.bld [.int .i64 0, .str ⟨#[]⟩, .v (.slice none 0 0)] [(0, (1, .c (.int .i64 0))), (1, (1, .t 50))])), (zm 52 2), (zs 53 (.bld [.int .i64 0, .str ⟨#[]⟩, .v (.slice none 0 0)] [(0, (1, .c (.int .i64 0))), (1, (1, .t 52))])), (zs 54 (.bsl 122 3 3 [.int .i64 0, .str ⟨#[]⟩, .v (.slice none 0 0)] [(0, .t 49), (1, .t 51), (2, .t 53)])), (zm 9 54)]) (.seq (.dreg (.take 1 (zf 56 1 3) (.take 2 (zl 57 56) (.take 4 (zs 59 (.ld true 9 (.t 4))) (.take 6 (zm 61 9) (.eff 0 0 true (zs 55 (.bsl 110 11 0 [.str ⟨#[]⟩, .str ⟨#[]⟩, .str ⟨#[]⟩, .str ⟨#[]⟩, .str ⟨#[]⟩, .v (.slice none 0 0), .v (.slice none 0 0), .int .i64 0, .bl false, .int .i64 0, .v (.slice none 0 0)] [])) (.eff 3 1 true (zs 58 (.app 26 26 110 11 176 (.t 55) (.t 57))) (.eff 5 2 false (zs 60 (.call 102 [.t 59])) (.take 7 (zs 62 (.bld [.str ⟨#[]⟩, .str ⟨#[]⟩, .str ⟨#[]⟩, .str ⟨#[]⟩, .str ⟨#[]⟩, .v (.slice none 0 0), .v (.slice none 0 0), .int .i64 0, .bl false, .int .i64 0, .v (.slice none 0 0)] [(0, (9, .t 60)), (9, (1, .c (.int .i64 0))), (10, (1, .t 61))])) (.eff 8 2 false (zs 63 (.bsl 110 11 1 [.str ⟨#[]⟩, .str ⟨#[]⟩, .str ⟨#[]⟩, .str ⟨#[]⟩, .str ⟨#[]⟩, .v (.slice none 0 0), .v (.slice none 0 0), .int .i64 0, .bl false, .int .i64 0, .v (.slice none 0 0)] [(0, .t 62)])) (.phase [2, 4] (.eff 9 3 false (zs 64 (.app 26 26 110 11 176 (.t 58) (.t 63))) (.phase [2, 4] (.take 10 (zf 65 1 3) (.eff 11 4 false (zn (.st 1 (.t 65) (.t 64))) (.phase [2, 4] .nil))))))))))))))) 4 [3, 4]) (.seq (.reg [(zs 66 (.ld true 2 (.t 3))), (zn (.st 2 (.t 6) (.t 66))), (zs 7 (.mov (.c (.int .i64 0))))]) .ret))))))), [.cell 6 true 2, .tmp 7]⟩
def x88 : XFn := ⟨139, .seq (.reg [(zs 2 (.box 28 (.t 0))), (zs 3 (.box 38 (.t 1))), (zs 4 (.mov (.c (.int .i64 0))))]) (.seq (.reg [(zs 12 (.ld true 2 (.t 2))), (zf 13 3 3), (zl 14 13), (zs 15 (.call 36 [.t 12, .t 14])), (zm 5 15)]) (.seq (.seq (.reg [(zm 16 5), (zs 17 (.cmp .lss (.t 16) (.c (.int .i64 0))))]) (.cond (.t 17) (.seq (.reg [(zs 4 (.mov (.c (.int .i64 4))))]) .ret) .skip)) (.seq (.seq (.reg [(zf 18 0 3), (zl 19 18), (zs 20 (.cmp .neq (.t 19) (.c (.int .i64 5)))), (zm 21 20), (zg 22 21 true (.fad 1 (.t 3))), (zg 23 21 true (.ld false 1 (.t 22))), (zg 24 21 true (.cmp .lss (.t 23) (.c (.int .i64 0)))), (zh 25 21 true 24), (zg 26 25 false (.fad 1 (.t 3))), (zg 27 25 false (.ld false 1 (.t 26))), (zg 28 25 false (.cmp .gtr (.t 27) (.c (.int .i64 2)))), (zg 29 21 true (.pick (.t 25) (.c (.bl true)) (.t 28))), (zs 30 (.pick (.t 21) (.t 29) (.c (.bl false)))), (zm 31 30), (zg 32 31 true (.fad 0 (.t 3))), (zg 33 31 true (.ld false 1 (.t 32))), (zg 34 31 true (.cmp .eql (.t 33) (.c (.int .i64 1)))), (zh 35 31 true 34), (zg 36 35 true (.fad 1 (.t 3))), (zg 37 35 true (.ld false 1 (.t 36))), (zg 38 35 true (.cmp .eql (.t 37) (.c (.int .i64 (-1))))), (zg 39 31 true (.pick (.t 35) (.t 38) (.c (.bl false)))), (zg 40 31 true (.not (.t 39))), (zs 41 (.pick (.t 31) (.t 40) (.c (.bl false))))]) (.cond (.t 41) (.seq (.reg [(zs 4 (.mov (.c (.int .i64 3))))]) .ret) .skip)) (.seq (.seq (.reg [(zf 42 0 3), (zl 43 42), (zs 44 (.cmp .neq (.t 43) (.c (.int .i64 3)))), (zm 45 44), (zg 46 45 true (.fad 2 (.t 3))), (zg 47 45 true (.ld false 1 (.t 46))), (zg 48 45 true (.call 103 [.t 47])), (zg 49 45 true (.not (.t 48))), (zs 50 (.pick (.t 45) (.t 49) (.c (.bl false)))), (zm 51 50), (zg 52 51 false (.fad 0 (.t 3))), (zg 53 51 false (.ld false 1 (.t 52))), (zg 54 51 false (.cmp .eql (.t 53) (.c (.int .i64 1)))), (zh 55 51 false 54), (zg 56 55 true (.fad 5 (.t 3))), (zg 57 55 true (.ld false 1 (.t 56))), (zg 58 55 true (.call 101 [.t 57])), (zg 59 55 true (.not (.t 58))), (zh 60 55 true 59), (zg 61 60 false (.fad 5 (.t 3))), (zg 62 60 false (.ld false 1 (.t 61))), (zg 63 60 false (.fad 4 (.t 3))), (zg 64 60 false (.ld false 1 (.t 63))), (zg 65 60 false (.cmp .eql (.t 62) (.t 64))), (zg 66 55 true (.pick (.t 60) (.c (.bl true)) (.t 65))), (zg 67 51 false (.pick (.t 55) (.t 66) (.c (.bl false)))), (zs 68 (.pick (.t 51) (.c (.bl true)) (.t 67)))]) (.cond (.t 68) (.seq (.reg [(zs 4 (.mov (.c (.int .i64 1))))]) .ret) .skip)) (.seq (.dreg (.take 0 (zf 69 1 2) (.take 1 (zl 70 69) (.take 2 (zm 71 5) (.take 3 (zs 72 (.iad 11 (.t 70) (.t 71))) (.take 4 (zs 73 (.ld true 11 (.t 72))) (.take 5 (zs 74 (.ld true 15 (.t 3))) (.fork (.eff 6 0 true (zs 75 (.call 89 [.t 74])) (.eff 7 0 true (zs 6 (.alloc 110 [.str ⟨#[]⟩, .str ⟨#[]⟩, .str ⟨#[]⟩, .str ⟨#[]⟩, .str ⟨#[]⟩, .v (.slice none 0 0), .v (.slice none 0 0), .int .i64 0, .bl false, .int .i64 0, .v (.slice none 0 0)])) (.eff 8 1 false (zn (.st 11 (.t 6) (.t 73))) (.phase [1, 4, 5] (.take 9 (zm 7 75) (.take 10 (zs 8 (.mov (.c (.int .i64 0)))) .nil)))))) (.eff 7 0 true (zs 6 (.alloc 110 [.str ⟨#[]⟩, .str ⟨#[]⟩, .str ⟨#[]⟩, .str ⟨#[]⟩, .str ⟨#[]⟩, .v (.slice none 0 0), .v (.slice none 0 0), .int .i64 0, .bl false, .int .i64 0, .v (.slice none 0 0)])) (.eff 6 0 true (zs 75 (.call 89 [.t 74])) (.eff 8 1 false (zn (.st 11 (.t 6) (.t 73))) (.phase [1, 4, 5] (.take 9 (zm 7 75) (.take 10 (zs 8 (.mov (.c (.int .i64 0)))) .nil))))))))))))) 1 [2, 3]) (.seq (.seq (.reg [(zf 76 0 3), (zl 77 76), (zs 78 (.cmp .eql (.t 77) (.c (.int .i64 4))))]) (.cond (.t 78) (.reg [(zs 8 (.mov (.c (.int .i64 3))))]) .skip)) (.seq (.seq (.reg [(zs 9 (.mov (.c (.int .i64 0))))]) (.block 0 (.loop (.seq (.seq (.reg [(zm 79 9), (zm 80 7), (zs 81 (.lenl (.t 80))), (zs 82 (.cmp .lss (.t 79) (.t 81)))]) (.cond (.t 82) .skip (.exit 0))) (.seq (.block 1 (.seq (.dreg (.take 0 (zf 85 9 6) (.take 1 (zl 86 85) (.take 2 (zs 87 (.cmp .neq (.t 86) (.c (.int .i64 0)))) (.take 3 (zm 88 87) (.take 4 (zg 89 88 false (.fad 10 (.t 6))) (.take 5 (zg 90 88 false (.ld false 1 (.t 89))) (.take 6 (zh 91 88 false 7) (.take 7 (zh 92 88 false 9) (.take 8 (zg 93 88 false (.iad 1 (.t 91) (.t 92))) (.take 9 (zg 94 88 false (.ld false 1 (.t 93))) (.take 10 (zg 95 88 false (.iad 3 (.t 90) (.t 94))) (.take 11 (zg 96 88 false (.fad 0 (.t 95))) (.take 12 (zg 97 88 false (.ld false 1 (.t 96))) (.take 13 (zh 98 88 false 8) (.take 14 (zg 99 88 false (.cmp .neq (.t 97) (.t 98))) (.take 15 (zs 100 (.pick (.t 88) (.c (.bl true)) (.t 99))) .nil)))))))))))))))) 0 [6, 7]) (.cond (.t 100) (.seq (.reg [(zs 4 (.mov (.c (.int .i64 9))))]) .ret) .skip))) (.reg [(zm 83 9), (zs 84 (.ari .add .i64 (.t 83) (.c (.int .i64 1)))), (zm 9 84)])))))) (.seq (.seq (.reg [(zs 10 (.mov (.c (.int .i64 0))))]) (.block 2 (.loop (.seq (.seq (.reg [(zm 101 10), (zm 102 7), (zs 103 (.lenl (.t 102))), (zs 104 (.cmp .lss (.t 101) (.t 103)))]) (.cond (.t 104) .skip (.exit 2))) (.seq (.block 3 (.seq (.dreg (.take 0 (zf 107 10 6) (.take 1 (zl 108 107) (.take 2 (zm 109 7) (.take 3 (zm 110 10) (.take 4 (zs 111 (.iad 1 (.t 109) (.t 110))) (.take 5 (zl 112 111) (.take 6 (zs 113 (.iad 3 (.t 108) (.t 112))) (.take 7 (zf 114 1 113) (.take 8 (zl 115 114) (.take 9 (zf 116 4 3) (.take 10 (zl 117 116) (.take 11 (zs 118 (.cmp .neq (.t 115) (.t 117))) .nil)))))))))))) 0 [6, 7, 3]) (.cond (.t 118) (.seq (.reg [(zs 4 (.mov (.c (.int .i64 8))))]) .ret) .skip))) (.reg [(zm 105 10), (zs 106 (.ari .add .i64 (.t 105) (.c (.int .i64 1)))), (zm 10 106)])))))) (.seq (.seq (.reg [(zs 11 (.mov (.c (.int .i64 0))))]) (.block 4 (.loop (.seq (.seq (.reg [(zm 119 11), (zm 120 7), (zs 121 (.lenl (.t 120))), (zs 122 (.cmp .lss (.t 119) (.t 121)))]) (.cond (.t 122) .skip (.exit 4))) (.seq (.block 5 (.seq (.dreg (.take 0 (zf 125 0 3) (.take 1 (zl 126 125) (.take 2 (zs 127 (.cmp .neq (.t 126) (.c (.int .i64 3)))) (.take 3 (zm 128 127) (.take 4 (zg 129 128 true (.fad 2 (.t 3))) (.take 5 (zg 130 128 true (.ld false 1 (.t 129))) (.take 6 (zg 131 128 true (.ld true 11 (.t 6))) (.take 7 (zh 132 128 true 7) (.take 8 (zh 133 128 true 11) (.take 9 (zg 134 128 true (.iad 1 (.t 132) (.t 133))) (.take 10 (zg 135 128 true (.ld false 1 (.t 134))) (.eff 11 0 true (zg 136 128 true (.call 104 [.t 131, .t 135])) (.take 12 (zg 137 128 true (.cmp .lss (.t 130) (.t 136))) (.take 13 (zs 138 (.pick (.t 128) (.t 137) (.c (.bl false)))) .nil)))))))))))))) 0 [3, 6, 7]) (.cond (.t 138) (.seq (.reg [(zs 4 (.mov (.c (.int .i64 6))))]) .ret) .skip))) (.reg [(zm 123 11), (zs 124 (.ari .add .i64 (.t 123) (.c (.int .i64 1)))), (zm 11 124)])))))) (.seq (.reg [(zs 4 (.mov (.c (.int .i64 0))))]) .ret)))))))))), [.tmp 4]⟩
def x89 : XFn := ⟨20, .seq (.reg [(zs 1 (.box 38 (.t 0))), (zs 2 (.mov (.c (.v (.slice none 0 0)))))]) (.seq (.seq (.reg [(zf 3 0 1), (zl 4 3), (zs 5 (.cmp .eql (.t 4) (.c (.int .i64 5)))), (zm 6 5), (zg 7 6 false (.fad 0 (.t 1))), (zg 8 6 false (.ld false 1 (.t 7))), (zg 9 6 false (.cmp .eql (.t 8) (.c (.int .i64 1)))), (zh 10 6 false 9), (zg 11 10 true (.fad 1 (.t 1))), (zg 12 10 true (.ld false 1 (.t 11))), (zg 13 10 true (.cmp .eql (.t 12) (.c (.int .i64 (-1))))), (zg 14 6 false (.pick (.t 10) (.t 13) (.c (.bl false)))), (zs 15 (.pick (.t 6) (.c (.bl true)) (.t 14)))]) (.cond (.t 15) (.seq (.reg [(zs 16 (.bsl 3 1 3 [.int .i64 0] [(0, .c (.int .i64 0)), (1, .c (.int .i64 1)), (2, .c (.int .i64 2))])), (zm 2 16)]) .ret) .skip)) (.seq (.reg [(zf 17 1 1), (zl 18 17), (zs 19 (.bsl 3 1 1 [.int .i64 0] [(0, .t 18)])), (zm 2 19)]) .ret)), [.tmp 2]⟩
def x90 : XFn := ⟨37, .seq (.reg [(zs 1 (.box 98 (.t 0))), (zs 2 (.mov (.c (.bl false))))]) (.seq (.seq (.reg [(zf 3 0 1), (zl 4 3), (zs 5 (.call 43 [.t 4])), (zs 6 (.not (.t 5))), (zm 7 6), (zg 8 7 false (.fad 3 (.t 1))), (zg 9 7 false (.ld false 1 (.t 8))), (zg 10 7 false (.cmp .lss (.t 9) (.c (.int .i64 0)))), (zs 11 (.pick (.t 7) (.c (.bl true)) (.t 10))), (zm 12 11), (zg 13 12 false (.fad 3 (.t 1))), (zg 14 12 false (.ld false 1 (.t 13))), (zg 15 12 false (.cmp .gtr (.t 14) (.c (.int .i64 1048576)))), (zs 16 (.pick (.t 12) (.c (.bl true)) (.t 15)))]) (.cond (.t 16) (.seq (.reg [(zs 2 (.mov (.c (.bl false))))]) .ret) .skip)) (.seq (.seq (.reg [(zf 17 2 1), (zl 18 17)]) (.block 0 (.seq (.reg [(zs 20 (.cmp .eql (.t 18) (.c (.int .i64 1)))), (zm 19 20)]) (.cond (.t 19) (.seq (.reg [(zf 21 1 1), (zl 22 21), (zs 23 (.cmp .eql (.t 22) (.c (.str ⟨#[]⟩)))), (zm 2 23)]) .ret) (.seq (.seq (.reg [(zs 25 (.cmp .eql (.t 18) (.c (.int .i64 0)))), (zm 24 25)]) (.cond (.t 24) .skip (.reg [(zs 26 (.cmp .eql (.t 18) (.c (.int .i64 2)))), (zm 24 26)]))) (.cond (.t 24) (.seq (.reg [(zf 27 1 1), (zl 28 27), (zs 29 (.call 43 [.t 28])), (zm 30 29), (zg 31 30 true (.fad 1 (.t 1))), (zg 32 30 true (.ld false 1 (.t 31))), (zg 33 30 true (.fad 0 (.t 1))), (zg 34 30 true (.ld false 1 (.t 33))), (zg 35 30 true (.cmp .neq (.t 32) (.t 34))), (zs 36 (.pick (.t 30) (.t 35) (.c (.bl false)))), (zm 2 36)]) .ret) .skip)))))) (.seq (.reg [(zs 2 (.mov (.c (.bl false))))]) .ret))), [.tmp 2]⟩
def x91 : XFn := ⟨16, .seq (.reg [(zs 2 (.mov (.c (.bl false))))]) (.seq (.reg [(zm 3 0), (zs 4 (.lenl (.t 3))), (zs 5 (.cmp .gtr (.t 4) (.c (.int .i64 0)))), (zm 6 5), (zh 7 6 true 0), (zh 8 6 true 0), (zg 9 6 true (.lenl (.t 8))), (zg 10 6 true (.ari .sub .i64 (.t 9) (.c (.int .i64 1)))), (zg 11 6 true (.iad 4 (.t 7) (.t 10))), (zg 12 6 true (.fad 2 (.t 11))), (zg 13 6 true (.ld false 1 (.t 12))), (zg 14 6 true (.cmp .eql (.t 13) (.c (.int .i64 2)))), (zs 15 (.pick (.t 6) (.t 14) (.c (.bl false)))), (zm 2 15)]) .ret), [.tmp 2]⟩
def x92 : XFn := ⟨32, .seq (.reg [(zs 4 (.mov (.c (.v (.slice none 0 0)))))]) (.seq (.reg [(zs 5 (.mov (.c (.int .i64 0))))]) (.seq (.block 0 (.loop (.seq (.seq (.reg [(zm 6 5), (zm 7 0), (zs 8 (.lenl (.t 7))), (zs 9 (.cmp .lss (.t 6) (.t 8))), (zm 10 9), (zh 11 10 true 0), (zh 12 10 true 5), (zg 13 10 true (.iad 1 (.t 11) (.t 12))), (zg 14 10 true (.ld false 1 (.t 13))), (zh 15 10 true 1), (zg 16 10 true (.cmp .lss (.t 14) (.t 15))), (zs 17 (.pick (.t 10) (.t 16) (.c (.bl false))))]) (.cond (.t 17) .skip (.exit 0))) (.block 1 (.reg [(zm 18 5), (zs 19 (.ari .add .i64 (.t 18) (.c (.int .i64 1)))), (zm 5 19)]))))) (.seq (.dreg (.take 1 (zm 21 0) (.take 2 (zm 22 5) (.take 3 (zs 23 (.sli 1 (.t 21) none (some (.t 22)))) (.take 5 (zm 25 1) (.take 8 (zm 28 0) (.take 9 (zm 29 5) (.take 10 (zs 30 (.sli 1 (.t 28) (some (.t 29)) none)) (.fork (.eff 0 0 false (zs 20 (.bsl 9 1 0 [.str ⟨#[]⟩] [])) (.fork (.eff 4 1 false (zs 24 (.app 32 32 9 1 16 (.t 20) (.t 23))) (.eff 6 2 false (zs 26 (.bsl 9 1 1 [.str ⟨#[]⟩] [(0, .t 25)])) (.eff 7 3 false (zs 27 (.app 32 32 9 1 16 (.t 24) (.t 26))) (.eff 11 4 false (zs 31 (.app 32 32 9 1 16 (.t 27) (.t 30))) (.take 12 (zm 4 31) .nil))))) (.eff 6 2 false (zs 26 (.bsl 9 1 1 [.str ⟨#[]⟩] [(0, .t 25)])) (.eff 4 1 false (zs 24 (.app 32 32 9 1 16 (.t 20) (.t 23))) (.eff 7 3 false (zs 27 (.app 32 32 9 1 16 (.t 24) (.t 26))) (.eff 11 4 false (zs 31 (.app 32 32 9 1 16 (.t 27) (.t 30))) (.take 12 (zm 4 31) .nil))))))) (.eff 6 2 false (zs 26 (.bsl 9 1 1 [.str ⟨#[]⟩] [(0, .t 25)])) (.eff 0 0 false (zs 20 (.bsl 9 1 0 [.str ⟨#[]⟩] [])) (.eff 4 1 false (zs 24 (.app 32 32 9 1 16 (.t 20) (.t 23))) (.eff 7 3 false (zs 27 (.app 32 32 9 1 16 (.t 24) (.t 26))) (.eff 11 4 false (zs 31 (.app 32 32 9 1 16 (.t 27) (.t 30))) (.take 12 (zm 4 31) .nil)))))))))))))) 5 []) .ret))), [.tmp 4]⟩
def x93 : XFn := ⟨14, .seq (.reg [(zs 3 (.mov (.c (.bl false))))]) (.seq (.reg [(zm 4 0), (zs 5 (.nck (.t 4))), (zf 6 9 5), (zl 7 6), (zs 8 (.cmp .eql (.t 7) (.c (.int .i64 0)))), (zm 9 8), (zh 10 9 true 0), (zg 11 9 true (.mkf 94 [.t 1])), (zg 12 9 true (.call 62 [.t 10, .c (.int .i64 (-1)), .t 11])), (zs 13 (.pick (.t 9) (.t 12) (.c (.bl false)))), (zm 3 13)]) .ret), [.tmp 3]⟩
def x94 : XFn := ⟨13, .seq (.reg [(zs 2 (.box 82 (.t 0))), (zs 3 (.mov (.c (.bl false))))]) (.seq (.reg [(zf 4 0 2), (zl 5 4), (zs 6 (.cmp .eql (.t 5) (.c (.int .i64 0)))), (zm 7 6), (zg 8 7 true (.fad 1 (.t 2))), (zg 9 7 true (.ld false 1 (.t 8))), (zg 10 7 true (.ld false 1 (.t 1))), (zg 11 7 true (.cmp .eql (.t 9) (.t 10))), (zs 12 (.pick (.t 7) (.t 11) (.c (.bl false)))), (zm 3 12)]) .ret), [.tmp 3]⟩
def x95 : XFn := ⟨18, .seq (.reg [(zs 4 (.mov (.c (.bl false))))]) (.seq (.seq (.reg [(zs 5 (.mov (.c (.int .i64 0))))]) (.block 0 (.loop (.seq (.seq (.reg [(zm 6 5), (zm 7 0), (zs 8 (.lenl (.t 7))), (zs 9 (.cmp .lss (.t 6) (.t 8)))]) (.cond (.t 9) .skip (.exit 0))) (.seq (.block 1 (.seq (.reg [(zm 12 0), (zm 13 5), (zs 14 (.iad 1 (.t 12) (.t 13))), (zl 15 14), (zm 16 1), (zs 17 (.cmp .eql (.t 15) (.t 16)))]) (.cond (.t 17) (.seq (.reg [(zs 4 (.mov (.c (.bl true))))]) .ret) .skip))) (.reg [(zm 10 5), (zs 11 (.ari .add .i64 (.t 10) (.c (.int .i64 1)))), (zm 5 11)])))))) (.seq (.reg [(zs 4 (.mov (.c (.bl false))))]) .ret)), [.tmp 4]⟩
def x96 : XFn := ⟨50, .seq (.reg [(zs 2 (.mov (.c (.int .i64 0))))]) (.seq (.seq (.reg [(zm 6 0), (zs 7 (.lens (.t 6))), (zs 8 (.cmp .lss (.t 7) (.c (.int .i64 10))))]) (.cond (.t 8) (.seq (.reg [(zs 2 (.mov (.c (.int .i64 (-1)))))]) .ret) .skip)) (.seq (.reg [(zs 3 (.mov (.c (.int .i64 0))))]) (.seq (.seq (.reg [(zs 9 (.mov (.c (.int .i64 0))))]) (.block 0 (.loop (.seq (.reg [(zs 10 (.cmp .lss (.t 9) (.c (.int .i64 10))))]) (.seq (.cond (.t 10) .skip (.exit 0)) (.seq (.block 1 (.seq (.reg [(zm 11 9), (zm 4 11)]) (.seq (.reg [(zs 5 (.mov (.c (.int .i64 0))))]) (.seq (.block 2 (.seq (.reg [(zm 13 4), (zs 14 (.cmp .lss (.t 13) (.c (.int .i64 4)))), (zm 15 14), (zh 16 15 true 0), (zh 17 15 true 4), (zg 18 15 true (.idx (.t 16) (.t 17))), (zg 19 15 true (.call 72 [.t 18])), (zs 20 (.pick (.t 15) (.t 19) (.c (.bl false)))), (zm 12 20)]) (.cond (.t 12) (.reg [(zm 21 0), (zm 22 4), (zs 23 (.idx (.t 21) (.t 22))), (zs 24 (.ari .sub .u8 (.t 23) (.c (.int .u8 97)))), (zs 25 (.cvi .i64 (.t 24))), (zs 26 (.ari .add .i64 (.t 25) (.c (.int .i64 1)))), (zm 5 26)]) (.seq (.reg [(zm 28 4), (zs 29 (.cmp .geq (.t 28) (.c (.int .i64 4)))), (zm 30 29), (zh 31 30 true 0), (zh 32 30 true 4), (zg 33 30 true (.idx (.t 31) (.t 32))), (zg 34 30 true (.call 73 [.t 33])), (zs 35 (.pick (.t 30) (.t 34) (.c (.bl false)))), (zm 27 35)]) (.cond (.t 27) (.reg [(zm 36 0), (zm 37 4), (zs 38 (.idx (.t 36) (.t 37))), (zs 39 (.ari .sub .u8 (.t 38) (.c (.int .u8 48)))), (zs 40 (.cvi .i64 (.t 39))), (zm 5 40)]) (.seq (.reg [(zs 2 (.mov (.c (.int .i64 (-1)))))]) .ret)))))) (.reg [(zm 41 3), (zm 42 5), (zm 43 4), (zs 44 (.ari .add .i64 (.t 43) (.c (.int .i64 1)))), (zs 45 (.ari .mul .i64 (.t 42) (.t 44))), (zs 46 (.ari .add .i64 (.t 41) (.t 45))), (zm 3 46)]))))) (.reg [(zs 47 (.ari .add .i64 (.t 9) (.c (.int .i64 1)))), (zm 9 47)]))))))) (.seq (.reg [(zm 48 3), (zs 49 (.ari .rem .i64 (.t 48) (.c (.int .i64 97)))), (zm 2 49)]) .ret)))), [.tmp 2]⟩
def x97 : XFn := ⟨15, .seq (.reg [(zs 4 (.mov (.c (.str ⟨#[]⟩))))]) (.seq (.reg [(zm 6 0), (zs 7 (.call 105 [.t 6])), (zm 5 7)]) (.seq (.block 0 (.loop (.seq (.seq (.reg [(zm 8 5), (zs 9 (.lens (.t 8))), (zm 10 1), (zs 11 (.cmp .lss (.t 9) (.t 10)))]) (.cond (.t 11) .skip (.exit 0))) (.block 1 (.reg [(zm 12 5), (zs 13 (.ari .add .i64 (.c (.str ⟨#[48]⟩)) (.t 12))), (zm 5 13)]))))) (.seq (.reg [(zm 14 5), (zm 4 14)]) .ret))), [.tmp 4]⟩
def x100 : XFn := ⟨79, .seq (.reg [(zs 3 (.box 34 (.t 1))), (zs 4 (.mov (.c (.bl false))))]) (.seq (.seq (.reg [(zf 6 0 3), (zl 7 6), (zf 8 2 3), (zl 9 8), (zf 10 3 3), (zl 11 10), (zf 12 4 3), (zl 13 12), (zs 14 (.bsl 9 1 4 [.str ⟨#[]⟩] [(0, .t 7), (1, .t 9), (2, .t 11), (3, .t 13)])), (zs 15 (.call 117 [.t 14])), (zs 16 (.not (.t 15))), (zm 17 16), (zg 18 17 false (.fad 1 (.t 3))), (zg 19 17 false (.ld false 1 (.t 18))), (zh 20 17 false 0), (zg 21 17 false (.cmp .neq (.t 19) (.t 20))), (zs 22 (.pick (.t 17) (.c (.bl true)) (.t 21))), (zm 23 22), (zg 24 23 false (.fad 5 (.t 3))), (zg 25 23 false (.ld false 1 (.t 24))), (zg 26 23 false (.lenl (.t 25))), (zg 27 23 false (.cmp .lss (.t 26) (.c (.int .i64 1)))), (zs 28 (.pick (.t 23) (.c (.bl true)) (.t 27))), (zm 29 28), (zg 30 29 false (.fad 5 (.t 3))), (zg 31 29 false (.ld false 1 (.t 30))), (zg 32 29 false (.lenl (.t 31))), (zg 33 29 false (.cmp .gtr (.t 32) (.c (.int .i64 64)))), (zs 34 (.pick (.t 29) (.c (.bl true)) (.t 33))), (zm 35 34), (zg 36 35 false (.fad 6 (.t 3))), (zg 37 35 false (.ld false 1 (.t 36))), (zg 38 35 false (.lenl (.t 37))), (zg 39 35 false (.cmp .gtr (.t 38) (.c (.int .i64 64)))), (zs 40 (.pick (.t 35) (.c (.bl true)) (.t 39))), (zm 41 40), (zg 42 41 false (.fad 6 (.t 3))), (zg 43 41 false (.ld false 1 (.t 42))), (zg 44 41 false (.call 117 [.t 43])), (zg 45 41 false (.not (.t 44))), (zs 46 (.pick (.t 41) (.c (.bl true)) (.t 45))), (zm 47 46), (zg 48 47 false (.fad 7 (.t 3))), (zg 49 47 false (.ld false 1 (.t 48))), (zg 50 47 false (.call 103 [.t 49])), (zg 51 47 false (.not (.t 50))), (zs 52 (.pick (.t 47) (.c (.bl true)) (.t 51)))]) (.cond (.t 52) (.seq (.reg [(zs 4 (.mov (.c (.bl false))))]) .ret) .skip)) (.seq (.seq (.reg [(zs 5 (.mov (.c (.int .i64 0))))]) (.block 0 (.loop (.seq (.seq (.reg [(zm 53 5), (zf 54 5 3), (zl 55 54), (zs 56 (.lenl (.t 55))), (zs 57 (.cmp .lss (.t 53) (.t 56)))]) (.cond (.t 57) .skip (.exit 0))) (.seq (.block 1 (.seq (.dreg (.take 0 (zf 60 5 3) (.take 1 (zl 61 60) (.take 2 (zm 62 5) (.take 3 (zs 63 (.iad 1 (.t 61) (.t 62))) (.take 4 (zl 64 63) (.eff 5 0 false (zs 65 (.call 118 [.t 64])) (.phase [1, 4, 9, 13, 16] (.take 6 (zs 66 (.not (.t 65))) (.take 7 (zm 67 66) (.take 8 (zg 68 67 false (.fad 5 (.t 3))) (.take 9 (zg 69 67 false (.ld false 1 (.t 68))) (.take 10 (zh 70 67 false 5) (.take 11 (zg 71 67 false (.sli 1 (.t 69) none (some (.t 70)))) (.take 12 (zg 72 67 false (.fad 5 (.t 3))) (.take 13 (zg 73 67 false (.ld false 1 (.t 72))) (.take 14 (zh 74 67 false 5) (.take 15 (zg 75 67 false (.iad 1 (.t 73) (.t 74))) (.take 16 (zg 76 67 false (.ld false 1 (.t 75))) (.eff 17 0 false (zg 77 67 false (.call 95 [.t 71, .t 76])) (.phase [1, 4, 9, 13, 16] (.take 18 (zs 78 (.pick (.t 67) (.c (.bl true)) (.t 77))) .nil))))))))))))))))))))) 0 [3]) (.cond (.t 78) (.seq (.reg [(zs 4 (.mov (.c (.bl false))))]) .ret) .skip))) (.reg [(zm 58 5), (zs 59 (.ari .add .i64 (.t 58) (.c (.int .i64 1)))), (zm 5 59)])))))) (.seq (.reg [(zs 4 (.mov (.c (.bl true))))]) .ret))), [.tmp 4]⟩
def x101 : XFn := ⟨36, .seq (.reg [(zs 2 (.mov (.c (.bl false))))]) (.seq (.seq (.reg [(zs 3 (.mov (.c (.int .i64 0))))]) (.block 0 (.loop (.seq (.seq (.reg [(zm 4 3), (zm 5 0), (zs 6 (.lens (.t 5))), (zs 7 (.cmp .lss (.t 4) (.t 6)))]) (.cond (.t 7) .skip (.exit 0))) (.seq (.block 1 (.seq (.reg [(zm 10 0), (zm 11 3), (zs 12 (.idx (.t 10) (.t 11))), (zs 13 (.call 119 [.t 12])), (zs 14 (.not (.t 13))), (zm 15 14), (zh 16 15 true 0), (zh 17 15 true 3), (zg 18 15 true (.idx (.t 16) (.t 17))), (zg 19 15 true (.call 120 [.t 18])), (zg 20 15 true (.not (.t 19))), (zs 21 (.pick (.t 15) (.t 20) (.c (.bl false)))), (zm 22 21), (zh 23 22 true 0), (zh 24 22 true 3), (zg 25 22 true (.idx (.t 23) (.t 24))), (zg 26 22 true (.cmp .neq (.t 25) (.c (.int .u8 45)))), (zs 27 (.pick (.t 22) (.t 26) (.c (.bl false))))]) (.cond (.t 27) (.seq (.reg [(zs 2 (.mov (.c (.bl false))))]) .ret) .skip))) (.reg [(zm 8 3), (zs 9 (.ari .add .i64 (.t 8) (.c (.int .i64 1)))), (zm 3 9)])))))) (.seq (.reg [(zm 28 0), (zs 29 (.lens (.t 28))), (zs 30 (.cmp .geq (.t 29) (.c (.int .i64 1)))), (zm 31 30), (zh 32 31 true 0), (zg 33 31 true (.lens (.t 32))), (zg 34 31 true (.cmp .leq (.t 33) (.c (.int .i64 16)))), (zs 35 (.pick (.t 31) (.t 34) (.c (.bl false)))), (zm 2 35)]) .ret)), [.tmp 2]⟩
def x102 : XFn := ⟨14, .seq (.reg [(zs 1 (.box 34 (.t 0))), (zs 2 (.alloc 34 [.str ⟨#[]⟩, .str ⟨#[]⟩, .str ⟨#[]⟩, .str ⟨#[]⟩, .str ⟨#[]⟩, .v (.slice none 0 0), .v (.slice none 0 0), .int .i64 0, .bl false]))]) (.seq (.reg [(zs 3 (.bsl 9 1 0 [.str ⟨#[]⟩] [])), (zf 4 5 1), (zl 5 4), (zs 6 (.app 32 32 9 1 16 (.t 3) (.t 5))), (zf 7 5 1), (zn (.st 1 (.t 7) (.t 6)))]) (.seq (.reg [(zs 8 (.bsl 9 1 0 [.str ⟨#[]⟩] [])), (zf 9 6 1), (zl 10 9), (zs 11 (.app 32 32 9 1 16 (.t 8) (.t 10))), (zf 12 6 1), (zn (.st 1 (.t 12) (.t 11)))]) (.seq (.reg [(zs 13 (.ld true 9 (.t 1))), (zn (.st 9 (.t 2) (.t 13)))]) .ret))), [.cell 2 true 9]⟩
def x103 : XFn := ⟨9, .seq (.reg [(zs 2 (.mov (.c (.bl false))))]) (.seq (.reg [(zm 3 0), (zs 4 (.cmp .geq (.t 3) (.c (.int .i64 0)))), (zm 5 4), (zh 6 5 true 0), (zg 7 5 true (.cmp .leq (.t 6) (.c (.int .i64 1048576)))), (zs 8 (.pick (.t 5) (.t 7) (.c (.bl false)))), (zm 2 8)]) .ret), [.tmp 2]⟩
def x104 : XFn := ⟨29, .seq (.reg [(zs 2 (.box 110 (.t 0))), (zs 4 (.mov (.c (.int .i64 0))))]) (.seq (.seq (.reg [(zf 6 10 2), (zl 7 6), (zm 8 1), (zs 9 (.iad 3 (.t 7) (.t 8))), (zf 10 2 9), (zl 11 10), (zs 12 (.lenl (.t 11))), (zm 5 12)]) (.seq (.reg [(zm 13 5), (zs 14 (.cmp .gtr (.t 13) (.c (.int .i64 0))))]) (.cond (.t 14) (.seq (.reg [(zf 15 10 2), (zl 16 15), (zm 17 1), (zs 18 (.iad 3 (.t 16) (.t 17))), (zf 19 2 18), (zl 20 19), (zm 21 5), (zs 22 (.ari .sub .i64 (.t 21) (.c (.int .i64 1)))), (zs 23 (.iad 4 (.t 20) (.t 22))), (zf 24 3 23), (zl 25 24), (zm 4 25)]) .ret) .skip))) (.seq (.reg [(zf 26 0 2), (zf 27 7 26), (zl 28 27), (zm 4 28)]) .ret)), [.tmp 4]⟩
def x117 : XFn := ⟨16, .seq (.reg [(zs 2 (.mov (.c (.bl false))))]) (.seq (.seq (.reg [(zs 3 (.mov (.c (.int .i64 0))))]) (.block 0 (.loop (.seq (.seq (.reg [(zm 4 3), (zm 5 0), (zs 6 (.lenl (.t 5))), (zs 7 (.cmp .lss (.t 4) (.t 6)))]) (.cond (.t 7) .skip (.exit 0))) (.seq (.block 1 (.seq (.reg [(zm 10 0), (zm 11 3), (zs 12 (.iad 1 (.t 10) (.t 11))), (zl 13 12), (zs 14 (.call 101 [.t 13])), (zs 15 (.not (.t 14)))]) (.cond (.t 15) (.seq (.reg [(zs 2 (.mov (.c (.bl false))))]) .ret) .skip))) (.reg [(zm 8 3), (zs 9 (.ari .add .i64 (.t 8) (.c (.int .i64 1)))), (zm 3 9)])))))) (.seq (.reg [(zs 2 (.mov (.c (.bl true))))]) .ret)), [.tmp 2]⟩
def x118 : XFn := ⟨35, .seq (.reg [(zs 2 (.mov (.c (.bl false))))]) (.seq (.dreg (.take 0 (zm 3 0) (.take 1 (zs 4 (.lens (.t 3))) (.take 2 (zs 5 (.cmp .eql (.t 4) (.c (.int .i64 12)))) (.take 3 (zm 6 5) (.take 4 (zh 7 6 true 0) (.eff 5 0 false (zg 8 6 true (.call 128 [.t 7])) (.take 6 (zs 9 (.pick (.t 6) (.t 8) (.c (.bl false)))) (.take 7 (zm 10 9) (.take 8 (zh 11 10 true 0) (.take 9 (zg 12 10 true (.idx (.t 11) (.c (.int .i64 10)))) (.eff 10 0 false (zg 13 10 true (.call 120 [.t 12])) (.take 11 (zs 14 (.pick (.t 10) (.t 13) (.c (.bl false)))) (.take 12 (zm 15 14) (.take 13 (zh 16 15 true 0) (.take 14 (zg 17 15 true (.idx (.t 16) (.c (.int .i64 11)))) (.eff 15 0 false (zg 18 15 true (.call 120 [.t 17])) (.take 16 (zs 19 (.pick (.t 15) (.t 18) (.c (.bl false)))) (.take 17 (zm 20 19) (.take 18 (zh 21 20 true 0) (.take 20 (zh 23 20 true 0) (.take 21 (zg 24 20 true (.idx (.t 23) (.c (.int .i64 10)))) (.take 22 (zg 25 20 true (.cvi .i64 (.t 24))) (.take 23 (zg 26 20 true (.ari .sub .i64 (.t 25) (.c (.int .i64 48)))) (.take 24 (zg 27 20 true (.ari .mul .i64 (.c (.int .i64 10)) (.t 26))) (.take 25 (zh 28 20 true 0) (.take 26 (zg 29 20 true (.idx (.t 28) (.c (.int .i64 11)))) (.take 27 (zg 30 20 true (.cvi .i64 (.t 29))) (.take 28 (zg 31 20 true (.ari .add .i64 (.t 27) (.t 30))) (.take 29 (zg 32 20 true (.ari .sub .i64 (.t 31) (.c (.int .i64 48)))) (.eff 19 0 false (zg 22 20 true (.call 129 [.t 21])) (.take 30 (zg 33 20 true (.cmp .eql (.t 22) (.t 32))) (.take 31 (zs 34 (.pick (.t 20) (.t 33) (.c (.bl false)))) (.take 32 (zm 2 34) .nil))))))))))))))))))))))))))))))))) 0 [0]) .ret), [.tmp 2]⟩
def x119 : XFn := ⟨9, .seq (.reg [(zs 2 (.mov (.c (.bl false))))]) (.seq (.reg [(zm 3 0), (zs 4 (.cmp .geq (.t 3) (.c (.int .u8 97)))), (zm 5 4), (zh 6 5 true 0), (zg 7 5 true (.cmp .leq (.t 6) (.c (.int .u8 122)))), (zs 8 (.pick (.t 5) (.t 7) (.c (.bl false)))), (zm 2 8)]) .ret), [.tmp 2]⟩
def x120 : XFn := ⟨9, .seq (.reg [(zs 2 (.mov (.c (.bl false))))]) (.seq (.reg [(zm 3 0), (zs 4 (.cmp .geq (.t 3) (.c (.int .u8 48)))), (zm 5 4), (zh 6 5 true 0), (zg 7 5 true (.cmp .leq (.t 6) (.c (.int .u8 57)))), (zs 8 (.pick (.t 5) (.t 7) (.c (.bl false)))), (zm 2 8)]) .ret), [.tmp 2]⟩
def x128 : XFn := ⟨31, .seq (.reg [(zs 2 (.mov (.c (.bl false))))]) (.seq (.seq (.reg [(zm 4 0), (zs 5 (.lens (.t 4))), (zs 6 (.cmp .lss (.t 5) (.c (.int .i64 10))))]) (.cond (.t 6) (.seq (.reg [(zs 2 (.mov (.c (.bl false))))]) .ret) .skip)) (.seq (.seq (.reg [(zs 3 (.mov (.c (.int .i64 0))))]) (.block 0 (.loop (.seq (.seq (.reg [(zm 7 3), (zs 8 (.cmp .lss (.t 7) (.c (.int .i64 10))))]) (.cond (.t 8) .skip (.exit 0))) (.seq (.block 1 (.seq (.reg [(zm 11 3), (zs 12 (.cmp .lss (.t 11) (.c (.int .i64 4)))), (zm 13 12), (zh 14 13 true 0), (zh 15 13 true 3), (zg 16 13 true (.idx (.t 14) (.t 15))), (zg 17 13 true (.call 119 [.t 16])), (zg 18 13 true (.not (.t 17))), (zs 19 (.pick (.t 13) (.t 18) (.c (.bl false)))), (zm 20 19), (zh 21 20 false 3), (zg 22 20 false (.cmp .geq (.t 21) (.c (.int .i64 4)))), (zh 23 20 false 22), (zh 24 23 true 0), (zh 25 23 true 3), (zg 26 23 true (.idx (.t 24) (.t 25))), (zg 27 23 true (.call 120 [.t 26])), (zg 28 23 true (.not (.t 27))), (zg 29 20 false (.pick (.t 23) (.t 28) (.c (.bl false)))), (zs 30 (.pick (.t 20) (.c (.bl true)) (.t 29)))]) (.cond (.t 30) (.seq (.reg [(zs 2 (.mov (.c (.bl false))))]) .ret) .skip))) (.reg [(zm 9 3), (zs 10 (.ari .add .i64 (.t 9) (.c (.int .i64 1)))), (zm 3 10)])))))) (.seq (.reg [(zs 2 (.mov (.c (.bl true))))]) .ret))), [.tmp 2]⟩
def x129 : XFn := ⟨33, .seq (.reg [(zs 2 (.mov (.c (.int .i64 0))))]) (.seq (.seq (.reg [(zm 6 0), (zs 7 (.call 128 [.t 6])), (zs 8 (.not (.t 7)))]) (.cond (.t 8) (.seq (.reg [(zs 2 (.mov (.c (.int .i64 (-1)))))]) .ret) .skip)) (.seq (.reg [(zs 3 (.mov (.c (.int .i64 0))))]) (.seq (.seq (.reg [(zs 4 (.mov (.c (.int .i64 0))))]) (.block 0 (.loop (.seq (.seq (.reg [(zm 9 4), (zs 10 (.cmp .lss (.t 9) (.c (.int .i64 10))))]) (.cond (.t 10) .skip (.exit 0))) (.seq (.block 1 (.seq (.reg [(zm 13 0), (zm 14 4), (zs 15 (.idx (.t 13) (.t 14))), (zs 16 (.cvi .i64 (.t 15))), (zs 17 (.ari .sub .i64 (.t 16) (.c (.int .i64 48)))), (zm 5 17)]) (.seq (.seq (.reg [(zm 18 4), (zs 19 (.cmp .lss (.t 18) (.c (.int .i64 4))))]) (.cond (.t 19) (.reg [(zm 20 0), (zm 21 4), (zs 22 (.idx (.t 20) (.t 21))), (zs 23 (.cvi .i64 (.t 22))), (zs 24 (.ari .sub .i64 (.t 23) (.c (.int .i64 96)))), (zm 5 24)]) .skip)) (.reg [(zm 25 3), (zm 26 5), (zm 27 4), (zs 28 (.ari .add .i64 (.t 27) (.c (.int .i64 1)))), (zs 29 (.ari .mul .i64 (.t 26) (.t 28))), (zs 30 (.ari .add .i64 (.t 25) (.t 29))), (zm 3 30)])))) (.reg [(zm 11 4), (zs 12 (.ari .add .i64 (.t 11) (.c (.int .i64 1)))), (zm 4 12)])))))) (.seq (.reg [(zm 31 3), (zs 32 (.ari .rem .i64 (.t 31) (.c (.int .i64 97)))), (zm 2 32)]) .ret)))), [.tmp 2]⟩
end Go.Proofs.YtjnmaicofgjplaaGreatDoor
namespace Go.Proofs.YtjnmaicofgjplaaGreatDoor
open Go.RowKit
set_option maxHeartbeats 1000000
set_option maxRecDepth 100000
theorem K_of {K : AV → List Ent → Prop} {x y : AV} {H : List Ent} (h : K y H) (e : x = y) : K x H := e ▸ h
theorem K_bl {K : AV → List Ent → Prop} {b c : Bool} {H : List Ent} (h : K (.bl c) H) (e : b = c) : K (.bl b) H := e ▸ h
theorem K_i {K : AV → List Ent → Prop} {b c : Int} {H : List Ent} (h : K (.i c) H) (e : b = c) : K (.i b) H := e ▸ h
def ByC (g : Int → Bool) : Ctr := spec (fun z : Int => [.int .u8 z]) (fun _ => []) (fun _ => True) (fun z => .bl (g z)) fun _ => []
theorem isLetter_body (P : Program) : BodyOk P x72 (ByC letB) := by
 intro args H K hc
 obtain ⟨z, rfl, rfl, _, hK⟩ := hc
 refine ⟨Nat.le_of_ble_eq_true rfl, ?_⟩
 dsimp only at hK ⊢
 cbv; repeat' ((first | refine .mk (fun h => ?_) fun h => ?_ | fail) <;> cbv)
 all_goals exact FinK.mk ⟨_, Gh.refl _, .inl (CutK.val rfl (Le.refl _) (K_bl hK (by (unfold letB; simp; omega))))⟩
theorem isDigit_body (P : Program) : BodyOk P x73 (ByC digB) := by
 intro args H K hc
 obtain ⟨z, rfl, rfl, _, hK⟩ := hc
 refine ⟨Nat.le_of_ble_eq_true rfl, ?_⟩
 dsimp only at hK ⊢
 cbv; repeat' ((first | refine .mk (fun h => ?_) fun h => ?_ | fail) <;> cbv)
 all_goals exact FinK.mk ⟨_, Gh.refl _, .inl (CutK.val rfl (Le.refl _) (K_bl hK (by (unfold digB; simp; omega))))⟩
theorem rletter_body (P : Program) : BodyOk P x119 (ByC letB) := by
 intro args H K hc
 obtain ⟨z, rfl, rfl, _, hK⟩ := hc
 refine ⟨Nat.le_of_ble_eq_true rfl, ?_⟩
 dsimp only at hK ⊢
 cbv; repeat' ((first | refine .mk (fun h => ?_) fun h => ?_ | fail) <;> cbv)
 all_goals exact FinK.mk ⟨_, Gh.refl _, .inl (CutK.val rfl (Le.refl _) (K_bl hK (by (unfold letB; simp; omega))))⟩
theorem rdigit_body (P : Program) : BodyOk P x120 (ByC digB) := by
 intro args H K hc
 obtain ⟨z, rfl, rfl, _, hK⟩ := hc
 refine ⟨Nat.le_of_ble_eq_true rfl, ?_⟩
 dsimp only at hK ⊢
 cbv; repeat' ((first | refine .mk (fun h => ?_) fun h => ?_ | fail) <;> cbv)
 all_goals exact FinK.mk ⟨_, Gh.refl _, .inl (CutK.val rfl (Le.refl _) (K_bl hK (by (unfold digB; simp; omega))))⟩
def StrC (p : ByteArray → Prop) (g : ByteArray → Bool) : Ctr := spec (fun s : ByteArray => [.str s]) (fun _ => []) p (fun s => .bl (g s)) fun _ => []
theorem ch_or {c : UInt8} {z : Int} (hz : z = c.toNat) : chB c = (letB z || digB z || decide (z = 45)) := by subst hz; rfl
theorem nameB_short {s : ByteArray} (h : s.size < 1 ∨ 16 < s.size) : nameB s = false := by
 unfold nameB
 rcases h with h | h
 ·rw [decide_eq_false (by omega)]; rfl
 ·rw [decide_eq_false (p := s.size ≤ 16) (by omega)]; simp
theorem nameB_long {s : ByteArray} (h : firstAll s s.size) (h1 : 1 ≤ s.size) (h2 : s.size ≤ 16) : nameB s = true := by rw [nameB_all h]; simp [h1, h2]
theorem name_body (P : Program) (hl : FnOk P 72 (ByC letB)) (hd : FnOk P 73 (ByC digB)) : BodyOk P x43 (StrC (fun _ => True) nameB) := by
 intro args H K hc
 obtain ⟨s, rfl, rfl, _, hK⟩ := hc
 refine ⟨Nat.le_of_ble_eq_true rfl, ?_⟩
 dsimp only at hK ⊢
 cbv; repeat' ((first | refine .mk (fun h => ?_) fun h => ?_ | refine .k fun z hz => ?_ | fail) <;> cbv)
 ·exact FinK.mk ⟨_, Gh.refl _, .inl (CutK.val rfl (Le.refl _) (K_bl hK (by (rw [nameB_short (by ((try simp only [vn] at *) <;> omega))]))))⟩
 ·exact FinK.mk ⟨_, Gh.refl _, .inl (CutK.val rfl (Le.refl _) (K_bl hK (by (rw [nameB_short (by ((try simp only [vn] at *) <;> omega))]))))⟩
 obtain ⟨n, hn⟩ : ∃ n, n = s.size := ⟨_, rfl⟩
 refine xloopV [] (fun p : { k : Nat // k ≤ s.size ∧ firstAll s k } => [(14, .i (nI p.1))]) (fun _ => []) (fun p => lft n p.1) ⟨0, Nat.zero_le _, firstAll_zero s⟩ ?_
 rintro ⟨k, hk, hf⟩
 dsimp only
 cbv; repeat' ((first | refine .mk (fun h => ?_) fun h => ?_ | fail) <;> cbv)
 rotate_left
 ·obtain rfl : k = s.size := by ((try simp only [vn] at *) <;> omega)
  exact FinK.mk ⟨_, Gh.refl _, .inl (CutK.val rfl (Le.refl _) (K_bl hK (by (rw [nameB_long hf (by ((try simp only [vn] at *) <;> omega)) (by ((try simp only [vn] at *) <;> omega))]))))⟩
 have hks : k < s.size := by ((try simp only [vn] at *) <;> omega)
 refine askByte_nI hks fun z hz => ?_
 have hch := ch_or (c := s[k]) hz
 cbv
 (refine callG_spec0 hl z trivial rfl rfl rfl ?_; try dsimp only)
 cases h1 : letB z with
 | true =>
  cbv; repeat' ((first | refine .k fun z hz => ?_ | fail) <;> cbv)
  obtain rfl := hz
  exact roundV ⟨k + 1, hks, firstAll_succ hks hf (by rw [hch, h1]; rfl)⟩ (lft_lt (by omega))
 | false =>
  cbv
  refine askByte_nI hks fun z2 hz2 => ?_
  obtain rfl : z = z2 := hz.trans hz2.symm
  cbv
  (refine callG_spec0 hd z trivial rfl rfl rfl ?_; try dsimp only)
  cases h2 : digB z with
  | true =>
   cbv; repeat' ((first | refine .k fun z hz => ?_ | fail) <;> cbv)
   obtain rfl := hz
   exact roundV ⟨k + 1, hks, firstAll_succ hks hf (by rw [hch, h1, h2]; rfl)⟩ (lft_lt (by omega))
  | false =>
   cbv
   refine askByte_nI hks fun z2 hz2 => ?_
   obtain rfl : z = z2 := hz.trans hz2.symm
   cbv; repeat' ((first | refine .mk (fun h => ?_) fun h => ?_ | refine .k fun z hz => ?_ | fail) <;> cbv)
   ·obtain rfl := hz
    exact roundV ⟨k + 1, hks, firstAll_succ hks hf (by rw [hch, h1, h2]; simp [h])⟩ (lft_lt (by omega))
   ·exact FinK.mk ⟨_, Gh.refl _, .inl (CutK.val rfl (Le.refl _) (K_bl hK (by (rw [nameB_not hks (by rw [hch, h1, h2]; simp [h])]))))⟩
end Go.Proofs.YtjnmaicofgjplaaGreatDoor
/-
  Functions of the program as code on abstract values (printed by xgen.sh).
-/
namespace Go.Proofs.YtjnmaicofgjplaaGreatDoor
def x105 : XFn := ⟨5, .seq (.reg [(zs 2 (.mov (.c (.str ⟨#[]⟩))))]) (.seq (.reg [(zm 3 0), (zs 4 (.call 121 [.t 3])), (zm 2 4)]) .ret), [.tmp 2]⟩
def x121 : XFn := ⟨5, .seq (.reg [(zs 2 (.mov (.c (.str ⟨#[]⟩))))]) (.seq (.reg [(zm 3 0), (zs 4 (.call 130 [.t 3, .c (.int .i64 10)])), (zm 2 4)]) .ret), [.tmp 2]⟩
def x130 : XFn := ⟨54, .seq (.reg [(zs 4 (.mov (.c (.str ⟨#[]⟩))))]) (.seq (.seq (.reg [(zm 10 1), (zs 11 (.cmp .eql (.t 10) (.c (.int .i64 10))))]) (.cond (.t 11) (.seq (.seq (.reg [(zm 12 0), (zs 13 (.cmp .leq (.c (.int .i64 0)) (.t 12))), (zm 14 13), (zh 15 14 true 0), (zg 16 14 true (.cmp .lss (.t 15) (.c (.int .i64 100)))), (zs 17 (.pick (.t 14) (.t 16) (.c (.bl false))))]) (.cond (.t 17) (.seq (.reg [(zm 18 0), (zs 19 (.call 132 [.t 18])), (zm 4 19)]) .ret) .skip)) (.seq (.reg [(zs 5 (.alloc 167 [.int .u8 0, .int .u8 0, .int .u8 0, .int .u8 0, .int .u8 0, .int .u8 0, .int .u8 0, .int .u8 0, .int .u8 0, .int .u8 0, .int .u8 0, .int .u8 0, .int .u8 0, .int .u8 0, .int .u8 0, .int .u8 0, .int .u8 0, .int .u8 0, .int .u8 0, .int .u8 0, .int .u8 0, .int .u8 0, .int .u8 0, .int .u8 0]))]) (.seq (.reg [(zm 20 0), (zs 21 (.cvi .u64 (.t 20))), (zm 6 21)]) (.seq (.seq (.reg [(zm 22 0), (zs 23 (.cmp .lss (.t 22) (.c (.int .i64 0))))]) (.cond (.t 23) (.reg [(zm 24 6), (zs 25 (.neg .u64 (.t 24))), (zm 6 25)]) .skip)) (.seq (.reg [(zm 26 6), (zs 27 (.call 133 [.t 26])), (zm 7 27)]) (.seq (.reg [(zm 28 7), (zs 29 (.ari .add .i64 (.c (.int .i64 1)) (.t 28))), (zs 30 (.bad)), (zm 31 6), (zs 32 (.call 134 [.t 30, .t 31]))]) (.seq (.seq (.reg [(zm 33 0), (zs 34 (.cmp .lss (.t 33) (.c (.int .i64 0))))]) (.cond (.t 34) (.seq (.reg [(zs 35 (.aia 1 24 (.t 5) (.c (.int .i64 0)))), (zn (.st 1 (.t 35) (.c (.int .u8 45))))]) (.seq (.reg [(zm 36 7), (zs 37 (.ari .add .i64 (.c (.int .i64 1)) (.t 36))), (zs 38 (.bad)), (zs 39 (.b2s (.t 38))), (zm 4 39)]) .ret)) .skip)) (.seq (.reg [(zm 40 7), (zs 41 (.ari .add .i64 (.c (.int .i64 1)) (.t 40))), (zs 42 (.bad)), (zs 43 (.b2s (.t 42))), (zm 4 43)]) .ret)))))))) .skip)) (.seq (.reg [(zm 45 0), (zs 46 (.cvi .u64 (.t 45))), (zm 47 1), (zm 48 0), (zs 49 (.cmp .lss (.t 48) (.c (.int .i64 0)))), (zs 50 (.call 135 [.c (.v (.slice none 0 0)), .t 46, .t 47, .t 49, .c (.bl false)])), (zm 44 50), (zs 51 (.ext (.t 44) 0)), (zs 52 (.ext (.t 44) 1)), (zm 8 51), (zm 9 52)]) (.seq (.reg [(zm 53 9), (zm 4 53)]) .ret))), [.tmp 4]⟩
def x132 : XFn := ⟨15, .seq (.reg [(zs 2 (.mov (.c (.str ⟨#[]⟩))))]) (.seq (.seq (.reg [(zm 3 0), (zs 4 (.cmp .lss (.t 3) (.c (.int .i64 10))))]) (.cond (.t 4) (.seq (.reg [(zm 5 0), (zm 6 0), (zs 7 (.ari .add .i64 (.t 6) (.c (.int .i64 1)))), (zs 8 (.sls (.c (.str ⟨#[48, 49, 50, 51, 52, 53, 54, 55, 56, 57, 97, 98, 99, 100, 101, 102, 103, 104, 105, 106, 107, 108, 109, 110, 111, 112, 113, 114, 115, 116, 117, 118, 119, 120, 121, 122]⟩)) (some (.t 5)) (some (.t 7)))), (zm 2 8)]) .ret) .skip)) (.seq (.reg [(zm 9 0), (zs 10 (.ari .mul .i64 (.t 9) (.c (.int .i64 2)))), (zm 11 0), (zs 12 (.ari .mul .i64 (.t 11) (.c (.int .i64 2)))), (zs 13 (.ari .add .i64 (.t 12) (.c (.int .i64 2)))), (zs 14 (.sls (.c (.str ⟨#[48, 48, 48, 49, 48, 50, 48, 51, 48, 52, 48, 53, 48, 54, 48, 55, 48, 56, 48, 57, 49, 48, 49, 49, 49, 50, 49, 51, 49, 52, 49, 53, 49, 54, 49, 55, 49, 56, 49, 57, 50, 48, 50, 49, 50, 50, 50, 51, 50, 52, 50, 53, 50, 54, 50, 55, 50, 56, 50, 57, 51, 48, 51, 49, 51, 50, 51, 51, 51, 52, 51, 53, 51, 54, 51, 55, 51, 56, 51, 57, 52, 48, 52, 49, 52, 50, 52, 51, 52, 52, 52, 53, 52, 54, 52, 55, 52, 56, 52, 57, 53, 48, 53, 49, 53, 50, 53, 51, 53, 52, 53, 53, 53, 54, 53, 55, 53, 56, 53, 57, 54, 48, 54, 49, 54, 50, 54, 51, 54, 52, 54, 53, 54, 54, 54, 55, 54, 56, 54, 57, 55, 48, 55, 49, 55, 50, 55, 51, 55, 52, 55, 53, 55, 54, 55, 55, 55, 56, 55, 57, 56, 48, 56, 49, 56, 50, 56, 51, 56, 52, 56, 53, 56, 54, 56, 55, 56, 56, 56, 57, 57, 48, 57, 49, 57, 50, 57, 51, 57, 52, 57, 53, 57, 54, 57, 55, 57, 56, 57, 57]⟩)) (some (.t 10)) (some (.t 13)))), (zm 2 14)]) .ret)), [.tmp 2]⟩
end Go.Proofs.YtjnmaicofgjplaaGreatDoor
namespace Go.Proofs.YtjnmaicofgjplaaGreatDoor
open Go.RowKit
set_option maxHeartbeats 1000000
set_option maxRecDepth 100000
/-- Two digits, or one. -/
def itoS (n : Nat) : ByteArray := if n < 10 then ⟨#[UInt8.ofNat (48 + n)]⟩ else ⟨#[UInt8.ofNat (48 + n / 10), UInt8.ofNat (48 + n % 10)]⟩
def digS (n : Nat) : ByteArray := ⟨#[UInt8.ofNat (48 + n / 10), UInt8.ofNat (48 + n % 10)]⟩
def SmallC : Ctr := spec (fun n : Nat => [.i n]) (fun _ => []) (fun n => n < 100) (fun n => .str (itoS n)) fun _ => []
def FmtC : Ctr := spec (fun n : Nat => [.i n, .i 10]) (fun _ => []) (fun n => n < 100) (fun n => .str (itoS n)) fun _ => []
theorem K_str {K : AV → List Ent → Prop} {b c : ByteArray} {H : List Ent} (h : K (.str c) H) (e : b = c) : K (.str b) H := e ▸ h
theorem small_body (P : Program) : BodyOk P x132 SmallC := by
 intro args H K hc; obtain ⟨n, rfl, rfl, hp, hK⟩ := hc; refine ⟨Nat.le_of_ble_eq_true rfl, ?_⟩; dsimp only at hp hK ⊢
 cbv; repeat' ((first | refine .mk (fun h => ?_) fun h => ?_ | refine .k fun z hz => ?_ | fail) <;> cbv)
 ·refine ⟨⟨by ((try simp only [vn] at *) <;> omega), by ((try simp only [vn] at *) <;> omega), by subst hz; show Int.ofNat n + 1 ≤ 36; omega⟩, fun u hu => ?_⟩
  cbv
  exact FinK.mk ⟨_, Gh.refl _, .inl (CutK.val rfl (Le.refl _) (K_str hK (by subst hu hz; clear hK; revert hp h; revert n; decide +kernel)))⟩
 ·refine ⟨IntWalk.i64_in _ (by ((try simp only [vn] at *) <;> omega)), fun z hz => ?_⟩
  cbv
  refine ⟨IntWalk.i64_in _ (by ((try simp only [vn] at *) <;> omega)), fun z2 hz2 => ?_⟩
  cbv; repeat' ((first | refine .k fun z hz => ?_ | fail) <;> cbv)
  refine ⟨⟨by ((try simp only [vn] at *) <;> omega), by ((try simp only [vn] at *) <;> omega), by subst_vars; show Int.ofNat n * 2 + 2 ≤ 200; ((try simp only [vn] at *) <;> omega)⟩, fun u hu => ?_⟩
  cbv
  exact FinK.mk ⟨_, Gh.refl _, .inl (CutK.val rfl (Le.refl _) (K_str hK (by subst_vars; clear hK; revert hp h; revert n; decide +kernel)))⟩
theorem fmt_body (P : Program) (hsm : FnOk P 132 SmallC) : BodyOk P x130 FmtC := by
 intro args H K hc; obtain ⟨n, rfl, rfl, hp, hK⟩ := hc; refine ⟨Nat.le_of_ble_eq_true rfl, ?_⟩; dsimp only at hp hK ⊢
 cbv; repeat' ((first | refine .y fun h => ?_ | fail) <;> cbv)
 ·(refine callG_spec0 hsm n hp rfl rfl rfl ?_; try dsimp only)
  obtain ⟨s, hs⟩ : ∃ x, x = (itoS n) := ⟨_, rfl⟩
  rw [← hs] at hK ⊢
  cbv
  exact FinK.mk ⟨_, Gh.refl _, .inl (CutK.val rfl (Le.refl _) hK)⟩
theorem itoa2_body (P : Program) (hf : FnOk P 130 FmtC) : BodyOk P x121 SmallC := by
 intro args H K hc; obtain ⟨n, rfl, rfl, hp, hK⟩ := hc; refine ⟨Nat.le_of_ble_eq_true rfl, ?_⟩; dsimp only at hp hK ⊢
 cbv
 (refine callG_spec0 hf n hp rfl rfl rfl ?_; try dsimp only)
 obtain ⟨s, hs⟩ : ∃ x, x = (itoS n) := ⟨_, rfl⟩
 rw [← hs] at hK ⊢
 cbv
 exact FinK.mk ⟨_, Gh.refl _, .inl (CutK.val rfl (Le.refl _) hK)⟩
theorem itoa_body (P : Program) (hf : FnOk P 121 SmallC) : BodyOk P x105 SmallC := by
 intro args H K hc; obtain ⟨n, rfl, rfl, hp, hK⟩ := hc; refine ⟨Nat.le_of_ble_eq_true rfl, ?_⟩; dsimp only at hp hK ⊢
 cbv
 (refine callG_spec0 hf n hp rfl rfl rfl ?_; try dsimp only)
 obtain ⟨s, hs⟩ : ∃ x, x = (itoS n) := ⟨_, rfl⟩
 rw [← hs] at hK ⊢
 cbv
 exact FinK.mk ⟨_, Gh.refl _, .inl (CutK.val rfl (Le.refl _) hK)⟩
def DigC : Ctr := spec (fun n : Nat => [.i n, .i 2]) (fun _ => []) (fun n => n < 100) (fun n => .str (digS n)) fun _ => []
theorem num_lt2 {n i j : Nat} (h : i < n) (hj : i < j) : (lft n j).val < (lft n i).val := by unfold Ms.val; dsimp only; omega
theorem itoS_facts : ∀ n, n < 100 → (itoS n).size < 2 ∧ (⟨#[48]⟩ : ByteArray) ++ itoS n = digS n ∧ (itoS n).size = 1 ∨ 2 ≤ (itoS n).size ∧ itoS n = digS n := by decide +kernel
theorem digS_size (n : Nat) : (digS n).size = 2 := rfl
theorem digits_body (P : Program) (hf : FnOk P 105 SmallC) : BodyOk P x97 DigC := by
 intro args H K hc; obtain ⟨n, rfl, rfl, hp, hK⟩ := hc; refine ⟨Nat.le_of_ble_eq_true rfl, ?_⟩; dsimp only at hp hK ⊢
 cbv
 (refine callG_spec0 hf n hp rfl rfl rfl ?_; try dsimp only)
 have hfa := itoS_facts n hp
 have hds := digS_size n
 obtain ⟨s, hs⟩ : ∃ x, x = (itoS n) := ⟨_, rfl⟩
 obtain ⟨t, ht⟩ : ∃ x, x = (digS n) := ⟨_, rfl⟩
 rw [← hs] at hfa ⊢
 rw [← ht] at hfa hds hK
 cbv
 refine xloopV [] (fun p : { p : ByteArray × Nat // p.2 ≤ 1 ∧ (p.1 = s ∧ p.2 = 0 ∨ p.1 = t) } => [(5, .str p.1.1)]) (fun _ => []) (fun p => lft 2 p.1.2) ⟨(s, 0), Nat.zero_le _, .inl ⟨rfl, rfl⟩⟩ ?_
 rintro ⟨⟨u, q⟩, hq, hu⟩
 dsimp only at hq hu ⊢
 cbv; repeat' ((first | refine .mk (fun h => ?_) fun h => ?_ | refine .k fun z hz => ?_ | fail) <;> cbv)
 ·rcases hfa with ⟨h1, h2, h3⟩ | ⟨h1, h2⟩
  ·rcases hu with ⟨rfl, rfl⟩ | rfl
   ·refine CatK.mk' (by (show 1 + u.size ≤ maxLen); unfold maxLen; omega) fun v hv hvl => ?_
    cbv
    obtain rfl : v = t := by rw [hv]; exact h2
    exact roundV ⟨(v, 1), Nat.le_refl _, .inr rfl⟩ (lft_lt (by decide))
   ·exfalso; ((try simp only [vn] at *) <;> omega)
  ·exfalso
   subst h2
   rcases hu with ⟨rfl, _⟩ | rfl <;> ((try simp only [vn] at *) <;> omega)
 ·obtain rfl : u = t := by
   rcases hfa with ⟨h1, h2, h3⟩ | ⟨h1, h2⟩
   ·rcases hu with ⟨rfl, _⟩ | rfl
    ·exfalso; ((try simp only [vn] at *) <;> omega)
    ·rfl
   ·rcases hu with ⟨rfl, _⟩ | rfl
    ·exact h2
    ·rfl
  exact FinK.mk ⟨_, Gh.refl _, .inl (CutK.val rfl (Le.refl _) hK)⟩
end Go.Proofs.YtjnmaicofgjplaaGreatDoor
namespace Go.Proofs.YtjnmaicofgjplaaGreatDoor
open Go.RowKit
set_option maxHeartbeats 1000000
set_option maxRecDepth 100000
/-- What a sign of a mark counts. -/
def vM (c : UInt8) (i : Nat) : Option Int := if i < 4 then if letB c.toNat then some ((c.toNat : Int) - 96) else none else if digB c.toNat then some ((c.toNat : Int) - 48) else none
def accM (s : ByteArray) : Nat → Option Int
 | 0 => some 0
 | k + 1 => match accM s k, s.data[k]? with
  | some a, some c => (vM c k).map fun v => a + v * ((k : Int) + 1)
  | _, _ => none
def sumM (s : ByteArray) : Int := match accM s 10 with
 | some a => a.tmod 97
 | none => -1
theorem vM_bd {c : UInt8} {i : Nat} {v : Int} (h : vM c i = some v) : 0 ≤ v ∧ v ≤ 26 := by
 unfold vM letB digB at h
 split at h
 ·split at h
  ·rename_i h1; simp at h1; cases h; omega
  ·cases h
 ·split at h
  ·rename_i h1; simp at h1; cases h; omega
  ·cases h
theorem accM_bd {s : ByteArray} : ∀ {k : Nat} {a : Int}, accM s k = some a → k ≤ 10 → 0 ≤ a ∧ a ≤ 260 * k
 | 0, a, h, _ => by cases h; omega
 | k + 1, a, h, hk => by
  unfold accM at h
  split at h
  ·rename_i b c hb hc
   obtain ⟨h1, h2⟩ := accM_bd hb (by omega)
   simp only [Option.map_eq_some_iff] at h
   obtain ⟨v, hv, rfl⟩ := h
   obtain ⟨h3, h4⟩ := vM_bd hv
   have h5 : 0 ≤ v * ((k : Int) + 1) := Int.mul_nonneg h3 (by omega)
   have h6 : v * ((k : Int) + 1) ≤ 26 * 10 := Int.mul_le_mul h4 (by omega) (by omega) (by omega)
   constructor <;> push_cast <;> omega
  ·cases h
theorem accM_none {s : ByteArray} {k : Nat} (h : accM s k = none) : ∀ m, accM s (k + m) = none
 | 0 => h
 | m + 1 => by
  show accM s (k + m + 1) = none
  unfold accM
  rw [accM_none h m]
theorem accM_at {s : ByteArray} {k : Nat} (hk : k < s.size) {a : Int} (ha : accM s k = some a) : accM s (k + 1) = (vM s[k] k).map fun v => a + v * ((k : Int) + 1) := by
 conv => lhs; unfold accM
 rw [ha]
 have : s.data[k]? = some s[k] := Array.getElem?_eq_getElem hk
 rw [this]
theorem sumM_not {s : ByteArray} {k : Nat} (hk : k < 10) (hs : k < s.size) {a : Int} (ha : accM s k = some a) (hv : vM s[k] k = none) : sumM s = -1 := by
 have h1 : accM s (k + 1) = none := by rw [accM_at hs ha, hv]; rfl
 have h2 := accM_none h1 (9 - k)
 rw [show k + 1 + (9 - k) = 10 by omega] at h2
 unfold sumM
 rw [h2]
theorem accM_short {s : ByteArray} : ∀ {k : Nat}, s.size < k → accM s k = none
 | 0, h => by omega
 | k + 1, h => by
  unfold accM
  have : s.data[k]? = none := Array.getElem?_eq_none (by show s.size ≤ k; omega)
  rw [this]
  split
  ·rename_i h1; cases h1
  ·rfl
theorem sumM_short {s : ByteArray} (h : s.size < 10) : sumM s = -1 := by
 unfold sumM
 rw [accM_short h]
theorem sumM_all {s : ByteArray} {a : Int} (h : accM s 10 = some a) : sumM s = a.tmod 97 := by unfold sumM; rw [h]
theorem sumM_bd (s : ByteArray) : -1 ≤ sumM s ∧ sumM s < 97 := by
 unfold sumM
 split
 ·rename_i a ha
  have := (accM_bd ha (Nat.le_refl _)).1
  have h1 := Int.tmod_nonneg 97 this
  have h2 := Int.tmod_lt_of_pos a (show (0 : Int) < 97 by decide)
  omega
 ·omega
def SumC : Ctr := spec (fun s : ByteArray => [.str s]) (fun _ => []) (fun _ => True) (fun s => .i (sumM s)) fun _ => []
theorem mul_bd {a b : Int} (h : 0 ≤ a ∧ a ≤ 26) (h2 : 0 ≤ b ∧ b ≤ 10) : 0 ≤ a * b ∧ a * b ≤ 260 := ⟨Int.mul_nonneg h.1 h2.1, Int.mul_le_mul h.2 h2.2 h2.1 (by decide)⟩
theorem sum_body (P : Program) (hl : FnOk P 72 (ByC letB)) (hd : FnOk P 73 (ByC digB)) : BodyOk P x96 SumC := by
 intro args H K hc; obtain ⟨s, rfl, rfl, hp, hK⟩ := hc; refine ⟨Nat.le_of_ble_eq_true rfl, ?_⟩; dsimp only at hp hK ⊢
 obtain ⟨u, hu⟩ : ∃ x, x = (sumM s) := ⟨_, rfl⟩
 rw [← hu] at hK
 cbv; repeat' ((first | refine .mk (fun h => ?_) fun h => ?_ | refine .k fun z hz => ?_ | fail) <;> cbv)
 ·exact FinK.mk ⟨_, Gh.refl _, .inl (CutK.val rfl (Le.refl _) (K_i hK (by (rw [hu, sumM_short (by ((try simp only [vn] at *) <;> omega))]))))⟩
 refine xloopV [] (fun p : { p : Nat × Int // p.1 ≤ 10 ∧ accM s p.1 = some p.2 } => [(9, .i (nI p.1.1)), (3, .i p.1.2)]) (fun _ => []) (fun p => lft 10 p.1.1) ⟨(0, 0), Nat.zero_le _, rfl⟩ ?_
 rintro ⟨⟨k, a⟩, hk, ha⟩
 dsimp only at hk ha ⊢
 have hbd := accM_bd ha hk
 have hsz : 10 ≤ s.size := by ((try simp only [vn] at *) <;> omega)
 clear hz
 rcases Nat.lt_or_ge k 10 with hk10 | hk10
 rotate_left
 ·obtain rfl : k = 10 := by omega
  have hs := sumM_all ha
  have hs0 := Int.tmod_nonneg 97 hbd.1
  cbv; repeat' ((first | refine .n fun h => ?_ | refine .q fun z hz hz0 hz1 => ?_ | fail) <;> cbv)
  exact FinK.mk ⟨_, Gh.refl _, .inl (CutK.val rfl (Le.refl _) (K_i hK (by (rw [hu, hs]; assumption))))⟩
 have hks : k < s.size := by omega
 have hat := accM_at hks ha
 rcases Nat.lt_or_ge k 4 with hk4 | hk4
 ·cbv; repeat' ((first | refine .y fun h => ?_ | fail) <;> cbv)
  refine askByte_nI hks fun z hz => ?_
  cbv
  (refine callG_spec0 hl z trivial rfl rfl rfl ?_; try dsimp only)
  cases h1 : letB z with
  | true =>
   have hzr : 97 ≤ z ∧ z ≤ 122 := by unfold letB at h1; simpa using h1
   have hv : vM s[k] k = some (z - 96) := by rw [hz] at h1 ⊢; unfold vM; rw [if_pos hk4, if_pos (show letB (s[k].toNat : Int) = true from h1)]; rfl
   rw [hv] at hat
   cbv
   refine askByte_nI hks fun z2 hz2 => ?_
   obtain rfl : z = z2 := hz.trans hz2.symm
   obtain ⟨c, hc⟩ : ∃ c, c = z := ⟨_, rfl⟩
   have e := IntWalk.u8_in (z - 97) (by omega)
   cbv; repeat' ((first | refine .k fun z hz => ?_ | refine .o ?_ | fail) <;> cbv)
   rename_i w hw v hvv
   obtain rfl : v = c - 96 := by omega
   obtain rfl : z = (k : Int) + 1 := by ((try simp only [vn] at *) <;> omega)
   have hm2 := mul_bd (a := c - 96) (b := (k : Int) + 1) (by omega) (by omega)
   refine ⟨IntWalk.i64_in _ (by omega), fun m hm => ?_⟩
   rw [← hm] at hm2
   cbv; repeat' ((first | refine .k fun z hz => ?_ | fail) <;> cbv)
   rename_i z4 hz4
   obtain rfl : z = nI (k + 1) := by ((try simp only [vn] at *) <;> omega)
   exact roundV ⟨(k + 1, z4), by dsimp only; omega, by rw [hat, hz4, hm, hc]; rfl⟩ (lft_lt (by omega))
  | false =>
   cbv; repeat' ((first | refine .n fun h => ?_ | fail) <;> cbv)
   have hv : vM s[k] k = none := by rw [hz] at h1; unfold vM; rw [if_pos hk4, if_neg (by rw [show letB ((s[k].toNat : Nat) : Int) = false from h1]; decide)]
   exact FinK.mk ⟨_, Gh.refl _, .inl (CutK.val rfl (Le.refl _) (K_i hK (by (rw [hu, sumM_not hk10 hks ha hv]))))⟩
 ·cbv; repeat' ((first | refine .n fun h => ?_ | refine .y fun h => ?_ | fail) <;> cbv)
  refine askByte_nI hks fun z hz => ?_
  cbv
  (refine callG_spec0 hd z trivial rfl rfl rfl ?_; try dsimp only)
  cases h1 : digB z with
  | true =>
   have hzr : 48 ≤ z ∧ z ≤ 57 := by unfold digB at h1; simpa using h1
   have hv : vM s[k] k = some (z - 48) := by rw [hz] at h1 ⊢; unfold vM; rw [if_neg (by omega), if_pos (show digB (s[k].toNat : Int) = true from h1)]; rfl
   rw [hv] at hat
   cbv
   refine askByte_nI hks fun z2 hz2 => ?_
   obtain rfl : z = z2 := hz.trans hz2.symm
   obtain ⟨c, hc⟩ : ∃ c, c = z := ⟨_, rfl⟩
   have e := IntWalk.u8_in (z - 48) (by omega)
   cbv; repeat' ((first | refine .k fun z hz => ?_ | refine .o ?_ | fail) <;> cbv)
   rename_i w hw
   obtain rfl : w = c - 48 := by omega
   obtain rfl : z = (k : Int) + 1 := by ((try simp only [vn] at *) <;> omega)
   have hm2 := mul_bd (a := c - 48) (b := (k : Int) + 1) (by omega) (by omega)
   refine ⟨IntWalk.i64_in _ (by omega), fun m hm => ?_⟩
   rw [← hm] at hm2
   cbv; repeat' ((first | refine .k fun z hz => ?_ | fail) <;> cbv)
   rename_i z4 hz4
   obtain rfl : z = nI (k + 1) := by ((try simp only [vn] at *) <;> omega)
   exact roundV ⟨(k + 1, z4), by dsimp only; omega, by rw [hat, hz4, hm, hc]; rfl⟩ (lft_lt (by omega))
  | false =>
   cbv
   have hv : vM s[k] k = none := by rw [hz] at h1; unfold vM; rw [if_neg (by omega), if_neg (by rw [show digB ((s[k].toNat : Nat) : Int) = false from h1]; decide)]
   exact FinK.mk ⟨_, Gh.refl _, .inl (CutK.val rfl (Le.refl _) (K_i hK (by (rw [hu, sumM_not hk10 hks ha hv]))))⟩
end Go.Proofs.YtjnmaicofgjplaaGreatDoor
namespace Go.Proofs.YtjnmaicofgjplaaGreatDoor
open Go.RowKit
set_option maxHeartbeats 1000000
set_option maxRecDepth 100000
def markB (s : ByteArray) : Bool := decide (s.size = 12) && (decide (0 ≤ sumM s) && decide (s.extract 10 12 = digS (sumM s).toNat))
theorem right_body (P : Program) (hs : FnOk P 96 SumC) (hd : FnOk P 97 DigC) : BodyOk P x70 (StrC (fun _ => True) markB) := by
 intro args H K hc; obtain ⟨s, rfl, rfl, hp, hK⟩ := hc; refine ⟨Nat.le_of_ble_eq_true rfl, ?_⟩; dsimp only at hp hK ⊢
 have hb := sumM_bd s
 unfold markB at hK
 obtain ⟨q, hq⟩ : ∃ x, x = (sumM s) := ⟨_, rfl⟩
 rw [← hq] at hK hb
 cbv; repeat' ((first | refine .mk (fun h => ?_) fun h => ?_ | refine .k fun z hz => ?_ | fail) <;> cbv)
 rotate_left
 ·exact FinK.mk ⟨_, Gh.refl _, .inl (CutK.val rfl (Le.refl _) (K_bl hK (by (rw [decide_eq_false (by ((try simp only [vn] at *) <;> omega))]; rfl))))⟩
 ·have hsz : s.size = 12 := by ((try simp only [vn] at *) <;> omega)
  (refine callG_spec0 hs s trivial rfl rfl rfl ?_; try dsimp only)
  rw [← hq]
  cbv; repeat' ((first | refine .mk (fun h => ?_) fun h => ?_ | refine .u fun u hu hul => ?_ | fail) <;> cbv)
  ·obtain ⟨n, rfl⟩ := Int.eq_ofNat_of_zero_le h
   cbv
   have hv2 : u = s.extract 10 12 := by rw [hu, ← hsz]; rfl
   (refine callG_spec0 hd n (by have : (n : Int) < 97 := hb.2; omega) rfl rfl rfl ?_; try dsimp only)
   have e1 : ((n : Int)).toNat = n := rfl
   rw [e1] at hK
   obtain ⟨t, ht⟩ : ∃ x, x = (digS n) := ⟨_, rfl⟩
   rw [← ht] at hK ⊢
   cbv; repeat' ((first | refine .mk (fun h => ?_) fun h => ?_ | fail) <;> cbv)
   ·exact FinK.mk ⟨_, Gh.refl _, .inl (CutK.val rfl (Le.refl _) (K_bl hK (by (rw [decide_eq_true hsz, decide_eq_true (by omega), decide_eq_true (by rw [← hv2]; exact h)]; rfl))))⟩
   ·exact FinK.mk ⟨_, Gh.refl _, .inl (CutK.val rfl (Le.refl _) (K_bl hK (by (rw [decide_eq_true hsz, decide_eq_true (by omega), decide_eq_false (by rw [← hv2]; exact h)]; rfl))))⟩
  ·exact FinK.mk ⟨_, Gh.refl _, .inl (CutK.val rfl (Le.refl _) (K_bl hK (by (rw [decide_eq_true hsz, decide_eq_false (by omega)]; rfl))))⟩
theorem rname_body (P : Program) (hl : FnOk P 119 (ByC letB)) (hd : FnOk P 120 (ByC digB)) : BodyOk P x101 (StrC (fun s => s.size ≤ maxLen) nameB) := by
 intro args H K hc; obtain ⟨s, rfl, rfl, hp, hK⟩ := hc; refine ⟨Nat.le_of_ble_eq_true rfl, ?_⟩; dsimp only at hp hK ⊢
 unfold maxLen at hp
 obtain ⟨n, hn⟩ : ∃ n, n = s.size := ⟨_, rfl⟩
 cbv
 refine xloopV [] (fun p : { k : Nat // k ≤ s.size ∧ firstAll s k } => [(3, .i (nI p.1))]) (fun _ => []) (fun p => lft n p.1) ⟨0, Nat.zero_le _, firstAll_zero s⟩ ?_
 rintro ⟨k, hk, hf⟩
 dsimp only at hk hf ⊢
 rcases Nat.lt_or_ge k s.size with hks | hks
 rotate_left
 ·obtain rfl : n = k := by omega
  rw [hn] at hf
  cbv; repeat' ((first | refine .n fun h => ?_ | refine .mk (fun h => ?_) fun h => ?_ | refine .k fun z hz => ?_ | fail) <;> cbv)
  ·exact FinK.mk ⟨_, Gh.refl _, .inl (CutK.val rfl (Le.refl _) (K_bl hK (by (rw [nameB_long hf (by ((try simp only [vn] at *) <;> omega)) (by ((try simp only [vn] at *) <;> omega))]))))⟩
  ·exact FinK.mk ⟨_, Gh.refl _, .inl (CutK.val rfl (Le.refl _) (K_bl hK (by (rw [nameB_short (by ((try simp only [vn] at *) <;> omega))]))))⟩
  ·exact FinK.mk ⟨_, Gh.refl _, .inl (CutK.val rfl (Le.refl _) (K_bl hK (by (rw [nameB_short (by ((try simp only [vn] at *) <;> omega))]))))⟩
 cbv; repeat' ((first | refine .y fun h => ?_ | refine .k fun z hz => ?_ | fail) <;> cbv)
 refine askByte_nI hks fun z hz => ?_
 have hch := ch_or (c := s[k]) hz
 cbv
 (refine callG_spec0 hl z trivial rfl rfl rfl ?_; try dsimp only)
 cases h1 : letB z with
 | true =>
  cbv; repeat' ((first | refine .k fun z hz => ?_ | fail) <;> cbv)
  obtain rfl := hz
  exact roundV ⟨k + 1, hks, firstAll_succ hks hf (by rw [hch, h1]; rfl)⟩ (lft_lt (by omega))
 | false =>
  cbv
  refine askByte_nI hks fun z2 hz2 => ?_
  obtain rfl : z = z2 := hz.trans hz2.symm
  cbv
  (refine callG_spec0 hd z trivial rfl rfl rfl ?_; try dsimp only)
  cases h2 : digB z with
  | true =>
   cbv; repeat' ((first | refine .k fun z hz => ?_ | fail) <;> cbv)
   obtain rfl := hz
   exact roundV ⟨k + 1, hks, firstAll_succ hks hf (by rw [hch, h1, h2]; rfl)⟩ (lft_lt (by omega))
  | false =>
   cbv
   refine askByte_nI hks fun z2 hz2 => ?_
   obtain rfl : z = z2 := hz.trans hz2.symm
   cbv; repeat' ((first | refine .mk (fun h => ?_) fun h => ?_ | refine .k fun z hz => ?_ | fail) <;> cbv)
   ·obtain rfl := hz
    exact roundV ⟨k + 1, hks, firstAll_succ hks hf (by rw [hch, h1, h2]; simp [h])⟩ (lft_lt (by omega))
   ·exact FinK.mk ⟨_, Gh.refl _, .inl (CutK.val rfl (Le.refl _) (K_bl hK (by (rw [nameB_not hks (by rw [hch, h1, h2]; simp [h])]))))⟩
def headB (s : ByteArray) : Bool := (accM s 10).isSome
theorem rhead_body (P : Program) (hl : FnOk P 119 (ByC letB)) (hd : FnOk P 120 (ByC digB)) : BodyOk P x128 (StrC (fun _ => True) headB) := by
 intro args H K hc; obtain ⟨s, rfl, rfl, hp, hK⟩ := hc; refine ⟨Nat.le_of_ble_eq_true rfl, ?_⟩; dsimp only at hp hK ⊢
 cbv; repeat' ((first | refine .mk (fun h => ?_) fun h => ?_ | refine .k fun z hz => ?_ | fail) <;> cbv)
 ·exact FinK.mk ⟨_, Gh.refl _, .inl (CutK.val rfl (Le.refl _) (K_bl hK (by (unfold headB; rw [accM_short (by ((try simp only [vn] at *) <;> omega))]; rfl))))⟩
 refine xloopV [] (fun p : { k : Nat // k ≤ 10 ∧ (accM s k).isSome = true } => [(3, .i (nI p.1))]) (fun _ => []) (fun p => lft 10 p.1) ⟨0, Nat.zero_le _, rfl⟩ ?_
 rintro ⟨k, hk, hf⟩
 dsimp only at hk hf ⊢
 obtain ⟨a, ha⟩ := Option.isSome_iff_exists.1 hf
 have hsz : 10 ≤ s.size := by ((try simp only [vn] at *) <;> omega)
 clear hz
 rcases Nat.lt_or_ge k 10 with hk10 | hk10
 rotate_left
 ·obtain rfl : k = 10 := by omega
  cbv; repeat' ((first | refine .n fun h => ?_ | fail) <;> cbv)
  exact FinK.mk ⟨_, Gh.refl _, .inl (CutK.val rfl (Le.refl _) (K_bl hK (by (exact hf.symm))))⟩
 have hks : k < s.size := by omega
 have hat := accM_at hks ha
 have hno : vM s[k] k = none → headB s = false := fun hv => by
  have h1 : accM s (k + 1) = none := by rw [hat, hv]; rfl
  have h2 := accM_none h1 (9 - k)
  rw [show k + 1 + (9 - k) = 10 by omega] at h2
  unfold headB; rw [h2]; rfl
 rcases Nat.lt_or_ge k 4 with hk4 | hk4
 ·cbv; repeat' ((first | refine .y fun h => ?_ | fail) <;> cbv)
  refine askByte_nI hks fun z hz => ?_
  cbv
  (refine callG_spec0 hl z trivial rfl rfl rfl ?_; try dsimp only)
  cases h1 : letB z with
  | true =>
   have hv : vM s[k] k = some (z - 96) := by rw [hz] at h1 ⊢; unfold vM; rw [if_pos hk4, if_pos (show letB (s[k].toNat : Int) = true from h1)]; rfl
   rw [hv] at hat
   cbv; repeat' ((first | refine .n fun h => ?_ | refine .k fun z hz => ?_ | fail) <;> cbv)
   obtain rfl := hz
   exact roundV ⟨k + 1, hk10, by rw [hat]; rfl⟩ (lft_lt (by omega))
  | false =>
   cbv
   exact FinK.mk ⟨_, Gh.refl _, .inl (CutK.val rfl (Le.refl _) (K_bl hK (by (rw [hno (by rw [hz] at h1; unfold vM; rw [if_pos hk4, if_neg (by rw [show letB ((s[k].toNat : Nat) : Int) = false from h1]; decide)])]))))⟩
 ·cbv; repeat' ((first | refine .n fun h => ?_ | refine .y fun h => ?_ | fail) <;> cbv)
  refine askByte_nI hks fun z hz => ?_
  cbv
  (refine callG_spec0 hd z trivial rfl rfl rfl ?_; try dsimp only)
  cases h1 : digB z with
  | true =>
   have hv : vM s[k] k = some (z - 48) := by rw [hz] at h1 ⊢; unfold vM; rw [if_neg (by omega), if_pos (show digB (s[k].toNat : Int) = true from h1)]; rfl
   rw [hv] at hat
   cbv; repeat' ((first | refine .k fun z hz => ?_ | fail) <;> cbv)
   obtain rfl := hz
   exact roundV ⟨k + 1, hk10, by rw [hat]; rfl⟩ (lft_lt (by omega))
  | false =>
   cbv
   exact FinK.mk ⟨_, Gh.refl _, .inl (CutK.val rfl (Le.refl _) (K_bl hK (by (rw [hno (by rw [hz] at h1; unfold vM; rw [if_neg (by omega), if_neg (by rw [show digB ((s[k].toNat : Nat) : Int) = false from h1]; decide)])]))))⟩
theorem rsum_body (P : Program) (hh : FnOk P 128 (StrC (fun _ => True) headB)) : BodyOk P x129 SumC := by
 intro args H K hc; obtain ⟨s, rfl, rfl, hp, hK⟩ := hc; refine ⟨Nat.le_of_ble_eq_true rfl, ?_⟩; dsimp only at hp hK ⊢
 obtain ⟨u, hu⟩ : ∃ x, x = (sumM s) := ⟨_, rfl⟩
 rw [← hu] at hK
 obtain ⟨b, hb⟩ : ∃ x, x = (headB s) := ⟨_, rfl⟩
 cbv
 (refine callG_spec0 hh s trivial rfl rfl rfl ?_; try dsimp only)
 rw [← hb]
 cases b with
 | false =>
  cbv
  have hn : accM s 10 = none := by unfold headB at hb; cases h : accM s 10 with | none => rfl | some a => rw [h] at hb; cases hb
  exact FinK.mk ⟨_, Gh.refl _, .inl (CutK.val rfl (Le.refl _) (K_i hK (by (rw [hu]; unfold sumM; rw [hn]))))⟩
 | true =>
  obtain ⟨A, hA⟩ := Option.isSome_iff_exists.1 (show (accM s 10).isSome = true from hb.symm)
  have hsz : 10 ≤ s.size := by
   rcases Nat.lt_or_ge s.size 10 with h | h
   ·rw [accM_short h] at hA; cases hA
   ·exact h
  cbv
  refine xloopV [] (fun p : { p : Nat × Int // p.1 ≤ 10 ∧ accM s p.1 = some p.2 } => [(4, .i (nI p.1.1)), (3, .i p.1.2)]) (fun _ => []) (fun p => lft 10 p.1.1) ⟨(0, 0), Nat.zero_le _, rfl⟩ ?_
  rintro ⟨⟨k, a⟩, hk, ha⟩
  dsimp only at hk ha ⊢
  have hbd := accM_bd ha hk
  rcases Nat.lt_or_ge k 10 with hk10 | hk10
  rotate_left
  ·obtain rfl : k = 10 := by omega
   have hs := sumM_all ha
   have hs0 := Int.tmod_nonneg 97 hbd.1
   cbv; repeat' ((first | refine .n fun h => ?_ | refine .q fun z hz hz0 hz1 => ?_ | fail) <;> cbv)
   exact FinK.mk ⟨_, Gh.refl _, .inl (CutK.val rfl (Le.refl _) (K_i hK (by (rw [hu, hs]; assumption))))⟩
  have hks : k < s.size := by omega
  have hat := accM_at hks ha
  have hsome : ∃ v, vM s[k] k = some v := by
   cases h : vM s[k] k with
   | some v => exact ⟨v, rfl⟩
   | none =>
    exfalso
    have h1 : accM s (k + 1) = none := by rw [hat, h]; rfl
    have h2 := accM_none h1 (9 - k)
    rw [show k + 1 + (9 - k) = 10 by omega, hA] at h2
    cases h2
  obtain ⟨v, hv⟩ := hsome
  have hvb := vM_bd hv
  rw [hv] at hat
  rcases Nat.lt_or_ge k 4 with hk4 | hk4
  ·have hv2 : v = (s[k].toNat : Int) - 96 := by
    unfold vM at hv; rw [if_pos hk4] at hv; split at hv; (· cases hv; rfl); cases hv
   cbv; repeat' ((first | refine .y fun h => ?_ | fail) <;> cbv)
   refine askByte_nI hks fun z hz => ?_
   have hz' : z = (s[k].toNat : Int) := hz
   obtain ⟨c, hc⟩ : ∃ c, c = z := ⟨_, rfl⟩
   cbv; repeat' ((first | refine .y fun h => ?_ | refine .k fun z hz => ?_ | refine .o ?_ | fail) <;> cbv)
   refine askByte_nI hks fun z hz => ?_
   obtain rfl : c = z := by rw [hc, hz', hz]; rfl
   cbv; repeat' ((first | refine .k fun z hz => ?_ | refine .o ?_ | fail) <;> cbv)
   rename_i w hw
   obtain rfl : w = v := by omega
   obtain rfl : z = (k : Int) + 1 := by ((try simp only [vn] at *) <;> omega)
   have hm2 := mul_bd (a := w) (b := (k : Int) + 1) hvb (by omega)
   refine ⟨IntWalk.i64_in _ (by omega), fun m hm => ?_⟩
   rw [← hm] at hm2
   cbv; repeat' ((first | refine .k fun z hz => ?_ | fail) <;> cbv)
   rename_i z4 hz4
   obtain rfl : z = nI (k + 1) := by ((try simp only [vn] at *) <;> omega)
   exact roundV ⟨(k + 1, z4), by dsimp only; omega, by rw [hat, hz4, hm]; rfl⟩ (lft_lt (by omega))
  ·have hv2 : v = (s[k].toNat : Int) - 48 := by
    unfold vM at hv; rw [if_neg (by omega)] at hv; split at hv; (· cases hv; rfl); cases hv
   cbv; repeat' ((first | refine .y fun h => ?_ | fail) <;> cbv)
   refine askByte_nI hks fun z hz => ?_
   have hz' : z = (s[k].toNat : Int) := hz
   obtain ⟨c, hc⟩ : ∃ c, c = z := ⟨_, rfl⟩
   cbv; repeat' ((first | refine .n fun h => ?_ | refine .k fun z hz => ?_ | refine .o ?_ | fail) <;> cbv)
   rename_i w hw
   obtain rfl : w = v := by omega
   obtain rfl : z = (k : Int) + 1 := by ((try simp only [vn] at *) <;> omega)
   have hm2 := mul_bd (a := w) (b := (k : Int) + 1) hvb (by omega)
   refine ⟨IntWalk.i64_in _ (by omega), fun m hm => ?_⟩
   rw [← hm] at hm2
   cbv; repeat' ((first | refine .k fun z hz => ?_ | fail) <;> cbv)
   rename_i z4 hz4
   obtain rfl : z = nI (k + 1) := by ((try simp only [vn] at *) <;> omega)
   exact roundV ⟨(k + 1, z4), by dsimp only; omega, by rw [hat, hz4, hm]; rfl⟩ (lft_lt (by omega))
theorem ext_two : ∀ (a b : Fin 256) (n : Fin 97), (⟨#[UInt8.ofNat a.val, UInt8.ofNat b.val]⟩ : ByteArray) = digS n.val ↔ (a.val = 48 + n.val / 10 ∧ b.val = 48 + n.val % 10) := by
 intro a b n
 unfold digS
 constructor
 ·intro h
  simp only [ByteArray.mk.injEq, Array.mk.injEq, List.cons.injEq, and_true] at h
  have h1 := congrArg UInt8.toNat h.1
  have h2 := congrArg UInt8.toNat h.2
  simp at h1 h2
  omega
 ·rintro ⟨h1, h2⟩
  rw [h1, h2]
/-- A mark that is right, by the document. -/
theorem markB_ref {s : ByteArray} (h12 : s.size = 12) : markB s = (headB s && digB (s[10]'(by omega)).toNat && digB (s[11]'(by omega)).toNat && decide (sumM s = 10 * (((s[10]'(by omega)).toNat : Int) - 48) + ((s[11]'(by omega)).toNat : Int) - 48)) := by
 have hsz := h12
 have hex : s.extract 10 12 = ⟨#[UInt8.ofNat (s[10]'(by omega)).toNat, UInt8.ofNat (s[11]'(by omega)).toNat]⟩ := by
  have hd : s.data.size = 12 := h12
  have : (s.extract 10 12).data = #[s[10]'(by omega), s[11]'(by omega)] := by
   rw [ByteArray.data_extract]
   refine Array.ext (by simp [hd]) fun i h1 h2 => ?_
   simp at h2
   have h3 : i = 0 ∨ i = 1 := by omega
   rcases h3 with rfl | rfl <;> simp <;> rfl
  have h4 : ∀ c : UInt8, UInt8.ofNat c.toNat = c := fun c => by simp
  rw [h4, h4]
  exact ByteArray.ext this
 have hb := sumM_bd s
 unfold markB
 rw [decide_eq_true h12, Bool.true_and, hex]
 have ha : (s[10]'(by omega)).toNat < 256 := UInt8.toNat_lt _
 have hbb : (s[11]'(by omega)).toNat < 256 := UInt8.toNat_lt _
 obtain ⟨a, hae⟩ : ∃ a, a = (s[10]'(by omega)).toNat := ⟨_, rfl⟩
 obtain ⟨b, hbe⟩ : ∃ b, b = (s[11]'(by omega)).toNat := ⟨_, rfl⟩
 rw [← hae] at ha ⊢
 rw [← hbe] at hbb ⊢
 cases hh : headB s with
 | false =>
  have hn : sumM s = -1 := by
   unfold sumM
   unfold headB at hh
   cases h : accM s 10 with
   | none => rfl
   | some a => rw [h] at hh; cases hh
  rw [hn]
  rfl
 | true =>
  have h0 : 0 ≤ sumM s := by
   unfold sumM
   unfold headB at hh
   cases h : accM s 10 with
   | none => rw [h] at hh; cases hh
   | some a => exact Int.tmod_nonneg 97 (accM_bd h (Nat.le_refl _)).1
  obtain ⟨n, hn⟩ := Int.eq_ofNat_of_zero_le h0
  rw [hn] at hb ⊢
  have h2 := ext_two ⟨a, ha⟩ ⟨b, hbb⟩ ⟨n, by omega⟩
  rw [decide_eq_true (show (0 : Int) ≤ (n : Int) by omega), Bool.true_and, Bool.true_and]
  unfold digB
  rw [Bool.eq_iff_iff]
  simp only [Bool.and_eq_true, decide_eq_true_eq]
  rw [show ((n : Int)).toNat = n from rfl]
  constructor
  ·intro h
   have := h2.1 h
   dsimp only at this
   omega
  ·intro h
   exact h2.2 (by dsimp only; omega)
theorem markB_short {s : ByteArray} (h : s.size ≠ 12) : markB s = false := by unfold markB; rw [decide_eq_false h]; rfl
theorem askByte_at {s : ByteArray} {x : Int} (i : Nat) {K : Int → Prop} (h : i < s.size) (e : x = i) (hk : ∀ z : Int, z = (s[i]'h).toNat → K z) : AskByte s x K := by
 subst e; exact askByte_nI h hk
theorem rright_body (P : Program) (hh : FnOk P 128 (StrC (fun _ => True) headB)) (hd : FnOk P 120 (ByC digB)) (hs : FnOk P 129 SumC) : BodyOk P x118 (StrC (fun _ => True) markB) := by
 intro args H K hc; obtain ⟨s, rfl, rfl, hp, hK⟩ := hc; refine ⟨Nat.le_of_ble_eq_true rfl, ?_⟩; dsimp only at hp hK ⊢
 obtain ⟨q, hq⟩ : ∃ x, x = (sumM s) := ⟨_, rfl⟩
 obtain ⟨hb, hhb⟩ : ∃ x, x = (headB s) := ⟨_, rfl⟩
 by_cases h12 : s.size = 12
 rotate_left
 ·cbv; repeat' ((first | refine .n fun h => ?_ | refine .k fun z hz => ?_ | fail) <;> cbv)
  exact FinK.mk ⟨_, Gh.refl _, .inl (CutK.val rfl (Le.refl _) (K_bl hK (by (exact (markB_short h12).symm))))⟩
 have hm := markB_ref h12
 rw [← hq, ← hhb] at hm
 have h10 : 10 < s.size := by omega
 have h11 : 11 < s.size := by omega
 obtain ⟨A, hA⟩ : ∃ x : Int, x = ((s[10]'h10).toNat : Int) := ⟨_, rfl⟩
 obtain ⟨B, hB⟩ : ∃ x : Int, x = ((s[11]'h11).toNat : Int) := ⟨_, rfl⟩
 rw [← hA, ← hB] at hm
 cbv; repeat' ((first | refine .y fun h => ?_ | refine .k fun z hz => ?_ | fail) <;> cbv)
 (refine callG_spec0 hh s trivial rfl rfl rfl ?_; try dsimp only)
 rw [← hhb]
 cases hb with
 | false =>
  cbv
  exact FinK.mk ⟨_, Gh.refl _, .inl (CutK.val rfl (Le.refl _) (K_bl hK (by (rw [hm]; rfl))))⟩
 | true =>
  cbv
  refine askByte_at 10 h10 rfl fun a ha => ?_
  obtain rfl : a = A := ha.trans hA.symm
  have ha0 : 0 ≤ a ∧ a ≤ 255 := by have := UInt8.toNat_lt (s[10]'h10); omega
  cbv
  (refine callG_spec0 hd a trivial rfl rfl rfl ?_; try dsimp only)
  cases h1 : digB a with
  | false =>
   rw [h1] at hm
   cbv
   exact FinK.mk ⟨_, Gh.refl _, .inl (CutK.val rfl (Le.refl _) (K_bl hK (by (rw [hm]; rfl))))⟩
  | true =>
   rw [h1] at hm
   cbv
   refine askByte_at 11 h11 rfl fun b hb => ?_
   obtain rfl : b = B := hb.trans hB.symm
   have hb0 : 0 ≤ b ∧ b ≤ 255 := by have := UInt8.toNat_lt (s[11]'h11); omega
   cbv
   (refine callG_spec0 hd b trivial rfl rfl rfl ?_; try dsimp only)
   cases h2 : digB b with
   | false =>
    rw [h2] at hm
    cbv
    exact FinK.mk ⟨_, Gh.refl _, .inl (CutK.val rfl (Le.refl _) (K_bl hK (by (rw [hm]; rfl))))⟩
   | true =>
    rw [h2] at hm
    cbv
    refine askByte_at 10 h10 rfl fun a2 ha2 => ?_
    obtain rfl : a = a2 := ha.trans ha2.symm
    cbv; repeat' ((first | refine .k fun z hz => ?_ | refine .o ?_ | fail) <;> cbv)
    refine ⟨IntWalk.i64_in _ (by omega), fun m hm2 => ?_⟩
    cbv
    refine askByte_at 11 h11 rfl fun b2 hb2 => ?_
    obtain rfl : b = b2 := hb.trans hb2.symm
    cbv; repeat' ((first | refine .k fun z hz => ?_ | refine .o ?_ | fail) <;> cbv)
    (refine callG_spec0 hs s trivial rfl rfl rfl ?_; try dsimp only)
    rw [← hq]
    cbv; repeat' ((first | refine .mk (fun h => ?_) fun h => ?_ | fail) <;> cbv)
    ·exact FinK.mk ⟨_, Gh.refl _, .inl (CutK.val rfl (Le.refl _) (K_bl hK (by (rw [show markB s = decide (q = 10 * (a - 48) + b - 48) from hm, decide_eq_true (by omega)]))))⟩
    ·exact FinK.mk ⟨_, Gh.refl _, .inl (CutK.val rfl (Le.refl _) (K_bl hK (by (rw [show markB s = decide (q = 10 * (a - 48) + b - 48) from hm, decide_eq_false (by omega)]))))⟩
end Go.Proofs.YtjnmaicofgjplaaGreatDoor
/-
 Maps whose elements lead to memory, walked: short roads.
-/
namespace Go.Proofs.YtjnmaicofgjplaaGreatDoor
open Go.RowKit

section
variable {x1 x2 : Int} {K : Int → Prop}
theorem ArrK.o {n : Nat} {K : Prop} (k : K) (d : 0 ≤ x1 ∧ x1 < n := by (try simp only [vn] at *) <;> omega) : ArrK n x1 K := ⟨d, k⟩
theorem IdxH.o {n : Nat} {K : Nat → Prop} (k : K x1.toNat) (d : 0 ≤ x1 ∧ x1 < n := by (try simp only [vn] at *) <;> omega) : IdxH n x1 K := ⟨d, k⟩
theorem BitK.k {op : BinOp} {i : IntKind} (k : ∀ z, z = i.wrap (match op with
  | .and => (BitVec.ofInt i.bits x1 &&& BitVec.ofInt i.bits x2)
  | .or => (BitVec.ofInt i.bits x1 ||| BitVec.ofInt i.bits x2)
  | .xor => (BitVec.ofInt i.bits x1 ^^^ BitVec.ofInt i.bits x2)
  | _ => (BitVec.ofInt i.bits x1 &&& ~~~ BitVec.ofInt i.bits x2)).toNat → K z) : BitK op i x1 x2 K := ⟨k⟩
theorem MksK.zl {bytes : Nat} {x : AV} {K : List AV → Prop} (k : ∀ zs, zs = List.replicate x1.toNat x → zs.length = x1.toNat → K zs) (d : 0 ≤ x1 ∧ x1 ≤ x2 ∧ x2 ≤ maxLen ∧ bytes * x2 ≤ 140737488355328 := by (try simp only [vn] at *) <;> (try unfold maxLen) <;> omega) : MksK x1 x2 bytes x K :=
 ⟨d, fun zs h => k zs h (by rw [h, List.length_replicate])⟩
end
/-- What is a tip's list is told as a list: in the slots; in an entry's cells. -/
theorem Gh.viewT {M : Nat} {st : St} : Gh M st ⟨st.T.map fun p => (p.1, st.view p.2), st.H⟩ := fun C a w r pub _ h => by
 refine ⟨r, pub, h.mod, h.own, h.fr, fun n => ?_, h.defers, h.size, h.stab, h.low⟩
 have hs := h.slots n
 have e : ∀ T : List (Nat × AV), tget (T.map fun p => (p.1, st.view p.2)) n = st.view (tget T n) := fun T => by
  induction T with
  | nil => rfl
  | cons p T ih =>
   obtain ⟨m, x⟩ := p
   show (if m = n then st.view x else tget (T.map fun p => (p.1, st.view p.2)) n) = st.view (if m = n then x else tget T n)
   split
   ·rfl
   ·exact ih
 dsimp only
 rw [e]
 exact h.view hs
theorem Gh.viewE {M : Nat} {st : St} (q : Nat) {t : TypeId} {cs : List AV} (hq : st.H[q]? = some (.blk t cs)) : Gh M st ⟨st.T, st.H.set q (.blk t (cs.map st.view1))⟩ := fun C a w r pub _ h => by
 obtain ⟨b, arr, hr, hb, hc, hp⟩ := h.ent_blk hq
 refine ⟨r, pub, h.mod.set hr (Fr.refl (fun _ => False) _ _) (fun _ h => h.elim) h.mod.fresh h.mod.there (.blk hb ⟨by rw [List.length_map]; exact hc.len, fun i x u hx hu => ?_⟩ hp), h.own, h.fr, h.slots, h.defers, h.size, h.stab, h.low.1, by simpa using h.low.2⟩
 rw [List.getElem?_map] at hx
 cases hy : cs[i]? with
 | none => rw [hy] at hx; cases hx
 | some y => rw [hy] at hx; cases hx; exact h.view1 (hc.at_ i y u hy hu)
section
variable {α : Type} {f : α → PEl} {L : List α}
theorem LenP.k {K : Int → Prop} (k : ∀ z : Int, z = (L.length : Int) → K z) : LenP (mapA f L) K := ⟨fun z hz => k z (by rw [hz, mapA_len])⟩
/-- Where a key stands. -/
def atS (key : α → ByteArray) (L : List α) (s : ByteArray) : Option Nat := L.findIdx? fun a => decide (key a = s)
theorem atS_some {key : α → ByteArray} {L : List α} {s : ByteArray} {i : Nat} (h : atS key L s = some i) : ∃ a, L[i]? = some a ∧ key a = s := by
 unfold atS at h
 rw [List.findIdx?_eq_some_iff_getElem] at h
 obtain ⟨hi, h1, _⟩ := h
 exact ⟨L[i], List.getElem?_eq_getElem hi, by simpa using h1⟩
theorem atS_first {key : α → ByteArray} {L : List α} {s : ByteArray} {i j : Nat} {a : α} (h : atS key L s = some i) (hj : j < i) (ha : L[j]? = some a) : key a ≠ s := by
 unfold atS at h
 rw [List.findIdx?_eq_some_iff_getElem] at h
 obtain ⟨hi, _, h2⟩ := h
 have := h2 j hj
 obtain ⟨hjl, rfl⟩ := List.getElem?_eq_some_iff.1 ha
 simpa using this
theorem atS_none {key : α → ByteArray} {L : List α} {s : ByteArray} (h : atS key L s = none) : ∀ a ∈ L, key a ≠ s := by
 unfold atS at h
 rw [List.findIdx?_eq_none_iff] at h
 intro a ha e
 have := h a ha
 simp [e] at this
theorem findL_str (key : α → ByteArray) (hf : ∀ a, (f a).1 = .str (key a)) (s : ByteArray) : ∀ (L : List α) (i : Nat), findL (.str s) ((mapA f L).map (·.1)) i = some ((atS key L s).map (· + i))
 | [], i => rfl
 | x :: L, i => by
  have e : (mapA f (x :: L)).map (·.1) = (f x).1 :: (mapA f L).map (·.1) := rfl
  rw [e, hf x]
  unfold findL atS
  rw [List.findIdx?_cons]
  by_cases h : key x = s
  ·have h2 : keyIs (.str s) (.str (key x)) = some true := congrArg some ((MapKept.bytes_beq _ _).2 h.symm)
   simp only [h2]
   simp [h]
  ·have h3 : ¬ s = key x := fun e => h e.symm
   have h2 : keyIs (.str s) (.str (key x)) = some false := congrArg some (Bool.eq_false_iff.2 fun hb => h3 ((MapKept.bytes_beq _ _).1 hb))
   simp only [h2, findL_str key hf s L (i + 1), h, decide_false, Bool.false_eq_true, if_false, Option.map_map, atS]
   congr 1
   cases (L.findIdx? fun a => decide (key a = s)) with
   | none => rfl
   | some n => simp; omega
theorem poolK_in (key : α → ByteArray) (hf : ∀ a, (f a).1 = .str (key a)) {s : ByteArray} {Kin : Nat → AV → List Ent → Prop} {Kout : AV → Prop} {Kno : Unit → Prop} (h : ∀ i y, atS key L s = some i → L[i]? = some y → key y = s → Kin i (f y).2.1 (f y).2.2) (hn : atS key L s = none → Kno ()) :
  PoolK (.str s) (mapA f L) [] Kin Kout Kno := by
 refine ⟨?_⟩
 have hfl := findL_str (f := f) key hf s L 0
 cases ha : atS key L s with
 | none => rw [ha] at hfl; exact .inr (.inr ⟨hfl, hn ha⟩)
 | some i =>
  rw [ha] at hfl
  obtain ⟨y, hy, hk⟩ := atS_some ha
  exact .inl ⟨i, (f y).1, (f y).2.1, (f y).2.2, hfl, by rw [mapA_eq, List.getElem?_map, hy]; rfl, by simp, h i y ha hy hk⟩
/-- One that is out already. -/
theorem poolK_out (key : α → ByteArray) (hf : ∀ a, (f a).1 = .str (key a)) {s : ByteArray} {i : Nat} {x : AV} {Kin : Nat → AV → List Ent → Prop} {Kout : AV → Prop} {Kno : Unit → Prop} (ha : atS key L s = some i) (h : Kout x) :
  PoolK (.str s) (mapA f L) [(i, x)] Kin Kout Kno := by
 have hfl := findL_str (f := f) key hf s L 0
 rw [ha] at hfl
 exact ⟨.inr (.inl ⟨i, x, hfl, by simp, h⟩)⟩
theorem pupK_new (key : α → ByteArray) (hf : ∀ a, (f a).1 = .str (key a)) {s : ByteArray} {outs : List (Nat × AV)} {v : AV} {K : List PEl → List (Nat × AV) → Prop} (ha : atS key L s = none) (h : K (mapA f L ++ [(.str s, .any, [])]) ((L.length, v) :: outs)) :
  PupK (.str s) (mapA f L) outs v K := by
 have hfl := findL_str (f := f) key hf s L 0
 rw [ha] at hfl
 exact ⟨.inl ⟨hfl, fun es' n h1 h2 => by rw [mapA_len] at h2; subst h1 h2; exact h⟩⟩
theorem pupK_old (key : α → ByteArray) (hf : ∀ a, (f a).1 = .str (key a)) {s : ByteArray} {i : Nat} {x v : AV} {K : List PEl → List (Nat × AV) → Prop} (ha : atS key L s = some i) (h : K (mapA f L) [(i, v)]) :
  PupK (.str s) (mapA f L) [(i, x)] v K := by
 have hfl := findL_str (f := f) key hf s L 0
 rw [ha] at hfl
 exact ⟨.inr ⟨i, x, [], hfl, rfl, by simp, h⟩⟩
theorem nxtK_in {since : Nat} {seen : List Nat} {K : Nat → AV → AV → List Ent → Prop} {D : Unit → Prop} (hs : since = L.length) (h : ∀ i y, L[i]? = some y → i ∉ seen → K i (f y).1 (f y).2.1 (f y).2.2) (hd : (∀ i, i < L.length → i ∈ seen) → D ()) : NxtK (mapA f L) since seen K D := by
 refine ⟨by rw [mapA_len]; exact hs, fun i k hd' l he hn => ?_, fun h => hd fun i hi => h i (by rw [mapA_len]; exact hi)⟩
 rw [mapA_eq, List.getElem?_map] at he
 cases hy : L[i]? with
 | none => rw [hy] at he; cases he
 | some y =>
  rw [hy] at he
  have := h i y hy hn
  simp only [Option.map_some, Option.some.injEq] at he
  rw [he] at this
  exact this
theorem entK_in {since i : Nat} {seen : List Nat} {x : AV} {y : α} {K : AV → AV → Prop} (hs : since = L.length) (hy : L[i]? = some y) (h : K (f y).1 x) : EntK (mapA f L) [(i, x)] since (seen ++ [i]) K :=
 ⟨i, (f y).1, x, by rw [mapA_len]; exact hs, by simp, by rw [mapA_eq, List.getElem?_map, hy]; rfl, by simp, h⟩
/-- An element, turned or not, goes back. -/
theorem Gh.back {M : Nat} {st : St} (k : Nat) (sel : List Nat) (f : α → PEl) {L : List α} {i : Nat} {y0 : α} (y : α) {t : TypeId} {x : AV} (hk : st.H[k]? = some (.pool t (mapA f L) [(i, x)])) (hy : L[i]? = some y0) (hkey : (f y0).1 = (f y).1 := by rfl)
  (hx : x = (f y).2.1.ren sel 0 := by rfl) (hH : sel.map (fun q => st.H[q]?) = (renH sel 0 (f y).2.2).map some := by rfl) (hnd : sel.Nodup := by decide) (hsel : sel.all (fun q => Nat.ble M q && q != k) = true := by decide) (hb : (f y).2.1.bnd sel.length = true := by rfl) (hbH : bndH sel.length (f y).2.2 = true := by rfl) (hpl : (f y).2.2.all plainE = true := by rfl) :
  Gh M st ⟨killTs st.T sel, dieH (killHs (st.H.set k (.pool t (mapA f (L.set i y)) [])) sel) sel⟩ := by
 have h := Gh.putIn (M := M) (st := st) k 0 sel (f y).2.1 (f y).2.2 (x := x) (i := i) (key := (f y0).1) hk rfl (by simp) (by rw [mapA_eq, List.getElem?_map, hy]; rfl) hx hH hnd hsel hb hbH hpl
 have e : (mapA f L).set i ((f y0).1, (f y).2.1, (f y).2.2) = mapA f (L.set i y) := by
  rw [hkey]
  show (mapA f L).set i (f y) = _
  rw [mapA_eq, mapA_eq, List.map_set]
 rw [e] at h
 exact h
theorem set_same {L : List α} {i : Nat} {y : α} (hy : L[i]? = some y) : L.set i y = L := by
 obtain ⟨h, rfl⟩ := List.getElem?_eq_some_iff.1 hy
 exact List.set_getElem_self h
theorem Gh.back0 {M : Nat} {st : St} (k : Nat) (sel : List Nat) (f : α → PEl) {L : List α} {i : Nat} {y : α} {t : TypeId} {x : AV} (hk : st.H[k]? = some (.pool t (mapA f L) [(i, x)])) (hy : L[i]? = some y)
  (hx : x = (f y).2.1.ren sel 0 := by rfl) (hH : sel.map (fun q => st.H[q]?) = (renH sel 0 (f y).2.2).map some := by rfl) (hnd : sel.Nodup := by decide) (hsel : sel.all (fun q => Nat.ble M q && q != k) = true := by decide) (hb : (f y).2.1.bnd sel.length = true := by rfl) (hbH : bndH sel.length (f y).2.2 = true := by rfl) (hpl : (f y).2.2.all plainE = true := by rfl) :
  Gh M st ⟨killTs st.T sel, dieH (killHs (st.H.set k (.pool t (mapA f L) [])) sel) sel⟩ := by
 have h := Gh.back k sel f y hk hy rfl hx hH hnd hsel hb hbH hpl
 rw [set_same hy] at h
 exact h
/-- .. a new one. -/
theorem Gh.backN {M : Nat} {st : St} (k : Nat) (sel : List Nat) (f : α → PEl) {L : List α} (y : α) {key : AV} {t : TypeId} {x : AV} (hk : st.H[k]? = some (.pool t (mapA f L ++ [(key, .any, [])]) [(L.length, x)])) (hkey : (f y).1 = key := by rfl)
  (hx : x = (f y).2.1.ren sel 0 := by rfl) (hH : sel.map (fun q => st.H[q]?) = (renH sel 0 (f y).2.2).map some := by rfl) (hnd : sel.Nodup := by decide) (hsel : sel.all (fun q => Nat.ble M q && q != k) = true := by decide) (hb : (f y).2.1.bnd sel.length = true := by rfl) (hbH : bndH sel.length (f y).2.2 = true := by rfl) (hpl : (f y).2.2.all plainE = true := by rfl) :
  Gh M st ⟨killTs st.T sel, dieH (killHs (st.H.set k (.pool t (mapA f (L ++ [y])) [])) sel) sel⟩ := by
 have hl : (mapA f L).length = L.length := mapA_len f L
 have h := Gh.putIn (M := M) (st := st) k 0 sel (f y).2.1 (f y).2.2 (x := x) (i := L.length) (key := key) hk rfl (by simp) (by rw [List.getElem?_append_right (by omega)]; simp [hl]) hx hH hnd hsel hb hbH hpl
 have e : (mapA f L ++ [(key, AV.any, [])]).set L.length (key, (f y).2.1, (f y).2.2) = mapA f (L ++ [y]) := by
  rw [List.set_append_right _ _ (by omega), hl, Nat.sub_self, mapA_app, mapA_one, ← hkey]
  rfl
 rw [e] at h
 exact h
end
end Go.Proofs.YtjnmaicofgjplaaGreatDoor
namespace Go.Proofs.YtjnmaicofgjplaaGreatDoor
open Go.RowKit
/-! ### Bills, and what became of them -/
structure Edm where
 frm : ByteArray
 to : ByteArray
 kind : Int
 day : Int
structure Bl where
 number : ByteArray
 carrier : ByteArray
 shipper : ByteArray
 frm : ByteArray
 to : ByteArray
 boxes : List ByteArray
 parents : List ByteArray
 issued : Int
 clean : Bool
structure Og where
 state : Int
 holder : ByteArray
 chain : List Edm
structure Br where
 b : Bl
 st : Int
 o0 : Og
 o1 : Og
 o2 : Og
structure Rg where
 carrier : ByteArray
 bills : List Br
noncomputable def EdA : Edm → AV
 | ⟨f, t, k, d⟩ => .agg [.str f, .str t, .i k, .i d]
noncomputable def BlL : Bl → List AV
 | ⟨number, carrier, shipper, frm, to, boxes, parents, issued, clean⟩ => [.str number, .str carrier, .str shipper, .str frm, .str to, .sl 1 (mapA .str boxes), .sl 1 (mapA .str parents), .i issued, .bl clean]
noncomputable def BlA (b : Bl) : AV := .agg (BlL b)
/-- A bill's entry: the block, and the three chains. -/
noncomputable def EntC : Br → List Ent
 | ⟨⟨number, carrier, shipper, frm, to, boxes, parents, issued, clean⟩, st, ⟨sa, ha, ca⟩, ⟨sb, hb, cb⟩, ⟨sc, hc, cc⟩⟩ =>
  [.blk 85 [.str number, .str carrier, .str shipper, .str frm, .str to, .sl 1 (mapA .str boxes), .sl 1 (mapA .str parents), .i issued, .bl clean, .i st, .i sa, .str ha, .hd 1, .i sb, .str hb, .hd 2, .i sc, .str hc, .hd 3],
   .tip 98 4 (mapA EdA ca), .tip 98 4 (mapA EdA cb), .tip 98 4 (mapA EdA cc)]
noncomputable def PelA (b : Br) : PEl := (.str b.b.number, .ptr 0 0, EntC b)
noncomputable def RegH (R : Rg) : List Ent := [.blk 80 [.str R.carrier, .ph 1], .pool 78 (mapA PelA R.bills) []]
def bAt (L : List Br) (s : ByteArray) : Option Nat := atS (fun b : Br => b.b.number) L s
def stateM (L : List Br) (s : ByteArray) : Int := match bAt L s with
 | some i => match L[i]? with
  | some b => b.st
  | none => -1
 | none => -1
set_option maxHeartbeats 1000000
set_option maxRecDepth 100000
noncomputable def NewC : Ctr := spec (fun s : ByteArray => [.str s]) (fun _ => []) (fun _ => True) (fun _ => .ptr 0 0) fun s => RegH ⟨s, []⟩
theorem new_body (P : Program) : BodyOk P x26 NewC := by
 intro args H K hc; obtain ⟨s, rfl, rfl, hp, hK⟩ := hc; refine ⟨Nat.le_of_ble_eq_true rfl, ?_⟩; dsimp only at hp hK ⊢
 cbv
 exact FinK.mk ⟨_, Gh.refl _, .inl (CutK.sel [1, 0] (RegH ⟨s, []⟩) (.ptr 0 0) (by rfl) (by rfl) (by decide) (by rfl) (by exact Nat.le_of_ble_eq_true rfl) (by rfl) (by rfl) (Le.refl _) (LeH.refl _) hK)⟩
noncomputable def StateC : Ctr := spec (fun i : Rg × ByteArray => [.ptr 0 0, .str i.2]) (fun i => RegH i.1) (fun _ => True) (fun i => .i (stateM i.1.bills i.2)) fun i => RegH i.1
theorem state_body (P : Program) : BodyOk P x15 StateC := by
 intro args H K hc
 obtain ⟨⟨⟨carrier, L⟩, s⟩, rfl, rfl, _, hK⟩ := hc
 refine ⟨Nat.le_of_ble_eq_true rfl, ?_⟩
 dsimp only at hK ⊢
 cbv
 refine poolK_in (fun b : Br => b.b.number) (fun _ => rfl) (fun i y hai hy hky => ?_) (fun hai => ?_) <;> dsimp only at *
 ·obtain ⟨⟨number1, carrier1, shipper1, frm1, to1, boxes1, parents1, issued1, clean1⟩, st1, ⟨sa1, ha1, ca1⟩, ⟨sb1, hb1, cb1⟩, ⟨sc1, hc1, cc1⟩⟩ := y
  cbv
  (refine FinK.mk ⟨_, Gh.back0 1 [2, 3, 4, 5] PelA rfl hy, ?_⟩; cbv; exact .inl (CutK.pre _ (by rfl) (by exact Nat.le_of_ble_eq_true rfl) (by rfl) (by rfl) (Le.refl _) (LeH.refl _) (K_i hK (by unfold stateM bAt; rw [hai]; dsimp only; rw [hy]))))
 ·cbv
  (refine FinK.mk ⟨_, Gh.refl _, ?_⟩; cbv; exact .inl (CutK.pre _ (by rfl) (by exact Nat.le_of_ble_eq_true rfl) (by rfl) (by rfl) (Le.refl _) (LeH.refl _) (K_i hK (by unfold stateM bAt; rw [hai]))))
end Go.Proofs.YtjnmaicofgjplaaGreatDoor
namespace Go.Proofs.YtjnmaicofgjplaaGreatDoor
open Go.RowKit
set_option maxHeartbeats 1000000
set_option maxRecDepth 100000
/-- slices.Clone: a list that nobody else writes; a list of its own. -/
noncomputable def CloneC (sz bytes : Nat) : Ctr := spec (fun xs : List AV => [.sl sz xs]) (fun _ => []) (fun xs => xs.length ≤ maxLen ∧ xs.length * bytes ≤ 140737488355328) (fun xs => .sl sz xs) fun _ => []
noncomputable def CloneR (t sz bytes : Nat) : Ctr := spec (fun xs : List AV => [.sl sz xs]) (fun _ => []) (fun xs => xs.length ≤ maxLen ∧ xs.length * bytes ≤ 140737488355328) (fun _ => .hd 0) fun xs => [.row t sz xs]
theorem cloneS_body (P : Program) : BodyOk P x52 (CloneC 1 16) := by
 intro args H K hc
 obtain ⟨xs, rfl, rfl, ⟨h1, h2⟩, hK⟩ := hc
 refine ⟨Nat.le_of_ble_eq_true rfl, ?_⟩
 dsimp only at h1 h2 hK ⊢
 cbv; repeat' ((first | refine .zl fun zs hzs hzl => ?_ | refine .mk (fun h => ?_) ?_ | fail) <;> cbv)
 ·subst h
  exact ⟨⟨_, Gh.refl _, .inl (CutK.val rfl (.one (.one (.nil _))) hK)⟩⟩
 ·have hzs : zs = xs := hzs
  subst hzs
  exact ⟨⟨_, Gh.publish 0 rfl, .inr (CutK.val rfl (Le.refl _) hK)⟩⟩
theorem cloneE_body (P : Program) : BodyOk P x60 (CloneC 4 48) := by
 intro args H K hc
 obtain ⟨xs, rfl, rfl, ⟨h1, h2⟩, hK⟩ := hc
 refine ⟨Nat.le_of_ble_eq_true rfl, ?_⟩
 dsimp only at h1 h2 hK ⊢
 cbv; repeat' ((first | refine .zl fun zs hzs hzl => ?_ | refine .mk (fun h => ?_) ?_ | fail) <;> cbv)
 ·subst h
  exact ⟨⟨_, Gh.refl _, .inl (CutK.val rfl (.one (.one (.nil _))) hK)⟩⟩
 ·have hzs : zs = xs := hzs
  subst hzs
  exact ⟨⟨_, Gh.publish 0 rfl, .inr (CutK.val rfl (Le.refl _) hK)⟩⟩
theorem cloneER_body (P : Program) : BodyOk P x60 (CloneR 98 4 48) := by
 intro args H K hc
 obtain ⟨xs, rfl, rfl, ⟨h1, h2⟩, hK⟩ := hc
 refine ⟨Nat.le_of_ble_eq_true rfl, ?_⟩
 dsimp only at h1 h2 hK ⊢
 cbv; repeat' ((first | refine .zl fun zs hzs hzl => ?_ | refine .mk (fun h => ?_) ?_ | fail) <;> cbv)
 ·subst h
  exact ⟨⟨_, Gh.adopt 2 98 4 rfl, .inl (CutK.pre [.row 98 4 []] rfl (Nat.zero_le _) rfl rfl (Le.refl _) (LeH.refl _) hK)⟩⟩
 ·have hzs : zs = xs := hzs
  subst hzs
  exact ⟨⟨_, Gh.refl _, .inl (CutK.pre [.row 98 4 zs] rfl (Nat.zero_le _) rfl rfl (Le.refl _) (LeH.refl _) hK)⟩⟩
def okB (b : Bl) : Prop := b.boxes.length ≤ 100 ∧ b.parents.length ≤ 100
noncomputable def CopyBC : Ctr := spec (fun b : Bl => [BlA b]) (fun _ => []) okB (fun b => BlA b) fun _ => []
theorem copyBill_body (P : Program) (hc1 : FnOk P 52 (CloneC 1 16)) : BodyOk P x39 CopyBC := by
 intro args H K hc
 obtain ⟨⟨number, carrier, shipper, frm, to, boxes, parents, issued, clean⟩, rfl, rfl, ⟨h1, h2⟩, hK⟩ := hc
 refine ⟨Nat.le_of_ble_eq_true rfl, ?_⟩
 dsimp only at h1 h2 hK ⊢
 cbv
 (refine callG_spec0 hc1 _ ⟨by rw [mapA_len]; unfold maxLen; omega, by rw [mapA_len]; omega⟩ rfl rfl rfl ?_; try dsimp only)
 cbv
 (refine callG_spec0 hc1 _ ⟨by rw [mapA_len]; unfold maxLen; omega, by rw [mapA_len]; omega⟩ rfl rfl rfl ?_; try dsimp only)
 cbv
 (refine FinK.mk ⟨_, Gh.refl _, ?_⟩; cbv; exact .inl (CutK.pre _ (by rfl) (by exact Nat.le_of_ble_eq_true rfl) (by rfl) (by rfl) (Le.refl _) (LeH.refl _) hK))
structure OkR (R : Rg) : Prop where
 few : R.bills.length ≤ 256
 bills : ∀ b ∈ R.bills, okB b.b
 chains : ∀ b ∈ R.bills, b.o0.chain.length ≤ 4096 ∧ b.o1.chain.length ≤ 4096 ∧ b.o2.chain.length ≤ 4096
def zeroB : Bl := ⟨⟨#[]⟩, ⟨#[]⟩, ⟨#[]⟩, ⟨#[]⟩, ⟨#[]⟩, [], [], 0, false⟩
def getM (L : List Br) (s : ByteArray) : Bl × Bool := match bAt L s with
 | some i => match L[i]? with
  | some b => (b.b, true)
  | none => (zeroB, false)
 | none => (zeroB, false)
theorem getM_some {L : List Br} {s : ByteArray} {i : Nat} {y : Br} (h : bAt L s = some i) (hy : L[i]? = some y) : getM L s = (y.b, true) := by unfold getM; rw [h]; dsimp only; rw [hy]
theorem getM_none {L : List Br} {s : ByteArray} (h : bAt L s = none) : getM L s = (zeroB, false) := by unfold getM; rw [h]
noncomputable def GetC : Ctr := spec (fun i : Rg × ByteArray => [.ptr 0 0, .str i.2]) (fun i => RegH i.1) (fun i => OkR i.1) (fun i => .tup [BlA (getM i.1.bills i.2).1, .bl (getM i.1.bills i.2).2]) fun i => RegH i.1
theorem get_body (P : Program) (hcp : FnOk P 39 CopyBC) : BodyOk P x16 GetC := by
 intro args H K hc; obtain ⟨⟨⟨carrier, L⟩, s⟩, rfl, rfl, hp, hK⟩ := hc; refine ⟨Nat.le_of_ble_eq_true rfl, ?_⟩; dsimp only at hp hK ⊢
 have hob := hp.bills
 dsimp only at hob
 cbv
 refine poolK_in (fun b : Br => b.b.number) (fun _ => rfl) (fun i y hai hy hky => ?_) (fun hai => ?_) <;> dsimp only at *
 ·rw [getM_some hai hy] at hK
  have ho := hob y (List.mem_of_getElem? hy)
  obtain ⟨⟨number1, carrier1, shipper1, frm1, to1, boxes1, parents1, issued1, clean1⟩, st1, ⟨sa1, ha1, ca1⟩, ⟨sb1, hb1, cb1⟩, ⟨sc1, hc1, cc1⟩⟩ := y
  cbv
  (refine callG_spec0 hcp ⟨number1, carrier1, shipper1, frm1, to1, boxes1, parents1, issued1, clean1⟩ ho rfl rfl rfl ?_; try dsimp only)
  cbv
  (refine FinK.mk ⟨_, Gh.back0 1 [3, 4, 5, 6] PelA rfl hy, ?_⟩; cbv; exact .inl (CutK.pre _ (by rfl) (by exact Nat.le_of_ble_eq_true rfl) (by rfl) (by rfl) (Le.refl _) (LeH.refl _) hK))
 ·rw [getM_none hai] at hK
  cbv
  (refine FinK.mk ⟨_, Gh.refl _, ?_⟩; cbv; exact .inl (CutK.pre _ (by rfl) (by exact Nat.le_of_ble_eq_true rfl) (by rfl) (by rfl) (by repeat' (first | exact LeL.nil | exact LeL0.nil | exact LeH.nil | exact LeE.refl _ | exact Le.refl _ | exact Le0.one (.refl _) | exact Le0.one (.nil _) | exact Le1.refl _ | exact Le1.nil _ | refine LeH.cons ?_ ?_ | refine LeE.row ?_ | refine LeE.blk ?_ | refine LeL0.cons ?_ ?_ | refine LeL.cons ?_ ?_ | refine Le0.agg ?_ | refine Le.tup ?_ | exact Le.one (.one (.nil _)) | refine Le.one (.agg ?_))) (LeH.refl _) hK))
end Go.Proofs.YtjnmaicofgjplaaGreatDoor
