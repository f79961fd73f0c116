/-
  Texts of this proof, joined: VE, VF, VG, VH, VI, VJ, Src, VS, VK, VL, VM, VN, VQ, VO.
-/
import Derived.Test.YtblkcnmecfppnaaGreatDoorJ2
import Derived.ScopeJumps
import Derived.IntWalk
import Derived.Deep.Slices
import Derived.Deep.Fields
import Derived.ChangeSame
import Derived.ProofKit
import Derived.OpenShut
import Derived.ChangeOld
import Derived.Below
set_option linter.unusedVariables false
set_option linter.unusedSimpArgs false
/-
 Code on abstract values: what holds of it holds of the program's code; functions; what may be turned in thought alone.
-/
namespace Go.Proofs.YtblkcnmecfppnaaGreatDoor
open Go.RowKit

section
variable {P : Program} {N M : Nat}
theorem xw_ok : ∀ (code : Code) (x : XCode) (Q : XEx → St → Prop) (C : Ctx) (st : St) (a : Act) (w : World) (r : Rho) (pub : Pub), cCode P N code = some x → C.n = N → C.m = M → HoldsW C st a w r pub → XW P N M x Q st → code.wp P (QX C Q) a w := by
 intro code
 induction code with
 | skip =>
  intro x Q C st a w r pub hx hN hM h hK
  cases hx
  exact wp_skip ⟨st, r, pub, hK, h⟩
 | region id ops draw =>
  intro x Q C st a w r pub hx hN hM h hK
  unfold cCode at hx
  cases draw with
  | false =>
   simp only [Bool.false_eq_true, if_false] at hx
   obtain ⟨l, hl, rfl⟩ := map_some hx
   exact wp_region_list (reg_ok (fun a w h => h) hN _ _ st a w r pub hl h hK)
  | true =>
   simp only [if_true] at hx
   split at hx
   ·rename_i hc
    obtain ⟨p, hp, rfl⟩ := map_some hx
    have hd := h.draws.room (allocs ops)
    have hks := liveK_some h (p.dry st) []
    have m : Mid (keepD p st) C r pub w.drew false true ⟨st.T, st.H ++ List.replicate (allocs ops) .dead⟩ a w.drew r pub := ⟨hd, fun _ => Keeps.refl _ _ _, fun _ => rfl, Ext.refl _ _, fun k hk => .inl (hks k hk)⟩
    have hsort : ∀ a w, OutK C (if p.forky = true then SortK (Q .norm) else Q .norm) a w → QX C Q .normal a w := fun a w ⟨st, r, pub, hk, hh⟩ => by
     split at hk
     ·exact ⟨_, r, pub, hk, ⟨hh.mod, hh.own, hh.fr, fun n => by dsimp only; rw [tget_sort]; exact hh.slots n, hh.defers, hh.size, hh.stab, hh.low⟩⟩
     ·exact ⟨st, r, pub, hk, hh⟩
    have := (plan_ok (P := P) (N := N) (Q := QX C Q) (K := if p.forky = true then SortK (Q .norm) else Q .norm) hc.1 (fun c a d v w h => h.elim) hsort hN p (wtOf P ops (blockers P ops) (Array.replicate ops.size false)) _ _ _ _ hd.mod.there false true ops.size (Array.replicate ops.size false) _ a w.drew r pub
     (fits_size _ _ _ _ _ hp) (closed_start _) (by simp) m (fun h => by cases h) hK).1 (planMk_ok _ _ _ _ _ hp)
    exact wp_region_any hc.2 (wpAny_of_N _ _ _ _ this)
   ·cases hx
 | seq c1 c2 ih1 ih2 =>
  intro x Q C st a w r pub hx hN hM h hK
  unfold cCode at hx
  split at hx
  ·rename_i x1 x2 h1 h2
   cases hx
   refine wp_seq (wp_mono (ih1 x1 _ C st a w r pub h1 hN hM h hK) fun e a' w' hq => ?_)
   cases e with
   | normal =>
    obtain ⟨st', r', pub', hk, hh⟩ := hq
    exact ih2 x2 Q C st' a' w' r' pub' h2 hN hM hh hk
   | exit id => exact hq
   | ret => exact hq
   | goto l => exact hq
   | panic ch => exact hq.elim
   | outgrown => exact hq.elim
  ·cases hx
 | cond c c1 c2 ih1 ih2 =>
  intro x Q C st a w r pub hx hN hM h hK
  unfold cCode at hx
  split at hx
  ·rename_i z x1 x2 hz h1 h2
   cases hx
   unfold XW at hK
   have hv := h.ev hz
   generalize hev : st.ev z = y at hK hv
   cases y with
   | bl t =>
    generalize hva : a.eval c = v at hv
    cases hv
    dsimp only at hK
    refine wp_cond hva ?_
    cases t with
    | true => exact ih1 x1 Q C st a w r pub h1 hN hM h hK
    | false => exact ih2 x2 Q C st a w r pub h2 hN hM h hK
   | _ => exact hK.elim
  ·cases hx
 | block id c ih =>
  intro x Q C st a w r pub hx hN hM h hK
  unfold cCode at hx
  obtain ⟨y, hy, rfl⟩ := map_some hx
  refine wp_block (wp_mono (ih y _ C st a w r pub hy hN hM h hK) fun e a' w' hq => ?_)
  cases e with
  | normal => exact hq
  | exit id' =>
   show if id' = id then _ else _
   obtain ⟨st', r', pub', hk, hh⟩ := hq
   have hk : if id' = id then Q .norm st' else Q (.exit id') st' := hk
   split
   ·rename_i e; rw [if_pos e] at hk; exact ⟨st', r', pub', hk, hh⟩
   ·rename_i e; rw [if_neg e] at hk; exact ⟨st', r', pub', hk, hh⟩
  | ret => exact hq
  | goto l => exact hq
  | panic ch => exact hq.elim
  | outgrown => exact hq.elim
 | loop c ih =>
  intro x Q C st a w r pub hx hN hM h hK
  unfold cCode at hx
  obtain ⟨y, hy, rfl⟩ := map_some hx
  exact hK.out c C a w r pub hy hN hM h
 | exit id =>
  intro x Q C st a w r pub hx hN hM h hK
  cases hx
  exact wp_exit ⟨st, r, pub, hK, h⟩
 | ret =>
  intro x Q C st a w r pub hx hN hM h hK
  cases hx
  exact wp_ret ⟨st, r, pub, hK, h⟩
 | scope c ih =>
  intro x Q C st a w r pub hx hN hM h hK
  unfold cCode at hx
  obtain ⟨y, hy, rfl⟩ := map_some hx
  exact hK.out c C a w r pub hy hN hM h
 | label l =>
  intro x Q C st a w r pub hx hN hM h hK
  cases hx
  exact wp_label ⟨st, r, pub, hK, h⟩
 | goto l =>
  intro x Q C st a w r pub hx hN hM h hK
  cases hx
  exact wp_goto ⟨st, r, pub, hK, h⟩
 | _ => intro x Q C st a w r pub hx; cases hx
end

/-! ### Steps in thought -/
def Gh (M : Nat) (st st' : St) : Prop := ∀ (C : Ctx) (a : Act) (w : World) (r : Rho) (pub : Pub), C.m = M → HoldsW C st a w r pub → ∃ r' pub', HoldsW C st' a w r' pub'
section
variable {M : Nat}
theorem Gh.refl (st : St) : Gh M st st := fun _ _ _ r pub _ h => ⟨r, pub, h⟩
theorem Gh.trans {s1 s2 s3 : St} (h : Gh M s1 s2) (k : Gh M s2 s3) : Gh M s1 s3 := fun C a w r pub hM hh => by
 obtain ⟨r1, p1, h1⟩ := h C a w r pub hM hh
 exact k C a w r1 p1 hM h1
def isRowE : Option Ent → Option (Nat × Nat × List AV)
 | some (.row t sz xs) => some (t, sz, xs)
 | _ => none
/-- A row is published. -/
theorem Gh.publish {st : St} (k : Nat) {t sz : Nat} {xs : List AV} (hk : isRowE st.H[k]? = some (t, sz, xs)) : Gh M st ⟨st.T, st.H.set k (.tip t sz xs)⟩ := fun C a w r pub _ h => by
 have hk' : st.H[k]? = some (.row t sz xs) := by
  cases he : st.H[k]? with
  | none => rw [he] at hk; cases hk
  | some e => cases e <;> rw [he] at hk <;> cases hk <;> rfl
 obtain ⟨pub', h', _⟩ := h.publish hk'
 exact ⟨r, pub', h'⟩
/-- A slice of nothing becomes a row of its own. -/
theorem Gh.adopt {st : St} (n t sz : Nat) (hn : tget st.T n = .v (.slice none 0 0)) : Gh M st ⟨tput st.T n (.hd st.H.length), st.H ++ [.row t sz []]⟩ := fun C a w r pub _ h => by
 have hd := h.room 1
 have hq : (st.H ++ List.replicate 1 Ent.dead)[st.H.length]? = some .dead := by simp
 have h1 := hd.adopt hq t sz
 have hset : (st.H ++ List.replicate 1 Ent.dead).set st.H.length (.row t sz []) = st.H ++ [.row t sz []] := by simp
 dsimp only at h1
 rw [hset] at h1
 refine ⟨rset r st.H.length (.slice none 0 0), pub, h1.mod, h1.own, h1.fr, fun m => ?_, h1.defers, h1.size, h1.stab, h1.low⟩
 dsimp only
 rw [tget_put]
 split
 ·rename_i e
  subst e
  have := h.slots n
  rw [hn] at this
  rw [ev_nil this]
  exact .hd (rset_self _ _ _) rfl
 ·exact h1.slots m
/-- Less is asked. -/
def weakT (T : List (Nat × AV)) : List (Nat × AV) → Prop
 | [] => True
 | (n, x) :: l => (tget T n = x ∨ x = .any) ∧ weakT T l
def bndT (n : Nat) : List (Nat × AV) → Bool
 | [] => true
 | (_, x) :: l => AV.bnd n x && bndT n l
def bndH (n : Nat) : List Ent → Bool
 | [] => true
 | e :: l => bndE n e && bndH n l
theorem weakT_get {T : List (Nat × AV)} : ∀ {T' : List (Nat × AV)}, weakT T T' → ∀ m, tget T' m = .any ∨ tget T' m = tget T m
 | [], _, m => .inl rfl
 | (n, x) :: l, h, m => by
  simp only [tget]
  split
  ·rename_i e
   subst e
   rcases h.1 with h1 | h1
   ·exact .inr h1.symm
   ·exact .inl h1
  ·exact weakT_get h.2 m
theorem bndT_get {n : Nat} : ∀ {T : List (Nat × AV)}, bndT n T = true → ∀ m, AV.bnd n (tget T m) = true
 | [], _, m => by simp [tget, AV.bnd]
 | (k, x) :: l, h, m => by
  unfold bndT at h
  simp only [Bool.and_eq_true] at h
  simp only [tget]
  split
  ·exact h.1
  ·exact bndT_get h.2 m
theorem bndH_get {n : Nat} : ∀ {H : List Ent}, bndH n H = true → ∀ (k : Nat) (e : Ent), H[k]? = some e → bndE n e = true
 | [], _, k, e, h => by simp at h
 | x :: l, h, 0, e, he => by
  unfold bndH at h
  simp only [Bool.and_eq_true] at h
  simp at he
  subst he
  exact h.1
 | x :: l, h, k + 1, e, he => by
  unfold bndH at h
  simp only [Bool.and_eq_true] at h
  exact bndH_get h.2 k e (by simpa using he)
theorem Gh.weak {st st' : St} (hT : weakT st.T st'.T) (hH : st.H.take st'.H.length = st'.H) (hb : bndT st'.H.length st'.T = true) (hbH : bndH st'.H.length st'.H = true) (hM : M ≤ st'.H.length) : Gh M st st' := fun C a w r pub hCm h => by
 have hget : ∀ k e, st'.H[k]? = some e → st.H[k]? = some e := fun k e he => by
  have hk := (List.getElem?_eq_some_iff.1 he).1
  rw [← hH, List.getElem?_take, if_pos hk] at he
  exact he
 let r' : Rho := fun k => if k < st'.H.length then r k else none
 have hr' : ∀ k, k < st'.H.length → r' k = r k := fun k hk => if_pos hk
 have hsome : ∀ k y, r' k = some y → r k = some y := fun k y hy => by
  by_cases hk : k < st'.H.length
  ·rw [hr' k hk] at hy; exact hy
  ·simp only [r', if_neg hk] at hy; cases hy
 refine ⟨r', pub, ⟨fun k e he => ?_, fun k hk => if_neg (by omega), fun i j x y hij hx hy => h.mod.disj i j x y hij (hsome _ _ hx) (hsome _ _ hy), h.mod.fresh, h.mod.there, h.mod.glob⟩, fun k x hx => h.own k x (hsome _ _ hx), h.fr, fun m => ?_, h.defers, h.size, fun k y hy hs => ?_, ⟨h.low.1, by omega⟩⟩
 ·have hk := (List.getElem?_eq_some_iff.1 he).1
  have h0 := h.mod.ent k e (hget k e he)
  have hbe := bndH_get hbH k e he
  rw [hr' k hk]
  exact h0.congr hbe hr'
 ·rcases weakT_get hT m with e | e
  ·rw [e]; exact .any _
  ·have hbm := bndT_get hb m
   rw [e] at hbm ⊢
   exact (h.slots m).congr fun n hn => hr' n (AV.bnd_has _ hbm hn)
 ·have hk : k < st'.H.length := by
   rcases Nat.lt_or_ge k C.m with h1 | h1
   ·omega
   ·rw [h.low.1 k h1] at hy; cases hy
  rw [hr' k hk]
  exact h.stab k y hy hs
end

/-! ### Loops -/
theorem wp_loop_fam {P : Program} {Q : Exit → Act → World → Prop} {c : Code} (I : Nat → Act → World → Prop)
  (round : ∀ n a w, I n a w → c.wp P (Exit.then (fun a' w' => ∃ m, m < n ∧ I m a' w') Q) a w) {n0 : Nat} {a : Act} {w : World} (h₀ : I n0 a w) : (Code.loop c).wp P Q a w := by
 intro b k cs
 have key : ∀ n a w, I n a w →
   ∃ e a' w', Q e a' w' ∧ Arrives P (lone (b.at a (.code c :: .inLoop c :: k)) cs w) b k cs e a' w' := by
  intro n
  induction n using Nat.strongRecOn with
  | _ n ih =>
   intro a w hI
   obtain ⟨e, a₁, w₁, hq, harr⟩ := round n a w hI b (.inLoop c :: k) cs
   cases e with
   | normal =>
    obtain ⟨m, hlt, hI₁⟩ := hq
    obtain ⟨e₂, a₂, w₂, hq₂, harr₂⟩ := ih m hlt a₁ w₁ hI₁
    exact ⟨e₂, a₂, w₂, hq₂, .of_steps (Steps.trans harr (.one step_inLoop)) harr₂⟩
   | exit id => exact ⟨_, a₁, w₁, hq, .pass (x := .inLoop c) rfl (fun _ _ => .inl (by simp)) harr⟩
   | goto l => exact ⟨_, a₁, w₁, hq, .pass (x := .inLoop c) rfl (fun _ _ => .inl (by simp)) harr⟩
   | ret => exact ⟨_, a₁, w₁, hq, .pass (x := .inLoop c) rfl (fun _ _ => .inl (by simp)) harr⟩
   | panic ch => exact ⟨_, a₁, w₁, hq, .pass (x := .inLoop c) rfl (fun _ _ => .inl (by simp)) harr⟩
   | outgrown => exact ⟨_, a₁, w₁, hq, .pass (x := .inLoop c) rfl (fun _ _ => .inl (by simp)) harr⟩
 obtain ⟨e, a', w', hq, harr⟩ := key n0 a w h₀
 exact ⟨e, a', w', hq, .of_steps (.one step_loop) harr⟩
/-- How much is ahead, as cbv leaves it. -/
structure Ms where
 n : Nat
 i : Nat
def Ms.val (m : Ms) : Nat := m.n - m.i
/-- Behind a round: the family goes on, with less ahead. -/
structure RoundK {ι : Type} (M : Nat) (F : ι → St) (μ : ι → Ms) (n : Ms) (st : St) : Prop where
 out : ∃ st' j, Gh M st st' ∧ F j = st' ∧ (μ j).val < n.val
def XRound {ι : Type} (M : Nat) (F : ι → St) (μ : ι → Ms) (n : Ms) (Q : XEx → St → Prop) : XEx → St → Prop
 | .norm, st => RoundK M F μ n st
 | .exit id, st => Q (.exit id) st
 | .ret, st => Q .ret st
 | .goto l, st => Q (.goto l) st
theorem xloop {P : Program} {N M : Nat} {c : XCode} {Q : XEx → St → Prop} {st : St} {ι : Type} (F : ι → St) (μ : ι → Ms) (i0 : ι) (h0 : Gh M st (F i0)) (hr : ∀ i, XW P N M c (XRound M F μ (μ i) Q) (F i)) : XLoopG P N M c Q st := by
 refine ⟨fun code C a w r pub hc hN hM h => ?_⟩
 obtain ⟨r1, p1, h1⟩ := h0 C a w r pub hM h
 refine wp_loop_fam (fun n a w => ∃ i r pub, (μ i).val = n ∧ HoldsW C (F i) a w r pub) (fun n a w hI => ?_) (n0 := (μ i0).val) ⟨i0, r1, p1, rfl, h1⟩
 obtain ⟨i, r, pub, rfl, hh⟩ := hI
 refine wp_mono (xw_ok code c _ C (F i) a w r pub hc hN hM hh (hr i)) fun e a' w' hq => ?_
 cases e with
 | normal =>
  obtain ⟨st', r', pub', ⟨⟨st2, j, hg, rfl, hlt⟩⟩, hh'⟩ := hq
  obtain ⟨r2, p2, h2⟩ := hg C a' w' r' pub' hM hh'
  exact ⟨(μ j).val, hlt, j, r2, p2, rfl, h2⟩
 | exit id => exact hq
 | ret => exact hq
 | goto l => exact hq
 | panic ch => exact hq.elim
 | outgrown => exact hq.elim

/-! ### Scopes -/
theorem wp_scope_fam {P : Program} {Q : Exit → Act → World → Prop} {c rest : Code} {a : Act} {w : World} (l : Nat) (J : Nat → Act → World → Prop) (hf : findLabel c l = some rest)
  (first : c.wp P (Exit.jump l (fun a w => ∃ n, J n a w) Q) a w)
  (pass : ∀ n a w, J n a w → rest.wp P (Exit.jump l (fun a' w' => ∃ m, m < n ∧ J m a' w') Q) a w) : (Code.scope c).wp P Q a w := by
 intro b k cs
 have hg : gotoIn l (.inScope c :: k) = some (.code rest :: .inScope c :: k) := by simp [gotoIn, hf]
 have key : ∀ n a w, J n a w → ∃ e a' w', Q e a' w' ∧ Arrives P (lone (b.at a (.code rest :: .inScope c :: k)) cs w) b k cs e a' w' := by
  intro n
  induction n using Nat.strongRecOn with
  | _ n ih =>
   intro a w hJ
   obtain ⟨e, a₁, w₁, hq, harr⟩ := pass n a w hJ b (.inScope c :: k) cs
   cases e with
   | normal => exact ⟨.normal, a₁, w₁, hq, Steps.trans harr (.one step_inScope)⟩
   | exit id => exact ⟨.exit id, a₁, w₁, hq, fun k' hk => harr k' (by simp [exitTo, hk])⟩
   | goto l' =>
    obtain ⟨rfl, m, hlt, hJ'⟩ := hq
    obtain ⟨e₂, a₂, w₂, hq₂, harr₂⟩ := ih m hlt a₁ w₁ hJ'
    exact ⟨e₂, a₂, w₂, hq₂, .of_steps (harr _ hg) harr₂⟩
   | ret => exact ⟨_, a₁, w₁, hq, harr⟩
   | panic ch => exact ⟨_, a₁, w₁, hq, harr⟩
   | outgrown => exact ⟨_, a₁, w₁, hq, harr⟩
 obtain ⟨e, a₁, w₁, hq, harr⟩ := first b (.inScope c :: k) cs
 cases e with
 | normal => exact ⟨.normal, a₁, w₁, hq, .head step_scope (Steps.trans harr (.one step_inScope))⟩
 | exit id => exact ⟨.exit id, a₁, w₁, hq, fun k' hk => .head step_scope (harr k' (by simp [exitTo, hk]))⟩
 | goto l' =>
  obtain ⟨rfl, n, hJ'⟩ := hq
  obtain ⟨e₂, a₂, w₂, hq₂, harr₂⟩ := key n a₁ w₁ hJ'
  exact ⟨e₂, a₂, w₂, hq₂, .of_steps (.head step_scope (harr _ hg)) harr₂⟩
 | ret => exact ⟨_, a₁, w₁, hq, .of_steps (.one step_scope) harr⟩
 | panic ch => exact ⟨_, a₁, w₁, hq, .of_steps (.one step_scope) harr⟩
 | outgrown => exact ⟨_, a₁, w₁, hq, .of_steps (.one step_scope) harr⟩
/-- A jump: the family is entered. -/
structure JumpK {ι : Type} (M : Nat) (F : ι → St) (st : St) : Prop where
 out : ∃ st' j, Gh M st st' ∧ F j = st'
def XFirst {ι : Type} (M : Nat) (F : ι → St) (l : Nat) (Q : XEx → St → Prop) : XEx → St → Prop
 | .goto l', st => l' = l ∧ JumpK M F st
 | .norm, st => Q .norm st
 | .exit id, st => Q (.exit id) st
 | .ret, st => Q .ret st
def XJump {ι : Type} (M : Nat) (F : ι → St) (μ : ι → Ms) (n : Ms) (l : Nat) (Q : XEx → St → Prop) : XEx → St → Prop
 | .goto l', st => l' = l ∧ RoundK M F μ n st
 | .norm, st => Q .norm st
 | .exit id, st => Q (.exit id) st
 | .ret, st => Q .ret st
theorem xscope {P : Program} {N M : Nat} {c rest : XCode} {Q : XEx → St → Prop} {st : St} {ι : Type} (l : Nat) (F : ι → St) (μ : ι → Ms) (hf : XFind c l = some rest) (h0 : XW P N M c (XFirst M F l Q) st) (hr : ∀ i, XW P N M rest (XJump M F μ (μ i) l Q) (F i)) : XScopeG P N M c Q st := by
 refine ⟨fun code C a w r pub hc hN hM h => ?_⟩
 have hfl := XFind_ok l code c hc
 rw [hf] at hfl
 obtain ⟨rc, hrc, hcc⟩ := hfl
 refine wp_scope_fam l (fun n a w => ∃ i r pub, (μ i).val = n ∧ HoldsW C (F i) a w r pub) hrc (wp_mono (xw_ok code c _ C st a w r pub hc hN hM h h0) fun e a' w' hq => ?_) (fun n a w hI => ?_)
 ·cases e with
  | goto l' =>
   obtain ⟨st', r', pub', ⟨rfl, ⟨st2, j, hg, rfl⟩⟩, hh⟩ := hq
   obtain ⟨r2, p2, h2⟩ := hg C a' w' r' pub' hM hh
   exact ⟨rfl, (μ j).val, j, r2, p2, rfl, h2⟩
  | _ => exact hq
 ·obtain ⟨i, r, pub, rfl, hh⟩ := hI
  refine wp_mono (xw_ok rc rest _ C (F i) a w r pub hcc hN hM hh (hr i)) fun e a' w' hq => ?_
  cases e with
  | goto l' =>
   obtain ⟨st', r', pub', ⟨rfl, ⟨st2, j, hg, rfl, hlt⟩⟩, hh'⟩ := hq
   obtain ⟨r2, p2, h2⟩ := hg C a' w' r' pub' hM hh'
   exact ⟨rfl, (μ j).val, hlt, j, r2, p2, rfl, h2⟩
  | _ => exact hq

/-! ### Functions -/
inductive XRes where
 | tmp (t : Nat)
 | cell (t : Nat) (ag : Bool) (n : Nat)
def cRes (P : Program) : List ResultVar → Option (List XRes)
 | [] => some []
 | .tmp t :: l => (cRes P l).map (.tmp t :: ·)
 | .cell t ty :: l => match P.info? ty, isRow P ty, cRes P l with
  | some i, some ag, some r => if ag = false ∧ i.size ≠ 1 then none else some (.cell t ag i.size :: r)
  | _, _, _ => none
/-- The results' values. -/
def resW (st : St) : List XRes → (List AV → Prop) → Prop
 | [], K => K []
 | .tmp t :: l, K => resW st l fun r => K (tget st.T t :: r)
 | .cell t ag n :: l, K => match tget st.T t with
  | .ptr k off => match st.H[k]? with
   | some (.blk _ cs) => if ag = true then off + n ≤ cs.length ∧ resW st l fun r => K (.agg ((cs.drop off).take n) :: r) else match cs[off]? with
    | some x => resW st l fun r => K (x :: r)
    | none => False
   | _ => False
  | _ => False
def tupAV : List AV → AV
 | [x] => x
 | l => .tup l
structure XFn where
 n : Nat
 body : XCode
 res : List XRes
def cFn (P : Program) (f : Nat) : Option XFn :=
 match P.funcs[f]? with
 | some fn => match fn.body with
  | some c => match cCode P fn.ntmps c, cRes P fn.results.toList with
   | some x, some r => some ⟨fn.ntmps, x, r⟩
   | _, _ => none
  | none => none
 | none => none
def viewR (st : St) : AV → AV
 | .tup l => .tup (l.map st.view)
 | x => st.view x
/-- At a function's end: steps in thought, and the results; what a tip holds may be told. -/
structure FinK (M : Nat) (res : List XRes) (K : AV → List Ent → Prop) (st : St) : Prop where
 out : ∃ st', Gh M st st' ∧ resW st' res fun l => K (tupAV l) st'.H ∨ K (viewR st' (tupAV l)) st'.H
def FinQ (M : Nat) (res : List XRes) (K : AV → List Ent → Prop) : XEx → St → Prop
 | .norm => FinK M res K
 | .ret => FinK M res K
 | .exit _ => fun _ => False
 | .goto _ => fun _ => False
def numT : Nat → List AV → List (Nat × AV)
 | _, [] => []
 | n, x :: l => (n, x) :: numT (n + 1) l
/-- What a function asks of its arguments and of the entries that it is handed, and what it leaves. -/
abbrev Ctr := List AV → List Ent → (AV → List Ent → Prop) → Prop
def Foot (r : Rho) (b : Nat) : Prop := ∃ k y, r k = some y ∧ b ∈ foot y
def FnPost (K : AV → List Ent → Prop) (H : List Ent) (w : World) (r : Rho) (pub : Pub) (e : Ending) (w' : World) : Prop :=
 ∃ v x H' r' pub', e = .returned v ∧ K x H' ∧ VRel pub' w' r' x v ∧ Mod pub' w' r' H' ∧ Fr (Foot r) pub w pub' w' ∧ (∀ b, Foot r' b → Foot r b ∨ w.heap.size ≤ b) ∧ (∀ k y, r k = some y → isSl y = false → r' k = some y) ∧ H.length ≤ H'.length
def FnOk (P : Program) (f : Nat) (c : Ctr) : Prop :=
 ∀ (args : List AV) (H : List Ent) (K : AV → List Ent → Prop), c args H K → ∀ (w : World) (r : Rho) (pub : Pub) (vals : Array Value), Mod pub w r H → VRels pub w r args vals.toList → Calls P f vals w (FnPost K H w r pub)
theorem tget_num {l : List AV} : ∀ (k n : Nat), tget (numT k l) n = if k ≤ n then l.getD (n - k) .any else .any := by
 induction l with
 | nil => intro k n; simp [numT, tget]
 | cons x l ih =>
  intro k n
  simp only [numT, tget]
  by_cases h : k = n
  ·subst h; simp
  ·rw [if_neg h, ih]
   by_cases h2 : k + 1 ≤ n
   ·rw [if_pos h2, if_pos (by omega)]
    have : n - k = (n - (k + 1)) + 1 := by omega
    rw [this, List.getD_cons_succ]
   ·rw [if_neg h2]
    split
    ·exfalso; omega
    ·rfl
def resSem (tmps : Array Value) : ResultVar → Sem Value
 | .tmp t => pure (tmps.getD t undef)
 | .cell b t => do loadVar t (← asAddr (tmps.getD b undef))
theorem mapM_run {P : Program} {tmps : Array Value} {w : World} {x : ResultVar} {l : List ResultVar} {v : Value} {vs : List Value} (h : (resSem tmps x).run P w = .ok v w) (hl : (l.mapM (resSem tmps)).run P w = .ok vs w) : ((x :: l).mapM (resSem tmps)).run P w = .ok (v :: vs) w := by
 rw [List.mapM_cons, Sem.run_bind, h, Result.andThen_ok, Sem.run_bind, hl, Result.andThen_ok]
 rfl
theorem res_ok {P : Program} {C : Ctx} {st : St} {a : Act} {w : World} {r : Rho} {pub : Pub} (h : HoldsW C st a w r pub) : ∀ (l : List ResultVar) (xs : List XRes) (K : List AV → Prop), cRes P l = some xs → resW st xs K →
  ∃ vs ys, (l.mapM (resSem a.tmps)).run P w = .ok vs w ∧ VRels pub w r ys vs ∧ K ys
 | [], xs, K, hx, hK => by
  cases hx
  exact ⟨[], [], by simp, .nil, hK⟩
 | .tmp t :: l, xs, K, hx, hK => by
  unfold cRes at hx
  obtain ⟨y, hy, rfl⟩ := map_some hx
  obtain ⟨vs, ys, hr, hv, hk⟩ := res_ok h l y _ hy hK
  exact ⟨a.tmps.getD t undef :: vs, tget st.T t :: ys, mapM_run rfl hr, .cons (h.slots t) hv, hk⟩
 | .cell t ty :: l, xs, K, hx, hK => by
  unfold cRes at hx
  split at hx
  ·rename_i i ag y hi ha hy
   split at hx
   ·cases hx
   ·rename_i h0
    cases hx
    unfold resW at hK
    have hs := h.slots t
    generalize tget st.T t = z at hK hs
    cases z with
    | ptr k off =>
     dsimp only at hK
     generalize hva : a.tmps.getD t undef = va at hs
     cases hs with
     | @ptr _ _ b _ hr =>
      cases hk : st.H[k]? with
      | none => rw [hk] at hK; exact hK.elim
      | some e =>
       rw [hk] at hK
       cases e with
       | blk t' cs =>
        obtain ⟨b', arr, hr2, hb, hc, _⟩ := h.ent_blk hk
        rw [hr2] at hr
        simp only [Option.some.injEq, Value.pointer.injEq, Addr.mk.injEq, and_true] at hr
        subst hr
        have hal : arr.size = cs.length := by have := hc.len; simpa using this
        have hcell : ∀ q u, arr[q]? = some u → w.cell? ⟨b', q, none⟩ = some u := fun q u hq => by rw [hb.all]; exact hq
        cases ag with
        | true =>
         simp only [if_true] at hK
         obtain ⟨hle, hK⟩ := hK
         obtain ⟨vs, ys, hr3, hv, hkk⟩ := res_ok h l y _ hy hK
         have hload : (loadVar ty ⟨b', off, none⟩).run P w = .ok (.agg ((arr.toList.drop off).take i.size).toArray) w := by
          have hlen : ((arr.toList.drop off).take i.size).length = i.size := by simp; omega
          have hl : (loadCells ⟨b', off, none⟩ i.size).run P w = .ok ((arr.toList.drop off).take i.size).toArray w := by
           have := run_loadCells_list (P := P) w ⟨b', off, none⟩ ((arr.toList.drop off).take i.size) (fun j v hj => by
            rw [Addr.add_lit]
            rw [List.getElem?_take] at hj
            split at hj
            ·rw [List.getElem?_drop, Array.getElem?_toList] at hj
             exact hcell _ _ hj
            ·cases hj)
           rw [hlen] at this
           exact this
          simp [loadVar, Sem.run_bind, isAgg_run ha, sizeOf, typeInfo, hi, hl]
         refine ⟨_, _, mapM_run (by show (asAddr (a.tmps.getD t undef) >>= fun b => loadVar ty b).run P w = _; rw [hva]; simp only [asAddr, Sem.run_bind, Sem.run_pure, Result.andThen_ok]; exact hload) hr3, .cons (.agg ?_ fun q x u hx hu => ?_) hv, hkk⟩
         ·simp; omega
         ·rw [List.getElem?_toArray] at hu
          exact ((hc.drop off).take i.size).at_ q x u hx hu
        | false =>
         simp only [Bool.false_eq_true, if_false] at hK
         cases hy2 : cs[off]? with
         | none => rw [hy2] at hK; exact hK.elim
         | some z =>
          rw [hy2] at hK
          obtain ⟨vs, ys, hr3, hv, hkk⟩ := res_ok h l y _ hy hK
          obtain ⟨u, hu, hvu⟩ := hc.get hy2
          rw [Array.getElem?_toList] at hu
          have hload : (loadVar ty ⟨b', off, none⟩).run P w = .ok u w := by
           simp [loadVar, Sem.run_bind, isAgg_run ha, run_load, hcell off u hu]
          exact ⟨u :: vs, z :: ys, mapM_run (by show (asAddr (a.tmps.getD t undef) >>= fun b => loadVar ty b).run P w = _; rw [hva]; simp only [asAddr, Sem.run_bind, Sem.run_pure, Result.andThen_ok]; exact hload) hr3, .cons hvu hv, hkk⟩
       | _ => exact hK.elim
    | _ => exact hK.elim
  ·cases hx
/-- What is held of code, without its steps. -/
structure SemW (P : Program) (N M : Nat) (c : XCode) (Q : XEx → St → Prop) (st : St) : Prop where
 out : ∀ (code : Code) (C : Ctx) (a : Act) (w : World) (r : Rho) (pub : Pub), cCode P N code = some c → C.n = N → C.m = M → HoldsW C st a w r pub → code.wp P (QX C Q) a w
section
variable {P : Program} {N M : Nat}
theorem SemW.of {c : XCode} {Q : XEx → St → Prop} {st : St} (h : XW P N M c Q st) : SemW P N M c Q st := ⟨fun code C a w r pub hx hN hM hh => xw_ok code c Q C st a w r pub hx hN hM hh h⟩
theorem SemW.gh {c : XCode} {Q : XEx → St → Prop} {st st' : St} (g : Gh M st st') (h : SemW P N M c Q st') : SemW P N M c Q st := ⟨fun code C a w r pub hx hN hM hh => by
 obtain ⟨r', pub', h'⟩ := g C a w r pub hM hh
 exact h.out code C a w r' pub' hx hN hM h'⟩
theorem SemW.seq {a b : XCode} {Q : XEx → St → Prop} {st : St} (h : SemW P N M a (XThen (SemW P N M b Q) Q) st) : SemW P N M (.seq a b) Q st := ⟨fun code C act w r pub hx hN hM hh => by
 cases code with
 | seq c1 c2 =>
  unfold cCode at hx
  split at hx
  ·rename_i x1 x2 h1 h2
   cases hx
   refine wp_seq (wp_mono (h.out c1 C act w r pub h1 hN hM hh) fun e a' w' hq => ?_)
   cases e with
   | normal =>
    obtain ⟨st', r', pub', hk, hh⟩ := hq
    exact hk.out c2 C a' w' r' pub' h2 hN hM hh
   | exit id => exact hq
   | ret => exact hq
   | goto l => exact hq
   | panic ch => exact hq.elim
   | outgrown => exact hq.elim
  ·cases hx
 | region id ops draw =>
  unfold cCode at hx
  cases draw with
  | false =>
   simp only [Bool.false_eq_true, if_false] at hx
   obtain ⟨l, hl, h⟩ := map_some hx
   cases h
  | true =>
   simp only [if_true] at hx
   split at hx
   ·obtain ⟨p, hp, h⟩ := map_some hx
    cases h
   ·cases hx
 | cond c c1 c2 =>
  unfold cCode at hx
  split at hx <;> cases hx
 | block id c => unfold cCode at hx; obtain ⟨y, hy, h⟩ := map_some hx; cases h
 | loop c => unfold cCode at hx; obtain ⟨y, hy, h⟩ := map_some hx; cases h
 | scope c => unfold cCode at hx; obtain ⟨y, hy, h⟩ := map_some hx; cases h
 | _ => cases hx⟩
end
theorem fn_okS {P : Program} {f : Nat} {x : XFn} (c : Ctr) (hx : cFn P f = some x) (h : ∀ args H K, c args H K → args.length ≤ x.n ∧ SemW P x.n H.length x.body (FinQ H.length x.res K) ⟨numT 0 args, H⟩) : FnOk P f c := by
 intro args H K hc w r pub vals hm hv
 obtain ⟨hn, hw⟩ := h args H K hc
 unfold cFn at hx
 cases hf : P.funcs[f]? with
 | none => rw [hf] at hx; cases hx
 | some fn =>
  rw [hf] at hx
  cases hb : fn.body with
  | none => simp only [hb] at hx; cases hx
  | some code =>
   simp only [hb] at hx
   split at hx
   ·rename_i y z hy hz
    cases hx
    have hlen : vals.size = args.length := by have := hv.len; simpa using this
    have hh : HoldsW ⟨Foot r, pub, w, fn.ntmps, H.length, r⟩ ⟨numT 0 args, H⟩ { tmps := vals ++ Array.replicate (fn.ntmps - vals.size) undef, defers := [] } w r pub := by
     refine ⟨hm, fun k x hx b hb => .inl ⟨k, x, hx, hb⟩, Fr.refl _ _ _, fun n => ?_, rfl, by have hn' : args.length ≤ fn.ntmps := hn; show (vals ++ Array.replicate (fn.ntmps - vals.size) undef).size = fn.ntmps; rw [Array.size_append, Array.size_replicate]; omega, fun k y hy _ => hy, hm.none_, Nat.le_refl _⟩
     rw [tget_num, if_pos (Nat.zero_le _), Nat.sub_zero]
     by_cases hna : n < args.length
     ·have e1 : (vals ++ Array.replicate (fn.ntmps - vals.size) undef).getD n undef = vals[n]'(by omega) := by
       rw [Array.getD_eq_getD_getElem?, Array.getElem?_append_left (by omega), Array.getElem?_eq_getElem (by omega)]
       rfl
      rw [List.getD_eq_getElem?_getD, List.getElem?_eq_getElem hna]
      dsimp only
      rw [e1]
      exact hv.at_ n _ _ (List.getElem?_eq_getElem hna) (by rw [Array.getElem?_toList]; exact Array.getElem?_eq_getElem (by omega))
     ·rw [List.getD_eq_getElem?_getD, List.getElem?_eq_none (by omega)]
      exact .any _
    refine calls_of_wp hf hb (wp_mono (hw.out code _ _ w r pub hy rfl rfl hh) fun e a' w' hq => ?_)
    have fin : OutK ⟨Foot r, pub, w, fn.ntmps, H.length, r⟩ (FinK H.length z K) a' w' → a'.defers = [] ∧ ∃ v, (results fn a'.tmps).run P w' = .ok v w' ∧ FnPost K H w r pub (.returned v) w' := fun ⟨st, r1, p1, ⟨⟨st', hg, hres⟩⟩, hh1⟩ => by
     obtain ⟨r2, p2, h2⟩ := hg _ _ _ _ _ rfl hh1
     refine ⟨h2.defers, ?_⟩
     obtain ⟨vs, ys, hrun, hvs, hk⟩ := res_ok h2 fn.results.toList z _ hz hres
     have hr : (results fn a'.tmps).run P w' = .ok (if h : vs.toArray.size = 1 then vs.toArray[0] else .tuple vs.toArray) w' := by
      have e1 : results fn a'.tmps = (do
        let vs ← fn.results.mapM (resSem a'.tmps)
        pure (if h : vs.size = 1 then vs[0] else .tuple vs)) := by
       unfold results
       congr 1
      rw [e1, Array.mapM_eq_mapM_toList, Sem.run_bind, Sem.run_map, hrun]
      rfl
     have hval : VRel p2 w' r2 (tupAV ys) (if h : vs.toArray.size = 1 then vs.toArray[0] else .tuple vs.toArray) := by
      have hl := hvs.len
      split
      ·rename_i h1
       cases ys with
       | nil => have k1 : vs.length = 1 := (by simpa using h1); have k2 : vs.length = 0 := hl; omega
       | cons y1 ys =>
        cases ys with
        | nil =>
         obtain ⟨u, us', rfl, hu, hu'⟩ := hvs.cons_inv
         exact hu
        | cons y2 ys => have k1 : vs.length = 1 := (by simpa using h1); have k2 : vs.length = ys.length + 2 := hl; omega
      ·rename_i h1
       have : tupAV ys = .tup ys := by
        cases ys with
        | nil => rfl
        | cons y1 ys =>
         cases ys with
         | nil => have k1 : ¬ vs.length = 1 := (by simpa using h1); have k2 : vs.length = 1 := hl; omega
         | cons y2 ys => rfl
       rw [this]
       exact .tup (by simpa using hl) fun i x u hx hu => hvs.at_ i x u hx (by simpa using hu)
     have hview : ∀ {y : AV} {v : Value}, VRel p2 w' r2 y v → VRel p2 w' r2 (viewR st' y) v := fun {y v} hyv => by
      have hyv0 := hyv
      cases hyv with
      | @tup _ l arr hl hc =>
       unfold viewR
       refine .tup (by simpa using hl) fun i x u hx hu => ?_
       rw [List.getElem?_map] at hx
       cases hq : l[i]? with
       | none => rw [hq] at hx; cases hx
       | some q => rw [hq] at hx; cases hx; exact h2.view (hc i q u hq hu)
      | _ => exact h2.view hyv0
     refine ⟨_, hr, ?_⟩
     have own : ∀ b, Foot r2 b → Foot r b ∨ w.heap.size ≤ b := fun b ⟨k, y, hy, hb⟩ => h2.own k y hy b hb
     rcases hk with hk | hk
     ·exact ⟨_, _, _, r2, p2, rfl, hk, hval, h2.mod, h2.fr, own, h2.stab, h2.low.2⟩
     ·exact ⟨_, _, _, r2, p2, rfl, hk, hview hval, h2.mod, h2.fr, own, h2.stab, h2.low.2⟩
    cases e with
    | normal => exact fin hq
    | ret => exact fin hq
    | exit id => obtain ⟨_, _, _, hk, _⟩ := hq; exact hk.elim
    | goto l => obtain ⟨_, _, _, hk, _⟩ := hq; exact hk.elim
    | panic ch => exact hq.elim
    | outgrown => exact hq.elim
   ·cases hx
theorem fn_ok {P : Program} {f : Nat} {x : XFn} (c : Ctr) (hx : cFn P f = some x) (h : ∀ args H K, c args H K → args.length ≤ x.n ∧ XW P x.n H.length x.body (FinQ H.length x.res K) ⟨numT 0 args, H⟩) : FnOk P f c :=
 fn_okS c hx fun args H K hc => ⟨(h args H K hc).1, .of (h args H K hc).2⟩
end Go.Proofs.YtblkcnmecfppnaaGreatDoor
/-
 A call by a function's contract: the entries that it is handed are the caller's by other numbers; all else stays.
-/
namespace Go.Proofs.YtblkcnmecfppnaaGreatDoor
open Go.RowKit

/-! ### What named a row that a callee may have moved -/
def rowIds : List Nat → List Ent → List Nat
 | k :: s, e :: l => match e.turns with
  | true => k :: rowIds s l
  | false => rowIds s l
 | _, _ => []
def killTs (T : List (Nat × AV)) : List Nat → List (Nat × AV)
 | [] => T
 | k :: s => killTs (tkill k .any T) s
def killHs (H : List Ent) : List Nat → List Ent
 | [] => H
 | k :: s => killHs (H.map (Ent.kill k .any)) s
def without (r : Rho) (l : List Nat) : Rho := fun k => if k ∈ l then none else r k
theorem killHs_len : ∀ (l : List Nat) (H : List Ent), (killHs H l).length = H.length
 | [], H => rfl
 | k :: s, H => by unfold killHs; rw [killHs_len s]; simp
theorem without_cons (r : Rho) (k : Nat) (l : List Nat) : without r (k :: l) = without (without r [k]) l := by
 funext n
 simp only [without, List.mem_cons, List.not_mem_nil, or_false]
 by_cases h1 : n = k <;> by_cases h2 : n ∈ l <;> simp [h1, h2]
theorem kill_without {pub : Pub} {w : World} {r : Rho} {x : AV} {v : Value} (k : Nat) (h : VRel pub w r x v) : VRel pub w (without r [k]) (x.kill k .any) v :=
 h.kill (fun m hm => by simp [without, hm]) (fun z _ => .any _)
theorem killTs_get {pub : Pub} {w : World} {v : Value} {n : Nat} : ∀ (l : List Nat) (T : List (Nat × AV)) (r : Rho), VRel pub w r (tget T n) v → VRel pub w (without r l) (tget (killTs T l) n) v
 | [], T, r, h => by
  unfold killTs
  exact h.mono fun m y hy => by simpa [without] using hy
 | k :: s, T, r, h => by
  unfold killTs
  rw [without_cons]
  refine killTs_get s _ _ ?_
  rw [tget_kill]
  exact kill_without k h
theorem killHs_get {pub : Pub} {w : World} {hd : Option Value} : ∀ (l : List Nat) (H : List Ent) (r : Rho) (n : Nat) (e : Ent), (killHs H l)[n]? = some e → ∃ e0, H[n]? = some e0 ∧ (ERel pub w r hd e0 → ERel pub w (without r l) hd e)
 | [], H, r, n, e, h => ⟨e, h, fun he => he.frm (S := fun _ => False) (Fr.refl _ _ _) (fun _ _ _ _ h => h) (fun m y hy => by simpa [without] using hy)⟩
 | k :: s, H, r, n, e, h => by
  unfold killHs at h
  obtain ⟨e1, h1, h2⟩ := killHs_get (pub := pub) (w := w) (hd := hd) s _ (without r [k]) n e h
  rw [List.getElem?_map] at h1
  cases h0 : H[n]? with
  | none => rw [h0] at h1; cases h1
  | some e0 =>
   rw [h0] at h1
   cases h1
   refine ⟨e0, rfl, fun he => ?_⟩
   rw [without_cons]
   refine h2 ?_
   exact he.kill (S := fun _ => False) (Fr.refl _ _ _) (fun _ _ _ _ h => h) (fun m hm => by simp [without, hm]) (fun z _ => .any _)
/-- The callee's entries, put back. -/
def putE : List Ent → List Nat → List Ent → List Ent
 | H, [], L => H ++ L
 | H, k :: s, e :: L => putE (H.set k e) s L
 | H, _ :: _, [] => H
theorem putE_len : ∀ (s : List Nat) (L H : List Ent), s.length ≤ L.length → (putE H s L).length = H.length + (L.length - s.length)
 | [], L, H, _ => by simp [putE]
 | k :: s, e :: L, H, h => by
  unfold putE
  rw [putE_len s L _ (by simpa using h)]
  simp
 | k :: s, [], H, h => by simp at h
theorem sigma_lt {s : List Nat} {base i : Nat} (h : i < s.length) : sigma s base i = s[i] := by
 induction s generalizing i with
 | nil => simp at h
 | cons k s ih =>
  cases i with
  | zero => rfl
  | succ i => simp only [sigma]; exact ih (by simpa using h)
theorem sigma_ge {s : List Nat} {base i : Nat} (h : s.length ≤ i) : sigma s base i = base + (i - s.length) := by
 induction s generalizing i with
 | nil => rfl
 | cons k s ih =>
  cases i with
  | zero => simp at h
  | succ i => simp only [sigma]; rw [ih (by simpa using h)]; simp
theorem putE_get : ∀ (s : List Nat) (L H : List Ent) (n : Nat) (e : Ent), s.Nodup → (∀ k ∈ s, k < H.length) → s.length ≤ L.length → (putE H s L)[n]? = some e → (∃ i, sigma s H.length i = n ∧ L[i]? = some e) ∨ (n ∉ s ∧ n < H.length ∧ H[n]? = some e)
 | [], L, H, n, e, _, _, _, h => by
  unfold putE at h
  by_cases hn : n < H.length
  ·rw [List.getElem?_append_left hn] at h
   exact .inr ⟨by simp, hn, h⟩
  ·rw [List.getElem?_append_right (by omega)] at h
   exact .inl ⟨n - H.length, by simp [sigma]; omega, h⟩
 | k :: s, [], H, n, e, _, _, hl, _ => by simp at hl
 | k :: s, e0 :: L, H, n, e, hd, hlt, hl, h => by
  unfold putE at h
  obtain ⟨hd1, hd2⟩ := List.nodup_cons.1 hd
  rcases putE_get s L (H.set k e0) n e hd2 (fun q hq => by simpa using hlt q (by simp [hq])) (by simpa using hl) h with ⟨i, hi, hL⟩ | ⟨hn, hnl, hH⟩
  ·rw [List.length_set] at hi
   exact .inl ⟨i + 1, hi, by simpa using hL⟩
  ·rw [List.length_set] at hnl
   by_cases hkn : k = n
   ·subst hkn
    rw [List.getElem?_set_self hnl] at hH
    cases hH
    exact .inl ⟨0, rfl, rfl⟩
   ·rw [List.getElem?_set_ne hkn] at hH
    exact .inr ⟨by simp [hn, Ne.symm hkn], hnl, hH⟩
end Go.Proofs.YtblkcnmecfppnaaGreatDoor
/-
 A call by a function's contract.
-/
namespace Go.Proofs.YtblkcnmecfppnaaGreatDoor
open Go.RowKit

theorem nodup_inj {l : List Nat} (h : l.Nodup) {i j : Nat} {hi : i < l.length} {hj : j < l.length} (e : l[i] = l[j]) : i = j := by
 rcases Nat.lt_trichotomy i j with h1 | h1 | h1
 ·exact absurd e (List.pairwise_iff_getElem.1 h i j hi hj h1)
 ·exact h1
 ·exact absurd e.symm (List.pairwise_iff_getElem.1 h j i hj hi h1)
theorem rowIds_of {s : List Nat} {H0 : List Ent} {i : Nat} {e : Ent} (h : H0[i]? = some e) (ht : e.turns = true) (hi : i < s.length) : s[i] ∈ rowIds s H0 := by
 induction s generalizing i H0 with
 | nil => simp at hi
 | cons k s ih =>
  cases H0 with
  | nil => simp at h
  | cons d l =>
   cases i with
   | zero =>
    simp at h
    subst h
    simp [rowIds, ht]
   | succ i =>
    have := ih (i := i) (H0 := l) (by simpa using h) (by simpa using hi)
    unfold rowIds
    cases d.turns
    ·exact this
    ·exact List.mem_cons_of_mem _ this
/-- THE CALL. -/
theorem callG_of {P : Program} {f : Nat} {c : Ctr} (hf : FnOk P f c) (sel : List Nat) {args0 : List AV} {H0 : List Ent} {keep : List Nat} {args : List AV} {st : St} {K : AV → St → Prop}
  (ha : args = AV.renL sel st.H.length args0) (hlen : sel.length = H0.length) (hnd : sel.Nodup) (hlt : ∀ k ∈ sel, k < st.H.length) (hH : sel.map (fun k => st.H[k]?) = (renH sel st.H.length H0).map some)
  (hb : AV.bndL H0.length args0 = true) (hbH : bndH H0.length H0 = true) (hkeep : ∀ k ∈ keep, k ∉ sel ∧ k < st.H.length)
  (hc : c args0 H0 fun x H' => K (x.ren sel st.H.length) ⟨killTs st.T (rowIds sel H0), putE (killHs st.H (rowIds sel H0)) sel (renH sel st.H.length H')⟩) : CallG P keep f args st K := by
 refine ⟨fun C a w r pub vals h hv => ?_⟩
 let r0 : Rho := fun i => if i < sel.length then r (sigma sel st.H.length i) else none
 have hr0 : ∀ i y, r0 i = some y → i < sel.length ∧ r (sigma sel st.H.length i) = some y := fun i y hy => by
  by_cases hi : i < sel.length
  ·simp only [r0, if_pos hi] at hy; exact ⟨hi, hy⟩
  ·simp only [r0, if_neg hi] at hy; cases hy
 have hr0' : ∀ i, i < sel.length → r0 i = r (sigma sel st.H.length i) := fun i hi => if_pos hi
 have hsi : ∀ i (hi : i < sel.length), sigma sel st.H.length i = sel[i] := fun i hi => sigma_lt hi
 have hinj : ∀ i j, i < sel.length → j < sel.length → sigma sel st.H.length i = sigma sel st.H.length j → i = j := fun i j hi hj e => by
  rw [hsi i hi, hsi j hj] at e
  exact nodup_inj hnd e
 have hent : ∀ i e, H0[i]? = some e → st.H[sigma sel st.H.length i]? = some (e.ren sel st.H.length) := fun i e he => by
  have hi : i < sel.length := by rw [hlen]; exact (List.getElem?_eq_some_iff.1 he).1
  have h1 := congrArg (fun l => l[i]?) hH
  simp only [List.getElem?_map, renH_map, he, Option.map_some, List.getElem?_eq_getElem hi] at h1
  rw [hsi i hi]
  simpa using h1
 -- what the callee is handed
 have hm0 : Mod pub w r0 H0 := by
  refine ⟨fun i e he => ?_, fun i hi => if_neg (by omega), fun i j x y hij hx hy => ?_, h.mod.fresh, h.mod.there, h.mod.glob⟩
  ·have hi : i < sel.length := by rw [hlen]; exact (List.getElem?_eq_some_iff.1 he).1
   have he1 := h.mod.ent _ _ (hent i e he)
   have hbe := bndH_get hbH i e he
   rw [hr0' i hi]
   exact he1.unren hbe fun k y hkb hy => by rw [hr0' k (by omega)]; exact hy
  ·obtain ⟨hi, hx⟩ := hr0 i x hx
   obtain ⟨hj, hy⟩ := hr0 j y hy
   exact h.mod.disj _ _ x y (fun e => hij (hinj i j hi hj e)) hx hy
 have hv0 : VRels pub w r0 args0 vals.toList := by
  subst ha
  refine ⟨by have := hv.len; rw [AV.renL_map, List.length_map] at this; exact this, fun q x u hx hu => ?_⟩
  refine (hv.at_ q (x.ren sel st.H.length) u (by rw [AV.renL_map, List.getElem?_map, hx]; rfl) hu).unren x rfl fun k y hk hy => ?_
  have hkb : k < H0.length := AV.bnd_has _ (AV.bndL_mem hx hb) hk
  rw [hr0' k (by omega)]
  exact hy
 refine (hf args0 H0 _ hc w r0 pub vals hm0 hv0).mono fun e w' hpost => ?_
 obtain ⟨v, x, H', r1, pub', rfl, hK, hvx, hm1, hfr, hown, hstab, hlen'⟩ := hpost
 -- the handles behind the call
 let r' : Rho := fun k => match sel.idxOf? k with
  | some i => r1 i
  | none => if st.H.length ≤ k then r1 (sel.length + (k - st.H.length)) else r k
 have hr'sel : ∀ i (hi : i < sel.length), r' sel[i] = r1 i := fun i hi => by
  have : sel.idxOf? sel[i] = some i := by
   rw [List.idxOf?_eq_some_iff]
   exact ⟨hi, rfl, fun j hj => by
    intro e
    have := nodup_inj hnd e
    omega⟩
  simp only [r', this]
 have hidx : ∀ k, k ∉ sel → sel.idxOf? k = none := fun k hk => by rw [List.idxOf?_eq_none_iff]; exact hk
 have hr'new : ∀ k, st.H.length ≤ k → r' k = r1 (sel.length + (k - st.H.length)) := fun k hk => by
  have hkn : k ∉ sel := fun hk' => by have := hlt k hk'; omega
  simp only [r', hidx k hkn, if_pos hk]
 have hr'old : ∀ k, k ∉ sel → k < st.H.length → r' k = r k := fun k hk hkl => by
  simp only [r', hidx k hk, if_neg (by omega : ¬ st.H.length ≤ k)]
 have hsig : ∀ i, r' (sigma sel st.H.length i) = r1 i := fun i => by
  by_cases hi : i < sel.length
  ·rw [hsi i hi]; exact hr'sel i hi
  ·rw [sigma_ge (by omega), hr'new _ (by omega)]
   congr 1
   omega
 have hcase : ∀ k, (∃ i, sigma sel st.H.length i = k) ∨ (k ∉ sel ∧ k < st.H.length) := fun k => by
  by_cases hk : k ∈ sel
  ·obtain ⟨i, hi, rfl⟩ := List.getElem_of_mem hk
   exact .inl ⟨i, hsi i hi⟩
  ·by_cases hkl : k < st.H.length
   ·exact .inr ⟨hk, hkl⟩
   ·exact .inl ⟨sel.length + (k - st.H.length), by rw [sigma_ge (by omega)]; omega⟩
 have hsinj : ∀ i j, sigma sel st.H.length i = sigma sel st.H.length j → i = j := fun i j e => by
  by_cases hi : i < sel.length
  ·by_cases hj : j < sel.length
   ·exact hinj i j hi hj e
   ·rw [hsi i hi, sigma_ge (by omega)] at e
    have := hlt sel[i] (List.getElem_mem hi)
    omega
  ·by_cases hj : j < sel.length
   ·rw [hsi j hj, sigma_ge (by omega)] at e
    have := hlt sel[j] (List.getElem_mem hj)
    omega
   ·rw [sigma_ge (by omega), sigma_ge (by omega)] at e
    omega
 -- the other entries' blocks
 have hfoot : ∀ k y, k ∉ sel → r k = some y → ∀ b ∈ foot y, ¬ Foot r0 b := fun k y hk hy b hb' ⟨i, z, hz, hbz⟩ => by
  obtain ⟨hi, hz⟩ := hr0 i z hz
  rw [hsi i hi] at hz
  exact h.mod.disj k sel[i] y z (fun e => hk (by rw [e]; exact List.getElem_mem hi)) hy hz b hb' hbz
 have hkeepr : ∀ n y, without r (rowIds sel H0) n = some y → r' n = some y := fun n y hy => by
  unfold without at hy
  split at hy
  ·cases hy
  ·rename_i hnr
   by_cases hn : n ∈ sel
   ·obtain ⟨i, hi, rfl⟩ := List.getElem_of_mem hn
    rw [hr'sel i hi]
    refine hstab i y (by rw [hr0' i hi, hsi i hi]; exact hy) ?_
    -- a slice's handle is a row's
    have hi0 : i < H0.length := by omega
    have he := hm0.ent i _ (List.getElem?_eq_getElem hi0)
    rw [hr0' i hi, hsi i hi, hy] at he
    refine he.turns ?_
    cases ht : H0[i].turns with
    | false => rfl
    | true => exact absurd (rowIds_of (List.getElem?_eq_getElem hi0) ht hi) hnr
   ·have hnl : n < st.H.length := by
     rcases Nat.lt_or_ge n st.H.length with h1 | h1
     ·exact h1
     ·rw [h.mod.none_ n h1] at hy; cases hy
    rw [hr'old n hn hnl]
    exact hy
 have hsl : sel.length ≤ (renH sel st.H.length H').length := by rw [renH_map, List.length_map]; omega
 have hkl := killHs_len (rowIds sel H0) st.H
 have hnl : (putE (killHs st.H (rowIds sel H0)) sel (renH sel st.H.length H')).length = st.H.length + (H'.length - sel.length) := by
  rw [putE_len _ _ _ hsl, hkl, renH_map, List.length_map]
 have hownb : ∀ b, Foot r0 b → C.S b ∨ C.w.heap.size ≤ b := fun b ⟨i, z, hz, hbz⟩ => by
  obtain ⟨hi, hz⟩ := hr0 i z hz
  exact h.own _ z hz b hbz
 have hmod : Mod pub' w' r' (putE (killHs st.H (rowIds sel H0)) sel (renH sel st.H.length H')) := by
  refine ⟨fun k e he => ?_, fun k hk => ?_, fun i j x y hij hx hy => ?_, hm1.fresh, hm1.there, hm1.glob⟩
  ·rcases putE_get sel _ _ k e hnd (fun q hq => by rw [hkl]; exact hlt q hq) hsl he with ⟨i, hi, hL⟩ | ⟨hk, hkl2, he2⟩
   ·rw [hkl] at hi
    subst hi
    rw [hsig i]
    rw [renH_map, List.getElem?_map] at hL
    cases hq : H'[i]? with
    | none => rw [hq] at hL; cases hL
    | some e1 =>
     rw [hq] at hL
     cases hL
     have he1 := hm1.ent i e1 hq
     exact he1.ren fun m y hy => by rw [hsig m]; exact hy
   ·rw [hkl] at hkl2
    rw [hr'old k hk hkl2]
    obtain ⟨e0, h0, h1⟩ := killHs_get (pub := pub') (w := w') (hd := r k) (rowIds sel H0) st.H r k e he2
    have he0 := (h.mod.ent k e0 h0).frm (r' := r) hfr (fun y hy b hb => hfoot k y hk hy b hb) (fun _ _ h => h)
    exact (h1 he0).frm (S := fun _ => False) (Fr.refl _ _ _) (fun _ _ _ _ h => h) hkeepr
  ·rw [hnl] at hk
   rw [hr'new k (by omega)]
   exact hm1.none_ _ (by omega)
  ·-- apart
   have far : ∀ i k y z, r1 i = some y → k ∉ sel → k < st.H.length → r k = some z → ∀ b ∈ foot y, b ∉ foot z := fun i k y z hy hk hkl hz b hb' hbz => by
    rcases hown b ⟨i, y, hy, hb'⟩ with h1 | h1
    ·exact hfoot k z hk hz b hbz h1
    ·have := h.mod.foot_lt hz b hbz
     omega
   rcases hcase i with ⟨i0, rfl⟩ | ⟨hi1, hi2⟩
   ·rw [hsig i0] at hx
    rcases hcase j with ⟨j0, rfl⟩ | ⟨hj1, hj2⟩
    ·rw [hsig j0] at hy
     exact hm1.disj i0 j0 x y (fun e => hij (by rw [e])) hx hy
    ·rw [hr'old j hj1 hj2] at hy
     exact far i0 j x y hx hj1 hj2 hy
   ·rw [hr'old i hi1 hi2] at hx
    rcases hcase j with ⟨j0, rfl⟩ | ⟨hj1, hj2⟩
    ·rw [hsig j0] at hy
     exact fun b hb' hby => far j0 i y x hy hi1 hi2 hx b hby hb'
    ·rw [hr'old j hj1 hj2] at hy
     exact h.mod.disj i j x y hij hx hy
 refine ⟨v, _, _, r', pub', rfl, hvx.ren (fun k y hy => by rw [hsig k]; exact hy), hK, ⟨hmod, fun k y hy b hb' => ?_, h.fr.trans hfr (fun b hb' => hownb b hb'), fun n => ?_, h.defers, h.size, fun k y hy hs => ?_, ⟨h.low.1, by dsimp only; rw [hnl]; have := h.low.2; omega⟩⟩, hfr.ext, fun k hk => ?_⟩
 ·rcases hcase k with ⟨i0, rfl⟩ | ⟨hk1, hk2⟩
  ·rw [hsig i0] at hy
   rcases hown b ⟨i0, y, hy, hb'⟩ with h1 | h1
   ·exact hownb b h1
   ·right; have := h.fr.size; omega
  ·rw [hr'old k hk1 hk2] at hy
   exact h.own k y hy b hb'
 ·exact ((killTs_get (rowIds sel H0) st.T r (h.slots n)).ext hfr.ext).mono hkeepr
 ·have h1 := h.stab k y hy hs
  have hkl3 : k < st.H.length := by
   rcases Nat.lt_or_ge k st.H.length with h2 | h2
   ·exact h2
   ·rw [h.mod.none_ k h2] at h1; cases h1
  by_cases hk : k ∈ sel
  ·obtain ⟨i, hi, rfl⟩ := List.getElem_of_mem hk
   rw [hr'sel i hi]
   exact hstab i y (by rw [hr0' i hi, hsi i hi]; exact h1) hs
  ·rw [hr'old k hk hkl3]
   exact h1
 ·obtain ⟨hk1, hk2⟩ := hkeep k hk
  refine ⟨hr'old k hk1 hk2, fun y hy b hb' => (hfr.keep b (h.mod.foot_lt hy b hb') (hfoot k y hk1 hy b hb')).1⟩
mutual
theorem AV.ren_id {s : List Nat} {base : Nat} : ∀ (x : AV), x.bnd 0 = true → x.ren s base = x
 | .any, _ => by unfold AV.ren; rfl
 | .bl _, _ => by unfold AV.ren; rfl
 | .int _ _, _ => by unfold AV.ren; rfl
 | .str _, _ => by unfold AV.ren; rfl
 | .v _, _ => by unfold AV.ren; rfl
 | .sl _ _, _ => by unfold AV.ren; rfl
 | .rp _ _, _ => by unfold AV.ren; rfl
 | .ptr k _, h => by simp [AV.bnd] at h
 | .hd k, h => by simp [AV.bnd] at h
 | .ph k, h => by simp [AV.bnd] at h
 | .re k _ _ _, h => by simp [AV.bnd] at h
 | .agg l, h => by unfold AV.ren; rw [AV.renL_id l (by simpa [AV.bnd] using h)]
 | .tup l, h => by unfold AV.ren; rw [AV.renL_id l (by simpa [AV.bnd] using h)]
 | .clo f l, h => by unfold AV.ren; rw [AV.renL_id l (by simpa [AV.bnd] using h)]
theorem AV.renL_id {s : List Nat} {base : Nat} : ∀ (l : List AV), AV.bndL 0 l = true → AV.renL s base l = l
 | [], _ => by unfold AV.renL; rfl
 | x :: l, h => by
  simp only [AV.bndL, Bool.and_eq_true] at h
  unfold AV.renL
  rw [AV.ren_id x h.1, AV.renL_id l h.2]
end
/-- A call that is handed no entry. -/
theorem callG_pure {P : Program} {f : Nat} {c : Ctr} (hf : FnOk P f c) (hmono : ∀ args H (K K' : AV → List Ent → Prop), (∀ x H, K x H → K' x H) → c args H K → c args H K') {keep : List Nat} {args : List AV} {st : St} {K : AV → St → Prop} (hb : AV.bndL 0 args = true) (hk : ∀ k ∈ keep, k < st.H.length)
  (hc : c args [] fun x H' => H' = [] ∧ x.bnd 0 = true ∧ K x st) : CallG P keep f args st K := by
 refine callG_of hf [] (args0 := args) (H0 := []) (AV.renL_id args hb).symm rfl List.nodup_nil (by simp) rfl hb rfl (fun k hkk => ⟨by simp, hk k hkk⟩) (hmono _ _ _ _ (fun x H' h => ?_) hc)
 obtain ⟨rfl, hx, hK⟩ := h
 rw [AV.ren_id x hx]
 simpa [rowIds, killTs, killHs, putE, renH] using hK
/-- cbv opens the casts of the hypotheses; this folds them again. -/
theorem nat_cast_back (n : Nat) : (NatCast.natCast n : Int) = (n : Int) := rfl
/-- A contract by names: what is handed, what is asked of it, what comes back. -/
def spec {ι : Type} (a : ι → List AV) (h : ι → List Ent) (p : ι → Prop) (r : ι → AV) (h' : ι → List Ent) : Ctr := fun args H K => ∃ i, args = a i ∧ H = h i ∧ p i ∧ K (r i) (h' i)
theorem spec_mono {ι : Type} {a : ι → List AV} {h : ι → List Ent} {p : ι → Prop} {r : ι → AV} {h' : ι → List Ent} : ∀ args H (K K' : AV → List Ent → Prop), (∀ x H, K x H → K' x H) → spec a h p r h' args H K → spec a h p r h' args H K' :=
 fun _ _ _ _ hk ⟨i, h1, h2, h3, h4⟩ => ⟨i, h1, h2, h3, hk _ _ h4⟩
/-- A call of a function without entries. -/
theorem callG_spec0 {P : Program} {f : Nat} {ι : Type} {a : ι → List AV} {p : ι → Prop} {r : ι → AV} (hf : FnOk P f (spec a (fun _ => []) p r fun _ => [])) (i : ι) {keep : List Nat} {st : St} {K : AV → St → Prop} (hp : p i) (hb : AV.bndL 0 (a i) = true) (hr : (r i).bnd 0 = true) (hk : (keep.all fun k => Nat.blt k st.H.length) = true) (hK : K (r i) st) : CallG P keep f (a i) st K :=
 callG_pure hf spec_mono hb (fun k hkk => by have := List.all_eq_true.1 hk k hkk; simpa [Nat.blt_eq] using this) ⟨i, rfl, rfl, hp, rfl, hr, hK⟩
end Go.Proofs.YtblkcnmecfppnaaGreatDoor
/-
 At a function's end: of the new entries only those that count are told, by new numbers.
-/
namespace Go.Proofs.YtblkcnmecfppnaaGreatDoor
open Go.RowKit

/-! ### What may be told for what is known -/
inductive Le1 : AV → AV → Prop
 | refl (x : AV) : Le1 x x
 | nil (sz : Nat) : Le1 (.v (.slice none 0 0)) (.sl sz [])
inductive LeL : List AV → List AV → Prop
 | nil : LeL [] []
 | cons {x y : AV} {l m : List AV} (h : Le1 x y) (hl : LeL l m) : LeL (x :: l) (y :: m)
inductive Le0 : AV → AV → Prop
 | one {x y : AV} (h : Le1 x y) : Le0 x y
 | agg {l m : List AV} (h : LeL l m) : Le0 (.agg l) (.agg m)
inductive LeL0 : List AV → List AV → Prop
 | nil : LeL0 [] []
 | cons {x y : AV} {l m : List AV} (h : Le0 x y) (hl : LeL0 l m) : LeL0 (x :: l) (y :: m)
inductive Le : AV → AV → Prop
 | one {x y : AV} (h : Le0 x y) : Le x y
 | tup {l m : List AV} (h : LeL0 l m) : Le (.tup l) (.tup m)
inductive LeE : Ent → Ent → Prop
 | refl (e : Ent) : LeE e e
 | blk {t : TypeId} {l m : List AV} (h : LeL l m) : LeE (.blk t l) (.blk t m)
 | row {t : TypeId} {sz : Nat} {l m : List AV} (h : LeL0 l m) : LeE (.row t sz l) (.row t sz m)
inductive LeH : List Ent → List Ent → Prop
 | nil : LeH [] []
 | cons {x y : Ent} {l m : List Ent} (h : LeE x y) (hl : LeH l m) : LeH (x :: l) (y :: m)
section
variable {pub : Pub} {w : World} {r : Rho}
theorem Le.refl (x : AV) : Le x x := .one (.one (.refl x))
theorem LeH.refl : ∀ l, LeH l l
 | [] => .nil
 | e :: l => .cons (.refl e) (LeH.refl l)
theorem Le1.to {x y : AV} (h : Le1 x y) {v : Value} (hv : VRel pub w r x v) : VRel pub w r y v := by
 cases h with
 | refl => exact hv
 | nil sz =>
  cases hv
  exact .sl (A := none) (c := 0) (xs := []) (Nat.le_refl _) (by unfold maxLen; omega) (fun _ => ⟨rfl, rfl⟩) (fun x hx => by cases hx) (fun _ _ => undef) (fun i x j u hx => by simp at hx) (fun i x j u hx => by simp at hx)
theorem LeL.to {l m : List AV} (h : LeL l m) : ∀ {us : List Value}, VRels pub w r l us → VRels pub w r m us := by
 induction h with
 | nil => exact fun h => h
 | cons h1 _ ih =>
  intro us hu
  obtain ⟨u, us', rfl, h2, h3⟩ := hu.cons_inv
  exact .cons (h1.to h2) (ih h3)
theorem Le0.to {x y : AV} (h : Le0 x y) {v : Value} (hv : VRel pub w r x v) : VRel pub w r y v := by
 cases h with
 | one h => exact h.to hv
 | agg h =>
  cases hv with
  | agg hl h1 =>
   have := h.to (us := _) ⟨(Array.length_toList).trans hl, fun i x u hx hu => h1 i x u hx (by simpa using hu)⟩
   exact .agg (by simpa using this.len) fun i x u hx hu => this.at_ i x u hx (by simpa using hu)
theorem LeL0.to {l m : List AV} (h : LeL0 l m) : ∀ {us : List Value}, VRels pub w r l us → VRels pub w r m us := by
 induction h with
 | nil => exact fun h => h
 | cons h1 _ ih =>
  intro us hu
  obtain ⟨u, us', rfl, h2, h3⟩ := hu.cons_inv
  exact .cons (h1.to h2) (ih h3)
theorem Le.to {x y : AV} (h : Le x y) {v : Value} (hv : VRel pub w r x v) : VRel pub w r y v := by
 cases h with
 | one h => exact h.to hv
 | tup h =>
  cases hv with
  | tup hl h1 =>
   have := h.to (us := _) ⟨(Array.length_toList).trans hl, fun i x u hx hu => h1 i x u hx (by simpa using hu)⟩
   exact .tup (by simpa using this.len) fun i x u hx hu => this.at_ i x u hx (by simpa using hu)
theorem LeL.refl : ∀ l, LeL l l
 | [] => .nil
 | x :: l => .cons (.refl x) (LeL.refl l)
theorem LeL.app {a b : List AV} (h : LeL a b) {c d : List AV} (k : LeL c d) : LeL (a ++ c) (b ++ d) := by
 induction h with
 | nil => exact k
 | cons h1 _ ih => exact .cons h1 ih
theorem LeL.len {a b : List AV} (h : LeL a b) : b.length = a.length := by
 induction h with
 | nil => rfl
 | cons _ _ ih => simp [ih]
theorem LeL.one {a b : List AV} (h : LeL a b) : a.all AV.one = true → b.all AV.one = true := by
 induction h with
 | nil => exact fun h => h
 | cons h1 _ ih =>
  intro h2
  simp only [List.all_cons, Bool.and_eq_true] at h2 ⊢
  exact ⟨by cases h1 with | refl => exact h2.1 | nil => rfl, ih h2.2⟩
theorem Le0.cells {x y : AV} (h : Le0 x y) : LeL x.cells y.cells := by
 cases h with
 | one h => cases h with
  | refl => exact LeL.refl _
  | nil sz => exact .cons (.nil sz) .nil
 | agg h => exact h
theorem LeL0.flat {a b : List AV} (h : LeL0 a b) : LeL (a.flatMap AV.cells) (b.flatMap AV.cells) := by
 induction h with
 | nil => exact .nil
 | cons h1 _ ih => simp only [List.flatMap_cons]; exact h1.cells.app ih
theorem LeL0.len {a b : List AV} (h : LeL0 a b) : b.length = a.length := by
 induction h with
 | nil => rfl
 | cons _ _ ih => simp [ih]
theorem LeL0.each {a b : List AV} (h : LeL0 a b) {sz : Nat} : (∀ x ∈ a, x.cells.length = sz ∧ x.cells.all AV.one = true) → ∀ x ∈ b, x.cells.length = sz ∧ x.cells.all AV.one = true := by
 induction h with
 | nil => exact fun h => h
 | cons h1 _ ih =>
  intro h2 y hy
  rcases List.mem_cons.1 hy with rfl | hy
  ·have := h2 _ (List.mem_cons_self ..)
   exact ⟨by rw [h1.cells.len]; exact this.1, h1.cells.one this.2⟩
  ·exact ih (fun x hx => h2 x (List.mem_cons_of_mem _ hx)) y hy
theorem LeE.to {x y : Ent} (h : LeE x y) {v : Option Value} (hv : ERel pub w r v x) : ERel pub w r v y := by
 cases h with
 | refl => exact hv
 | blk h => cases hv with | blk hb hc hp => exact .blk hb (h.to hc) hp
 | row h => cases hv with | row ho hc hs hp => rw [← h.len] at ho ⊢; exact .row ho (h.flat.to hc) (h.each hs) hp
theorem LeH.get {l m : List Ent} (h : LeH l m) : ∀ {i : Nat} {e : Ent}, m[i]? = some e → ∃ d, l[i]? = some d ∧ LeE d e := by
 induction h with
 | nil => intro i e h; simp at h
 | cons h1 _ ih =>
  intro i e he
  cases i with
  | zero => simp at he; subst he; exact ⟨_, rfl, h1⟩
  | succ i => simpa using ih (by simpa using he)
theorem LeH.len {l m : List Ent} (h : LeH l m) : m.length = l.length := by
 induction h with
 | nil => rfl
 | cons _ _ ih => simp [ih]
theorem Mod.le {H H2 : List Ent} (h : Mod pub w r H) (hl : LeH H H2) : Mod pub w r H2 := by
 refine ⟨fun i e he => ?_, fun i hi => h.none_ i (by rw [← hl.len]; exact hi), h.disj, h.fresh, h.there, h.glob⟩
 obtain ⟨d, hd, hde⟩ := hl.get he
 exact hde.to (h.ent i d hd)
end
/-- A place may be told by another only where a list lies. -/
def selOk (s : List Nat) : Nat → List Ent → Bool
 | _, [] => true
 | n, e :: H => ((match s[n]? with | some k => k == n | none => false) || e.turns) && selOk s (n + 1) H
theorem selOk_at {s : List Nat} : ∀ {n : Nat} {H : List Ent}, selOk s n H = true → ∀ (k : Nat) (e : Ent), H[k]? = some e → s[n + k]? = some (n + k) ∨ e.turns = true
 | n, [], h, k, e, he => by simp at he
 | n, d :: H, h, k, e, he => by
  unfold selOk at h
  simp only [Bool.and_eq_true] at h
  cases k with
  | zero =>
   simp at he
   subst he
   rw [Bool.or_eq_true] at h
   rcases h.1 with h1 | h1
   ·left
    split at h1
    ·rename_i q hq; simp at h1; subst h1; exact hq
    ·cases h1
   ·exact .inr h1
  | succ k =>
   have := selOk_at h.2 k e (by simpa using he)
   rw [show n + (k + 1) = n + 1 + k by omega]
   exact this
/-- What is told: the entries named by s, by their places in s. -/
structure CutK (H : List Ent) (K : AV → List Ent → Prop) (x : AV) (H' : List Ent) : Prop where
 out : ∃ (s : List Nat) (x2 : AV) (H2 : List Ent) (x3 : AV) (H3 : List Ent), x = x2.ren s 0 ∧ s.map (fun k => H'[k]?) = (renH s 0 H2).map some ∧ s.Nodup ∧ selOk s 0 H = true ∧ H.length ≤ s.length ∧ x2.bnd H2.length = true ∧ bndH H2.length H2 = true ∧ Le x2 x3 ∧ LeH H2 H3 ∧ K x3 H3
theorem FnPost.cut {K : AV → List Ent → Prop} {H : List Ent} {w w' : World} {r : Rho} {pub : Pub} {e : Ending} (hm : Mod pub w r H) (h : FnPost (CutK H K) H w r pub e w') : FnPost K H w r pub e w' := by
 obtain ⟨v, x, H', r1, pub', rfl, ⟨⟨s, x2, H2, x3, H3, rfl, hH, hnd, htk, hM, hbx, hbH, hx3, hH3, hK⟩⟩, hvx, hm1, hfr, hown, hstab, hlen'⟩ := h
 have hlen : s.length = H2.length := by have := congrArg List.length hH; simpa [renH_map] using this
 have hsi : ∀ i (hi : i < s.length), sigma s 0 i = s[i] := fun i hi => sigma_lt hi
 let r0 : Rho := fun i => if i < s.length then r1 (sigma s 0 i) else none
 have hr0 : ∀ i y, r0 i = some y → i < s.length ∧ r1 (sigma s 0 i) = some y := fun i y hy => by
  by_cases hi : i < s.length
  ·simp only [r0, if_pos hi] at hy; exact ⟨hi, hy⟩
  ·simp only [r0, if_neg hi] at hy; cases hy
 have hr0' : ∀ i, i < s.length → r0 i = r1 (sigma s 0 i) := fun i hi => if_pos hi
 have hinj : ∀ i j, i < s.length → j < s.length → sigma s 0 i = sigma s 0 j → i = j := fun i j hi hj e => by
  rw [hsi i hi, hsi j hj] at e
  exact nodup_inj hnd e
 have hent : ∀ i e, H2[i]? = some e → H'[sigma s 0 i]? = some (e.ren s 0) := fun i e he => by
  have hi : i < s.length := by rw [hlen]; exact (List.getElem?_eq_some_iff.1 he).1
  have h1 := congrArg (fun l => l[i]?) hH
  simp only [List.getElem?_map, renH_map, he, Option.map_some, List.getElem?_eq_getElem hi] at h1
  rw [hsi i hi]
  simpa using h1
 have hm0 : Mod pub' w' r0 H2 := by
  refine ⟨fun i e he => ?_, fun i hi => if_neg (by omega), fun i j x y hij hx hy => ?_, hm1.fresh, hm1.there, hm1.glob⟩
  ·have hi : i < s.length := by rw [hlen]; exact (List.getElem?_eq_some_iff.1 he).1
   have he1 := hm1.ent _ _ (hent i e he)
   have hbe := bndH_get hbH i e he
   rw [hr0' i hi]
   exact he1.unren hbe fun k y hkb hy => by rw [hr0' k (by omega)]; exact hy
  ·obtain ⟨hi, hx⟩ := hr0 i x hx
   obtain ⟨hj, hy⟩ := hr0 j y hy
   exact hm1.disj _ _ x y (fun e => hij (hinj i j hi hj e)) hx hy
 refine ⟨v, x3, H3, r0, pub', rfl, hK, hx3.to (hvx.unren x2 rfl fun k y hk hy => ?_), hm0.le hH3, hfr, fun b ⟨k, y, hy, hb⟩ => hown b ⟨_, y, (hr0 k y hy).2, hb⟩, fun k y hy hs => ?_, by have := hH3.len; omega⟩
 ·have hkb := AV.bnd_has _ hbx hk
  rw [hr0' k (by omega)]
  exact hy
 ·have h1 := hstab k y hy hs
  have hk : k < H.length := by
   rcases Nat.lt_or_ge k H.length with h2 | h2
   ·exact h2
   ·rw [hm.none_ k h2] at hy; cases hy
  have he := List.getElem?_eq_getElem hk
  rcases selOk_at htk k _ he with h2 | h2
  ·rw [Nat.zero_add] at h2
   have hks := (List.getElem?_eq_some_iff.1 h2)
   obtain ⟨h3, h4⟩ := hks
   rw [hr0' k h3, hsi k h3, h4]
   exact h1
  ·exfalso
   have h3 := hm.ent k _ he
   rw [hy] at h3
   generalize H[k] = en at h2 h3
   cases h3 <;> first | (cases h2; done) | (cases hs; done)
theorem sigma_range {n k : Nat} (h : k < n) : sigma (List.range n) 0 k = k := by
 rw [sigma_lt (by rw [List.length_range]; exact h), List.getElem_range]
mutual
theorem AV.ren_range {n : Nat} : ∀ (x : AV), x.bnd n = true → x.ren (List.range n) 0 = x
 | .any, _ => by unfold AV.ren; rfl
 | .bl _, _ => by unfold AV.ren; rfl
 | .int _ _, _ => by unfold AV.ren; rfl
 | .str _, _ => by unfold AV.ren; rfl
 | .v _, _ => by unfold AV.ren; rfl
 | .sl _ _, _ => by unfold AV.ren; rfl
 | .rp _ _, _ => by unfold AV.ren; rfl
 | .ptr k o, h => by unfold AV.ren; rw [sigma_range (by simpa [AV.bnd] using h)]
 | .hd k, h => by unfold AV.ren; rw [sigma_range (by simpa [AV.bnd] using h)]
 | .ph k, h => by unfold AV.ren; rw [sigma_range (by simpa [AV.bnd] using h)]
 | .re k _ _ _, h => by unfold AV.ren; rw [sigma_range (by simpa [AV.bnd] using h)]
 | .agg l, h => by unfold AV.ren; rw [AV.renL_range l (by simpa [AV.bnd] using h)]
 | .tup l, h => by unfold AV.ren; rw [AV.renL_range l (by simpa [AV.bnd] using h)]
 | .clo f l, h => by unfold AV.ren; rw [AV.renL_range l (by simpa [AV.bnd] using h)]
theorem AV.renL_range {n : Nat} : ∀ (l : List AV), AV.bndL n l = true → AV.renL (List.range n) 0 l = l
 | [], _ => by unfold AV.renL; rfl
 | x :: l, h => by
  simp only [AV.bndL, Bool.and_eq_true] at h
  unfold AV.renL
  rw [AV.ren_range x h.1, AV.renL_range l h.2]
end
theorem renH_range {n : Nat} : ∀ (l : List Ent), bndH n l = true → renH (List.range n) 0 l = l
 | [], _ => by unfold renH; rfl
 | e :: l, h => by
  simp only [bndH, Bool.and_eq_true] at h
  unfold renH
  rw [renH_range l h.2]
  congr 1
  cases e with
  | blk t cs => show Ent.blk t (AV.renL (List.range n) 0 cs) = _; rw [AV.renL_range cs (by simpa [bndE] using h.1)]
  | hrow t sz m cs => show Ent.hrow t sz m (AV.renL (List.range n) 0 cs) = _; rw [AV.renL_range cs (by simpa [bndE] using h.1)]
  | iter x a b => show Ent.iter (AV.ren (List.range n) 0 x) a b = _; rw [AV.ren_range x (by simpa [bndE] using h.1)]
  | pool t es outs =>
   show Ent.pool t es (outs.map fun p => (p.1, AV.ren (List.range n) 0 p.2)) = _
   have h1 : AV.bndL n (outs.map fun (p : Nat × AV) => p.2) = true := h.1
   clear h
   congr 1
   induction outs with
   | nil => rfl
   | cons p outs ih =>
    simp only [List.map_cons, AV.bndL, Bool.and_eq_true] at h1 ⊢
    rw [ih h1.2, AV.ren_range p.2 h1.1]
  | _ => rfl
/-- The first entries are told. -/
theorem CutK.pre {H : List Ent} {K : AV → List Ent → Prop} {x : AV} {H' : List Ent} (H2 : List Ent) {x3 : AV} {H3 : List Ent} (hH : H'.take H2.length = H2) (hM : H.length ≤ H2.length) (hb : x.bnd H2.length = true) (hbH : bndH H2.length H2 = true) (hx : Le x x3) (hl : LeH H2 H3) (hK : K x3 H3) : CutK H K x H' := by
 refine ⟨⟨List.range H2.length, x, H2, x3, H3, (AV.ren_range x hb).symm, ?_, List.nodup_range, ?_, by rw [List.length_range]; exact hM, hb, hbH, hx, hl, hK⟩⟩
 ·rw [renH_range _ hbH]
  refine List.ext_getElem? fun i => ?_
  rw [List.getElem?_map, List.getElem?_map]
  by_cases hi : i < H2.length
  ·rw [List.getElem?_range hi]
   have := congrArg (fun l => l[i]?) hH
   simp only [List.getElem?_take, if_pos hi] at this
   rw [List.getElem?_eq_getElem hi] at this ⊢
   simpa using this
  ·rw [List.getElem?_eq_none (by rw [List.length_range]; omega), List.getElem?_eq_none (by omega)]
   rfl
 ·have key : ∀ (n : Nat) (L : List Ent), n + L.length ≤ H2.length → selOk (List.range H2.length) n L = true := fun n L => by
   induction L generalizing n with
   | nil => intro _; rfl
   | cons e L ih =>
    intro hl
    simp only [List.length_cons] at hl
    unfold selOk
    rw [List.getElem?_range (by omega), ih (n + 1) (by omega)]
    simp
  exact key 0 H (by omega)
/-- No entry is told. -/
theorem CutK.val {K : AV → List Ent → Prop} {x : AV} {H' : List Ent} {x3 : AV} (hb : x.bnd 0 = true) (hx : Le x x3) (hK : K x3 []) : CutK [] K x H' := .pre [] (by simp) (Nat.le_refl _) hb rfl hx .nil hK
/-- What is to be shown of a function's code. -/
def BodyOk (P : Program) (x : XFn) (c : Ctr) : Prop := ∀ args H K, c args H K → args.length ≤ x.n ∧ XW P x.n H.length x.body (FinQ H.length x.res (CutK H K)) ⟨numT 0 args, H⟩
theorem body_ok {P : Program} {f : Nat} {x : XFn} {c : Ctr} (hx : cFn P f = some x) (h : BodyOk P x c) : FnOk P f c := fun args H K hc w r pub vals hm hv =>
 Calls.mono (fn_ok (fun args H K' => ∃ K, c args H K ∧ K' = CutK H K) hx (fun args H K' ⟨K, hc, e⟩ => by subst e; exact h args H K hc) args H _ ⟨K, hc, rfl⟩ w r pub vals hm hv) fun _ _ hp => FnPost.cut hm hp
/-- The same without its steps. -/
def BodyOkS (P : Program) (x : XFn) (c : Ctr) : Prop := ∀ args H K, c args H K → args.length ≤ x.n ∧ SemW P x.n H.length x.body (FinQ H.length x.res (CutK H K)) ⟨numT 0 args, H⟩
theorem body_okS {P : Program} {f : Nat} {x : XFn} {c : Ctr} (hx : cFn P f = some x) (h : BodyOkS P x c) : FnOk P f c := fun args H K hc w r pub vals hm hv =>
 Calls.mono (fn_okS (fun args H K' => ∃ K, c args H K ∧ K' = CutK H K) hx (fun args H K' ⟨K, hc, e⟩ => by subst e; exact h args H K hc) args H _ ⟨K, hc, rfl⟩ w r pub vals hm hv) fun _ _ hp => FnPost.cut hm hp
/-- A list's image, as cbv leaves it. -/
noncomputable abbrev mapA {α β : Type} (f : α → β) (l : List α) : List β := List.rec (motive := fun _ => List β) [] (fun a _ => List.cons (f a)) l
theorem mapA_eq {α β : Type} (f : α → β) (l : List α) : mapA f l = l.map f := by
 induction l with
 | nil => rfl
 | cons a l ih =>
  show f a :: mapA f l = f a :: l.map f
  rw [ih]
theorem mapA_len {α β : Type} (f : α → β) (l : List α) : (mapA f l).length = l.length := by rw [mapA_eq]; exact List.length_map f
theorem mapA_app {α β : Type} (f : α → β) (l m : List α) : mapA f (l ++ m) = mapA f l ++ mapA f m := by rw [mapA_eq, mapA_eq, mapA_eq]; exact List.map_append
theorem mapA_one {α β : Type} (f : α → β) (x : α) : mapA f [x] = [f x] := rfl
theorem mapA_nil {α β : Type} (f : α → β) : mapA f [] = [] := rfl
/-- A call that is handed no entry, and leaves new ones. -/
theorem callG_new {P : Program} {f : Nat} {ι : Type} {a : ι → List AV} {p : ι → Prop} {r : ι → AV} {h' : ι → List Ent} (hf : FnOk P f (spec a (fun _ => []) p r h')) (i : ι) {keep : List Nat} {st : St} {K : AV → St → Prop} (hp : p i) (hb : AV.bndL 0 (a i) = true) (hk : (keep.all fun k => Nat.blt k st.H.length) = true)
  (hK : K ((r i).ren [] st.H.length) ⟨st.T, st.H ++ renH [] st.H.length (h' i)⟩) : CallG P keep f (a i) st K := by
 refine callG_of hf [] (args0 := a i) (H0 := []) (AV.renL_id _ hb).symm rfl List.nodup_nil (by simp) rfl hb rfl (fun k hkk => ⟨by simp, by have := List.all_eq_true.1 hk k hkk; simpa [Nat.blt_eq] using this⟩) ⟨i, rfl, rfl, hp, ?_⟩
 simpa [rowIds, killTs, killHs, putE] using hK
/-- A loop that leaves the entries as they are. -/
theorem xloopT {P : Program} {N M : Nat} {c : XCode} {Q : XEx → St → Prop} {T : List (Nat × AV)} {H : List Ent} {ι : Type} (F : ι → List (Nat × AV)) (μ : ι → Ms) (i0 : ι) (hw : weakT T (F i0)) (hb : bndT H.length (F i0) = true) (hbH : bndH H.length H = true) (hM : M ≤ H.length)
  (hr : ∀ i, XW P N M c (XRound M (fun i => ⟨F i, H⟩) μ (μ i) Q) ⟨F i, H⟩) : XLoopG P N M c Q ⟨T, H⟩ :=
 xloop (fun i => ⟨F i, H⟩) μ i0 (Gh.weak hw (by simp) hb hbH hM) hr
/-- .. behind a round. -/
theorem roundT {ι : Type} {M : Nat} {F : ι → List (Nat × AV)} {H : List Ent} {μ : ι → Ms} {n : Ms} {T : List (Nat × AV)} (j : ι) (hw : weakT T (F j)) (hb : bndT H.length (F j) = true) (hbH : bndH H.length H = true) (hM : M ≤ H.length) (hl : (μ j).val < n.val) : RoundK M (fun i => ⟨F i, H⟩) μ n ⟨T, H⟩ :=
 ⟨_, j, Gh.weak hw (by simp) hb hbH hM, rfl, hl⟩
/-- A place as a number, as cbv leaves it. -/
abbrev nI (n : Nat) : Int := Int.ofNat n
theorem nI_eq (n : Nat) : nI n = (n : Int) := rfl
theorem nI_succ (n : Nat) : nI (n + 1) = nI n + 1 := rfl
theorem mapA_get {α β : Type} (f : α → β) (l : List α) {i : Nat} (h : i < l.length) : (mapA f l)[i]? = some (f l[i]) := by
 rw [mapA_eq, List.getElem?_map, List.getElem?_eq_getElem h]; rfl
theorem mapA_set {α β : Type} (f : α → β) (l : List α) {i : Nat} (h : i < l.length) {x : β} (hx : x = f l[i]) : (mapA f l).set i x = mapA f l := by
 subst hx; rw [mapA_eq]; exact List.ext_getElem? fun j => by
  rw [List.getElem?_set]
  split
  ·rename_i e; subst e
   rw [List.getElem?_map, List.getElem?_eq_getElem h, List.length_map, if_pos h]; rfl
  ·rfl
/-- What is left, as cbv leaves it. -/
abbrev lft (n i : Nat) : Ms := ⟨n, i⟩
theorem lft_lt {n i : Nat} (h : i < n) : (lft n (i + 1)).val < (lft n i).val := by unfold Ms.val; dsimp only; omega
theorem num_lt {n m : Nat} (h : n < m) : (lft n 0).val < (lft m 0).val := by unfold Ms.val; dsimp only; omega
theorem round_ok {ι : Type} {M : Nat} {F : ι → St} {μ : ι → Ms} {n : Ms} {st : St} (j : ι) (hg : Gh M st (F j)) (hl : (μ j).val < n.val) : RoundK M F μ n st := ⟨_, j, hg, rfl, hl⟩
/-- A list turned from the left: one more. -/
theorem upd_step {α : Type} (f : α → α) (L a : List α) {i : Nat} (hi : i < L.length) (ha : (L.take i).map f ++ L.drop i = a) : a.length = L.length ∧ a[i]? = some L[i] ∧ (L.take (i + 1)).map f ++ L.drop (i + 1) = a.set i (f L[i]) := by
 subst ha
 have hl : ((L.take i).map f).length = i := by rw [List.length_map, List.length_take]; omega
 refine ⟨by rw [List.length_append, hl, List.length_drop]; omega, by rw [List.getElem?_append_right (by omega), hl, List.getElem?_drop, Nat.sub_self, Nat.add_zero, List.getElem?_eq_getElem hi], ?_⟩
 rw [List.take_succ_eq_append_getElem hi, List.map_append, List.append_assoc, List.set_append, if_neg (by omega), hl, Nat.sub_self]
 congr 1
 rw [List.drop_eq_getElem_cons hi]
 rfl
theorem mapA_set_ {α β : Type} (f : α → β) (l : List α) (i : Nat) (y : α) : (mapA f l).set i (f y) = mapA f (l.set i y) := by rw [mapA_eq, mapA_eq, List.map_set]
theorem jump_ok {ι : Type} {M : Nat} {F : ι → St} {st : St} (j : ι) (hg : Gh M st (F j)) : JumpK M F st := ⟨_, j, hg, rfl⟩
end Go.Proofs.YtblkcnmecfppnaaGreatDoor
/-
 Calls by contract, more roads: entries handed by number; a row published ahead of it; a block that is only read.
-/
namespace Go.Proofs.YtblkcnmecfppnaaGreatDoor
open Go.RowKit

/-- A call that is handed entries. -/
theorem callG_spec {P : Program} {f : Nat} {ι : Type} {a : ι → List AV} {h : ι → List Ent} {p : ι → Prop} {r : ι → AV} {h' : ι → List Ent} (hf : FnOk P f (spec a h p r h')) (i : ι) (sel : List Nat) {keep : List Nat} {args : List AV} {st : St} {K : AV → St → Prop}
  (hp : p i) (ha : args = AV.renL sel st.H.length (a i)) (hlen : sel.length = (h i).length) (hnd : sel.Nodup) (hlt : (sel.all fun k => Nat.blt k st.H.length) = true) (hH : sel.map (fun k => st.H[k]?) = (renH sel st.H.length (h i)).map some)
  (hb : AV.bndL (h i).length (a i) = true) (hbH : bndH (h i).length (h i) = true) (hkeep : (keep.all fun k => !sel.contains k && Nat.blt k st.H.length) = true)
  (hK : K ((r i).ren sel st.H.length) ⟨killTs st.T (rowIds sel (h i)), putE (killHs st.H (rowIds sel (h i))) sel (renH sel st.H.length (h' i))⟩) : CallG P keep f args st K :=
 callG_of hf sel ha hlen hnd (fun k hk => by simpa [Nat.blt_eq] using List.all_eq_true.1 hlt k hk) hH hb hbH (fun k hk => by
  have := List.all_eq_true.1 hkeep k hk
  simp only [Bool.and_eq_true, Bool.not_eq_true', Nat.blt_eq] at this
  exact ⟨fun h => by rw [List.contains_eq_mem] at this; simp [h] at this, this.2⟩) ⟨i, rfl, rfl, hp, hK⟩
/-- A row is published ahead of a call. -/
theorem callG_publish {P : Program} {f : Nat} {keep : List Nat} {args : List AV} {st : St} {K : AV → St → Prop} (k : Nat) {t sz : Nat} {xs : List AV} (hk : isRowE st.H[k]? = some (t, sz, xs))
  (h : CallG P keep f (args.map (St.view ⟨st.T, st.H.set k (.tip t sz xs)⟩)) ⟨st.T, st.H.set k (.tip t sz xs)⟩ K) : CallG P keep f args st K := by
 refine ⟨fun C a w r pub vals hh hv => ?_⟩
 have hk' : st.H[k]? = some (.row t sz xs) := by
  unfold isRowE at hk
  split at hk
  ·rename_i e he; cases hk; exact he
  ·cases hk
 obtain ⟨pub', h1, he⟩ := hh.publish hk'
 have hv1 : VRels pub' w r (args.map (St.view ⟨st.T, st.H.set k (.tip t sz xs)⟩)) vals.toList := ⟨by rw [List.length_map]; exact hv.len, fun i x u hx hu => by
  rw [List.getElem?_map] at hx
  cases hq : args[i]? with
  | none => rw [hq] at hx; cases hx
  | some q => rw [hq] at hx; cases hx; exact h1.view ((hv.at_ i q u hq hu).ext he)⟩
 refine (h.out C a w r pub' vals h1 hv1).mono fun e w' ⟨v, x, st', r', pub2, e1, e2, e3, e4, e5, e6⟩ => ⟨v, x, st', r', pub2, e1, e2, e3, e4, he.trans e5, e6⟩
/-- A cell as it may be read: what a handle is, is not told. -/
def roCell (st : St) (x : Nat → Value) (j : Nat) (c : AV) : AV := match st.view1 c with
 | .ptr .. => .v (x j)
 | .hd _ => .v (x j)
 | .ph _ => .v (x j)
 | .re .. => .v (x j)
 | .clo .. => .v (x j)
 | y => y
def roCells (st : St) (x : Nat → Value) : Nat → List AV → List AV
 | _, [] => []
 | j, c :: l => roCell st x j c :: roCells st x (j + 1) l
def isScal : AV → Bool
 | .bl _ => true
 | .int _ _ => true
 | .str _ => true
 | .v _ => true
 | _ => false
theorem isScal_rel {pub pub' : Pub} {w w' : World} {r r' : Rho} {x : AV} {v : Value} (hs : isScal x = true) (h : VRel pub w r x v) : VRel pub' w' r' x v := by
 cases h with
 | bl b => exact .bl b
 | int k n => exact .int k n
 | str s => exact .str s
 | v => exact .v _ (by assumption)
 | _ => cases hs
theorem roCells_get (st : St) (x : Nat → Value) : ∀ (l : List AV) (j i : Nat), (roCells st x j l)[i]? = (l[i]?).map (roCell st x (j + i))
 | [], j, i => by simp [roCells]
 | c :: l, j, 0 => by simp [roCells]
 | c :: l, j, i + 1 => by simp [roCells, roCells_get st x l (j + 1) i]; rw [show j + 1 + i = j + (i + 1) by omega]
theorem roCells_len (st : St) (x : Nat → Value) : ∀ (l : List AV) (j : Nat), (roCells st x j l).length = l.length
 | [], j => rfl
 | c :: l, j => by simp [roCells, roCells_len st x l (j + 1)]
/-- A call that only reads a block that it is handed. -/
theorem callG_ro {P : Program} {f : Nat} {ι : Type} {a : ι → List AV} {p : ι → Prop} {r : ι → AV} (hf : FnOk P f (spec a (fun _ => []) p r fun _ => [])) (k : Nat) {keep : List Nat} {rest : List AV} {st : St} {K : AV → St → Prop} (i : (Nat → Value) → ι) {t : TypeId} {cs : List AV}
  (hk : st.H[k]? = some (.blk t cs)) (hcs : cs.all AV.one = true) (hbr : AV.bndL 0 rest = true) (_hkeep : (keep.all fun k => Nat.blt k st.H.length) = true) (hres : ∀ x, isScal (r (i x)) = true)
  (h : ∀ x : Nat → Value, (∀ j, (x j).oneCell' = true) → a (i x) = .rp (roCells st x 0 cs) 0 :: rest ∧ p (i x) ∧ K (r (i x)) st) : CallG P keep f (.ptr k 0 :: rest) st K := by
 refine ⟨fun C act w rh pub vals hh hv => ?_⟩
 obtain ⟨b, arr, hr, hb, hc, hp⟩ := hh.ent_blk hk
 obtain ⟨v0, vs, hvals, hv0, hvs⟩ := hv.cons_inv
 have hv0' : v0 = .pointer (some ⟨b, 0, none⟩) := by
  cases hv0 with
  | ptr off h1 => rw [hr] at h1; simp only [Option.some.injEq, Value.pointer.injEq, Addr.mk.injEq, and_true] at h1; subst h1; rfl
 subst hv0'
 let x : Nat → Value := fun j => if (arr.toList.getD j undef).oneCell' = true then arr.toList.getD j undef else .bool true
 have hx : ∀ j, (x j).oneCell' = true := fun j => by
  dsimp only [x]
  split
  ·assumption
  ·rfl
 obtain ⟨ha, hpi, hKi⟩ := h x hx
 let pub0 : Pub := fun q => if q = b then cs.length else pub q
 have hal : arr.size = cs.length := by have := hc.len; simpa using this
 have hcell : ∀ q, w.cell? ⟨b, q, none⟩ = arr[q]? := fun q => hb.all q
 have hblt : b < w.heap.size := hb.lt
 have ext0 : Ext pub w pub0 w := ⟨fun q => by dsimp only [pub0]; split; (· rename_i e; subst e; omega); exact Nat.le_refl _, fun _ _ _ _ h => h, fun _ _ _ h => h⟩
 have rel0 : ∀ (c : AV) (u : Value) (j : Nat), AV.one c = true → cs[j]? = some c → arr.toList[j]? = some u → VRel pub w rh c u → VRel pub0 w rho0 (roCell st x j c) u := fun c u j h1 hcj huj hcu => by
  have hone := hcu.one_ h1
  have hxj : x j = u := by
   dsimp only [x]
   rw [List.getD_eq_getElem?_getD, huj]
   exact if_pos hone
  have hvw := hh.view1 hcu
  unfold roCell
  generalize st.view1 c = c' at hvw
  cases hvw with
  | any => exact .any _
  | bl => exact .bl _
  | int => exact .int _ _
  | str => exact .str _
  | v _ h => exact .v _ h
  | agg hl hq => cases hone
  | tup hl hq => cases hone
  | ptr off h => rw [hxj]; exact .v _ rfl
  | hd h hh1 => rw [hxj]; exact .v _ hone
  | ph h h0 hh1 => rw [hxj]; exact .v _ hone
  | sl hc1 hm1 hn1 hs1 g hr1 hg1 => exact (VRel.sl (r := rho0) hc1 hm1 hn1 hs1 g hr1 hg1).ext ext0
  | rp j ho g hr1 hg1 => exact (VRel.rp (r := rho0) j ho g hr1 hg1).ext ext0
  | re sz i j h => rw [hxj]; exact .v _ rfl
  | clo f hl h => rw [hxj]; exact .v _ hone
 have hroOne : (roCells st x 0 cs).all AV.one = true := by
  rw [List.all_eq_true]
  intro y hy
  obtain ⟨j, hj⟩ := List.getElem?_of_mem hy
  rw [roCells_get] at hj
  cases hq : cs[j]? with
  | none => rw [hq] at hj; cases hj
  | some c =>
   rw [hq] at hj
   have hc1 := (List.all_eq_true.1 hcs) c (List.mem_of_getElem? hq)
   obtain ⟨u, hu, hcu⟩ := hc.get hq
   have := rel0 c u j hc1 hq hu hcu
   simp only [Option.map_some, Option.some.injEq, Nat.zero_add] at hj
   rw [← hj]
   have hvw := hh.view1 hcu
   unfold roCell
   have hv1 : (st.view1 c).one = true := by
    unfold St.view1
    split
    ·split <;> rfl
    ·exact hc1
   revert hv1
   cases st.view1 c <;> intro hv1 <;> first | rfl | exact hv1
 have hrp : VRel pub0 w rho0 (.rp (roCells st x 0 cs) 0) (.pointer (some ⟨b, 0, none⟩)) := by
  refine .rp (o := 0) 0 hroOne (fun j => arr.toList.getD j undef) (fun j u hj => ?_) (fun j u hj => ?_)
  ·rw [roCells_get] at hj
   cases hq : cs[j]? with
   | none => rw [hq] at hj; cases hj
   | some c =>
    rw [hq] at hj
    simp only [Option.map_some, Option.some.injEq, Nat.zero_add] at hj
    subst hj
    obtain ⟨u, hu, hcu⟩ := hc.get hq
    have := rel0 c u j ((List.all_eq_true.1 hcs) c (List.mem_of_getElem? hq)) hq hu hcu
    rw [List.getD_eq_getElem?_getD, hu]
    exact this
  ·have hj1 := (List.getElem?_eq_some_iff.1 hj).1
   rw [roCells_len] at hj1
   refine ⟨by dsimp only [pub0]; rw [if_pos rfl]; omega, ?_⟩
   rw [Nat.zero_add, hcell, List.getD_eq_getElem?_getD, Array.getElem?_toList, Array.getElem?_eq_getElem (by omega)]
   rfl
 have hvs0 : VRels pub0 w rho0 (a (i x)) vals.toList := by
  rw [ha, hvals]
  refine .cons hrp ?_
  have h1 : VRels pub w rho0 rest vs := hvs.congr (fun n hn => by have := AV.bndL_has _ hbr hn; omega)
  exact h1.ext ext0
 have hm0 : Mod pub0 w rho0 [] := by
  refine ⟨fun k e he => by simp at he, fun _ _ => rfl, fun _ _ _ _ _ h => (by cases h), fun q hq => ?_, fun q j hj => ?_, ?_⟩
  ·dsimp only [pub0]
   rw [if_neg (by rintro rfl; omega)]
   exact hh.mod.fresh q hq
  ·dsimp only [pub0] at hj
   split at hj
   ·rename_i e; subst e
    exact ⟨arr[j]'(by omega), by rw [hcell]; exact Array.getElem?_eq_getElem _⟩
   ·exact hh.mod.there q j hj
  ·exact hh.mod.glob.ext ext0
 refine (hf (a (i x)) [] (fun y H' => y = r (i x) ∧ H' = []) ⟨i x, rfl, rfl, hpi, rfl, rfl⟩ w rho0 pub0 vals hm0 hvs0).mono fun e w' hpost => ?_
 obtain ⟨v, y, H', r1, pub1, rfl, ⟨rfl, rfl⟩, hvy, hm1, hfr, _, _, _⟩ := hpost
 have hnf : ∀ q, ¬ Foot rho0 q := fun q ⟨_, _, hh1, _⟩ => by cases hh1
 let pub2 : Pub := fun q => if q = b then pub b else pub1 q
 have hkeepw : ∀ q, q < w.heap.size → w'.heap[q]? = w.heap[q]? ∧ pub2 q = pub q := fun q hq => by
  obtain ⟨h1, h2⟩ := hfr.keep q hq (hnf q)
  refine ⟨h1, ?_⟩
  dsimp only [pub2]
  split
  ·rename_i e; rw [e]
  ·rename_i e; rw [h2]; dsimp only [pub0]; rw [if_neg e]
 have hfr2 : Fr (fun _ => False) pub w pub2 w' := by
  refine ⟨hfr.os, hfr.tape, hfr.output, hfr.size, fun q hq _ => hkeepw q hq, fun q => ?_, fun q j u hj hu => ?_, fun q n _ hn => lenW_of (hkeepw q (lenW_lt hn)).1 hn⟩
  ·rcases Nat.lt_or_ge q w.heap.size with h1 | h1
   ·rw [(hkeepw q h1).2]; exact Nat.le_refl _
   ·rw [hh.mod.fresh q h1]; exact Nat.zero_le _
  ·have hq := World.block_lt_of_cell? w _ hu
   rw [World.cell?_of_block (w := w) (a := ⟨q, j, none⟩) (hkeepw q hq).1]
   exact hu
 have hmod2 : Mod pub2 w' rh st.H := hh.mod.frm hfr2 (fun _ _ _ _ _ h => h) (fun q hq => by
   dsimp only [pub2]
   rw [if_neg (by rintro rfl; have := hfr.size; omega)]
   exact hm1.fresh q hq) (fun q j hj => by
   dsimp only [pub2] at hj
   split at hj
   ·rename_i e; subst e
    obtain ⟨u, hu⟩ := hh.mod.there q j hj
    exact ⟨u, hfr2.ext.cell q j u hj hu⟩
   ·exact hm1.there q j hj)
 refine ⟨v, _, st, rh, pub2, rfl, isScal_rel (hres x) hvy, hKi, ⟨hmod2, hh.own, hh.fr.trans hfr2 (fun _ h => h.elim), hh.slots.ext hfr2.ext, hh.defers, hh.size, hh.stab, hh.low⟩, hfr2.ext, fun q hq => ⟨rfl, fun y hy b' hb' => (hkeepw b' (hh.mod.foot_lt hy b' hb')).1⟩⟩
end Go.Proofs.YtblkcnmecfppnaaGreatDoor
/-
 Contracts by other roads: of functions that were walked without entries; weaker ones.
-/
namespace Go.Proofs.YtblkcnmecfppnaaGreatDoor
open Go.RowKit

theorem rho_none {pub : Pub} {w : World} {r : Rho} (h : Mod pub w r []) : r = rho0 := funext fun k => h.none_ k (Nat.zero_le _)
/-- A function that makes nothing and turns nothing. -/
theorem fn_pure {P : Program} {f : Nat} {ι : Type} {a : ι → List AV} {p : ι → Prop} {r : ι → AV}
  (h : ∀ i, p i → ∀ (pub : Pub) (w : World) (vals : Array Value), VRels pub w rho0 (a i) vals.toList → Calls P f vals w fun e w' => w' = w ∧ ∃ v, e = .returned v ∧ VRel pub w rho0 (r i) v) :
  FnOk P f (spec a (fun _ => []) p r fun _ => []) := by
 intro args H K ⟨i, ha, hH, hp, hK⟩ w rh pub vals hm hv
 subst ha
 subst hH
 have := rho_none hm
 subst this
 refine (h i hp pub w vals hv).mono fun e w' ⟨hw, v, he, hr⟩ => ?_
 subst hw
 exact ⟨v, r i, [], rho0, pub, he, hK, hr, hm, Fr.refl _ _ _, fun b hb => .inl hb, fun _ _ h _ => h, Nat.le_refl _⟩
theorem VRels.str_inv {pub : Pub} {w : World} {r : Rho} {s : ByteArray} {l : List AV} {us : List Value} (h : VRels pub w r (.str s :: l) us) : ∃ us', us = .string s :: us' ∧ VRels pub w r l us' := by
 obtain ⟨u, us', rfl, h1, h2⟩ := h.cons_inv
 cases h1
 exact ⟨us', rfl, h2⟩
theorem VRels.int_inv {pub : Pub} {w : World} {r : Rho} {k : IntKind} {n : Int} {l : List AV} {us : List Value} (h : VRels pub w r (.int k n :: l) us) : ∃ us', us = .int k n :: us' ∧ VRels pub w r l us' := by
 obtain ⟨u, us', rfl, h1, h2⟩ := h.cons_inv
 cases h1
 exact ⟨us', rfl, h2⟩
theorem fn_weak {P : Program} {f : Nat} {c c' : Ctr} (h : FnOk P f c) (hc : ∀ args H K, c' args H K → c args H K) : FnOk P f c' := fun args H K hh => h args H K (hc args H K hh)
/-- A text in, yes or no out. -/
theorem fn_strB {P : Program} {f : Nat} {p : ByteArray → Prop} {g : ByteArray → Bool} (h : ∀ s w, p s → Calls P f #[.string s] w fun e w' => e = .returned (.bool (g s)) ∧ w = w') :
  FnOk P f (spec (fun s : ByteArray => [.str s]) (fun _ => []) p (fun s => .bl (g s)) fun _ => []) := fn_pure fun s hp pub w vals hv => by
 obtain ⟨us, h1, h2⟩ := hv.str_inv
 have h3 := h2.nil_inv
 subst h3
 have h4 : vals = #[.string s] := Array.toList_inj.1 (by simpa using h1)
 subst h4
 exact (h s w hp).mono fun e w' ⟨h1, h2⟩ => ⟨h2.symm, _, h1, .bl _⟩
/-- A slice of nothing in a block's cell becomes a row of its own. -/
theorem Gh.adoptC {M : Nat} {st : St} (k j t sz : Nat) {t0 : TypeId} {cs : List AV} (hk : st.H[k]? = some (.blk t0 cs)) (hj : cs[j]? = some (.v (.slice none 0 0))) :
  Gh M st ⟨st.T, (st.H ++ [Ent.row t sz []]).set k (.blk t0 (cs.set j (.hd st.H.length)))⟩ := fun C a w r pub _ h => by
 have hkl := (List.getElem?_eq_some_iff.1 hk).1
 have hd := h.room 1
 have hq : (st.H ++ List.replicate 1 Ent.dead)[st.H.length]? = some .dead := by simp
 have h1 := hd.adopt hq t sz
 have hset : (st.H ++ List.replicate 1 Ent.dead).set st.H.length (.row t sz []) = st.H ++ [.row t sz []] := by simp
 dsimp only at h1
 rw [hset] at h1
 have hk1 : (st.H ++ [Ent.row t sz []])[k]? = some (.blk t0 cs) := by rw [List.getElem?_append_left hkl]; exact hk
 obtain ⟨b, arr, hr, hb, hc, hp⟩ := h1.ent_blk hk1
 have he : ERel pub w (rset r st.H.length (.slice none 0 0)) (some (.pointer (some ⟨b, 0, none⟩))) (.blk t0 (cs.set j (.hd st.H.length))) := by
  refine .blk hb ⟨by rw [List.length_set]; exact hc.len, fun i x u hx hu => ?_⟩ hp
  rw [List.getElem?_set] at hx
  split at hx
  ·rename_i e
   subst e
   have := hc.at_ j _ u hj hu
   cases this
   split at hx
   ·cases hx; exact .hd (rset_self _ _ _) rfl
   ·cases hx
  ·exact hc.at_ i x u hx hu
 exact ⟨_, pub, h1.mod.set hr (Fr.refl (fun _ => False) _ _) (fun b hb => hb.elim) h1.mod.fresh h1.mod.there he, h1.own, h1.fr, h1.slots, h1.defers, h1.size, h1.stab, by simpa using h1.low⟩
end Go.Proofs.YtblkcnmecfppnaaGreatDoor
/-
  A slice that is read as an append's source (its address may be anything where it is empty); append of such a one.
-/
namespace Go.Proofs.YtblkcnmecfppnaaGreatDoor
open Go.RowKit

structure Src (w : World) (size : Nat) (A : Option Addr) (n c : Nat) (xs : List Value) : Prop where
  len : xs.length = n * size
  cap : n ≤ c
  max : c ≤ maxLen
  nil_ : A = none → n = 0 ∧ c = 0
  get : ∀ j u, xs[j]? = some u → ∃ b o, A = some ⟨b, o, none⟩ ∧ w.cell? ⟨b, o + j, none⟩ = some u
theorem Rd.src {w : World} {size : Nat} {A : Option Addr} {n c : Nat} {xs : List Value} (h : Rd w size A n c xs) : Src w size A n c xs := ⟨h.len, h.cap, h.max, h.nil_, h.get⟩
theorem Src.below {w w' : World} {size : Nat} {A : Option Addr} {n c : Nat} {xs : List Value} (h : Src w size A n c xs) (hb : Below w.heap.size w w') : Src w' size A n c xs :=
  ⟨h.len, h.cap, h.max, h.nil_, fun j u hu => by
    obtain ⟨b, o, hA, hc⟩ := h.get j u hu
    exact ⟨b, o, hA, hb.cell (p := ⟨b, o + j, none⟩) (World.block_lt_of_cell? w _ hc) ▸ hc⟩⟩
theorem Src.alloc {w : World} {size : Nat} {A : Option Addr} {n c : Nat} {xs : List Value} (h : Src w size A n c xs) (o : Obj) : Src (w.alloc o) size A n c xs := h.below ((Below.refl _ _).alloc (Nat.le_refl _) _)
theorem Lst.src {α : Type} {f : α → List Value} {k : Nat} (hk : 0 < k) (hf : ∀ x, (f x).length = k) {w : World} {A : Option Addr} {n c : Nat} {l : List α} (h : Lst f k w A n l) (h1 : n ≤ c) (h2 : c ≤ maxLen) (h3 : A = none → n = 0 ∧ c = 0) : Src w k A n c (l.flatMap f) :=
  ⟨by rw [flat_len f k hf, h.len], h1, h2, h3, fun j u hu => by
    have hj : j < l.length * k := by rw [← flat_len f k hf l]; exact (List.getElem?_eq_some_iff.1 hu).1
    have hi : j / k < l.length := Nat.div_lt_of_lt_mul (by rw [Nat.mul_comm]; exact hj)
    have e : j / k * k + j % k = j := by rw [Nat.mul_comm]; exact Nat.div_add_mod j k
    have h4 := flat_get f k hf l (j / k) (j % k) hi (Nat.mod_lt _ hk)
    rw [e, hu] at h4
    obtain ⟨b, o, hA, hc⟩ := h.cells (j / k) hi (j % k) u h4.symm
    exact ⟨b, o, hA, by rw [Nat.add_assoc, e] at hc; exact hc⟩⟩

/-! ### append -/
section
variable {P : Program} (w : World)
theorem run_appS (t ty e : TypeId) (i : TypeInfo) (z : Value) (size bytes : Nat) (ht : P.underlying t = some (.slice e)) (hi : P.info? e = some i) (hz : i.zero = some z)
    (hsize : i.size = size) (hby : i.bytes = bytes) (hzs : z.cells.size = size) (hsz : 0 < size)
    {A A' : Option Addr} {n c m c' : Nat} {xs news : List Value} (hown : Own w e size A n c xs) (hr : Src w size A' m c' news) (h1 : ∀ u ∈ news, u.oneCell' = true)
    (h63 : n + m ≤ maxLen) (hbytes : (n + m) * bytes ≤ 140737488355328) :
    ∃ A2 c2 w', (Builtin.append_ #[t, t] ty #[.slice A n c, .slice A' m c']).run P w = .ok (.slice A2 (n + m) c2) w' ∧ Own w' e size A2 (n + m) c2 (xs ++ news) ∧
      Frm (fpo A) w w' ∧ (∀ b ∈ fpo A2, b ∈ fpo A ∨ b = w.heap.size) := by
  rcases A' with _ | ad
  · obtain ⟨rfl, rfl⟩ := hr.nil_ rfl
    have hn : news = [] := List.eq_nil_of_length_eq_zero (by simpa using hr.len)
    subst hn
    exact ⟨A, c, w, run_append_owned_none (P := P) w 0 t ty e i size ht hi _ n xs hown, by simpa using hown, Frm.refl _ _, fun b hb => .inl hb⟩
  · have hcells : ∀ j u, news[j]? = some u → w.cell? (ad.add j) = some u := by
      intro j u hu
      obtain ⟨b, o, he, hc⟩ := hr.get j u hu
      simp only [Option.some.injEq] at he
      subst he
      rw [Addr.add_lit]
      exact hc
    obtain ⟨v', w', hrun, h2, h3, _, h5⟩ := run_append_own_at (P := P) w 0 t ty e i z size bytes ht hi hz hsize hby hzs hsz (.slice A n c) n xs hown ad m c' news hr.len hcells h1 h63 hbytes (Nat.zero_le _)
    have hfr : Frm (fpo A) w w' := by
      refine ⟨h3.os, h3.tape, h3.output, h3.size, fun k hk hn => h3.block k hk ?_⟩
      rcases A with _ | a
      · simp [Value.ownBlock]
      · simpa [Value.ownBlock] using hn
    have hv : ∃ A2 c2, v' = .slice A2 (n + m) c2 := by
      rcases h2.2 with ⟨rfl, h0⟩ | ⟨g, cap, cur, rfl, _⟩
      · exact ⟨none, 0, by rw [h0]⟩
      · exact ⟨_, _, rfl⟩
    obtain ⟨A2, c2, rfl⟩ := hv
    refine ⟨A2, c2, w', hrun, h2, hfr, fun b hb => ?_⟩
    rcases A2 with _ | a2
    · simp at hb
    · simp at hb
      subst hb
      rcases h5 with h5 | h5
      · left
        rcases A with _ | a
        · simp [Value.ownBlock] at h5
        · simp [Value.ownBlock] at h5
          simp [h5]
      · right
        simpa [Value.ownBlock] using h5

theorem wp_appS {o : Oper} {a : Act} {K : Act → World → Prop} {Q : Exit → Act → World → Prop} (s x : Operand) (t : TypeId)
    (ho : o.op = .call { callee := .builtin .append, args := #[s, x], argTypes := #[t, t] })
    (e : TypeId) (i : TypeInfo) (z : Value) (size bytes : Nat) (ht : P.underlying t = some (.slice e)) (hi : P.info? e = some i) (hz : i.zero = some z)
    (hsize : i.size = size) (hby : i.bytes = bytes) (hzs : z.cells.size = size) (hsz : 0 < size)
    {A A' : Option Addr} {n c m c' : Nat} {xs news : List Value} (hs : a.eval s = .slice A n c) (hx : a.eval x = .slice A' m c') (hown : Own w e size A n c xs) (hr : Src w size A' m c' news) (h1 : ∀ u ∈ news, u.oneCell' = true)
    (N : Nat) (hN : n + m = N) (ys : List Value) (hys : xs ++ news = ys) (h63 : N ≤ maxLen) (hbytes : N * bytes ≤ 140737488355328)
    (h : ∀ A2 c2 w', Own w' e size A2 N c2 ys → Frm (fpo A) w w' → (∀ b ∈ fpo A2, b ∈ fpo A ∨ b = w.heap.size) → K (a.put o.dst (.slice A2 N c2)) w') : o.wp P a w K Q := by
  subst hN hys
  obtain ⟨A2, c2, w', hrun, h2, h3, h4⟩ := run_appS (P := P) w t o.type e i z size bytes ht hi hz hsize hby hzs hsz hown hr h1 h63 hbytes
  unfold Oper.wp execOp
  simp only [ho, resolve, invoke, builtin, Sem.run_bind, Sem.run_pure, Result.andThen_ok, List.map_toArray, List.map_cons, List.map_nil, hs, hx, hrun]
  exact h A2 c2 w' h2 h3 h4

theorem wpList_appS {ops : Array Oper} {rest : List Oper} {o : Oper} {a : Act} {Q : Exit → Act → World → Prop} (hgd : o.guard = none) (s x : Operand) (t : TypeId)
    (ho : o.op = .call { callee := .builtin .append, args := #[s, x], argTypes := #[t, t] })
    (e : TypeId) (i : TypeInfo) (z : Value) (size bytes : Nat) (ht : P.underlying t = some (.slice e)) (hi : P.info? e = some i) (hz : i.zero = some z)
    (hsize : i.size = size) (hby : i.bytes = bytes) (hzs : z.cells.size = size) (hsz : 0 < size)
    {A A' : Option Addr} {n c m c' : Nat} {xs news : List Value} (hs : a.eval s = .slice A n c) (hx : a.eval x = .slice A' m c') (hown : Own w e size A n c xs) (hr : Src w size A' m c' news) (h1 : ∀ u ∈ news, u.oneCell' = true)
    (N : Nat) (hN : n + m = N) (ys : List Value) (hys : xs ++ news = ys) (h63 : N ≤ maxLen) (hbytes : N * bytes ≤ 140737488355328)
    (h : ∀ A2 c2 w', Own w' e size A2 N c2 ys → Frm (fpo A) w w' → (∀ b ∈ fpo A2, b ∈ fpo A ∨ b = w.heap.size) → wpList P ops Q rest (a.put o.dst (.slice A2 N c2)) w') : wpList P ops Q (o :: rest) a w :=
  wpList_plain hgd fun _ hK => wp_appS w s x t ho e i z size bytes ht hi hz hsize hby hzs hsz hs hx hown hr h1 N hN ys hys h63 hbytes fun A2 c2 w' h2 h3 h4 => hK _ _ (h A2 c2 w' h2 h3 h4)
end

end Go.Proofs.YtblkcnmecfppnaaGreatDoor
/-
 Functions that were walked in the old way and only add memory: their contracts over abstract values.
-/
namespace Go.Proofs.YtblkcnmecfppnaaGreatDoor
open Go.RowKit

/-- What a function that only adds memory leaves: its answer, and which of the new cells are published. -/
def AddPost (pub : Pub) (w : World) (x : AV) (e : Ending) (w' : World) : Prop :=
 ∃ v pub', e = .returned v ∧ Below w.heap.size w w' ∧ (∀ b, b < w.heap.size → pub' b = pub b) ∧ (∀ b, w'.heap.size ≤ b → pub' b = 0) ∧
  (∀ b i, w.heap.size ≤ b → i < pub' b → ∃ u, w'.cell? ⟨b, i, none⟩ = some u) ∧ VRel pub' w' rho0 x v
theorem fn_add {P : Program} {f : Nat} {ι : Type} {a : ι → List AV} {p : ι → Prop} {r : ι → AV}
  (h : ∀ i, p i → ∀ (pub : Pub) (w : World) (vals : Array Value), (∀ b, w.heap.size ≤ b → pub b = 0) → GlobOk pub w → VRels pub w rho0 (a i) vals.toList → Calls P f vals w (AddPost pub w (r i))) :
  FnOk P f (spec a (fun _ => []) p r fun _ => []) := by
 intro args H K ⟨i, ha, hH, hp, hK⟩ w rh pub vals hm hv
 subst ha
 subst hH
 have := rho_none hm
 subst this
 refine (h i hp pub w vals hm.fresh hm.glob hv).mono fun e w' ⟨v, pub', he, hb, h1, h2, h3, hr⟩ => ?_
 have hc : ∀ b i, b < w.heap.size → w'.cell? ⟨b, i, none⟩ = w.cell? ⟨b, i, none⟩ := fun b i hlt => World.cell?_of_block (hb.block b hlt)
 have hlt : ∀ b i, i < pub b → b < w.heap.size := fun b i hi => by
  rcases Nat.lt_or_ge b w.heap.size with h4 | h4
  ·exact h4
  ·rw [hm.fresh b h4] at hi; omega
 have hle : ∀ b, pub b ≤ pub' b := fun b => by
  rcases Nat.lt_or_ge b w.heap.size with h4 | h4
  ·rw [h1 b h4]; exact Nat.le_refl _
  ·rw [hm.fresh b h4]; exact Nat.zero_le _
 have hcl : ∀ b j u, j < pub b → w.cell? ⟨b, j, none⟩ = some u → w'.cell? ⟨b, j, none⟩ = some u := fun b j u hj hu => by rw [hc b j (hlt b j hj)]; exact hu
 have hln : ∀ b n, 0 < pub b → lenW w b = some n → lenW w' b = some n := fun b n _ hn => lenW_of (hb.block b (lenW_lt hn)) hn
 refine ⟨v, r i, [], rho0, pub', he, hK, hr, ⟨fun k e he => (by simp at he), fun _ _ => rfl, (fun _ _ _ _ _ h => by cases h), h2, fun b j hj => ?_, hm.glob.ext ⟨hle, hcl, hln⟩⟩, ⟨hb.os, hb.tape, hb.output, hb.size, fun b hlt _ => ⟨hb.block b hlt, h1 b hlt⟩, ⟨hle, hcl, hln⟩⟩, fun b hb => .inl hb, fun _ _ h _ => h, Nat.le_refl _⟩
 ·rcases Nat.lt_or_ge b w.heap.size with h4 | h4
  ·rw [h1 b h4] at hj
   obtain ⟨u, hu⟩ := hm.there b j hj
   exact ⟨u, by rw [hc b j h4]; exact hu⟩
  ·exact h3 b j h4 hj
/-- An answer that leads to no memory. -/
theorem AddPost.plain {pub : Pub} {w w' : World} {x : AV} {v : Value} {e : Ending} (he : e = .returned v) (hb : Below w.heap.size w w') (hf : ∀ b, w.heap.size ≤ b → pub b = 0) (hr : VRel pub w' rho0 x v) : AddPost pub w x e w' :=
 ⟨v, pub, he, hb, fun _ _ => rfl, fun b h => hf b (Nat.le_trans hb.size h), fun b i h hi => (by rw [hf b h] at hi; omega), hr⟩

/-! ### Slices of flat elements, as the old contracts want them -/
theorem VRel.sl_inv {pub : Pub} {w : World} {r : Rho} {sz : Nat} {xs : List AV} {v : Value} (h : VRel pub w r (.sl sz xs) v) :
  ∃ A c, v = .slice A xs.length c ∧ xs.length ≤ c ∧ c ≤ maxLen ∧ (A = none → xs = [] ∧ c = 0) ∧
   ∀ (i : Nat) (x : AV) (j : Nat) (u : AV), xs[i]? = some x → x.cells[j]? = some u → ∃ b o g, A = some ⟨b, o, none⟩ ∧ VRel pub w rho0 u g ∧ o + i * sz + j < pub b ∧ w.cell? ⟨b, o + i * sz + j, none⟩ = some g := by
 cases h with
 | sl hc hm hn hs g hr hg =>
  refine ⟨_, _, rfl, hc, hm, hn, fun i x j u hx hu => ?_⟩
  obtain ⟨b, o, hA, hlt, hcell⟩ := hg i x j u hx hu
  exact ⟨b, o, _, hA, hr i x j u hx hu, hlt, hcell⟩
/-- Elements whose cells are told whole by their abstract values. -/
def FlatE {α : Type} (f : α → List Value) (F : α → AV) : Prop :=
 ∀ (x : α) (j : Nat) (u : Value), (f x)[j]? = some u → ∃ a, (F x).cells[j]? = some a ∧ ∀ (pub : Pub) (w : World) (r : Rho) (v : Value), VRel pub w r a v → v = u
theorem VRel.lst {α : Type} {f : α → List Value} {F : α → AV} (hF : FlatE f F) {k : Nat} {pub : Pub} {w : World} {r : Rho} {l : List α} {v : Value} (h : VRel pub w r (.sl k (mapA F l)) v) :
  ∃ A c, v = .slice A l.length c ∧ l.length ≤ c ∧ c ≤ maxLen ∧ (A = none → l.length = 0 ∧ c = 0) ∧ Lst f k w A l.length l := by
 obtain ⟨A, c, hv, h1, h2, h3, h4⟩ := h.sl_inv
 have hl : (mapA F l).length = l.length := mapA_len F l
 rw [hl] at hv h1
 refine ⟨A, c, hv, h1, h2, fun hA => ⟨?_, (h3 hA).2⟩, rfl, fun i hi j u hu => ?_⟩
 ·have := (h3 hA).1
  rw [← hl, this]; rfl
 ·obtain ⟨a, ha, hva⟩ := hF _ _ _ hu
  obtain ⟨b, o, g, hA, hg, hlt, hcell⟩ := h4 i _ j a (mapA_get F l hi) ha
  rw [hva _ _ _ _ hg] at hcell
  exact ⟨b, o, hA, hcell⟩
theorem AskEl.i0 {u : AV} {l : List AV} {K : Nat → AV → Prop} (k : K 0 u) : AskEl (u :: l) 0 K := ⟨0, u, rfl, rfl, k⟩
theorem AskEl.i1 {a u : AV} {l : List AV} {K : Nat → AV → Prop} (k : K 1 u) : AskEl (a :: u :: l) 1 K := ⟨1, u, rfl, rfl, k⟩
theorem AskEl.i2 {a b u : AV} {l : List AV} {K : Nat → AV → Prop} (k : K 2 u) : AskEl (a :: b :: u :: l) 2 K := ⟨2, u, rfl, rfl, k⟩
theorem AskIdx.i0 {u : AV} {l : List AV} {K : Nat → Prop} (k : K 0) : AskIdx (u :: l) 0 K := ⟨0, rfl, Nat.succ_pos _, k⟩
theorem AskIdx.i1 {a u : AV} {l : List AV} {K : Nat → Prop} (k : K 1) : AskIdx (a :: u :: l) 1 K := ⟨1, rfl, Nat.succ_lt_succ (Nat.succ_pos _), k⟩
theorem AskIdx.i2 {a b u : AV} {l : List AV} {K : Nat → Prop} (k : K 2) : AskIdx (a :: b :: u :: l) 2 K := ⟨2, rfl, Nat.succ_lt_succ (Nat.succ_lt_succ (Nat.succ_pos _)), k⟩
end Go.Proofs.YtblkcnmecfppnaaGreatDoor
/-
 Loops: the slots that a round does not write stay without being named.
-/
namespace Go.Proofs.YtblkcnmecfppnaaGreatDoor
open Go.RowKit

def stepD (s : XStep) : List Nat := match s.d with
 | some d => [d]
 | none => []
def XPlan.wr : XPlan → List Nat
 | .nil => []
 | .take _ s p => stepD s ++ p.wr
 | .eff _ _ _ s p => stepD s ++ p.wr
 | .fork p q => p.wr ++ q.wr
 | .phase _ p => p.wr
 | .more _ p => p.wr
def wrL : List XStep → List Nat
 | [] => []
 | s :: l => stepD s ++ wrL l
/-- The slots that code may write. -/
def XCode.wr : XCode → List Nat
 | .reg l => wrL l
 | .dreg p _ _ => p.wr
 | .seq a b => a.wr ++ b.wr
 | .cond _ a b => a.wr ++ b.wr
 | .block _ a => a.wr
 | .loop a => a.wr
 | .scope a => a.wr
 | _ => []
def hasAny : List Nat → AV → Bool
 | [], _ => false
 | h :: l, x => x.has h || hasAny l x
/-- The slots that stay: not written, and none of these entries named. -/
def keepT (hs : List Nat) : List Nat → List (Nat × AV) → List (Nat × AV)
 | _, [] => []
 | ws, (n, x) :: T => if ws.contains n = true then keepT hs ws T else if hasAny hs x = true then keepT hs (n :: ws) T else (n, x) :: keepT hs (n :: ws) T
def weakG (T T' : List (Nat × AV)) : Prop := ∀ m, tget T' m = .any ∨ tget T' m = tget T m
theorem keepT_get (hs : List Nat) : ∀ (T : List (Nat × AV)) (ws : List Nat) (m : Nat), tget (keepT hs ws T) m = .any ∨ (m ∉ ws ∧ tget (keepT hs ws T) m = tget T m)
 | [], ws, m => .inl rfl
 | (n, x) :: T, ws, m => by
  unfold keepT
  split
  ·rename_i h
   rw [List.contains_eq_mem] at h
   simp only [decide_eq_true_eq] at h
   rcases keepT_get hs T ws m with h1 | ⟨h1, h2⟩
   ·exact .inl h1
   ·refine .inr ⟨h1, h2.trans ?_⟩
    show _ = if n = m then x else tget T m
    rw [if_neg (by rintro rfl; exact h1 h)]
  ·rename_i h
   rw [List.contains_eq_mem] at h
   simp only [decide_eq_true_eq] at h
   split
   ·rcases keepT_get hs T (n :: ws) m with h1 | ⟨h1, h2⟩
    ·exact .inl h1
    ·simp only [List.mem_cons, not_or] at h1
     refine .inr ⟨h1.2, h2.trans ?_⟩
     show _ = if n = m then x else tget T m
     rw [if_neg (fun e => h1.1 e.symm)]
   ·show (if n = m then x else tget (keepT hs (n :: ws) T) m) = .any ∨ m ∉ ws ∧ (if n = m then x else tget (keepT hs (n :: ws) T) m) = if n = m then x else tget T m
    by_cases e : n = m
    ·subst e
     rw [if_pos rfl, if_pos rfl]
     exact .inr ⟨h, rfl⟩
    ·rw [if_neg e, if_neg e]
     rcases keepT_get hs T (n :: ws) m with h1 | ⟨h1, h2⟩
     ·exact .inl h1
     ·simp only [List.mem_cons, not_or] at h1
      exact .inr ⟨h1.2, h2⟩
theorem weakG_app {T F G : List (Nat × AV)} (h : weakT T F) (hg : weakG T G) : weakG T (F ++ G) := by
 induction F with
 | nil => exact hg
 | cons p F ih =>
  obtain ⟨n, x⟩ := p
  intro m
  show (if n = m then x else tget (F ++ G) m) = .any ∨ (if n = m then x else tget (F ++ G) m) = tget T m
  split
  ·rename_i e
   subst e
   rcases h.1 with h1 | h1
   ·exact .inr h1.symm
   ·exact .inl h1
  ·exact ih h.2 m
theorem Gh.weakG {M : Nat} {st st' : St} (hT : weakG st.T st'.T) (hH : st.H.take st'.H.length = st'.H) (hb : bndT st'.H.length st'.T = true) (hbH : bndH st'.H.length st'.H = true) (hM : M ≤ st'.H.length) : Gh M st st' := fun C a w r pub hCm h => by
 obtain ⟨r', pub', h1⟩ := Gh.weak (M := M) (st := ⟨[], st.H⟩) (st' := ⟨[], st'.H⟩) trivial hH rfl hbH hM C a w r pub hCm ⟨h.mod, h.own, h.fr, fun n => .any _, h.defers, h.size, h.stab, h.low⟩
 have hget : ∀ k e, st'.H[k]? = some e → st.H[k]? = some e := fun k e he => by
  have hk := (List.getElem?_eq_some_iff.1 he).1
  rw [← hH, List.getElem?_take, if_pos hk] at he
  exact he
 let r2 : Rho := fun k => if k < st'.H.length then r k else none
 have hr2 : ∀ k, k < st'.H.length → r2 k = r k := fun k hk => if_pos hk
 have hsome : ∀ k y, r2 k = some y → r k = some y := fun k y hy => by
  by_cases hk : k < st'.H.length
  ·rw [hr2 k hk] at hy; exact hy
  ·simp only [r2, if_neg hk] at hy; cases hy
 refine ⟨r2, pub, ⟨fun k e he => ?_, fun k hk => if_neg (by omega), fun i j x y hij hx hy => h.mod.disj i j x y hij (hsome _ _ hx) (hsome _ _ hy), h.mod.fresh, h.mod.there, h.mod.glob⟩, fun k x hx => h.own k x (hsome _ _ hx), h.fr, fun m => ?_, h.defers, h.size, fun k y hy hs => ?_, ⟨h.low.1, by omega⟩⟩
 ·have hk := (List.getElem?_eq_some_iff.1 he).1
  have h0 := h.mod.ent k e (hget k e he)
  have hbe := bndH_get hbH k e he
  rw [hr2 k hk]
  exact h0.congr hbe hr2
 ·rcases hT m with e | e
  ·rw [e]; exact .any _
  ·have hbm := bndT_get hb m
   rw [e] at hbm ⊢
   exact (h.slots m).congr fun n hn => hr2 n (AV.bnd_has _ hbm hn)
 ·have hk : k < st'.H.length := by
   rcases Nat.lt_or_ge k C.m with h1 | h1
   ·omega
   ·rw [h.low.1 k h1] at hy; cases hy
  rw [hr2 k hk]
  exact h.stab k y hy hs
theorem CutK.sel {H : List Ent} {K : AV → List Ent → Prop} {x : AV} {H' : List Ent} (s : List Nat) (H2 : List Ent) (x2 : AV) {x3 : AV} {H3 : List Ent} (hx : x = x2.ren s 0) (hH : s.map (fun k => H'[k]?) = (renH s 0 H2).map some) (hnd : s.Nodup) (hs : selOk s 0 H = true) (hl : H.length ≤ s.length)
  (hb : x2.bnd H2.length = true) (hbH : bndH H2.length H2 = true) (h1 : Le x2 x3) (h2 : LeH H2 H3) (hK : K x3 H3) : CutK H K x H' := ⟨s, x2, H2, x3, H3, hx, hH, hnd, hs, hl, hb, hbH, h1, h2, hK⟩
/-- Less is told of a call's arguments. -/
theorem callG_le {P : Program} {keep : List Nat} {f : Nat} {args : List AV} (args2 : List AV) {st : St} {K : AV → St → Prop} (h : LeL0 args args2) (hc : CallG P keep f args2 st K) : CallG P keep f args st K :=
 ⟨fun C a w r pub vals hh hv => hc.out C a w r pub vals hh (h.to hv)⟩
/-- A loop: F the slots that turn, G the entries; hs the entries that an append may turn. -/
theorem xloopK {P : Program} {N M : Nat} {c : XCode} {Q : XEx → St → Prop} {T : List (Nat × AV)} {H : List Ent} {ι : Type} (hs : List Nat) (F : ι → List (Nat × AV)) (G : ι → List Ent) (μ : ι → Ms) (i0 : ι)
  (hw : weakT T (F i0)) (hH : H.take (G i0).length = G i0) (hb : bndT (G i0).length (F i0 ++ keepT hs c.wr T) = true) (hbH : bndH (G i0).length (G i0) = true) (hM : M ≤ (G i0).length)
  (hr : ∀ i, XW P N M c (XRound M (fun i => ⟨F i ++ keepT hs c.wr T, G i⟩) μ (μ i) Q) ⟨F i ++ keepT hs c.wr T, G i⟩) : XLoopG P N M c Q ⟨T, H⟩ :=
 xloop (fun i => ⟨F i ++ keepT hs c.wr T, G i⟩) μ i0 (Gh.weakG (weakG_app hw fun m => by rcases keepT_get hs T c.wr m with h | h; (· exact .inl h); exact .inr h.2) hH hb hbH hM) hr
/-- .. behind steps in thought. -/
theorem xloopG {P : Program} {N M : Nat} {c : XCode} {Q : XEx → St → Prop} {st st1 : St} (hg : Gh M st st1) (h : XLoopG P N M c Q st1) : XLoopG P N M c Q st :=
 ⟨fun code C a w r pub hc hN hM hh => by
  obtain ⟨r1, p1, h1⟩ := hg C a w r pub hM hh
  exact h.out code C a w r1 p1 hc hN hM h1⟩
theorem roundW {ι : Type} {M : Nat} {F : ι → St} {μ : ι → Ms} {n : Ms} {st : St} (j : ι) (hw : weakT st.T (F j).T) (hH : st.H.take (F j).H.length = (F j).H) (hb : bndT (F j).H.length (F j).T = true) (hbH : bndH (F j).H.length (F j).H = true) (hM : M ≤ (F j).H.length) (hl : (μ j).val < n.val) : RoundK M F μ n st :=
 ⟨_, j, Gh.weak hw hH hb hbH hM, rfl, hl⟩
theorem roundG {ι : Type} {M : Nat} {F : ι → St} {μ : ι → Ms} {n : Ms} {st st1 : St} (hg : Gh M st st1) (h : RoundK M F μ n st1) : RoundK M F μ n st := by
 obtain ⟨⟨st', j, h1, h2, h3⟩⟩ := h
 exact ⟨st', j, hg.trans h1, h2, h3⟩
theorem AppK.mk' {xs ys : List AV} {bytes : Nat} {K : List AV → Prop} (owed : xs.length + ys.length ≤ maxLen ∧ (xs.length + ys.length) * bytes ≤ 140737488355328) (rest : ∀ zs, zs = xs ++ ys → zs.length = xs.length + ys.length → K zs) : AppK xs ys bytes K :=
 ⟨owed, fun zs h => rest zs h (by rw [h, List.length_append])⟩
theorem sliK_mapA {α : Type} {f : α → AV} {L : List α} {lo hi : Option Int} {K : List AV → Prop} (owed : 0 ≤ lo.getD 0 ∧ lo.getD 0 ≤ hi.getD L.length ∧ hi.getD L.length ≤ L.length)
  (rest : ∀ L', L' = (L.take (hi.getD L.length).toNat).drop (lo.getD 0).toNat → (L'.length : Int) = hi.getD L.length - lo.getD 0 → K (mapA f L')) : SliK (mapA f L) lo hi K := by
 refine ⟨by rw [mapA_len]; exact owed, fun ys hys => ?_⟩
 rw [mapA_len, mapA_eq, ← List.map_take, ← List.map_drop, ← mapA_eq] at hys
 subst hys
 refine rest _ rfl ?_
 rw [List.length_drop, List.length_take]
 omega
theorem appK_mapA {α : Type} {f : α → AV} {L L2 : List α} {bytes : Nat} {K : List AV → Prop} (owed : L.length + L2.length ≤ maxLen ∧ (L.length + L2.length) * bytes ≤ 140737488355328)
  (rest : ∀ L', L' = L ++ L2 → L'.length = L.length + L2.length → K (mapA f L')) : AppK (mapA f L) (mapA f L2) bytes K :=
 ⟨by rw [mapA_len, mapA_len]; exact owed, fun zs h => by rw [h, ← mapA_app]; exact rest _ rfl List.length_append⟩
theorem appK_nilA {α : Type} {f : α → AV} {L2 : List α} {bytes : Nat} {K : List AV → Prop} (owed : L2.length ≤ maxLen ∧ L2.length * bytes ≤ 140737488355328)
  (rest : K (mapA f L2)) : AppK [] (mapA f L2) bytes K :=
 ⟨by rw [mapA_len, List.length_nil, Nat.zero_add]; exact owed, fun zs h => by rw [h, List.nil_append]; exact rest⟩
theorem RemK.pos {m n : Int} {K : Int → Prop} (hm : 0 ≤ m) (hn : 0 < n) (rest : ∀ z, z = m.tmod n → 0 ≤ z → z < n → K z) : RemK m n K :=
 ⟨by omega, fun z hz => rest z hz (by rw [hz]; exact Int.tmod_nonneg _ hm) (by rw [hz]; exact Int.tmod_lt_of_pos _ hn)⟩
theorem QuoK.pos {m n : Int} {K : Int → Prop} (hm : 0 ≤ m) (hn : 0 < n) (hM : m ≤ 9223372036854775807) (rest : ∀ z, z = m.tdiv n → 0 ≤ z → z ≤ m → K z) : QuoK .i64 m n K := by
 have h0 : 0 ≤ m.tdiv n := Int.tdiv_nonneg hm (by omega)
 have h1 : m.tdiv n ≤ m := Int.tdiv_le_self _ hm
 exact ⟨⟨by omega, IntWalk.i64_in _ (by omega)⟩, fun z hz => rest z hz (by omega) (by omega)⟩
theorem BytK.of {xs : List AV} {K : ByteArray → Prop} (ns : List Int) (h : bytesA xs = some ns) (hk : ∀ s, s = strOf ns → s.size = ns.length → K s) : BytK 1 xs K :=
 ⟨ns, rfl, h, fun s hs => hk s hs (by rw [hs]; simp [strOf, ByteArray.size])⟩
theorem CatK.mk' {s t : ByteArray} {K : ByteArray → Prop} (owed : s.size + t.size ≤ maxLen) (rest : ∀ u, u = s ++ t → u.size = s.size + t.size → K u) : CatK s t K :=
 ⟨owed, fun u hu => rest u hu (by rw [hu, ByteArray.size_append])⟩
/-- An element by its place. -/
theorem askEl_mapA {α : Type} {f : α → AV} {L : List α} {i : Nat} {K : Nat → AV → Prop} (h : i < L.length) (hk : K i (f L[i])) : AskEl (mapA f L) (nI i) K :=
 ⟨i, _, rfl, mapA_get f L h, hk⟩
theorem askEl_some {α : Type} {f : α → AV} {L : List α} {i : Nat} {l : α} {K : Nat → AV → Prop} (h : L[i]? = some l) (hk : K i (f l)) : AskEl (mapA f L) (nI i) K :=
 ⟨i, _, rfl, by rw [mapA_eq, List.getElem?_map, h]; rfl, hk⟩
theorem askIdx_some {α : Type} {f : α → AV} {L : List α} {i : Nat} {l : α} {K : Nat → Prop} (h : L[i]? = some l) (hk : K i) : AskIdx (mapA f L) (nI i) K :=
 ⟨i, rfl, by rw [mapA_len]; exact (List.getElem?_eq_some_iff.1 h).1, hk⟩
theorem take_some {α : Type} {L : List α} {i : Nat} {l : α} (h : L[i]? = some l) : L.take (i + 1) = L.take i ++ [l] := by
 obtain ⟨hi, rfl⟩ := List.getElem?_eq_some_iff.1 h
 exact List.take_succ_eq_append_getElem hi
theorem mem_some {α : Type} {L : List α} {i : Nat} {l : α} (h : L[i]? = some l) : l ∈ L := List.mem_of_getElem? h
theorem some_at {α : Type} {L : List α} {i : Nat} (h : i < L.length) : ∃ l, L[i]? = some l := ⟨_, List.getElem?_eq_getElem h⟩
theorem askIdx_mapA {α : Type} {f : α → AV} {L : List α} {i : Nat} {K : Nat → Prop} (h : i < L.length) (hk : K i) : AskIdx (mapA f L) (nI i) K :=
 ⟨i, rfl, by rw [mapA_len]; exact h, hk⟩
theorem askByte_nI {s : ByteArray} {i : Nat} {K : Int → Prop} (h : i < s.size) (hk : ∀ z : Int, z = (s.data[i]'h).toNat → K z) : AskByte s (nI i) K :=
 ⟨i, rfl, h, fun c hc z hz => hk z (by rw [Array.getElem?_eq_getElem h] at hc; cases hc; exact hz)⟩
/-- What a tip holds is told wherever its handle stands. -/
theorem Gh.freeze {M : Nat} {st : St} (k : Nat) {t sz : Nat} {xs : List AV} (hk : st.H[k]? = some (.tip t sz xs)) : Gh M st ⟨tkill k (.sl sz xs) st.T, st.H.map (Ent.kill k (.sl sz xs))⟩ := fun C a w r pub _ h => by
 have hy : ∀ z, r k = some z → VRel pub w r (.sl sz xs) z := fun z hz => by
  obtain ⟨A, c, us, hr, _⟩ := h.ent_tip hk
  rw [hr] at hz
  cases hz
  have h1 := h.view1 (x := .hd k) (.hd hr rfl)
  simp only [St.view1, hk] at h1
  exact h1
 refine ⟨r, pub, ⟨fun j e he => ?_, fun j hj => h.mod.none_ j (by simpa using hj), h.mod.disj, h.mod.fresh, h.mod.there, h.mod.glob⟩, h.own, h.fr, h.slots.kill (fun _ _ => rfl) hy, h.defers, h.size, h.stab, by simpa using h.low⟩
 rw [List.getElem?_map] at he
 cases hj : st.H[j]? with
 | none => rw [hj] at he; cases he
 | some e0 =>
  rw [hj] at he
  cases he
  exact (h.mod.ent j e0 hj).kill (Fr.refl (fun _ => False) _ _) (fun _ _ _ _ h => h) (fun _ _ => rfl) hy
theorem Gh.cast {M : Nat} {T : List (Nat × AV)} {H : List Ent} (H2 : List Ent) (h : H = H2) : Gh M ⟨T, H⟩ ⟨T, H2⟩ := by subst h; exact Gh.refl _
/-- Less is told of the entries. -/
theorem Gh.le {M : Nat} {st : St} (H2 : List Ent) (hl : LeH st.H H2) : Gh M st ⟨st.T, H2⟩ := fun C a w r pub _ h =>
 ⟨r, pub, h.mod.le hl, h.own, h.fr, h.slots, h.defers, h.size, h.stab, h.low.1, by rw [hl.len]; exact h.low.2⟩
/-- A row becomes a plain list. -/
theorem Gh.plain {M : Nat} {st : St} (k : Nat) {t sz : Nat} {xs : List AV} (hk : isRowE st.H[k]? = some (t, sz, xs)) : Gh M st ⟨tkill k (.sl sz xs) st.T, (st.H.set k (.tip t sz xs)).map (Ent.kill k (.sl sz xs))⟩ :=
 (Gh.publish k hk).trans (Gh.freeze (st := ⟨st.T, st.H.set k (.tip t sz xs)⟩) (t := t) k (by
  have hl : k < st.H.length := by
   unfold isRowE at hk
   split at hk
   ·rename_i he; exact (List.getElem?_eq_some_iff.1 he).1
   ·cases hk
  exact List.getElem?_set_self hl))
/-! ### Short roads of the walk: what is owed is shown by the numbers in sight -/
theorem vn : (∀ n : Nat, (NatCast.natCast n : Int) = (n : Int)) ∧ (∀ {α β : Type} (f : α → β) (l : List α), (mapA f l).length = l.length) ∧ (∀ n : Nat, nI n = (n : Int)) ∧ (∀ {α : Type}, ([] : List α).length = 0) ∧
  (∀ {α : Type} (a : α) (l : List α), (a :: l).length = l.length + 1) ∧ (∀ {α : Type} (a b : α), (some a).getD b = a) ∧ (∀ {α : Type} (b : α), (none : Option α).getD b = b) :=
 ⟨fun _ => rfl, fun f l => mapA_len f l, fun _ => rfl, rfl, fun _ _ => rfl, fun _ _ => rfl, fun _ => rfl⟩
section
variable {a b : Unit → Prop} {x1 x2 : Int} {K : Int → Prop}
theorem BrEq.n (k : x1 ≠ x2 → b ()) (d : x1 ≠ x2 := by (try simp only [vn] at *) <;> omega) : BrEq x1 x2 a b := ⟨fun h => absurd h d, k⟩
theorem BrEq.y (k : x1 = x2 → a ()) (d : x1 = x2 := by (try simp only [vn] at *) <;> omega) : BrEq x1 x2 a b := ⟨k, fun h => absurd d h⟩
theorem BrLt.n (k : x2 ≤ x1 → b ()) (d : x2 ≤ x1 := by (try simp only [vn] at *) <;> omega) : BrLt x1 x2 a b := ⟨fun h => absurd h (by omega), k⟩
theorem BrLt.y (k : x1 < x2 → a ()) (d : x1 < x2 := by (try simp only [vn] at *) <;> omega) : BrLt x1 x2 a b := ⟨k, fun h => absurd h (by omega)⟩
theorem BrLe.n (k : x2 < x1 → b ()) (d : x2 < x1 := by (try simp only [vn] at *) <;> omega) : BrLe x1 x2 a b := ⟨fun h => absurd h (by omega), k⟩
theorem BrLe.y (k : x1 ≤ x2 → a ()) (d : x1 ≤ x2 := by (try simp only [vn] at *) <;> omega) : BrLe x1 x2 a b := ⟨k, fun h => absurd h (by omega)⟩
theorem BrB.n {s t : Bool} (k : s ≠ t → b ()) (d : s ≠ t := by decide) : BrB s t a b := ⟨fun h => absurd h d, k⟩
theorem BrB.y {s t : Bool} (k : s = t → a ()) (d : s = t := by decide) : BrB s t a b := ⟨k, fun h => absurd d h⟩
theorem LenL.k {xs : List AV} (k : ∀ z : Int, z = (xs.length : Int) → K z) : LenL xs K := ⟨k⟩
theorem LenM.k {xs : List (AV × AV)} (k : ∀ z : Int, z = (xs.length : Int) → K z) : LenM xs K := ⟨k⟩
theorem LenS.k {s : ByteArray} (k : ∀ z : Int, z = (s.size : Int) → K z) : LenS s K := ⟨k⟩
theorem AddK.k (k : ∀ z, z = x1 + x2 → K z) (d : -9223372036854775808 ≤ x1 + x2 ∧ x1 + x2 ≤ 9223372036854775807 := by (try simp only [vn] at *) <;> omega) : AddK .i64 x1 x2 K := ⟨fun z hz => k z (hz.trans (IntWalk.i64_in _ d))⟩
theorem AddK.w {i : IntKind} (k : ∀ z, z = i.wrap (x1 + x2) → K z) : AddK i x1 x2 K := ⟨k⟩
theorem MulK.w {i : IntKind} (k : ∀ z, z = i.wrap (x1 * x2) → K z) : MulK i x1 x2 K := ⟨k⟩
theorem SubK.w {i : IntKind} (k : ∀ z, z = i.wrap (x1 - x2) → K z) : SubK i x1 x2 K := ⟨k⟩
theorem NegK.w {i : IntKind} (k : ∀ z, z = i.wrap (-x1) → K z) : NegK i x1 K := ⟨k⟩
theorem MulK.k (k : ∀ z, z = x1 * x2 → K z) (d : -9223372036854775808 ≤ x1 * x2 ∧ x1 * x2 ≤ 9223372036854775807 := by (try simp only [vn] at *) <;> omega) : MulK .i64 x1 x2 K := ⟨fun z hz => k z (hz.trans (IntWalk.i64_in _ d))⟩
theorem SubK.k (k : ∀ z, z = x1 - x2 → K z) (d : -9223372036854775808 ≤ x1 - x2 ∧ x1 - x2 ≤ 9223372036854775807 := by (try simp only [vn] at *) <;> omega) : SubK .i64 x1 x2 K := ⟨fun z hz => k z (hz.trans (IntWalk.i64_in _ d))⟩
theorem NegK.k (k : ∀ z, z = -x1 → K z) (d : -9223372036854775808 ≤ -x1 ∧ -x1 ≤ 9223372036854775807 := by (try simp only [vn] at *) <;> omega) : NegK .i64 x1 K := ⟨fun z hz => k z (hz.trans (IntWalk.i64_in _ d))⟩
theorem CvK.o {K : Prop} (k : K) (d : -9223372036854775808 ≤ x1 ∧ x1 ≤ 9223372036854775807 := by (try simp only [vn] at *) <;> omega) : CvK .i64 x1 K := ⟨IntWalk.i64_in _ d, k⟩
theorem MinK.k (k : ∀ z, z = min x1 x2 → K z) : MinK x1 x2 K := ⟨k⟩
theorem MaxK.k (k : ∀ z, z = max x1 x2 → K z) : MaxK x1 x2 K := ⟨k⟩
theorem WCvK.k {i : IntKind} (k : ∀ z, z = i.wrap x1 → K z) : WCvK i x1 K := ⟨k⟩
theorem WAddK.k {i : IntKind} (k : ∀ z, z = i.wrap (x1 + x2) → K z) : WAddK i x1 x2 K := ⟨k⟩
theorem WSubK.k {i : IntKind} (k : ∀ z, z = i.wrap (x1 - x2) → K z) : WSubK i x1 x2 K := ⟨k⟩
theorem WMulK.k {i : IntKind} (k : ∀ z, z = i.wrap (x1 * x2) → K z) : WMulK i x1 x2 K := ⟨k⟩
theorem RemK.q (k : ∀ z, z = x1.tmod x2 → 0 ≤ z → z < x2 → K z) (d : 0 ≤ x1 ∧ 0 < x2 := by (try simp only [vn] at *) <;> omega) : RemK x1 x2 K := .pos d.1 d.2 k
theorem QuoK.q (k : ∀ z, z = x1.tdiv x2 → 0 ≤ z → z ≤ x1 → K z) (d : 0 ≤ x1 ∧ 0 < x2 ∧ x1 ≤ 9223372036854775807 := by (try simp only [vn] at *) <;> omega) : QuoK .i64 x1 x2 K := .pos d.1 d.2.1 d.2.2 k
theorem AppN.o {ys : List AV} {bytes : Nat} {K : Unit → Prop} (k : K ()) (d : ys.length ≤ maxLen ∧ ys.length * bytes ≤ 140737488355328 := by (try simp only [vn] at *) <;> (try unfold maxLen) <;> omega) : AppN ys bytes K := ⟨d, k⟩
theorem AppK.o {α : Type} {f : α → AV} {L2 : List α} {bytes : Nat} {K : List AV → Prop} (k : K (mapA f L2)) (d : L2.length ≤ maxLen ∧ L2.length * bytes ≤ 140737488355328 := by (try simp only [vn] at *) <;> (try unfold maxLen) <;> omega) : AppK [] (mapA f L2) bytes K := appK_nilA d k
theorem AppK.l {α : Type} {f : α → AV} {L L2 : List α} {bytes : Nat} {K : List AV → Prop} (k : ∀ L', L' = L ++ L2 → L'.length = L.length + L2.length → K (mapA f L')) (d : L.length + L2.length ≤ maxLen ∧ (L.length + L2.length) * bytes ≤ 140737488355328 := by (try simp only [vn] at *) <;> (try unfold maxLen) <;> omega) : AppK (mapA f L) (mapA f L2) bytes K := appK_mapA d k
theorem AppK.zl {xs ys : List AV} {bytes : Nat} {K : List AV → Prop} (k : ∀ zs, zs = xs ++ ys → zs.length = xs.length + ys.length → K zs) (d : xs.length + ys.length ≤ maxLen ∧ (xs.length + ys.length) * bytes ≤ 140737488355328 := by (try simp only [vn] at *) <;> (try unfold maxLen) <;> omega) : AppK xs ys bytes K := .mk' d k
theorem CatK.u {s t : ByteArray} {K : ByteArray → Prop} (k : ∀ u, u = s ++ t → u.size = s.size + t.size → K u) (d : s.size + t.size ≤ maxLen := by (try simp only [vn] at *) <;> (try unfold maxLen) <;> omega) : CatK s t K := .mk' d k
theorem SetK.z {xs : List AV} {i : Nat} {x2 : AV} {K : List AV → Prop} (k : ∀ zs, zs = xs.set i x2 → K zs) : SetK xs i x2 K := ⟨k⟩
theorem SetM.ms {es : List (AV × AV)} {i : Nat} {e : AV × AV} {K : List (AV × AV) → Prop} (k : ∀ ms, ms = es.set i e → K ms) : SetM es i e K := ⟨k⟩
theorem AppM.ms {es : List (AV × AV)} {e : AV × AV} {K : List (AV × AV) → Prop} (k : ∀ ms, ms = es ++ [e] → K ms) : AppM es e K := ⟨k⟩
theorem DelM.ms {es : List (AV × AV)} {i : Nat} {K : List (AV × AV) → Prop} (k : ∀ ms, ms = es.eraseIdx i → K ms) : DelM es i K := ⟨k⟩
theorem SliK.l {α : Type} {f : α → AV} {L : List α} {lo hi : Option Int} {K : List AV → Prop} (k : ∀ L', L' = (L.take (hi.getD L.length).toNat).drop (lo.getD 0).toNat → (L'.length : Int) = hi.getD L.length - lo.getD 0 → K (mapA f L'))
  (d : 0 ≤ lo.getD 0 ∧ lo.getD 0 ≤ hi.getD L.length ∧ hi.getD L.length ≤ L.length := by (try dsimp only [Option.getD]); (try simp only [vn] at *) <;> omega) : SliK (mapA f L) lo hi K := sliK_mapA d k
theorem SliK.z {xs : List AV} {lo hi : Option Int} {K : List AV → Prop} (k : ∀ ys, ys = (xs.take (hi.getD xs.length).toNat).drop (lo.getD 0).toNat → K ys)
  (d : 0 ≤ lo.getD 0 ∧ lo.getD 0 ≤ hi.getD xs.length ∧ hi.getD xs.length ≤ xs.length := by (try dsimp only [Option.getD]); (try simp only [vn] at *) <;> omega) : SliK xs lo hi K := ⟨d, k⟩
theorem SlsK.u {s : ByteArray} {lo hi : Option Int} {K : ByteArray → Prop} (k : ∀ u, u = s.extract (lo.getD 0).toNat (hi.getD s.size).toNat → (u.size : Int) = hi.getD s.size - lo.getD 0 → K u)
  (d : 0 ≤ lo.getD 0 ∧ lo.getD 0 ≤ hi.getD s.size ∧ hi.getD s.size ≤ s.size := by (try dsimp only [Option.getD]); (try simp only [vn] at *) <;> omega) : SlsK s lo hi K :=
 ⟨d, fun u hu => k u hu (by rw [hu, ByteArray.size_extract]; omega)⟩
theorem BytK.s {xs : List AV} {K : ByteArray → Prop} {ns : List Int} (k : ∀ s, s = strOf ns → s.size = ns.length → K s) (d : bytesA xs = some ns := by rfl) : BytK 1 xs K := .of ns d k
theorem AskEl.e {α : Type} {f : α → AV} {L : List α} {i : Nat} {l : α} {K : Nat → AV → Prop} (k : K i (f l)) (h : L[i]? = some l := by assumption) : AskEl (mapA f L) (nI i) K := askEl_some h k
theorem AskIdx.e {α : Type} {f : α → AV} {L : List α} {i : Nat} {l : α} {K : Nat → Prop} (k : K i) (h : L[i]? = some l := by assumption) : AskIdx (mapA f L) (nI i) K := askIdx_some h k
end
theorem askEl_int {α : Type} {f : α → AV} {L : List α} {z : Int} {K : Nat → AV → Prop} (h0 : 0 ≤ z) (h1 : z < L.length) (k : ∀ i l, z = nI i → L[i]? = some l → K i (f l)) : AskEl (mapA f L) z K := by
 obtain ⟨i, rfl⟩ := Int.eq_ofNat_of_zero_le h0
 obtain ⟨l, hl⟩ := some_at (L := L) (i := i) (by omega)
 exact askEl_some hl (k i l rfl hl)
theorem roundV {ι : Type} {M : Nat} {F : ι → St} {μ : ι → Ms} {n : Ms} {st : St} (j : ι) (hl : (μ j).val < n.val) (hw : weakT st.T (F j).T := by repeat' (first | exact trivial | refine ⟨.inl rfl, ?_⟩ | refine ⟨.inr rfl, ?_⟩))
  (hH : st.H.take (F j).H.length = (F j).H := by rfl) (hb : bndT (F j).H.length (F j).T = true := by rfl) (hbH : bndH (F j).H.length (F j).H = true := by rfl) (hM : M ≤ (F j).H.length := by exact Nat.le_of_ble_eq_true rfl) : RoundK M F μ n st :=
 roundW j hw hH hb hbH hM hl
theorem xloopV {P : Program} {N M : Nat} {c : XCode} {Q : XEx → St → Prop} {T : List (Nat × AV)} {H : List Ent} {ι : Type} (hs : List Nat) (F : ι → List (Nat × AV)) (G : ι → List Ent) (μ : ι → Ms) (i0 : ι)
  (hr : ∀ i, XW P N M c (XRound M (fun i => ⟨F i ++ keepT hs c.wr T, G i⟩) μ (μ i) Q) ⟨F i ++ keepT hs c.wr T, G i⟩)
  (hw : weakT T (F i0) := by repeat' (first | exact trivial | refine ⟨.inl rfl, ?_⟩ | refine ⟨.inr rfl, ?_⟩)) (hH : H.take (G i0).length = G i0 := by rfl) (hb : bndT (G i0).length (F i0 ++ keepT hs c.wr T) = true := by rfl) (hbH : bndH (G i0).length (G i0) = true := by rfl) (hM : M ≤ (G i0).length := by exact Nat.le_of_ble_eq_true rfl) : XLoopG P N M c Q ⟨T, H⟩ :=
 xloopK hs F G μ i0 hw hH hb hbH hM hr
theorem finV {P : Prop} (h : P) : P := h
end Go.Proofs.YtblkcnmecfppnaaGreatDoor
namespace Go.Proofs.YtblkcnmecfppnaaGreatDoor
/-! The entries' names turn, behind a round. -/
def renT (s : List Nat) : List (Nat × AV) → List (Nat × AV)
 | [] => []
 | (n, x) :: l => (n, x.ren s 0) :: renT s l
theorem tget_renT (s : List Nat) (n : Nat) : ∀ T : List (Nat × AV), tget (renT s T) n = (tget T n).ren s 0
 | [] => by unfold renT tget AV.ren; rfl
 | (m, x) :: T => by
  show (if m = n then x.ren s 0 else tget (renT s T) n) = (if m = n then x else tget T n).ren s 0
  split
  ·rfl
  ·exact tget_renT s n T
theorem bndT_tget {n : Nat} (m : Nat) : ∀ T : List (Nat × AV), bndT n T = true → (tget T m).bnd n = true
 | [], _ => by unfold tget AV.bnd; rfl
 | (k, x) :: T, h => by
  simp only [bndT, Bool.and_eq_true] at h
  show (if k = m then x else tget T m).bnd n = true
  split
  ·exact h.1
  ·exact bndT_tget m T h.2
theorem Gh.sel {st st' : St} (s : List Nat) (hw : weakT st.T (renT s st'.T)) (hH : s.map (fun k => st.H[k]?) = (renH s 0 st'.H).map some) (hnd : s.Nodup) (hbT : bndT st'.H.length st'.T = true) (hbH : bndH st'.H.length st'.H = true) : Gh 0 st st' := fun C a w r pub hCm h => by
 have hlen : s.length = st'.H.length := by have := congrArg List.length hH; simpa [renH_map] using this
 have hsi : ∀ i (hi : i < s.length), sigma s 0 i = s[i] := fun i hi => sigma_lt hi
 let r0 : Rho := fun i => if i < s.length then r (sigma s 0 i) else none
 have hr0 : ∀ i y, r0 i = some y → i < s.length ∧ r (sigma s 0 i) = some y := fun i y hy => by
  by_cases hi : i < s.length
  ·simp only [r0, if_pos hi] at hy; exact ⟨hi, hy⟩
  ·simp only [r0, if_neg hi] at hy; cases hy
 have hr0' : ∀ i, i < s.length → r0 i = r (sigma s 0 i) := fun i hi => if_pos hi
 have hinj : ∀ i j, i < s.length → j < s.length → sigma s 0 i = sigma s 0 j → i = j := fun i j hi hj e => by
  rw [hsi i hi, hsi j hj] at e
  exact nodup_inj hnd e
 have hent : ∀ i e, st'.H[i]? = some e → st.H[sigma s 0 i]? = some (e.ren s 0) := fun i e he => by
  have hi : i < s.length := by rw [hlen]; exact (List.getElem?_eq_some_iff.1 he).1
  have h1 := congrArg (fun l => l[i]?) hH
  simp only [List.getElem?_map, renH_map, he, Option.map_some, List.getElem?_eq_getElem hi] at h1
  rw [hsi i hi]
  simpa using h1
 refine ⟨r0, pub, ⟨fun i e he => ?_, fun i hi => if_neg (by omega), fun i j x y hij hx hy => ?_, h.mod.fresh, h.mod.there, h.mod.glob⟩, fun k x hx => h.own _ x (hr0 k x hx).2, h.fr, fun m => ?_, h.defers, h.size, fun k y hy _ => ?_, h.low.1, by omega⟩
 ·have hi : i < s.length := by rw [hlen]; exact (List.getElem?_eq_some_iff.1 he).1
  have he1 := h.mod.ent _ _ (hent i e he)
  have hbe := bndH_get hbH i e he
  rw [hr0' i hi]
  exact he1.unren hbe fun k y hkb hy => by rw [hr0' k (by omega)]; exact hy
 ·obtain ⟨hi, hx⟩ := hr0 i x hx
  obtain ⟨hj, hy⟩ := hr0 j y hy
  exact h.mod.disj _ _ x y (fun e => hij (hinj i j hi hj e)) hx hy
 ·rcases weakT_get hw m with h1 | h1
  ·rw [tget_renT] at h1
   have : tget st'.T m = .any := by
    cases hx : tget st'.T m <;> rw [hx] at h1 <;> unfold AV.ren at h1 <;> first | rfl | cases h1
   rw [this]
   exact .any _
  ·have h2 := h.slots m
   rw [← h1, tget_renT] at h2
   refine h2.unren _ rfl fun k y hk hy => ?_
   have hkb := AV.bnd_has _ (bndT_tget m _ hbT) hk
   rw [hr0' k (by omega)]
   exact hy
 ·rw [h.low.1 k (by omega)] at hy
  cases hy
/-- The end of a round that left new entries in the places of old ones. -/
theorem roundS {ι : Type} {F : ι → St} {μ : ι → Ms} {n : Ms} {st : St} (s : List Nat) (j : ι) (hl : (μ j).val < n.val) (hw : weakT st.T (renT s (F j).T) := by repeat' (first | exact trivial | refine ⟨.inl rfl, ?_⟩ | refine ⟨.inr rfl, ?_⟩))
  (hH : s.map (fun k => st.H[k]?) = (renH s 0 (F j).H).map some := by rfl) (hnd : s.Nodup := by decide) (hbT : bndT (F j).H.length (F j).T = true := by rfl) (hbH : bndH (F j).H.length (F j).H = true := by rfl) : RoundK 0 F μ n st :=
 ⟨_, j, Gh.sel s hw hH hnd hbT hbH, rfl, hl⟩
end Go.Proofs.YtblkcnmecfppnaaGreatDoor
/-
 An element of a map, its memory put back into the map.
-/
namespace Go.Proofs.YtblkcnmecfppnaaGreatDoor
open Go.RowKit

def dieH : List Ent → List Nat → List Ent
 | H, [] => H
 | H, q :: s => dieH (H.set q .dead) s
theorem dieH_len : ∀ (s : List Nat) (H : List Ent), (dieH H s).length = H.length
 | [], H => rfl
 | q :: s, H => by unfold dieH; rw [dieH_len s, List.length_set]
theorem dieH_get : ∀ (s : List Nat) (H : List Ent) (n : Nat) (e : Ent), (dieH H s)[n]? = some e → (n ∈ s ∧ e = .dead) ∨ (n ∉ s ∧ H[n]? = some e)
 | [], H, n, e, h => .inr ⟨by simp, h⟩
 | q :: s, H, n, e, h => by
  unfold dieH at h
  rcases dieH_get s _ n e h with ⟨h1, h2⟩ | ⟨h1, h2⟩
  ·exact .inl ⟨List.mem_cons_of_mem _ h1, h2⟩
  ·by_cases hq : q = n
   ·subst hq
    have hl := (List.getElem?_eq_some_iff.1 h2).1
    rw [List.length_set] at hl
    rw [List.getElem?_set_self hl] at h2
    cases h2
    exact .inl ⟨List.mem_cons_self .., rfl⟩
   ·rw [List.getElem?_set_ne hq] at h2
    refine .inr ⟨fun hm => ?_, h2⟩
    rcases List.mem_cons.1 hm with hm | hm
    ·exact hq hm.symm
    ·exact h1 hm
theorem flat_nodup {α : Type} (f : α → List Nat) : ∀ (l : List α), (∀ (i : Nat) (x : α), l[i]? = some x → (f x).Nodup) → (∀ (i j : Nat) (x y : α), i ≠ j → l[i]? = some x → l[j]? = some y → ∀ b ∈ f x, b ∉ f y) → (l.flatMap f).Nodup
 | [], _, _ => by simp
 | z :: l, h1, h2 => by
  rw [List.flatMap_cons, List.nodup_append]
  refine ⟨h1 0 z rfl, flat_nodup f l (fun i x hx => h1 (i + 1) x (by simpa using hx)) (fun i j x y hij hx hy => h2 (i + 1) (j + 1) x y (by omega) (by simpa using hx) (by simpa using hy)), fun b hb c hc e => ?_⟩
  subst e
  obtain ⟨u, hu, hb'⟩ := List.mem_flatMap.1 hc
  obtain ⟨q, hq⟩ := List.getElem?_of_mem hu
  exact h2 0 (q + 1) z u (by omega) rfl (by simpa using hq) b hb hb'
theorem foot1_nodup (v : Value) : (foot1 v).Nodup := by
 cases v with
 | pointer A => cases A <;> simp [foot1]
 | slice A _ _ => cases A <;> simp [foot1]
 | map b => cases b <;> simp [foot1]
 | _ => simp [foot1]
def plainE : Ent → Bool
 | .dead => false
 | .pool .. => false
 | _ => true
theorem ERel.plain_ {pub : Pub} {w : World} {r : Rho} {h : Option Value} {e : Ent} (he : ERel pub w r h e) (hp : plainE e = true) : ∃ y, h = some y ∧ isTup y = false := by
 cases he <;> first | exact ⟨_, rfl, rfl⟩ | cases hp
/-- The element's memory goes back into the map. -/
theorem Gh.putIn {M : Nat} {st : St} (k p : Nat) (sel : List Nat) (hd : AV) (l : List Ent) {t : TypeId} {es : List PEl} {outs : List (Nat × AV)} {i : Nat} {x key : AV} (hk : st.H[k]? = some (.pool t es outs)) (ho : outs[p]? = some (i, x)) (hu : ∀ y, (i, y) ∉ outs.eraseIdx p)
  (hke : (es[i]?).map (·.1) = some key) (hx : x = hd.ren sel 0) (hH : sel.map (fun q => st.H[q]?) = (renH sel 0 l).map some) (hnd : sel.Nodup) (hsel : sel.all (fun q => Nat.ble M q && q != k) = true) (hb : hd.bnd sel.length = true) (hbH : bndH sel.length l = true) (hpl : l.all plainE = true) :
  Gh M st ⟨killTs st.T sel, dieH (killHs (st.H.set k (.pool t (es.set i (key, hd, l)) (outs.eraseIdx p))) sel) sel⟩ := fun C a w r pub hCm h => by
 have hlen : sel.length = l.length := by have := congrArg List.length hH; simpa [renH_map] using this
 have hkl : k < st.H.length := (List.getElem?_eq_some_iff.1 hk).1
 have hksel : k ∉ sel := fun hm => by have := List.all_eq_true.1 hsel k hm; simp at this
 obtain ⟨b, ms, inner, hrk, R⟩ := h.ent_pool hk
 have hom : (i, x) ∈ outs := List.mem_of_getElem? ho
 obtain ⟨hi0, hix⟩ := R.hout i x hom
 have hil : i < es.length := by rw [← R.hn]; exact (List.getElem?_eq_some_iff.1 hi0).1
 obtain ⟨mi, hmi⟩ : ∃ m, ms[i]? = some m := ⟨_, Array.getElem?_eq_getElem (by rw [R.hl]; exact hil)⟩
 have hsi : ∀ j (hj : j < sel.length), sigma sel 0 j = sel[j] := fun j hj => sigma_lt hj
 have hent : ∀ j d, l[j]? = some d → ∃ (hj : j < sel.length), st.H[sel[j]]? = some (d.ren sel 0) := fun j d hd0 => by
  have hj : j < sel.length := by rw [hlen]; exact (List.getElem?_eq_some_iff.1 hd0).1
  have h1 := congrArg (fun l => l[j]?) hH
  simp only [List.getElem?_map, renH_map, hd0, Option.map_some, List.getElem?_eq_getElem hj] at h1
  exact ⟨hj, by simpa using h1⟩
 have hval : ∀ j (hj : j < sel.length), ∃ y, r sel[j] = some y ∧ isTup y = false := fun j hj => by
  have hjl : j < l.length := by omega
  obtain ⟨_, h1⟩ := hent j _ (List.getElem?_eq_getElem hjl)
  have h2 := h.mod.ent _ _ h1
  refine h2.plain_ ?_
  have := List.all_eq_true.1 hpl _ (List.getElem_mem hjl)
  revert this
  cases l[j] <;> exact fun h => h
 obtain ⟨vs, hvs⟩ : ∃ vs : List Value, vs = sel.map fun q => (r q).getD undef := ⟨_, rfl⟩
 have hvl : vs.length = sel.length := by rw [hvs, List.length_map]
 have hvg : ∀ j (hj : j < sel.length), vs[j]? = r sel[j] := fun j hj => by
  obtain ⟨y, hy, _⟩ := hval j hj
  rw [hvs, List.getElem?_map, List.getElem?_eq_getElem hj, Option.map_some, hy]
  rfl
 have hvt : ∀ v ∈ vs, ∃ j, ∃ (hj : j < sel.length), r sel[j] = some v ∧ isTup v = false := fun v hv => by
  obtain ⟨j, hj⟩ := List.getElem?_of_mem hv
  have hjl : j < sel.length := by rw [← hvl]; exact (List.getElem?_eq_some_iff.1 hj).1
  obtain ⟨y, hy, ht⟩ := hval j hjl
  rw [hvg j hjl, hy] at hj
  cases hj
  exact ⟨j, hjl, hy, ht⟩
 have hvt2 : ∀ v ∈ vs, isTup v = false := fun v hv => by obtain ⟨_, _, _, h⟩ := hvt v hv; exact h
 have hunr : ∀ q y, q < sel.length → r (sigma sel 0 q) = some y → rhoL vs q = some y := fun q y hq hy => by
  rw [hsi q hq] at hy
  exact (hvg q hq).trans hy
 have hfo : ∀ n, n ∈ foot (superH b (inner.set i vs)) → n ∈ foot (superH b inner) ∨ ∃ j, ∃ (hj : j < sel.length), ∃ y, r sel[j] = some y ∧ n ∈ foot y := fun n hn => by
  rcases foot_super_mem.1 hn with h1 | ⟨j, us, v, h1, h2, h3⟩
  ·exact .inl (foot_super_mem.2 (.inl h1))
  ·by_cases e : i = j
   ·subst e
    rw [List.getElem?_set_self (by rw [R.hn]; exact hil)] at h1
    cases h1
    obtain ⟨j, hj, h4, h5⟩ := hvt v h2
    exact .inr ⟨j, hj, v, h4, by rw [foot_one h5]; exact h3⟩
   ·rw [List.getElem?_set_ne e] at h1
    exact .inl (foot_super_mem.2 (.inr ⟨j, us, v, h1, h2, h3⟩))
 have hP : ERel pub w r (some (superH b (inner.set i vs))) (.pool t (es.set i (key, hd, l)) (outs.eraseIdx p)) := by
  have hmem : ∀ {j : Nat} {y : AV}, (j, y) ∈ outs.eraseIdx p → (j, y) ∈ outs := fun hm => List.mem_of_mem_eraseIdx hm
  have hne : ∀ {j : Nat} {y : AV}, (j, y) ∈ outs.eraseIdx p → i ≠ j := fun {j y} hm e => by subst e; exact hu y hm
  have hback : ∀ {j : Nat}, i ≠ j → (∀ y, (j, y) ∉ outs.eraseIdx p) → ∀ y, (j, y) ∉ outs := fun {j} hij hn y hy => by
   obtain ⟨q, hq⟩ := List.getElem?_of_mem hy
   have hqp : q ≠ p := by rintro rfl; rw [ho] at hq; cases hq; exact hij rfl
   refine hn y ?_
   rcases Nat.lt_or_ge q p with h1 | h1
   ·exact List.mem_of_getElem? (i := q) (by rw [List.getElem?_eraseIdx, if_pos h1]; exact hq)
   ·exact List.mem_of_getElem? (i := q - 1) (by rw [List.getElem?_eraseIdx, if_neg (by omega)]; rw [show q - 1 + 1 = q by omega]; exact hq)
  have hndo := R.hnd
  rw [foot_super, List.nodup_cons] at hndo
  refine .pool R.hb (by rw [List.length_set]; exact R.hl) (by rw [List.length_set, List.length_set]; exact R.hn) R.hborn ?_ (fun j y hy => ?_) (fun j e us m hno he hus hm => ?_) (fun j e us q d hno he hus hd0 => ?_) ?_ R.hp
  ·have : (es.set i (key, hd, l)).map (·.1) = es.map (·.1) := by
    rw [List.map_set]
    have h1 : (es.map (·.1))[i]? = some key := by rw [List.getElem?_map]; exact hke
    exact List.ext_getElem? fun q => by
     rw [List.getElem?_set]
     split
     ·rename_i e; subst e; rw [List.length_map, if_pos hil, h1]
     ·rfl
   rw [this]
   exact R.hk
  ·have hij := hne hy
   rw [List.getElem?_set_ne hij]
   exact R.hout j y (hmem hy)
  ·by_cases hij : i = j
   ·subst hij
    rw [List.getElem?_set_self hil] at he
    rw [List.getElem?_set_self (by rw [R.hn]; exact hil)] at hus
    cases he
    cases hus
    rw [hmi] at hm
    cases hm
    refine ⟨by rw [hvl, hlen], hvt2, ?_⟩
    refine (hix mi hmi).unren hd hx fun q y hq hy => hunr q y (AV.bnd_has _ hb hq) hy
   ·rw [List.getElem?_set_ne hij] at he hus
    exact R.hin j e us m (hback hij hno) he hus hm
  ·by_cases hij : i = j
   ·subst hij
    rw [List.getElem?_set_self hil] at he
    rw [List.getElem?_set_self (by rw [R.hn]; exact hil)] at hus
    cases he
    cases hus
    obtain ⟨hql, h1⟩ := hent q d hd0
    have h2 := h.mod.ent _ _ h1
    rw [hvg q hql]
    exact h2.unren (bndH_get hbH q d hd0) fun q y hq hy => hunr q y hq hy
   ·rw [List.getElem?_set_ne hij] at he hus
    exact R.hie j e us q d (hback hij hno) he hus hd0
  ·have hself : ∀ (j : Nat) (us : List Value), (inner.set i vs)[j]? = some us → (i = j ∧ us = vs) ∨ (i ≠ j ∧ inner[j]? = some us) := fun j us hus => by
    by_cases hij : i = j
    ·subst hij
     rw [List.getElem?_set_self (by rw [R.hn]; exact hil)] at hus
     cases hus
     exact .inl ⟨rfl, rfl⟩
    ·rw [List.getElem?_set_ne hij] at hus
     exact .inr ⟨hij, hus⟩
   have hfar : ∀ n, n ∈ vs.flatMap foot1 → n ∉ foot (superH b inner) := fun n hn hn2 => by
    obtain ⟨v, hv, h1⟩ := List.mem_flatMap.1 hn
    obtain ⟨j, hj, h2, h3⟩ := hvt v hv
    exact h.mod.disj k sel[j] _ _ (fun e => hksel (by rw [e]; exact List.getElem_mem hj)) hrk h2 n hn2 (by rw [foot_one h3]; exact h1)
   have hin2 : ∀ (j : Nat) (us : List Value) (n : Nat), inner[j]? = some us → n ∈ us.flatMap foot1 → n ∈ foot (superH b inner) := fun j us n hus hn => by
    obtain ⟨v, hv, h1⟩ := List.mem_flatMap.1 hn
    exact foot_super_mem.2 (.inr ⟨j, us, v, hus, hv, h1⟩)
   rw [foot_super, List.nodup_cons]
   refine ⟨fun hm => ?_, flat_nodup _ _ (fun j us hus => ?_) (fun j j' us us' hjj hus hus' n hn hn' => ?_)⟩
   ·obtain ⟨us, hus, h1⟩ := List.mem_flatMap.1 hm
    obtain ⟨j, hj⟩ := List.getElem?_of_mem hus
    rcases hself j us hj with ⟨_, rfl⟩ | ⟨_, h2⟩
    ·exact hfar b h1 (foot_super_mem.2 (.inl rfl))
    ·exact hndo.1 (List.mem_flatMap.2 ⟨us, List.mem_of_getElem? h2, h1⟩)
   ·rcases hself j us hus with ⟨_, rfl⟩ | ⟨_, h2⟩
    ·refine flat_nodup _ _ (fun q v _ => foot1_nodup v) (fun q q' v v' hqq hv hv' n hn hn' => ?_)
     have hql : q < sel.length := by rw [← hvl]; exact (List.getElem?_eq_some_iff.1 hv).1
     have hql' : q' < sel.length := by rw [← hvl]; exact (List.getElem?_eq_some_iff.1 hv').1
     have ht := hvt2 v (List.mem_of_getElem? hv)
     have ht' := hvt2 v' (List.mem_of_getElem? hv')
     rw [hvg q hql] at hv
     rw [hvg q' hql'] at hv'
     exact h.mod.disj sel[q] sel[q'] v v' (fun e => hqq (nodup_inj hnd e)) hv hv' n (by rw [foot_one ht]; exact hn) (by rw [foot_one ht']; exact hn')
    ·have : (us.flatMap foot1).Sublist (inner.flatMap fun vs => vs.flatMap foot1) := List.sublist_flatten_of_mem (List.mem_map.2 ⟨us, List.mem_of_getElem? h2, rfl⟩)
     exact this.nodup hndo.2
   ·rcases hself j us hus with ⟨e1, rfl⟩ | ⟨e1, h2⟩
    ·rcases hself j' us' hus' with ⟨e2, rfl⟩ | ⟨e2, h2'⟩
     ·omega
     ·exact hfar n hn (hin2 j' us' n h2' hn')
    ·rcases hself j' us' hus' with ⟨e2, rfl⟩ | ⟨e2, h2'⟩
     ·exact hfar n hn' (hin2 j us n h2 hn)
     ·exact flat_disj _ _ hndo.2 j j' us us' hjj h2 h2' n hn hn'
 let r' : Rho := fun q => if q = k then some (superH b (inner.set i vs)) else without r sel q
 have rk : r' k = some (superH b (inner.set i vs)) := if_pos rfl
 have rw_ : ∀ q, q ≠ k → r' q = without r sel q := fun q hq => if_neg hq
 have rold : ∀ q, q ≠ k → q ∉ sel → r' q = r q := fun q h1 h2 => by rw [rw_ q h1]; simp [without, h2]
 have rsel : ∀ q, q ∈ sel → r' q = none := fun q hq => by rw [rw_ q (by rintro rfl; exact hksel hq)]; simp [without, hq]
 have hwk : without r sel k = some (superH b inner) := by simp [without, hksel, hrk]
 obtain ⟨a1, q1, q2⟩ := superH_zero b inner
 obtain ⟨a2, q3, q4⟩ := superH_zero b (inner.set i vs)
 have hsub : ∀ z v, VRel pub w (without r sel) z v → VRel pub w r' z v := fun z v hv => hv.super (by rw [hwk, q1]) (by rw [rk, q3]) (q4.trans q2.symm) (fun q y hq hy => by rw [rw_ q hq]; exact hy)
 have hsome : ∀ q y, r' q = some y → (q = k ∧ y = superH b (inner.set i vs)) ∨ (q ≠ k ∧ q ∉ sel ∧ r q = some y) := fun q y hy => by
  by_cases h1 : q = k
  ·subst h1; rw [rk] at hy; cases hy; exact .inl ⟨rfl, rfl⟩
  ·by_cases h2 : q ∈ sel
   ·rw [rsel q h2] at hy; cases hy
   ·rw [rold q h1 h2] at hy; exact .inr ⟨h1, h2, hy⟩
 have hkill := killHs_len sel (st.H.set k (.pool t (es.set i (key, hd, l)) (outs.eraseIdx p)))
 refine ⟨r', pub, ⟨⟨fun q e he => ?_, fun q hq => ?_, fun p' q y z hpq hy hz n hn hn2 => ?_, h.mod.fresh, h.mod.there, h.mod.glob⟩, fun q y hy n hn => ?_, h.fr, fun n => hsub _ _ (killTs_get sel st.T r (h.slots n)), h.defers, h.size, fun q y hy hs => ?_, ⟨h.low.1, ?_⟩⟩⟩
 ·rcases dieH_get sel _ q e he with ⟨hq, rfl⟩ | ⟨hq, he⟩
  ·rw [rsel q hq]; exact .dead
  ·by_cases h1 : q = k
   ·subst h1
    obtain ⟨e0, h2, h3⟩ := killHs_get (pub := pub) (w := w) (hd := some (superH b (inner.set i vs))) sel _ r q e he
    rw [List.getElem?_set_self hkl] at h2
    cases h2
    rw [rk]
    exact (h3 hP).sub hsub
   ·obtain ⟨e0, h2, h3⟩ := killHs_get (pub := pub) (w := w) (hd := r q) sel _ r q e he
    rw [List.getElem?_set_ne (Ne.symm h1)] at h2
    rw [rold q h1 hq]
    exact (h3 (h.mod.ent q e0 h2)).sub hsub
 ·rw [dieH_len, hkill, List.length_set] at hq
  rw [rw_ q (by omega)]
  unfold without
  split
  ·rfl
  ·exact h.mod.none_ q hq
 ·rcases hsome p' y hy with ⟨rfl, rfl⟩ | ⟨h1, h2, h3⟩
  ·rcases hsome q z hz with ⟨rfl, rfl⟩ | ⟨h4, h5, h6⟩
   ·exact hpq rfl
   ·rcases hfo n hn with h7 | ⟨j, hj, y, h7, h8⟩
    ·exact h.mod.disj _ _ _ _ hpq hrk h6 n h7 hn2
    ·exact h.mod.disj _ _ _ _ (fun e => h5 (by rw [← e]; exact List.getElem_mem hj)) h7 h6 n h8 hn2
  ·rcases hsome q z hz with ⟨rfl, rfl⟩ | ⟨h4, h5, h6⟩
   ·rcases hfo n hn2 with h7 | ⟨j, hj, y, h7, h8⟩
    ·exact h.mod.disj _ _ _ _ (Ne.symm hpq) hrk h3 n h7 hn
    ·exact h.mod.disj _ _ _ _ (fun e => h2 (by rw [← e]; exact List.getElem_mem hj)) h7 h3 n h8 hn
   ·exact h.mod.disj _ _ _ _ hpq h3 h6 n hn hn2
 ·rcases hsome q y hy with ⟨rfl, rfl⟩ | ⟨h1, h2, h3⟩
  ·rcases hfo n hn with h7 | ⟨j, hj, y, h7, h8⟩
   ·exact h.own _ _ hrk n h7
   ·exact h.own _ _ h7 n h8
  ·exact h.own q y h3 n hn
 ·have h1 := h.stab q y hy hs
  have hqm : q < C.m := by
   rcases Nat.lt_or_ge q C.m with h2 | h2
   ·exact h2
   ·rw [h.low.1 q h2] at hy; cases hy
  have hqk : q ≠ k := by
   rintro rfl
   rw [hrk] at h1
   cases h1
   cases hs
  have hqs : q ∉ sel := fun hm => by
   have := List.all_eq_true.1 hsel q hm
   simp only [Bool.and_eq_true, Nat.ble_eq] at this
   omega
  rw [rold q hqk hqs]
  exact h1
 ·have := h.low.2
  dsimp only
  rw [dieH_len, hkill, List.length_set]
  exact this
end Go.Proofs.YtblkcnmecfppnaaGreatDoor
/-
 Maps whose elements lead to memory, walked: short roads.
-/
namespace Go.Proofs.YtblkcnmecfppnaaGreatDoor
open Go.RowKit

section
variable {x1 x2 : Int} {K : Int → Prop}
theorem ArrK.o {n : Nat} {K : Prop} (k : K) (d : 0 ≤ x1 ∧ x1 < n := by (try simp only [vn] at *) <;> omega) : ArrK n x1 K := ⟨d, k⟩
theorem IdxH.o {n : Nat} {K : Nat → Prop} (k : K x1.toNat) (d : 0 ≤ x1 ∧ x1 < n := by (try simp only [vn] at *) <;> omega) : IdxH n x1 K := ⟨d, k⟩
theorem BitK.k {op : BinOp} {i : IntKind} (k : ∀ z, z = i.wrap (match op with
  | .and => (BitVec.ofInt i.bits x1 &&& BitVec.ofInt i.bits x2)
  | .or => (BitVec.ofInt i.bits x1 ||| BitVec.ofInt i.bits x2)
  | .xor => (BitVec.ofInt i.bits x1 ^^^ BitVec.ofInt i.bits x2)
  | _ => (BitVec.ofInt i.bits x1 &&& ~~~ BitVec.ofInt i.bits x2)).toNat → K z) : BitK op i x1 x2 K := ⟨k⟩
theorem MksK.zl {bytes : Nat} {x : AV} {K : List AV → Prop} (k : ∀ zs, zs = List.replicate x1.toNat x → zs.length = x1.toNat → K zs) (d : 0 ≤ x1 ∧ x1 ≤ x2 ∧ x2 ≤ maxLen ∧ bytes * x2 ≤ 140737488355328 := by (try simp only [vn] at *) <;> (try unfold maxLen) <;> omega) : MksK x1 x2 bytes x K :=
 ⟨d, fun zs h => k zs h (by rw [h, List.length_replicate])⟩
end
/-- What is a tip's list is told as a list: in the slots; in an entry's cells. -/
theorem Gh.viewT {M : Nat} {st : St} : Gh M st ⟨st.T.map fun p => (p.1, st.view p.2), st.H⟩ := fun C a w r pub _ h => by
 refine ⟨r, pub, h.mod, h.own, h.fr, fun n => ?_, h.defers, h.size, h.stab, h.low⟩
 have hs := h.slots n
 have e : ∀ T : List (Nat × AV), tget (T.map fun p => (p.1, st.view p.2)) n = st.view (tget T n) := fun T => by
  induction T with
  | nil => rfl
  | cons p T ih =>
   obtain ⟨m, x⟩ := p
   show (if m = n then st.view x else tget (T.map fun p => (p.1, st.view p.2)) n) = st.view (if m = n then x else tget T n)
   split
   ·rfl
   ·exact ih
 dsimp only
 rw [e]
 exact h.view hs
theorem Gh.viewE {M : Nat} {st : St} (q : Nat) {t : TypeId} {cs : List AV} (hq : st.H[q]? = some (.blk t cs)) : Gh M st ⟨st.T, st.H.set q (.blk t (cs.map st.view1))⟩ := fun C a w r pub _ h => by
 obtain ⟨b, arr, hr, hb, hc, hp⟩ := h.ent_blk hq
 refine ⟨r, pub, h.mod.set hr (Fr.refl (fun _ => False) _ _) (fun _ h => h.elim) h.mod.fresh h.mod.there (.blk hb ⟨by rw [List.length_map]; exact hc.len, fun i x u hx hu => ?_⟩ hp), h.own, h.fr, h.slots, h.defers, h.size, h.stab, h.low.1, by simpa using h.low.2⟩
 rw [List.getElem?_map] at hx
 cases hy : cs[i]? with
 | none => rw [hy] at hx; cases hx
 | some y => rw [hy] at hx; cases hx; exact h.view1 (hc.at_ i y u hy hu)
section
variable {α : Type} {f : α → PEl} {L : List α}
theorem LenP.k {K : Int → Prop} (k : ∀ z : Int, z = (L.length : Int) → K z) : LenP (mapA f L) K := ⟨fun z hz => k z (by rw [hz, mapA_len])⟩
/-- Where a key stands. -/
def atS (key : α → ByteArray) (L : List α) (s : ByteArray) : Option Nat := L.findIdx? fun a => decide (key a = s)
theorem atS_some {key : α → ByteArray} {L : List α} {s : ByteArray} {i : Nat} (h : atS key L s = some i) : ∃ a, L[i]? = some a ∧ key a = s := by
 unfold atS at h
 rw [List.findIdx?_eq_some_iff_getElem] at h
 obtain ⟨hi, h1, _⟩ := h
 exact ⟨L[i], List.getElem?_eq_getElem hi, by simpa using h1⟩
theorem atS_first {key : α → ByteArray} {L : List α} {s : ByteArray} {i j : Nat} {a : α} (h : atS key L s = some i) (hj : j < i) (ha : L[j]? = some a) : key a ≠ s := by
 unfold atS at h
 rw [List.findIdx?_eq_some_iff_getElem] at h
 obtain ⟨hi, _, h2⟩ := h
 have := h2 j hj
 obtain ⟨hjl, rfl⟩ := List.getElem?_eq_some_iff.1 ha
 simpa using this
theorem atS_none {key : α → ByteArray} {L : List α} {s : ByteArray} (h : atS key L s = none) : ∀ a ∈ L, key a ≠ s := by
 unfold atS at h
 rw [List.findIdx?_eq_none_iff] at h
 intro a ha e
 have := h a ha
 simp [e] at this
theorem findL_str (key : α → ByteArray) (hf : ∀ a, (f a).1 = .str (key a)) (s : ByteArray) : ∀ (L : List α) (i : Nat), findL (.str s) ((mapA f L).map (·.1)) i = some ((atS key L s).map (· + i))
 | [], i => rfl
 | x :: L, i => by
  have e : (mapA f (x :: L)).map (·.1) = (f x).1 :: (mapA f L).map (·.1) := rfl
  rw [e, hf x]
  unfold findL atS
  rw [List.findIdx?_cons]
  by_cases h : key x = s
  ·have h2 : keyIs (.str s) (.str (key x)) = some true := congrArg some ((MapKept.bytes_beq _ _).2 h.symm)
   simp only [h2]
   simp [h]
  ·have h3 : ¬ s = key x := fun e => h e.symm
   have h2 : keyIs (.str s) (.str (key x)) = some false := congrArg some (Bool.eq_false_iff.2 fun hb => h3 ((MapKept.bytes_beq _ _).1 hb))
   simp only [h2, findL_str key hf s L (i + 1), h, decide_false, Bool.false_eq_true, if_false, Option.map_map, atS]
   congr 1
   cases (L.findIdx? fun a => decide (key a = s)) with
   | none => rfl
   | some n => simp; omega
theorem poolK_in (key : α → ByteArray) (hf : ∀ a, (f a).1 = .str (key a)) {s : ByteArray} {Kin : Nat → AV → List Ent → Prop} {Kout : AV → Prop} {Kno : Unit → Prop} (h : ∀ i y, atS key L s = some i → L[i]? = some y → key y = s → Kin i (f y).2.1 (f y).2.2) (hn : atS key L s = none → Kno ()) :
  PoolK (.str s) (mapA f L) [] Kin Kout Kno := by
 refine ⟨?_⟩
 have hfl := findL_str (f := f) key hf s L 0
 cases ha : atS key L s with
 | none => rw [ha] at hfl; exact .inr (.inr ⟨hfl, hn ha⟩)
 | some i =>
  rw [ha] at hfl
  obtain ⟨y, hy, hk⟩ := atS_some ha
  exact .inl ⟨i, (f y).1, (f y).2.1, (f y).2.2, hfl, by rw [mapA_eq, List.getElem?_map, hy]; rfl, by simp, h i y ha hy hk⟩
/-- One that is out already. -/
theorem poolK_out (key : α → ByteArray) (hf : ∀ a, (f a).1 = .str (key a)) {s : ByteArray} {i : Nat} {x : AV} {Kin : Nat → AV → List Ent → Prop} {Kout : AV → Prop} {Kno : Unit → Prop} (ha : atS key L s = some i) (h : Kout x) :
  PoolK (.str s) (mapA f L) [(i, x)] Kin Kout Kno := by
 have hfl := findL_str (f := f) key hf s L 0
 rw [ha] at hfl
 exact ⟨.inr (.inl ⟨i, x, hfl, by simp, h⟩)⟩
theorem pupK_new (key : α → ByteArray) (hf : ∀ a, (f a).1 = .str (key a)) {s : ByteArray} {outs : List (Nat × AV)} {v : AV} {K : List PEl → List (Nat × AV) → Prop} (ha : atS key L s = none) (h : K (mapA f L ++ [(.str s, .any, [])]) ((L.length, v) :: outs)) :
  PupK (.str s) (mapA f L) outs v K := by
 have hfl := findL_str (f := f) key hf s L 0
 rw [ha] at hfl
 exact ⟨.inl ⟨hfl, fun es' n h1 h2 => by rw [mapA_len] at h2; subst h1 h2; exact h⟩⟩
theorem pupK_old (key : α → ByteArray) (hf : ∀ a, (f a).1 = .str (key a)) {s : ByteArray} {i : Nat} {x v : AV} {K : List PEl → List (Nat × AV) → Prop} (ha : atS key L s = some i) (h : K (mapA f L) [(i, v)]) :
  PupK (.str s) (mapA f L) [(i, x)] v K := by
 have hfl := findL_str (f := f) key hf s L 0
 rw [ha] at hfl
 exact ⟨.inr ⟨i, x, [], hfl, rfl, by simp, h⟩⟩
theorem nxtK_in {since : Nat} {seen : List Nat} {K : Nat → AV → AV → List Ent → Prop} {D : Unit → Prop} (hs : since = L.length) (h : ∀ i y, L[i]? = some y → i ∉ seen → K i (f y).1 (f y).2.1 (f y).2.2) (hd : (∀ i, i < L.length → i ∈ seen) → D ()) : NxtK (mapA f L) since seen K D := by
 refine ⟨by rw [mapA_len]; exact hs, fun i k hd' l he hn => ?_, fun h => hd fun i hi => h i (by rw [mapA_len]; exact hi)⟩
 rw [mapA_eq, List.getElem?_map] at he
 cases hy : L[i]? with
 | none => rw [hy] at he; cases he
 | some y =>
  rw [hy] at he
  have := h i y hy hn
  simp only [Option.map_some, Option.some.injEq] at he
  rw [he] at this
  exact this
theorem entK_in {since i : Nat} {seen : List Nat} {x : AV} {y : α} {K : AV → AV → Prop} (hs : since = L.length) (hy : L[i]? = some y) (h : K (f y).1 x) : EntK (mapA f L) [(i, x)] since (seen ++ [i]) K :=
 ⟨i, (f y).1, x, by rw [mapA_len]; exact hs, by simp, by rw [mapA_eq, List.getElem?_map, hy]; rfl, by simp, h⟩
/-- An element, turned or not, goes back. -/
theorem Gh.back {M : Nat} {st : St} (k : Nat) (sel : List Nat) (f : α → PEl) {L : List α} {i : Nat} {y0 : α} (y : α) {t : TypeId} {x : AV} (hk : st.H[k]? = some (.pool t (mapA f L) [(i, x)])) (hy : L[i]? = some y0) (hkey : (f y0).1 = (f y).1 := by rfl)
  (hx : x = (f y).2.1.ren sel 0 := by rfl) (hH : sel.map (fun q => st.H[q]?) = (renH sel 0 (f y).2.2).map some := by rfl) (hnd : sel.Nodup := by decide) (hsel : sel.all (fun q => Nat.ble M q && q != k) = true := by decide) (hb : (f y).2.1.bnd sel.length = true := by rfl) (hbH : bndH sel.length (f y).2.2 = true := by rfl) (hpl : (f y).2.2.all plainE = true := by rfl) :
  Gh M st ⟨killTs st.T sel, dieH (killHs (st.H.set k (.pool t (mapA f (L.set i y)) [])) sel) sel⟩ := by
 have h := Gh.putIn (M := M) (st := st) k 0 sel (f y).2.1 (f y).2.2 (x := x) (i := i) (key := (f y0).1) hk rfl (by simp) (by rw [mapA_eq, List.getElem?_map, hy]; rfl) hx hH hnd hsel hb hbH hpl
 have e : (mapA f L).set i ((f y0).1, (f y).2.1, (f y).2.2) = mapA f (L.set i y) := by
  rw [hkey]
  show (mapA f L).set i (f y) = _
  rw [mapA_eq, mapA_eq, List.map_set]
 rw [e] at h
 exact h
theorem set_same {L : List α} {i : Nat} {y : α} (hy : L[i]? = some y) : L.set i y = L := by
 obtain ⟨h, rfl⟩ := List.getElem?_eq_some_iff.1 hy
 exact List.set_getElem_self h
theorem Gh.back0 {M : Nat} {st : St} (k : Nat) (sel : List Nat) (f : α → PEl) {L : List α} {i : Nat} {y : α} {t : TypeId} {x : AV} (hk : st.H[k]? = some (.pool t (mapA f L) [(i, x)])) (hy : L[i]? = some y)
  (hx : x = (f y).2.1.ren sel 0 := by rfl) (hH : sel.map (fun q => st.H[q]?) = (renH sel 0 (f y).2.2).map some := by rfl) (hnd : sel.Nodup := by decide) (hsel : sel.all (fun q => Nat.ble M q && q != k) = true := by decide) (hb : (f y).2.1.bnd sel.length = true := by rfl) (hbH : bndH sel.length (f y).2.2 = true := by rfl) (hpl : (f y).2.2.all plainE = true := by rfl) :
  Gh M st ⟨killTs st.T sel, dieH (killHs (st.H.set k (.pool t (mapA f L) [])) sel) sel⟩ := by
 have h := Gh.back k sel f y hk hy rfl hx hH hnd hsel hb hbH hpl
 rw [set_same hy] at h
 exact h
/-- .. a new one. -/
theorem Gh.backN {M : Nat} {st : St} (k : Nat) (sel : List Nat) (f : α → PEl) {L : List α} (y : α) {key : AV} {t : TypeId} {x : AV} (hk : st.H[k]? = some (.pool t (mapA f L ++ [(key, .any, [])]) [(L.length, x)])) (hkey : (f y).1 = key := by rfl)
  (hx : x = (f y).2.1.ren sel 0 := by rfl) (hH : sel.map (fun q => st.H[q]?) = (renH sel 0 (f y).2.2).map some := by rfl) (hnd : sel.Nodup := by decide) (hsel : sel.all (fun q => Nat.ble M q && q != k) = true := by decide) (hb : (f y).2.1.bnd sel.length = true := by rfl) (hbH : bndH sel.length (f y).2.2 = true := by rfl) (hpl : (f y).2.2.all plainE = true := by rfl) :
  Gh M st ⟨killTs st.T sel, dieH (killHs (st.H.set k (.pool t (mapA f (L ++ [y])) [])) sel) sel⟩ := by
 have hl : (mapA f L).length = L.length := mapA_len f L
 have h := Gh.putIn (M := M) (st := st) k 0 sel (f y).2.1 (f y).2.2 (x := x) (i := L.length) (key := key) hk rfl (by simp) (by rw [List.getElem?_append_right (by omega)]; simp [hl]) hx hH hnd hsel hb hbH hpl
 have e : (mapA f L ++ [(key, AV.any, [])]).set L.length (key, (f y).2.1, (f y).2.2) = mapA f (L ++ [y]) := by
  rw [List.set_append_right _ _ (by omega), hl, Nat.sub_self, mapA_app, mapA_one, ← hkey]
  rfl
 rw [e] at h
 exact h
end
end Go.Proofs.YtblkcnmecfppnaaGreatDoor
/-
 Code walked in pieces: between two pieces of a row a step in thought may stand, within loops too.
-/
namespace Go.Proofs.YtblkcnmecfppnaaGreatDoor
open Go.RowKit
section
variable {P : Program} {N M : Nat}
theorem SemW.block {id : Nat} {c : XCode} {Q : XEx → St → Prop} {st : St} (h : SemW P N M c (XBlk id Q) st) : SemW P N M (.block id c) Q st := ⟨fun code C act w r pub hx hN hM hh => by
 cases code with
 | block id' c' =>
  unfold cCode at hx
  obtain ⟨y, hy, h'⟩ := map_some hx
  cases h'
  refine wp_block (wp_mono (h.out c' C act w r pub hy hN hM hh) fun e a' w' hq => ?_)
  cases e with
  | normal => exact hq
  | exit id' =>
   show if id' = id then _ else _
   obtain ⟨st', r', pub', hk, hh⟩ := hq
   have hk : if id' = id then Q .norm st' else Q (.exit id') st' := hk
   split
   ·rename_i e; rw [if_pos e] at hk; exact ⟨st', r', pub', hk, hh⟩
   ·rename_i e; rw [if_neg e] at hk; exact ⟨st', r', pub', hk, hh⟩
  | ret => exact hq
  | goto l => exact hq
  | panic ch => exact hq.elim
  | outgrown => exact hq.elim
 | region id ops draw =>
  unfold cCode at hx
  cases draw with
  | false =>
   simp only [Bool.false_eq_true, if_false] at hx
   obtain ⟨l, hl, h⟩ := map_some hx
   cases h
  | true =>
   simp only [if_true] at hx
   split at hx
   ·obtain ⟨p, hp, h⟩ := map_some hx
    cases h
   ·cases hx
 | cond c c1 c2 =>
  unfold cCode at hx
  split at hx <;> cases hx
 | seq c1 c2 =>
  unfold cCode at hx
  split at hx <;> cases hx
 | loop c => unfold cCode at hx; obtain ⟨y, hy, h⟩ := map_some hx; cases h
 | scope c => unfold cCode at hx; obtain ⟨y, hy, h⟩ := map_some hx; cases h
 | _ => cases hx⟩
theorem xloopS {c : XCode} {Q : XEx → St → Prop} {st : St} {ι : Type} (F : ι → St) (μ : ι → Ms) (i0 : ι) (h0 : Gh M st (F i0)) (hr : ∀ i, SemW P N M c (XRound M F μ (μ i) Q) (F i)) : XLoopG P N M c Q st := by
 refine ⟨fun code C a w r pub hc hN hM h => ?_⟩
 obtain ⟨r1, p1, h1⟩ := h0 C a w r pub hM h
 refine wp_loop_fam (fun n a w => ∃ i r pub, (μ i).val = n ∧ HoldsW C (F i) a w r pub) (fun n a w hI => ?_) (n0 := (μ i0).val) ⟨i0, r1, p1, rfl, h1⟩
 obtain ⟨i, r, pub, rfl, hh⟩ := hI
 refine wp_mono ((hr i).out code C a w r pub hc hN hM hh) fun e a' w' hq => ?_
 cases e with
 | normal =>
  obtain ⟨st', r', pub', ⟨⟨st2, j, hg, rfl, hlt⟩⟩, hh'⟩ := hq
  obtain ⟨r2, p2, h2⟩ := hg C a' w' r' pub' hM hh'
  exact ⟨(μ j).val, hlt, j, r2, p2, rfl, h2⟩
 | exit id => exact hq
 | ret => exact hq
 | goto l => exact hq
 | panic ch => exact hq.elim
 | outgrown => exact hq.elim
theorem xloopVS {c : XCode} {Q : XEx → St → Prop} {T : List (Nat × AV)} {H : List Ent} {ι : Type} (hs : List Nat) (F : ι → List (Nat × AV)) (G : ι → List Ent) (μ : ι → Ms) (i0 : ι)
  (hr : ∀ i, SemW P N M c (XRound M (fun i => ⟨F i ++ keepT hs c.wr T, G i⟩) μ (μ i) Q) ⟨F i ++ keepT hs c.wr T, G i⟩)
  (hw : weakT T (F i0) := by repeat' (first | exact trivial | refine ⟨.inl rfl, ?_⟩ | refine ⟨.inr rfl, ?_⟩)) (hH : H.take (G i0).length = G i0 := by rfl) (hb : bndT (G i0).length (F i0 ++ keepT hs c.wr T) = true := by rfl) (hbH : bndH (G i0).length (G i0) = true := by rfl) (hM : M ≤ (G i0).length := by exact Nat.le_of_ble_eq_true rfl) : XLoopG P N M c Q ⟨T, H⟩ :=
 xloopS (fun i => ⟨F i ++ keepT hs c.wr T, G i⟩) μ i0 (Gh.weakG (weakG_app hw fun m => by rcases keepT_get hs T c.wr m with h | h; (· exact .inl h); exact .inr h.2) hH hb hbH hM) hr
end
end Go.Proofs.YtblkcnmecfppnaaGreatDoor
/-
 The door: arguments as they come in, as abstract values, by their type's shape; a contract as what a row asks.
-/
namespace Go.Proofs.YtblkcnmecfppnaaGreatDoor
open Go.ChangeShapes Go.WideShapes Go.Deep Go.RowKit

inductive Sh where
 | int (k : IntKind)
 | str
 | bl
 | sl (sz : Nat) (e : Sh)
 | st (l : List Sh)
mutual
def Sh.width : Sh → Nat
 | .int _ => 1
 | .str => 1
 | .bl => 1
 | .sl _ _ => 1
 | .st l => Sh.widthL l
def Sh.widthL : List Sh → Nat
 | [] => 0
 | s :: l => s.width + Sh.widthL l
end
mutual
/-- The cells of a value of that shape. -/
def Op (B : Nat) : Sh → List AV → Prop
 | .int k, cs => ∃ n, cs = [.int k n] ∧ (Lit.int k n).wf = true
 | .str, cs => ∃ s, cs = [.str s] ∧ s.size ≤ maxLen ∧ s.size ≤ B
 | .bl, cs => ∃ b, cs = [.bl b]
 | .sl sz e, cs => ∃ xs, cs = [.sl sz xs] ∧ xs.length ≤ maxLen ∧ ∀ x ∈ xs, x = elemAV sz x.cells ∧ Op B e x.cells
 | .st l, cs => OpL B l cs
def OpL (B : Nat) : List Sh → List AV → Prop
 | [], cs => cs = []
 | s :: l, cs => ∃ a b, cs = a ++ b ∧ Op B s a ∧ OpL B l b
end
mutual
theorem Op.one {B : Nat} : ∀ (s : Sh) (cs : List AV), Op B s cs → cs.all AV.one = true
 | .int k, cs, h => by unfold Op at h; obtain ⟨n, rfl, _⟩ := h; rfl
 | .str, cs, h => by unfold Op at h; obtain ⟨n, rfl, _⟩ := h; rfl
 | .bl, cs, h => by unfold Op at h; obtain ⟨n, rfl⟩ := h; rfl
 | .sl sz e, cs, h => by unfold Op at h; obtain ⟨xs, rfl, _⟩ := h; rfl
 | .st l, cs, h => by unfold Op at h; exact OpL.one l cs h
theorem OpL.one {B : Nat} : ∀ (l : List Sh) (cs : List AV), OpL B l cs → cs.all AV.one = true
 | [], cs, h => by unfold OpL at h; subst h; rfl
 | s :: l, cs, h => by
  unfold OpL at h
  obtain ⟨a, b, rfl, h1, h2⟩ := h
  rw [List.all_append, Op.one s a h1, OpL.one l b h2]
  rfl
end
def shFs (P : Program) (g : TypeId → Option Sh) : List Field → Nat → Nat → Option (List Sh)
 | [], off, tot => if off = tot then some [] else none
 | f :: l, off, tot => if f.offset = off then match g f.type, shFs P g l (off + P.cellsOf f.type) tot with
   | some s, some r => some (s :: r)
   | _, _ => none
  else none
mutual
theorem Op.len {B : Nat} : ∀ (s : Sh) (cs : List AV), Op B s cs → cs.length = s.width
 | .int k, cs, h => by unfold Op at h; obtain ⟨n, rfl, _⟩ := h; rfl
 | .str, cs, h => by unfold Op at h; obtain ⟨n, rfl, _⟩ := h; rfl
 | .bl, cs, h => by unfold Op at h; obtain ⟨n, rfl⟩ := h; rfl
 | .sl sz e, cs, h => by unfold Op at h; obtain ⟨xs, rfl, _⟩ := h; rfl
 | .st l, cs, h => by unfold Op at h; exact OpL.len l cs h
theorem OpL.len {B : Nat} : ∀ (l : List Sh) (cs : List AV), OpL B l cs → cs.length = Sh.widthL l
 | [], cs, h => by unfold OpL at h; subst h; rfl
 | s :: l, cs, h => by
  unfold OpL at h
  obtain ⟨a, b, rfl, h1, h2⟩ := h
  rw [List.length_append, Op.len s a h1, OpL.len l b h2]
  rfl
end
/-- A type's shape, as the program tells it: structs' fields one behind the other. -/
def shOf (P : Program) : Nat → TypeId → Option Sh
 | 0, _ => none
 | n + 1, t => match P.underlying t with
  | some .bool => some .bl
  | some (.int k) => some (.int k)
  | some .string => some .str
  | some (.slice e) => match shOf P n e with
   | some s => if s.width = P.cellsOf e then some (.sl (P.cellsOf e) s) else none
   | none => none
  | some (.struct fs) => (shFs P (shOf P n) fs.toList 0 (P.cellsOf t)).map .st
  | _ => none
/-- All of memory is published. -/
def pubW (w : World) : Pub := fun b => match w.heap[b]? with
 | some (.cells arr _ _) => arr.size
 | _ => 0
theorem pubW_cell {w : World} {b i : Nat} {u : Value} (h : w.cell? ⟨b, i, none⟩ = some u) : i < pubW w b := by
 unfold World.cell? at h
 unfold pubW
 cases hb : w.heap[b]? with
 | none => simp [hb] at h
 | some o =>
  cases o <;> simp [hb] at h ⊢
  rename_i arr _ _
  rcases Nat.lt_or_ge i arr.size with h1 | h1
  ·exact h1
  ·rw [Array.getElem?_eq_none h1] at h; simp at h
theorem pubW_there {w : World} {b i : Nat} (h : i < pubW w b) : ∃ u, w.cell? ⟨b, i, none⟩ = some u := by
 unfold pubW at h
 cases hb : w.heap[b]? with
 | none => simp [hb] at h
 | some o =>
  cases o <;> simp [hb] at h
  rename_i arr _ _
  exact ⟨arr[i], by unfold World.cell?; simp [hb, Array.getElem?_eq_getElem h]⟩
theorem Mod.door (w : World) (hg : GlobOk (pubW w) w) : Mod (pubW w) w rho0 [] :=
 ⟨fun k e he => (by simp at he), fun _ _ => rfl, (fun _ _ _ _ _ h => by cases h), (fun b hb => by unfold pubW; rw [Array.getElem?_eq_none hb]), fun b i hi => pubW_there hi, hg⟩
theorem elemAV_cells_ {sz : Nat} {l : List AV} (hl : l.length = sz) (h1 : l.all AV.one = true) : (elemAV sz l).cells = l := elemAV_cells hl h1
theorem of_each_ {α : Type} {p : Nat → α → Prop} : ∀ (n : Nat), (∀ i, i < n → ∃ a, p i a) → ∃ l : List α, l.length = n ∧ ∀ i (h : i < l.length), p i l[i]
 | 0, _ => ⟨[], rfl, fun i h => by simp at h⟩
 | n + 1, h => by
  obtain ⟨l, hl, hp⟩ := of_each_ n (fun i hi => h i (by omega))
  obtain ⟨a, ha⟩ := h n (by omega)
  refine ⟨l ++ [a], by simp [hl], fun i hi => ?_⟩
  by_cases h1 : i < l.length
  ·rw [List.getElem_append_left h1]; exact hp i h1
  ·simp at hi
   obtain rfl : i = n := by omega
   subst hl
   simpa using ha
theorem Addr_add_none (b o n : Nat) : (⟨b, o, none⟩ : Addr).add n = ⟨b, o + n, none⟩ := by unfold Addr.add; split <;> simp_all
/-- What is handed in is as light as memory allows, where that is known. -/
def LtD (B : Nat) (P : Program) {H : Type} (t : TypeId) (d : DataW H) : Prop := maxLen ≤ B ∨ (reachBytes ≤ B ∧ ∀ n ∈ d.weights P t, n ≤ reachBytes)
theorem each_mem {P : Program} {H : Type} : ∀ {ts : List TypeId} {ds : List (DataW H)} {i : Nat} {t : TypeId} {d : DataW H}, ts[i]? = some t → ds[i]? = some d → ∀ n ∈ d.weights P t, n ∈ DataW.weightsEach P ts ds
 | [], _, i, t, d, h, _ => by simp at h
 | _ :: _, [], i, t, d, _, h => by simp at h
 | u :: ts, e :: ds, 0, t, d, h, k => by
  intro n hn
  simp at h k
  subst h k
  unfold DataW.weightsEach
  exact List.mem_append_left _ hn
 | u :: ts, e :: ds, i + 1, t, d, h, k => by
  intro n hn
  unfold DataW.weightsEach
  exact List.mem_append_right _ (each_mem (by simpa using h) (by simpa using k) n hn)
theorem all_mem {P : Program} {H : Type} {e : TypeId} : ∀ {ds : List (DataW H)} {i : Nat} {d : DataW H}, ds[i]? = some d → ∀ n ∈ d.weights P e, n ∈ DataW.weightsAll P e ds
 | [], i, d, h => by simp at h
 | x :: ds, 0, d, h => by
  intro n hn
  simp at h
  subst h
  unfold DataW.weightsAll
  exact List.mem_append_left _ hn
 | x :: ds, i + 1, d, h => by
  intro n hn
  unfold DataW.weightsAll
  exact List.mem_append_right _ (all_mem (by simpa using h) n hn)
section
variable {B : Nat}
variable {H : Type} {enc : TypeId × Value → H} {P : Program} {w : World} {base : Nat} {spare : Nat → Bool} {held : Bool}
theorem open_fs {g : TypeId → Option Sh} {cs : List Value} (hg : ∀ t s, g t = some s → ∀ fuel cs x, DataW.trod enc P w base spare held fuel t cs = some x → LtD B P t x.1 → ∃ cz, Op B s cz ∧ VRels (pubW w) w rho0 cz cs) :
  ∀ (l : List Field) (off tot : Nat) (ss : List Sh), shFs P g l off tot = some ss → cs.length = tot → (∀ f ∈ l, ∃ fuel y, DataW.trod enc P w base spare held fuel f.type ((cs.drop f.offset).take (P.cellsOf f.type)) = some y ∧ LtD B P f.type y.1) →
   ∃ cz, OpL B ss cz ∧ VRels (pubW w) w rho0 cz (cs.drop off)
 | [], off, tot, ss, h, hl, _ => by
  unfold shFs at h
  split at h
  ·cases h
   rename_i e
   refine ⟨[], by unfold OpL; rfl, ?_⟩
   rw [List.drop_eq_nil_of_le (by omega)]
   exact .nil
  ·cases h
 | f :: l, off, tot, ss, h, hl, hf => by
  unfold shFs at h
  split at h
  ·rename_i e
   split at h
   ·rename_i s r hs hr
    cases h
    obtain ⟨fuel, y, hy, hly⟩ := hf f (List.mem_cons_self ..)
    obtain ⟨cz1, h1, h2⟩ := hg _ _ hs _ _ _ hy hly
    obtain ⟨cz2, h3, h4⟩ := open_fs hg l _ tot r hr hl (fun f hm => hf f (List.mem_cons_of_mem _ hm))
    refine ⟨cz1 ++ cz2, by unfold OpL; exact ⟨cz1, cz2, rfl, h1, h3⟩, ?_⟩
    rw [e] at h2
    have := h2.app h4
    rw [← List.drop_drop, List.take_append_drop] at this
    exact this
   ·cases h
  ·cases h
theorem VRels.single {x : AV} {u : Value} {pub : Pub} {r : Rho} (h : VRel pub w r x u) : VRels pub w r [x] [u] := .cons h .nil
theorem open_cells : ∀ (n : Nat) (t : TypeId) (s : Sh), shOf P n t = some s → ∀ (fuel : Nat) (cs : List Value) (x : DataW H × List MemPlace), DataW.trod enc P w base spare held fuel t cs = some x → LtD B P t x.1 → ∃ cz, Op B s cz ∧ VRels (pubW w) w rho0 cz cs
 | 0, t, s, h => by cases h
 | n + 1, t, s, h => by
  intro fuel cs x hx hlt
  have ih := open_cells n
  unfold shOf at h
  split at h
  ·rename_i ht
   cases h
   obtain ⟨b, rfl, _⟩ := DataW.trod_bool ht hx
   exact ⟨[.bl b], by unfold Op; exact ⟨b, rfl⟩, .single (.bl b)⟩
  ·rename_i k ht
   cases h
   obtain ⟨b, rfl, _, hw⟩ := DataW.trod_int ht hx
   exact ⟨[.int k b], by unfold Op; exact ⟨b, rfl, hw⟩, .single (.int k b)⟩
  ·rename_i ht
   cases h
   obtain ⟨b, rfl, rfl, hw⟩ := DataW.trod_string ht hx
   have hb : b.size ≤ B := by
    rcases hlt with h1 | ⟨h1, h2⟩
    ·omega
    ·have h3 := h2 b.data.toList.length (by dsimp only; unfold DataW.weights; exact List.mem_cons_self ..)
     have h4 : b.data.toList.length = b.size := by rw [Array.length_toList]; rfl
     omega
   exact ⟨[.str b], by unfold Op; exact ⟨b, rfl, hw, hb⟩, .single (.str b)⟩
  ·rename_i e ht
   split at h
   ·rename_i se hse
    split at h
    ·rename_i hwd
     cases h
     rcases open_slice ht hx with ⟨rfl, _⟩ | ⟨a, len, cap, m, n', D, Pl, rfl, _, hl, hm, hmm, rfl, hi⟩
     ·refine ⟨[.sl (P.cellsOf e) []], by unfold Op; exact ⟨[], rfl, Nat.zero_le _, fun x hx => by cases hx⟩, .single (.sl (A := none) (c := 0) (xs := []) (Nat.le_refl _) (by unfold maxLen; omega) (fun _ => ⟨rfl, rfl⟩) (fun x hx => by cases hx) (fun _ _ => undef) (fun i x j u hx => by simp at hx) (fun i x j u hx => by simp at hx))⟩
     ·have hle : len ≤ m := by rw [hmm]; split <;> omega
      have each : ∀ i, i < len → ∃ cz, Op B se cz ∧ ∃ vs : List Value, VRels (pubW w) w rho0 cz vs ∧ ∀ j v, vs[j]? = some v → w.cell? ((a.add (i * P.cellsOf e)).add j) = some v := fun i hil => by
       obtain ⟨cs', hc, ht'⟩ := hi i (by omega)
       have hli : LtD B P e (D i) := by
        rcases hlt with h1 | ⟨h1, h2⟩
        ·exact .inl h1
        ·refine .inr ⟨h1, fun n hn => h2 n ?_⟩
         unfold DataW.weights
         rw [ht]
         refine List.mem_cons_of_mem _ (List.mem_append_left _ (all_mem (i := i) (d := D i) ?_ n hn))
         rw [List.getElem?_map, List.getElem?_range hil]
         rfl
       obtain ⟨cz, h1, h2⟩ := ih e se hse _ _ _ ht' hli
       obtain ⟨_, hcl, hat⟩ := World.cells?_some hc
       exact ⟨cz, h1, cs', h2, fun j v hv => by rw [hat j (by rw [← hcl]; exact (List.getElem?_eq_some_iff.1 hv).1), hv]⟩
      obtain ⟨A, hAl, hA⟩ : ∃ A : List (List AV), A.length = len ∧ ∀ i (h : i < A.length), Op B se A[i] ∧ ∃ vs : List Value, VRels (pubW w) w rho0 A[i] vs ∧ ∀ j v, vs[j]? = some v → w.cell? ((a.add (i * P.cellsOf e)).add j) = some v := of_each_ len (p := fun i cz => Op B se cz ∧ ∃ vs : List Value, VRels (pubW w) w rho0 cz vs ∧ ∀ j v, vs[j]? = some v → w.cell? ((a.add (i * P.cellsOf e)).add j) = some v) each
      have hcells : ∀ (cz : List AV), Op B se cz → (elemAV (P.cellsOf e) cz).cells = cz := fun cz ho => elemAV_cells_ ((Op.len _ _ ho).trans hwd) (Op.one _ _ ho)
      refine ⟨[.sl (P.cellsOf e) (A.map (elemAV (P.cellsOf e)))], ?_, ?_⟩
      ·unfold Op
       refine ⟨_, rfl, by rw [List.length_map, hAl]; omega, fun x hx => ?_⟩
       obtain ⟨cz, has, rfl⟩ := List.mem_map.1 hx
       obtain ⟨i, hil, rfl⟩ := List.getElem_of_mem has
       rw [hcells _ (hA i hil).1]
       exact ⟨rfl, (hA i hil).1⟩
      ·refine .single ?_
       rw [← hAl, ← List.length_map (f := elemAV (P.cellsOf e))]
       have get : ∀ (i : Nat) (x : AV) (j : Nat) (u : AV), (A.map (elemAV (P.cellsOf e)))[i]? = some x → x.cells[j]? = some u → ∃ v, w.cell? ((a.add (i * P.cellsOf e)).add j) = some v ∧ VRel (pubW w) w rho0 u v := fun i x j u hx hu => by
        rw [List.getElem?_map] at hx
        rcases Nat.lt_or_ge i A.length with hil | hil
        ·rw [List.getElem?_eq_getElem hil] at hx
         cases hx
         obtain ⟨ho, vs, hvs, hc⟩ := hA i hil
         rw [hcells _ ho] at hu
         obtain ⟨v, hv, hr⟩ := hvs.get hu
         exact ⟨v, hc j v hv, hr⟩
        ·rw [List.getElem?_eq_none hil] at hx; cases hx
       refine .sl (by rw [List.length_map]; omega) (by omega) (fun h => by cases h) (fun x hx => ?_) (fun i j => (w.cell? ((a.add (i * P.cellsOf e)).add j)).getD undef) (fun i x j u hx hu => ?_) (fun i x j u hx hu => ?_)
       ·obtain ⟨cz, has, rfl⟩ := List.mem_map.1 hx
        obtain ⟨i, hil, rfl⟩ := List.getElem_of_mem has
        rw [hcells _ (hA i hil).1]
        exact ⟨(Op.len _ _ (hA i hil).1).trans hwd, Op.one _ _ (hA i hil).1⟩
       ·obtain ⟨v, hv, hr⟩ := get i x j u hx hu
        rw [hv]
        exact hr
       ·obtain ⟨v, hv, hr⟩ := get i x j u hx hu
        have hsp : a.spot = none := by
         rw [List.getElem?_map] at hx
         cases hAi : A[i]? with
         | none => rw [hAi] at hx; cases hx
         | some cz =>
          rw [hAi] at hx
          cases hx
          obtain ⟨hil, rfl⟩ := List.getElem?_eq_some_iff.1 hAi
          have hju : j < A[i].length := by rw [hcells _ (hA i hil).1] at hu; exact (List.getElem?_eq_some_iff.1 hu).1
          have hli := Op.len _ _ (hA i hil).1
          obtain ⟨ho, vs, hvs, hc⟩ := hA 0 (by omega)
          have hl0 := Op.len _ _ ho
          have hv0 : 0 < vs.length := by rw [hvs.len]; omega
          have := World.cell?_spot (hc 0 vs[0] (List.getElem?_eq_getElem hv0))
          simpa [Addr.add] using this
        obtain ⟨b, o, spot⟩ := a
        dsimp only at hsp
        subst hsp
        rw [hv]
        have e1 : ((⟨b, o, none⟩ : Addr).add (i * P.cellsOf e)).add j = ⟨b, o + i * P.cellsOf e + j, none⟩ := by
         rw [Addr_add_none, Addr_add_none]
        rw [e1] at hv
        exact ⟨b, o, rfl, pubW_cell hv, hv⟩
    ·cases h
   ·cases h
  ·rename_i fs ht
   obtain ⟨ss, hss, rfl⟩ := map_some h
   obtain ⟨xs, n', _, hxa, hl, hlen, hf⟩ := DataW.trod_struct ht hx
   obtain ⟨cz, h1, h2⟩ := open_fs (cs := cs) ih fs.toList 0 _ ss hss hl (fun f hm => by
    obtain ⟨j, hj⟩ := List.getElem?_of_mem hm
    have hjl : j < xs.length := by rw [hlen]; simpa using (List.getElem?_eq_some_iff.1 hj).1
    refine ⟨n', xs[j], by rw [hf j f (by simpa using hj), List.getElem?_eq_getElem hjl], ?_⟩
    rcases hlt with h1 | ⟨h1, h2⟩
    ·exact .inl h1
    ·refine .inr ⟨h1, fun n hn => h2 n ?_⟩
     rw [hxa]
     unfold DataW.weights
     rw [ht]
     exact each_mem (i := j) (t := f.type) (d := xs[j].1) (by rw [List.getElem?_map, hj]; rfl) (by rw [List.getElem?_map, List.getElem?_eq_getElem hjl]; rfl) n hn)
   exact ⟨cz, by unfold Op; exact h1, by simpa using h2⟩
  ·cases h
def topAV : Sh → List AV → AV
 | .st _, cz => .agg cz
 | _, cz => cz.headD .any
theorem cells_one_ {v : Value} (h : ∀ cs, v ≠ .agg cs) : v.cells.toList = [v] := by
 cases v with
 | agg cs => exact absurd rfl (h cs)
 | _ => rfl
theorem open_val {n : Nat} {t : TypeId} {s : Sh} {r : Reach} {b0 : Nat} {v : Value} {d : DataW H} {p : List MemPlace} (hs : shOf P n t = some s) (hv : Value.okWide P w r b0 t v) (hd : DataW.Trod enc P w base spare held t v d p) (hlt : LtD B P t d) :
  ∃ cz, Op B s cz ∧ VRel (pubW w) w rho0 (topAV s cz) v := by
 obtain ⟨fuel, hf⟩ := hd
 obtain ⟨cz, h1, h2⟩ := open_cells (B := B) n t s hs _ _ _ hf hlt
 refine ⟨cz, h1, ?_⟩
 have scal : (∀ cs, v ≠ .agg cs) → ∀ a, cz = [a] → VRel (pubW w) w rho0 a v := fun hne a ha => by
  rw [cells_one_ hne, ha] at h2
  exact h2.at_ 0 a v rfl rfl
 cases n with
 | zero => cases hs
 | succ n =>
  unfold shOf at hs
  split at hs
  ·rename_i ht
   cases hs
   unfold Op at h1
   obtain ⟨b, rfl⟩ := h1
   exact scal (fun cs hc => by subst hc; simp [Value.okWide, ht, Cell.okWide, Cell.ok] at hv) _ rfl
  ·rename_i k ht
   cases hs
   unfold Op at h1
   obtain ⟨b, rfl, _⟩ := h1
   exact scal (fun cs hc => by subst hc; simp [Value.okWide, ht, Cell.okWide, Cell.ok] at hv) _ rfl
  ·rename_i ht
   cases hs
   unfold Op at h1
   obtain ⟨b, rfl, _⟩ := h1
   exact scal (fun cs hc => by subst hc; simp [Value.okWide, ht, Cell.okWide, Cell.ok] at hv) _ rfl
  ·rename_i e ht
   split at hs
   ·split at hs
    ·cases hs
     unfold Op at h1
     obtain ⟨b, rfl, _⟩ := h1
     exact scal (fun cs hc => by subst hc; simp [Value.okWide, ht, Cell.okWide, Cell.ok] at hv) _ rfl
    ·cases hs
   ·cases hs
  ·rename_i fs ht
   obtain ⟨ss, hss, rfl⟩ := map_some hs
   simp only [Value.okWide, ht] at hv
   obtain ⟨cs, rfl, _⟩ := hv
   exact .agg (by simpa [Value.cells] using h2.len) fun i x u hx hu => h2.at_ i x u hx (by simpa [Value.cells] using hu)
  ·cases hs
theorem op_list {α : Type} {sz : Nat} {e : Sh} {f : α → AV} {q : α → Prop} (h : ∀ cz, Op B e cz → ∃ x : α, elemAV sz cz = f x ∧ q x) {cs : List AV} (ho : Op B (.sl sz e) cs) : ∃ L : List α, cs = [.sl sz (mapA f L)] ∧ L.length ≤ maxLen ∧ ∀ x ∈ L, q x := by
 unfold Op at ho
 obtain ⟨xs, rfl, hl, hx⟩ := ho
 have key : ∀ xs : List AV, (∀ x ∈ xs, x = elemAV sz x.cells ∧ Op B e x.cells) → ∃ L : List α, xs = mapA f L ∧ ∀ x ∈ L, q x := fun xs => by
  induction xs with
  | nil => exact fun _ => ⟨[], rfl, fun x hx => by cases hx⟩
  | cons y ys ih =>
   intro hx
   obtain ⟨L, rfl, hL⟩ := ih fun x hm => hx x (List.mem_cons_of_mem _ hm)
   obtain ⟨e1, e2⟩ := hx y (List.mem_cons_self ..)
   obtain ⟨x, hf, hq⟩ := h _ e2
   refine ⟨x :: L, ?_, fun z hz => ?_⟩
   ·show y :: mapA f L = f x :: mapA f L
    rw [e1, hf]
   ·rcases List.mem_cons.1 hz with rfl | hz
    ·exact hq
    ·exact hL z hz
 obtain ⟨L, rfl, hL⟩ := key xs hx
 exact ⟨L, rfl, by rwa [mapA_len] at hl, hL⟩
theorem wf_i64 {n : Int} (h : (Lit.int .i64 n).wf = true) : -9223372036854775808 ≤ n ∧ n ≤ 9223372036854775807 := by
 simp only [Lit.wf, Bool.and_eq_true, decide_eq_true_eq] at h
 have h1 : IntKind.i64.min = -9223372036854775808 := rfl
 have h2 : IntKind.i64.max = 9223372036854775807 := rfl
 omega
theorem wf_u8 {n : Int} (h : (Lit.int .u8 n).wf = true) : 0 ≤ n ∧ n ≤ 255 := by
 simp only [Lit.wf, Bool.and_eq_true, decide_eq_true_eq] at h
 have h1 : IntKind.u8.min = 0 := rfl
 have h2 : IntKind.u8.max = 255 := rfl
 omega
/-- A contract as what a row asks: true, and all that came in as it was. -/
theorem walk_of {f : Nat} {c : Ctr} (hf : FnOk P f c) {args : List AV} {vals : Array Value} (hv : VRels (pubW w) w rho0 args vals.toList) (hc : c args [] fun x _ => x = .bl true) (hg : GlobOk (pubW w) w) :
  Calls P f vals w fun e w' => e = .returned (.bool true) ∧ Below w.heap.size w w' := by
 refine (hf args [] _ hc w rho0 (pubW w) vals (Mod.door w hg) hv).mono fun e w' ⟨v, x, H', r', pub', he, hx, hvx, _, hfr, _⟩ => ?_
 subst he
 subst hx
 cases hvx
 exact ⟨rfl, hfr.os, hfr.tape, hfr.output, hfr.size, fun j hj => (hfr.keep j hj (fun ⟨_, _, h, _⟩ => by cases h)).1⟩
end
end Go.Proofs.YtblkcnmecfppnaaGreatDoor
