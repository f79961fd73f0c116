/-
  Texts of this proof, joined: VE, VF, VG, VH, VI, VJ, Src, VS, VK, VL, VM, VN, VQ, VO, X.
-/
import Derived.Test.YtpcfdpengbkplaaDoorJ2
import Derived.ScopeJumps
import Derived.IntWalk
import Derived.Deep.Slices
import Derived.Deep.Fields
import Derived.ChangeSame
import Derived.ProofKit
import Derived.OpenShut
import Derived.ChangeOld
import Derived.Below
set_option linter.unusedVariables false
set_option linter.unusedSimpArgs false
/-
 Code on abstract values: what holds of it holds of the program's code; functions; what may be turned in thought alone.
-/
namespace Go.Proofs.YtpcfdpengbkplaaDoor
open Go.RowKit

section
variable {P : Program} {N M : Nat}
theorem xw_ok : ∀ (code : Code) (x : XCode) (Q : XEx → St → Prop) (C : Ctx) (st : St) (a : Act) (w : World) (r : Rho) (pub : Pub), cCode P N code = some x → C.n = N → C.m = M → HoldsW C st a w r pub → XW P N M x Q st → code.wp P (QX C Q) a w := by
 intro code
 induction code with
 | skip =>
  intro x Q C st a w r pub hx hN hM h hK
  cases hx
  exact wp_skip ⟨st, r, pub, hK, h⟩
 | region id ops draw =>
  intro x Q C st a w r pub hx hN hM h hK
  unfold cCode at hx
  cases draw with
  | false =>
   simp only [Bool.false_eq_true, if_false] at hx
   obtain ⟨l, hl, rfl⟩ := map_some hx
   exact wp_region_list (reg_ok (fun a w h => h) hN _ _ st a w r pub hl h hK)
  | true =>
   simp only [if_true] at hx
   split at hx
   ·rename_i hc
    obtain ⟨p, hp, rfl⟩ := map_some hx
    have hd := h.draws.room (allocs ops)
    have hks := liveK_some h (p.dry st) []
    have m : Mid (keepD p st) C r pub w.drew false true ⟨st.T, st.H ++ List.replicate (allocs ops) .dead⟩ a w.drew r pub := ⟨hd, fun _ => Keeps.refl _ _ _, fun _ => rfl, Ext.refl _ _, fun k hk => .inl (hks k hk)⟩
    have hsort : ∀ a w, OutK C (if p.forky = true then SortK (Q .norm) else Q .norm) a w → QX C Q .normal a w := fun a w ⟨st, r, pub, hk, hh⟩ => by
     split at hk
     ·exact ⟨_, r, pub, hk, ⟨hh.mod, hh.own, hh.fr, fun n => by dsimp only; rw [tget_sort]; exact hh.slots n, hh.defers, hh.size, hh.stab, hh.low⟩⟩
     ·exact ⟨st, r, pub, hk, hh⟩
    have := (plan_ok (P := P) (N := N) (Q := QX C Q) (K := if p.forky = true then SortK (Q .norm) else Q .norm) hc.1 (fun c a d v w h => h.elim) hsort hN p (wtOf P ops (blockers P ops) (Array.replicate ops.size false)) _ _ _ _ hd.mod.there false true ops.size (Array.replicate ops.size false) _ a w.drew r pub
     (fits_size _ _ _ _ _ hp) (closed_start _) (by simp) m (fun h => by cases h) hK).1 (planMk_ok _ _ _ _ _ hp)
    exact wp_region_any hc.2 (wpAny_of_N _ _ _ _ this)
   ·cases hx
 | seq c1 c2 ih1 ih2 =>
  intro x Q C st a w r pub hx hN hM h hK
  unfold cCode at hx
  split at hx
  ·rename_i x1 x2 h1 h2
   cases hx
   refine wp_seq (wp_mono (ih1 x1 _ C st a w r pub h1 hN hM h hK) fun e a' w' hq => ?_)
   cases e with
   | normal =>
    obtain ⟨st', r', pub', hk, hh⟩ := hq
    exact ih2 x2 Q C st' a' w' r' pub' h2 hN hM hh hk
   | exit id => exact hq
   | ret => exact hq
   | goto l => exact hq
   | panic ch => exact hq.elim
   | outgrown => exact hq.elim
  ·cases hx
 | cond c c1 c2 ih1 ih2 =>
  intro x Q C st a w r pub hx hN hM h hK
  unfold cCode at hx
  split at hx
  ·rename_i z x1 x2 hz h1 h2
   cases hx
   unfold XW at hK
   have hv := h.ev hz
   generalize hev : st.ev z = y at hK hv
   cases y with
   | bl t =>
    generalize hva : a.eval c = v at hv
    cases hv
    dsimp only at hK
    refine wp_cond hva ?_
    cases t with
    | true => exact ih1 x1 Q C st a w r pub h1 hN hM h hK
    | false => exact ih2 x2 Q C st a w r pub h2 hN hM h hK
   | _ => exact hK.elim
  ·cases hx
 | block id c ih =>
  intro x Q C st a w r pub hx hN hM h hK
  unfold cCode at hx
  obtain ⟨y, hy, rfl⟩ := map_some hx
  refine wp_block (wp_mono (ih y _ C st a w r pub hy hN hM h hK) fun e a' w' hq => ?_)
  cases e with
  | normal => exact hq
  | exit id' =>
   show if id' = id then _ else _
   obtain ⟨st', r', pub', hk, hh⟩ := hq
   have hk : if id' = id then Q .norm st' else Q (.exit id') st' := hk
   split
   ·rename_i e; rw [if_pos e] at hk; exact ⟨st', r', pub', hk, hh⟩
   ·rename_i e; rw [if_neg e] at hk; exact ⟨st', r', pub', hk, hh⟩
  | ret => exact hq
  | goto l => exact hq
  | panic ch => exact hq.elim
  | outgrown => exact hq.elim
 | loop c ih =>
  intro x Q C st a w r pub hx hN hM h hK
  unfold cCode at hx
  obtain ⟨y, hy, rfl⟩ := map_some hx
  exact hK.out c C a w r pub hy hN hM h
 | exit id =>
  intro x Q C st a w r pub hx hN hM h hK
  cases hx
  exact wp_exit ⟨st, r, pub, hK, h⟩
 | ret =>
  intro x Q C st a w r pub hx hN hM h hK
  cases hx
  exact wp_ret ⟨st, r, pub, hK, h⟩
 | scope c ih =>
  intro x Q C st a w r pub hx hN hM h hK
  unfold cCode at hx
  obtain ⟨y, hy, rfl⟩ := map_some hx
  exact hK.out c C a w r pub hy hN hM h
 | label l =>
  intro x Q C st a w r pub hx hN hM h hK
  cases hx
  exact wp_label ⟨st, r, pub, hK, h⟩
 | goto l =>
  intro x Q C st a w r pub hx hN hM h hK
  cases hx
  exact wp_goto ⟨st, r, pub, hK, h⟩
 | _ => intro x Q C st a w r pub hx; cases hx
end

/-! ### Steps in thought -/
def Gh (M : Nat) (st st' : St) : Prop := ∀ (C : Ctx) (a : Act) (w : World) (r : Rho) (pub : Pub), C.m = M → HoldsW C st a w r pub → ∃ r' pub', HoldsW C st' a w r' pub'
section
variable {M : Nat}
theorem Gh.refl (st : St) : Gh M st st := fun _ _ _ r pub _ h => ⟨r, pub, h⟩
theorem Gh.trans {s1 s2 s3 : St} (h : Gh M s1 s2) (k : Gh M s2 s3) : Gh M s1 s3 := fun C a w r pub hM hh => by
 obtain ⟨r1, p1, h1⟩ := h C a w r pub hM hh
 exact k C a w r1 p1 hM h1
def isRowE : Option Ent → Option (Nat × Nat × List AV)
 | some (.row t sz xs) => some (t, sz, xs)
 | _ => none
/-- A row is published. -/
theorem Gh.publish {st : St} (k : Nat) {t sz : Nat} {xs : List AV} (hk : isRowE st.H[k]? = some (t, sz, xs)) : Gh M st ⟨st.T, st.H.set k (.tip t sz xs)⟩ := fun C a w r pub _ h => by
 have hk' : st.H[k]? = some (.row t sz xs) := by
  cases he : st.H[k]? with
  | none => rw [he] at hk; cases hk
  | some e => cases e <;> rw [he] at hk <;> cases hk <;> rfl
 obtain ⟨pub', h', _⟩ := h.publish hk'
 exact ⟨r, pub', h'⟩
/-- A slice of nothing becomes a row of its own. -/
theorem Gh.adopt {st : St} (n t sz : Nat) (hn : tget st.T n = .v (.slice none 0 0)) : Gh M st ⟨tput st.T n (.hd st.H.length), st.H ++ [.row t sz []]⟩ := fun C a w r pub _ h => by
 have hd := h.room 1
 have hq : (st.H ++ List.replicate 1 Ent.dead)[st.H.length]? = some .dead := by simp
 have h1 := hd.adopt hq t sz
 have hset : (st.H ++ List.replicate 1 Ent.dead).set st.H.length (.row t sz []) = st.H ++ [.row t sz []] := by simp
 dsimp only at h1
 rw [hset] at h1
 refine ⟨rset r st.H.length (.slice none 0 0), pub, h1.mod, h1.own, h1.fr, fun m => ?_, h1.defers, h1.size, h1.stab, h1.low⟩
 dsimp only
 rw [tget_put]
 split
 ·rename_i e
  subst e
  have := h.slots n
  rw [hn] at this
  rw [ev_nil this]
  exact .hd (rset_self _ _ _) rfl
 ·exact h1.slots m
/-- Less is asked. -/
def weakT (T : List (Nat × AV)) : List (Nat × AV) → Prop
 | [] => True
 | (n, x) :: l => (tget T n = x ∨ x = .any) ∧ weakT T l
def bndT (n : Nat) : List (Nat × AV) → Bool
 | [] => true
 | (_, x) :: l => AV.bnd n x && bndT n l
def bndH (n : Nat) : List Ent → Bool
 | [] => true
 | e :: l => bndE n e && bndH n l
theorem weakT_get {T : List (Nat × AV)} : ∀ {T' : List (Nat × AV)}, weakT T T' → ∀ m, tget T' m = .any ∨ tget T' m = tget T m
 | [], _, m => .inl rfl
 | (n, x) :: l, h, m => by
  simp only [tget]
  split
  ·rename_i e
   subst e
   rcases h.1 with h1 | h1
   ·exact .inr h1.symm
   ·exact .inl h1
  ·exact weakT_get h.2 m
theorem bndT_get {n : Nat} : ∀ {T : List (Nat × AV)}, bndT n T = true → ∀ m, AV.bnd n (tget T m) = true
 | [], _, m => by simp [tget, AV.bnd]
 | (k, x) :: l, h, m => by
  unfold bndT at h
  simp only [Bool.and_eq_true] at h
  simp only [tget]
  split
  ·exact h.1
  ·exact bndT_get h.2 m
theorem bndH_get {n : Nat} : ∀ {H : List Ent}, bndH n H = true → ∀ (k : Nat) (e : Ent), H[k]? = some e → bndE n e = true
 | [], _, k, e, h => by simp at h
 | x :: l, h, 0, e, he => by
  unfold bndH at h
  simp only [Bool.and_eq_true] at h
  simp at he
  subst he
  exact h.1
 | x :: l, h, k + 1, e, he => by
  unfold bndH at h
  simp only [Bool.and_eq_true] at h
  exact bndH_get h.2 k e (by simpa using he)
theorem Gh.weak {st st' : St} (hT : weakT st.T st'.T) (hH : st.H.take st'.H.length = st'.H) (hb : bndT st'.H.length st'.T = true) (hbH : bndH st'.H.length st'.H = true) (hM : M ≤ st'.H.length) : Gh M st st' := fun C a w r pub hCm h => by
 have hget : ∀ k e, st'.H[k]? = some e → st.H[k]? = some e := fun k e he => by
  have hk := (List.getElem?_eq_some_iff.1 he).1
  rw [← hH, List.getElem?_take, if_pos hk] at he
  exact he
 let r' : Rho := fun k => if k < st'.H.length then r k else none
 have hr' : ∀ k, k < st'.H.length → r' k = r k := fun k hk => if_pos hk
 have hsome : ∀ k y, r' k = some y → r k = some y := fun k y hy => by
  by_cases hk : k < st'.H.length
  ·rw [hr' k hk] at hy; exact hy
  ·simp only [r', if_neg hk] at hy; cases hy
 refine ⟨r', pub, ⟨fun k e he => ?_, fun k hk => if_neg (by omega), fun i j x y hij hx hy => h.mod.disj i j x y hij (hsome _ _ hx) (hsome _ _ hy), h.mod.fresh, h.mod.there, h.mod.glob⟩, fun k x hx => h.own k x (hsome _ _ hx), h.fr, fun m => ?_, h.defers, h.size, fun k y hy hs => ?_, ⟨h.low.1, by omega⟩⟩
 ·have hk := (List.getElem?_eq_some_iff.1 he).1
  have h0 := h.mod.ent k e (hget k e he)
  have hbe := bndH_get hbH k e he
  rw [hr' k hk]
  exact h0.congr hbe hr'
 ·rcases weakT_get hT m with e | e
  ·rw [e]; exact .any _
  ·have hbm := bndT_get hb m
   rw [e] at hbm ⊢
   exact (h.slots m).congr fun n hn => hr' n (AV.bnd_has _ hbm hn)
 ·have hk : k < st'.H.length := by
   rcases Nat.lt_or_ge k C.m with h1 | h1
   ·omega
   ·rw [h.low.1 k h1] at hy; cases hy
  rw [hr' k hk]
  exact h.stab k y hy hs
end

/-! ### Loops -/
theorem wp_loop_fam {P : Program} {Q : Exit → Act → World → Prop} {c : Code} (I : Nat → Act → World → Prop)
  (round : ∀ n a w, I n a w → c.wp P (Exit.then (fun a' w' => ∃ m, m < n ∧ I m a' w') Q) a w) {n0 : Nat} {a : Act} {w : World} (h₀ : I n0 a w) : (Code.loop c).wp P Q a w := by
 intro b k cs
 have key : ∀ n a w, I n a w →
   ∃ e a' w', Q e a' w' ∧ Arrives P (lone (b.at a (.code c :: .inLoop c :: k)) cs w) b k cs e a' w' := by
  intro n
  induction n using Nat.strongRecOn with
  | _ n ih =>
   intro a w hI
   obtain ⟨e, a₁, w₁, hq, harr⟩ := round n a w hI b (.inLoop c :: k) cs
   cases e with
   | normal =>
    obtain ⟨m, hlt, hI₁⟩ := hq
    obtain ⟨e₂, a₂, w₂, hq₂, harr₂⟩ := ih m hlt a₁ w₁ hI₁
    exact ⟨e₂, a₂, w₂, hq₂, .of_steps (Steps.trans harr (.one step_inLoop)) harr₂⟩
   | exit id => exact ⟨_, a₁, w₁, hq, .pass (x := .inLoop c) rfl (fun _ _ => .inl (by simp)) harr⟩
   | goto l => exact ⟨_, a₁, w₁, hq, .pass (x := .inLoop c) rfl (fun _ _ => .inl (by simp)) harr⟩
   | ret => exact ⟨_, a₁, w₁, hq, .pass (x := .inLoop c) rfl (fun _ _ => .inl (by simp)) harr⟩
   | panic ch => exact ⟨_, a₁, w₁, hq, .pass (x := .inLoop c) rfl (fun _ _ => .inl (by simp)) harr⟩
   | outgrown => exact ⟨_, a₁, w₁, hq, .pass (x := .inLoop c) rfl (fun _ _ => .inl (by simp)) harr⟩
 obtain ⟨e, a', w', hq, harr⟩ := key n0 a w h₀
 exact ⟨e, a', w', hq, .of_steps (.one step_loop) harr⟩
/-- How much is ahead, as cbv leaves it. -/
structure Ms where
 n : Nat
 i : Nat
def Ms.val (m : Ms) : Nat := m.n - m.i
/-- Behind a round: the family goes on, with less ahead. -/
structure RoundK {ι : Type} (M : Nat) (F : ι → St) (μ : ι → Ms) (n : Ms) (st : St) : Prop where
 out : ∃ st' j, Gh M st st' ∧ F j = st' ∧ (μ j).val < n.val
def XRound {ι : Type} (M : Nat) (F : ι → St) (μ : ι → Ms) (n : Ms) (Q : XEx → St → Prop) : XEx → St → Prop
 | .norm, st => RoundK M F μ n st
 | .exit id, st => Q (.exit id) st
 | .ret, st => Q .ret st
 | .goto l, st => Q (.goto l) st
theorem xloop {P : Program} {N M : Nat} {c : XCode} {Q : XEx → St → Prop} {st : St} {ι : Type} (F : ι → St) (μ : ι → Ms) (i0 : ι) (h0 : Gh M st (F i0)) (hr : ∀ i, XW P N M c (XRound M F μ (μ i) Q) (F i)) : XLoopG P N M c Q st := by
 refine ⟨fun code C a w r pub hc hN hM h => ?_⟩
 obtain ⟨r1, p1, h1⟩ := h0 C a w r pub hM h
 refine wp_loop_fam (fun n a w => ∃ i r pub, (μ i).val = n ∧ HoldsW C (F i) a w r pub) (fun n a w hI => ?_) (n0 := (μ i0).val) ⟨i0, r1, p1, rfl, h1⟩
 obtain ⟨i, r, pub, rfl, hh⟩ := hI
 refine wp_mono (xw_ok code c _ C (F i) a w r pub hc hN hM hh (hr i)) fun e a' w' hq => ?_
 cases e with
 | normal =>
  obtain ⟨st', r', pub', ⟨⟨st2, j, hg, rfl, hlt⟩⟩, hh'⟩ := hq
  obtain ⟨r2, p2, h2⟩ := hg C a' w' r' pub' hM hh'
  exact ⟨(μ j).val, hlt, j, r2, p2, rfl, h2⟩
 | exit id => exact hq
 | ret => exact hq
 | goto l => exact hq
 | panic ch => exact hq.elim
 | outgrown => exact hq.elim

/-! ### Scopes -/
theorem wp_scope_fam {P : Program} {Q : Exit → Act → World → Prop} {c rest : Code} {a : Act} {w : World} (l : Nat) (J : Nat → Act → World → Prop) (hf : findLabel c l = some rest)
  (first : c.wp P (Exit.jump l (fun a w => ∃ n, J n a w) Q) a w)
  (pass : ∀ n a w, J n a w → rest.wp P (Exit.jump l (fun a' w' => ∃ m, m < n ∧ J m a' w') Q) a w) : (Code.scope c).wp P Q a w := by
 intro b k cs
 have hg : gotoIn l (.inScope c :: k) = some (.code rest :: .inScope c :: k) := by simp [gotoIn, hf]
 have key : ∀ n a w, J n a w → ∃ e a' w', Q e a' w' ∧ Arrives P (lone (b.at a (.code rest :: .inScope c :: k)) cs w) b k cs e a' w' := by
  intro n
  induction n using Nat.strongRecOn with
  | _ n ih =>
   intro a w hJ
   obtain ⟨e, a₁, w₁, hq, harr⟩ := pass n a w hJ b (.inScope c :: k) cs
   cases e with
   | normal => exact ⟨.normal, a₁, w₁, hq, Steps.trans harr (.one step_inScope)⟩
   | exit id => exact ⟨.exit id, a₁, w₁, hq, fun k' hk => harr k' (by simp [exitTo, hk])⟩
   | goto l' =>
    obtain ⟨rfl, m, hlt, hJ'⟩ := hq
    obtain ⟨e₂, a₂, w₂, hq₂, harr₂⟩ := ih m hlt a₁ w₁ hJ'
    exact ⟨e₂, a₂, w₂, hq₂, .of_steps (harr _ hg) harr₂⟩
   | ret => exact ⟨_, a₁, w₁, hq, harr⟩
   | panic ch => exact ⟨_, a₁, w₁, hq, harr⟩
   | outgrown => exact ⟨_, a₁, w₁, hq, harr⟩
 obtain ⟨e, a₁, w₁, hq, harr⟩ := first b (.inScope c :: k) cs
 cases e with
 | normal => exact ⟨.normal, a₁, w₁, hq, .head step_scope (Steps.trans harr (.one step_inScope))⟩
 | exit id => exact ⟨.exit id, a₁, w₁, hq, fun k' hk => .head step_scope (harr k' (by simp [exitTo, hk]))⟩
 | goto l' =>
  obtain ⟨rfl, n, hJ'⟩ := hq
  obtain ⟨e₂, a₂, w₂, hq₂, harr₂⟩ := key n a₁ w₁ hJ'
  exact ⟨e₂, a₂, w₂, hq₂, .of_steps (.head step_scope (harr _ hg)) harr₂⟩
 | ret => exact ⟨_, a₁, w₁, hq, .of_steps (.one step_scope) harr⟩
 | panic ch => exact ⟨_, a₁, w₁, hq, .of_steps (.one step_scope) harr⟩
 | outgrown => exact ⟨_, a₁, w₁, hq, .of_steps (.one step_scope) harr⟩
/-- A jump: the family is entered. -/
structure JumpK {ι : Type} (M : Nat) (F : ι → St) (st : St) : Prop where
 out : ∃ st' j, Gh M st st' ∧ F j = st'
def XFirst {ι : Type} (M : Nat) (F : ι → St) (l : Nat) (Q : XEx → St → Prop) : XEx → St → Prop
 | .goto l', st => l' = l ∧ JumpK M F st
 | .norm, st => Q .norm st
 | .exit id, st => Q (.exit id) st
 | .ret, st => Q .ret st
def XJump {ι : Type} (M : Nat) (F : ι → St) (μ : ι → Ms) (n : Ms) (l : Nat) (Q : XEx → St → Prop) : XEx → St → Prop
 | .goto l', st => l' = l ∧ RoundK M F μ n st
 | .norm, st => Q .norm st
 | .exit id, st => Q (.exit id) st
 | .ret, st => Q .ret st
theorem xscope {P : Program} {N M : Nat} {c rest : XCode} {Q : XEx → St → Prop} {st : St} {ι : Type} (l : Nat) (F : ι → St) (μ : ι → Ms) (hf : XFind c l = some rest) (h0 : XW P N M c (XFirst M F l Q) st) (hr : ∀ i, XW P N M rest (XJump M F μ (μ i) l Q) (F i)) : XScopeG P N M c Q st := by
 refine ⟨fun code C a w r pub hc hN hM h => ?_⟩
 have hfl := XFind_ok l code c hc
 rw [hf] at hfl
 obtain ⟨rc, hrc, hcc⟩ := hfl
 refine wp_scope_fam l (fun n a w => ∃ i r pub, (μ i).val = n ∧ HoldsW C (F i) a w r pub) hrc (wp_mono (xw_ok code c _ C st a w r pub hc hN hM h h0) fun e a' w' hq => ?_) (fun n a w hI => ?_)
 ·cases e with
  | goto l' =>
   obtain ⟨st', r', pub', ⟨rfl, ⟨st2, j, hg, rfl⟩⟩, hh⟩ := hq
   obtain ⟨r2, p2, h2⟩ := hg C a' w' r' pub' hM hh
   exact ⟨rfl, (μ j).val, j, r2, p2, rfl, h2⟩
  | _ => exact hq
 ·obtain ⟨i, r, pub, rfl, hh⟩ := hI
  refine wp_mono (xw_ok rc rest _ C (F i) a w r pub hcc hN hM hh (hr i)) fun e a' w' hq => ?_
  cases e with
  | goto l' =>
   obtain ⟨st', r', pub', ⟨rfl, ⟨st2, j, hg, rfl, hlt⟩⟩, hh'⟩ := hq
   obtain ⟨r2, p2, h2⟩ := hg C a' w' r' pub' hM hh'
   exact ⟨rfl, (μ j).val, hlt, j, r2, p2, rfl, h2⟩
  | _ => exact hq

/-! ### Functions -/
inductive XRes where
 | tmp (t : Nat)
 | cell (t : Nat) (ag : Bool) (n : Nat)
def cRes (P : Program) : List ResultVar → Option (List XRes)
 | [] => some []
 | .tmp t :: l => (cRes P l).map (.tmp t :: ·)
 | .cell t ty :: l => match P.info? ty, isRow P ty, cRes P l with
  | some i, some ag, some r => if ag = false ∧ i.size ≠ 1 then none else some (.cell t ag i.size :: r)
  | _, _, _ => none
/-- The results' values. -/
def resW (st : St) : List XRes → (List AV → Prop) → Prop
 | [], K => K []
 | .tmp t :: l, K => resW st l fun r => K (tget st.T t :: r)
 | .cell t ag n :: l, K => match tget st.T t with
  | .ptr k off => match st.H[k]? with
   | some (.blk _ cs) => if ag = true then off + n ≤ cs.length ∧ resW st l fun r => K (.agg ((cs.drop off).take n) :: r) else match cs[off]? with
    | some x => resW st l fun r => K (x :: r)
    | none => False
   | _ => False
  | _ => False
def tupAV : List AV → AV
 | [x] => x
 | l => .tup l
structure XFn where
 n : Nat
 body : XCode
 res : List XRes
def cFn (P : Program) (f : Nat) : Option XFn :=
 match P.funcs[f]? with
 | some fn => match fn.body with
  | some c => match cCode P fn.ntmps c, cRes P fn.results.toList with
   | some x, some r => some ⟨fn.ntmps, x, r⟩
   | _, _ => none
  | none => none
 | none => none
def viewR (st : St) : AV → AV
 | .tup l => .tup (l.map st.view)
 | x => st.view x
/-- At a function's end: steps in thought, and the results; what a tip holds may be told. -/
structure FinK (M : Nat) (res : List XRes) (K : AV → List Ent → Prop) (st : St) : Prop where
 out : ∃ st', Gh M st st' ∧ resW st' res fun l => K (tupAV l) st'.H ∨ K (viewR st' (tupAV l)) st'.H
def FinQ (M : Nat) (res : List XRes) (K : AV → List Ent → Prop) : XEx → St → Prop
 | .norm => FinK M res K
 | .ret => FinK M res K
 | .exit _ => fun _ => False
 | .goto _ => fun _ => False
def numT : Nat → List AV → List (Nat × AV)
 | _, [] => []
 | n, x :: l => (n, x) :: numT (n + 1) l
/-- What a function asks of its arguments and of the entries that it is handed, and what it leaves. -/
abbrev Ctr := List AV → List Ent → (AV → List Ent → Prop) → Prop
def Foot (r : Rho) (b : Nat) : Prop := ∃ k y, r k = some y ∧ b ∈ foot y
def FnPost (K : AV → List Ent → Prop) (H : List Ent) (w : World) (r : Rho) (pub : Pub) (e : Ending) (w' : World) : Prop :=
 ∃ v x H' r' pub', e = .returned v ∧ K x H' ∧ VRel pub' w' r' x v ∧ Mod pub' w' r' H' ∧ Fr (Foot r) pub w pub' w' ∧ (∀ b, Foot r' b → Foot r b ∨ w.heap.size ≤ b) ∧ (∀ k y, r k = some y → isSl y = false → r' k = some y) ∧ H.length ≤ H'.length
def FnOk (P : Program) (f : Nat) (c : Ctr) : Prop :=
 ∀ (args : List AV) (H : List Ent) (K : AV → List Ent → Prop), c args H K → ∀ (w : World) (r : Rho) (pub : Pub) (vals : Array Value), Mod pub w r H → VRels pub w r args vals.toList → Calls P f vals w (FnPost K H w r pub)
theorem tget_num {l : List AV} : ∀ (k n : Nat), tget (numT k l) n = if k ≤ n then l.getD (n - k) .any else .any := by
 induction l with
 | nil => intro k n; simp [numT, tget]
 | cons x l ih =>
  intro k n
  simp only [numT, tget]
  by_cases h : k = n
  ·subst h; simp
  ·rw [if_neg h, ih]
   by_cases h2 : k + 1 ≤ n
   ·rw [if_pos h2, if_pos (by omega)]
    have : n - k = (n - (k + 1)) + 1 := by omega
    rw [this, List.getD_cons_succ]
   ·rw [if_neg h2]
    split
    ·exfalso; omega
    ·rfl
def resSem (tmps : Array Value) : ResultVar → Sem Value
 | .tmp t => pure (tmps.getD t undef)
 | .cell b t => do loadVar t (← asAddr (tmps.getD b undef))
theorem mapM_run {P : Program} {tmps : Array Value} {w : World} {x : ResultVar} {l : List ResultVar} {v : Value} {vs : List Value} (h : (resSem tmps x).run P w = .ok v w) (hl : (l.mapM (resSem tmps)).run P w = .ok vs w) : ((x :: l).mapM (resSem tmps)).run P w = .ok (v :: vs) w := by
 rw [List.mapM_cons, Sem.run_bind, h, Result.andThen_ok, Sem.run_bind, hl, Result.andThen_ok]
 rfl
theorem res_ok {P : Program} {C : Ctx} {st : St} {a : Act} {w : World} {r : Rho} {pub : Pub} (h : HoldsW C st a w r pub) : ∀ (l : List ResultVar) (xs : List XRes) (K : List AV → Prop), cRes P l = some xs → resW st xs K →
  ∃ vs ys, (l.mapM (resSem a.tmps)).run P w = .ok vs w ∧ VRels pub w r ys vs ∧ K ys
 | [], xs, K, hx, hK => by
  cases hx
  exact ⟨[], [], by simp, .nil, hK⟩
 | .tmp t :: l, xs, K, hx, hK => by
  unfold cRes at hx
  obtain ⟨y, hy, rfl⟩ := map_some hx
  obtain ⟨vs, ys, hr, hv, hk⟩ := res_ok h l y _ hy hK
  exact ⟨a.tmps.getD t undef :: vs, tget st.T t :: ys, mapM_run rfl hr, .cons (h.slots t) hv, hk⟩
 | .cell t ty :: l, xs, K, hx, hK => by
  unfold cRes at hx
  split at hx
  ·rename_i i ag y hi ha hy
   split at hx
   ·cases hx
   ·rename_i h0
    cases hx
    unfold resW at hK
    have hs := h.slots t
    generalize tget st.T t = z at hK hs
    cases z with
    | ptr k off =>
     dsimp only at hK
     generalize hva : a.tmps.getD t undef = va at hs
     cases hs with
     | @ptr _ _ b _ hr =>
      cases hk : st.H[k]? with
      | none => rw [hk] at hK; exact hK.elim
      | some e =>
       rw [hk] at hK
       cases e with
       | blk t' cs =>
        obtain ⟨b', arr, hr2, hb, hc, _⟩ := h.ent_blk hk
        rw [hr2] at hr
        simp only [Option.some.injEq, Value.pointer.injEq, Addr.mk.injEq, and_true] at hr
        subst hr
        have hal : arr.size = cs.length := by have := hc.len; simpa using this
        have hcell : ∀ q u, arr[q]? = some u → w.cell? ⟨b', q, none⟩ = some u := fun q u hq => by rw [hb.all]; exact hq
        cases ag with
        | true =>
         simp only [if_true] at hK
         obtain ⟨hle, hK⟩ := hK
         obtain ⟨vs, ys, hr3, hv, hkk⟩ := res_ok h l y _ hy hK
         have hload : (loadVar ty ⟨b', off, none⟩).run P w = .ok (.agg ((arr.toList.drop off).take i.size).toArray) w := by
          have hlen : ((arr.toList.drop off).take i.size).length = i.size := by simp; omega
          have hl : (loadCells ⟨b', off, none⟩ i.size).run P w = .ok ((arr.toList.drop off).take i.size).toArray w := by
           have := run_loadCells_list (P := P) w ⟨b', off, none⟩ ((arr.toList.drop off).take i.size) (fun j v hj => by
            rw [Addr.add_lit]
            rw [List.getElem?_take] at hj
            split at hj
            ·rw [List.getElem?_drop, Array.getElem?_toList] at hj
             exact hcell _ _ hj
            ·cases hj)
           rw [hlen] at this
           exact this
          simp [loadVar, Sem.run_bind, isAgg_run ha, sizeOf, typeInfo, hi, hl]
         refine ⟨_, _, mapM_run (by show (asAddr (a.tmps.getD t undef) >>= fun b => loadVar ty b).run P w = _; rw [hva]; simp only [asAddr, Sem.run_bind, Sem.run_pure, Result.andThen_ok]; exact hload) hr3, .cons (.agg ?_ fun q x u hx hu => ?_) hv, hkk⟩
         ·simp; omega
         ·rw [List.getElem?_toArray] at hu
          exact ((hc.drop off).take i.size).at_ q x u hx hu
        | false =>
         simp only [Bool.false_eq_true, if_false] at hK
         cases hy2 : cs[off]? with
         | none => rw [hy2] at hK; exact hK.elim
         | some z =>
          rw [hy2] at hK
          obtain ⟨vs, ys, hr3, hv, hkk⟩ := res_ok h l y _ hy hK
          obtain ⟨u, hu, hvu⟩ := hc.get hy2
          rw [Array.getElem?_toList] at hu
          have hload : (loadVar ty ⟨b', off, none⟩).run P w = .ok u w := by
           simp [loadVar, Sem.run_bind, isAgg_run ha, run_load, hcell off u hu]
          exact ⟨u :: vs, z :: ys, mapM_run (by show (asAddr (a.tmps.getD t undef) >>= fun b => loadVar ty b).run P w = _; rw [hva]; simp only [asAddr, Sem.run_bind, Sem.run_pure, Result.andThen_ok]; exact hload) hr3, .cons hvu hv, hkk⟩
       | _ => exact hK.elim
    | _ => exact hK.elim
  ·cases hx
/-- What is held of code, without its steps. -/
structure SemW (P : Program) (N M : Nat) (c : XCode) (Q : XEx → St → Prop) (st : St) : Prop where
 out : ∀ (code : Code) (C : Ctx) (a : Act) (w : World) (r : Rho) (pub : Pub), cCode P N code = some c → C.n = N → C.m = M → HoldsW C st a w r pub → code.wp P (QX C Q) a w
section
variable {P : Program} {N M : Nat}
theorem SemW.of {c : XCode} {Q : XEx → St → Prop} {st : St} (h : XW P N M c Q st) : SemW P N M c Q st := ⟨fun code C a w r pub hx hN hM hh => xw_ok code c Q C st a w r pub hx hN hM hh h⟩
theorem SemW.gh {c : XCode} {Q : XEx → St → Prop} {st st' : St} (g : Gh M st st') (h : SemW P N M c Q st') : SemW P N M c Q st := ⟨fun code C a w r pub hx hN hM hh => by
 obtain ⟨r', pub', h'⟩ := g C a w r pub hM hh
 exact h.out code C a w r' pub' hx hN hM h'⟩
theorem SemW.seq {a b : XCode} {Q : XEx → St → Prop} {st : St} (h : SemW P N M a (XThen (SemW P N M b Q) Q) st) : SemW P N M (.seq a b) Q st := ⟨fun code C act w r pub hx hN hM hh => by
 cases code with
 | seq c1 c2 =>
  unfold cCode at hx
  split at hx
  ·rename_i x1 x2 h1 h2
   cases hx
   refine wp_seq (wp_mono (h.out c1 C act w r pub h1 hN hM hh) fun e a' w' hq => ?_)
   cases e with
   | normal =>
    obtain ⟨st', r', pub', hk, hh⟩ := hq
    exact hk.out c2 C a' w' r' pub' h2 hN hM hh
   | exit id => exact hq
   | ret => exact hq
   | goto l => exact hq
   | panic ch => exact hq.elim
   | outgrown => exact hq.elim
  ·cases hx
 | region id ops draw =>
  unfold cCode at hx
  cases draw with
  | false =>
   simp only [Bool.false_eq_true, if_false] at hx
   obtain ⟨l, hl, h⟩ := map_some hx
   cases h
  | true =>
   simp only [if_true] at hx
   split at hx
   ·obtain ⟨p, hp, h⟩ := map_some hx
    cases h
   ·cases hx
 | cond c c1 c2 =>
  unfold cCode at hx
  split at hx <;> cases hx
 | block id c => unfold cCode at hx; obtain ⟨y, hy, h⟩ := map_some hx; cases h
 | loop c => unfold cCode at hx; obtain ⟨y, hy, h⟩ := map_some hx; cases h
 | scope c => unfold cCode at hx; obtain ⟨y, hy, h⟩ := map_some hx; cases h
 | _ => cases hx⟩
end
/-- A function's contract off its own code. -/
theorem fn_okC {P : Program} {f : Nat} {fn : Func} {code : Code} {z : List XRes} (c : Ctr) (hf : P.funcs[f]? = some fn) (hb : fn.body = some code) (hz : cRes P fn.results.toList = some z) (h : ∀ args H K, c args H K → args.length ≤ fn.ntmps ∧ ∀ (C : Ctx) (a : Act) (w : World) (r : Rho) (pub : Pub), C.n = fn.ntmps → C.m = H.length → HoldsW C ⟨numT 0 args, H⟩ a w r pub → code.wp P (QX C (FinQ H.length z K)) a w) : FnOk P f c := by
  intro args H K hc w r pub vals hm hv
  obtain ⟨hn, hw⟩ := h args H K hc
  have hlen : vals.size = args.length := by have := hv.len; simpa using this
  have hh : HoldsW ⟨Foot r, pub, w, fn.ntmps, H.length, r⟩ ⟨numT 0 args, H⟩ { tmps := vals ++ Array.replicate (fn.ntmps - vals.size) undef, defers := [] } w r pub := by
   refine ⟨hm, fun k x hx b hb => .inl ⟨k, x, hx, hb⟩, Fr.refl _ _ _, fun n => ?_, rfl, by have hn' : args.length ≤ fn.ntmps := hn; show (vals ++ Array.replicate (fn.ntmps - vals.size) undef).size = fn.ntmps; rw [Array.size_append, Array.size_replicate]; omega, fun k y hy _ => hy, hm.none_, Nat.le_refl _⟩
   rw [tget_num, if_pos (Nat.zero_le _), Nat.sub_zero]
   by_cases hna : n < args.length
   ·have e1 : (vals ++ Array.replicate (fn.ntmps - vals.size) undef).getD n undef = vals[n]'(by omega) := by
     rw [Array.getD_eq_getD_getElem?, Array.getElem?_append_left (by omega), Array.getElem?_eq_getElem (by omega)]
     rfl
    rw [List.getD_eq_getElem?_getD, List.getElem?_eq_getElem hna]
    dsimp only
    rw [e1]
    exact hv.at_ n _ _ (List.getElem?_eq_getElem hna) (by rw [Array.getElem?_toList]; exact Array.getElem?_eq_getElem (by omega))
   ·rw [List.getD_eq_getElem?_getD, List.getElem?_eq_none (by omega)]
    exact .any _
  refine calls_of_wp hf hb (wp_mono (hw _ _ w r pub rfl rfl hh) fun e a' w' hq => ?_)
  have fin : OutK ⟨Foot r, pub, w, fn.ntmps, H.length, r⟩ (FinK H.length z K) a' w' → a'.defers = [] ∧ ∃ v, (results fn a'.tmps).run P w' = .ok v w' ∧ FnPost K H w r pub (.returned v) w' := fun ⟨st, r1, p1, ⟨⟨st', hg, hres⟩⟩, hh1⟩ => by
   obtain ⟨r2, p2, h2⟩ := hg _ _ _ _ _ rfl hh1
   refine ⟨h2.defers, ?_⟩
   obtain ⟨vs, ys, hrun, hvs, hk⟩ := res_ok h2 fn.results.toList z _ hz hres
   have hr : (results fn a'.tmps).run P w' = .ok (if h : vs.toArray.size = 1 then vs.toArray[0] else .tuple vs.toArray) w' := by
    have e1 : results fn a'.tmps = (do
      let vs ← fn.results.mapM (resSem a'.tmps)
      pure (if h : vs.size = 1 then vs[0] else .tuple vs)) := by
     unfold results
     congr 1
    rw [e1, Array.mapM_eq_mapM_toList, Sem.run_bind, Sem.run_map, hrun]
    rfl
   have hval : VRel p2 w' r2 (tupAV ys) (if h : vs.toArray.size = 1 then vs.toArray[0] else .tuple vs.toArray) := by
    have hl := hvs.len
    split
    ·rename_i h1
     cases ys with
     | nil => have k1 : vs.length = 1 := (by simpa using h1); have k2 : vs.length = 0 := hl; omega
     | cons y1 ys =>
      cases ys with
      | nil =>
       obtain ⟨u, us', rfl, hu, hu'⟩ := hvs.cons_inv
       exact hu
      | cons y2 ys => have k1 : vs.length = 1 := (by simpa using h1); have k2 : vs.length = ys.length + 2 := hl; omega
    ·rename_i h1
     have : tupAV ys = .tup ys := by
      cases ys with
      | nil => rfl
      | cons y1 ys =>
       cases ys with
       | nil => have k1 : ¬ vs.length = 1 := (by simpa using h1); have k2 : vs.length = 1 := hl; omega
       | cons y2 ys => rfl
     rw [this]
     exact .tup (by simpa using hl) fun i x u hx hu => hvs.at_ i x u hx (by simpa using hu)
   have hview : ∀ {y : AV} {v : Value}, VRel p2 w' r2 y v → VRel p2 w' r2 (viewR st' y) v := fun {y v} hyv => by
    have hyv0 := hyv
    cases hyv with
    | @tup _ l arr hl hc =>
     unfold viewR
     refine .tup (by simpa using hl) fun i x u hx hu => ?_
     rw [List.getElem?_map] at hx
     cases hq : l[i]? with
     | none => rw [hq] at hx; cases hx
     | some q => rw [hq] at hx; cases hx; exact h2.view (hc i q u hq hu)
    | _ => exact h2.view hyv0
   refine ⟨_, hr, ?_⟩
   have own : ∀ b, Foot r2 b → Foot r b ∨ w.heap.size ≤ b := fun b ⟨k, y, hy, hb⟩ => h2.own k y hy b hb
   rcases hk with hk | hk
   ·exact ⟨_, _, _, r2, p2, rfl, hk, hval, h2.mod, h2.fr, own, h2.stab, h2.low.2⟩
   ·exact ⟨_, _, _, r2, p2, rfl, hk, hview hval, h2.mod, h2.fr, own, h2.stab, h2.low.2⟩
  cases e with
  | normal => exact fin hq
  | ret => exact fin hq
  | exit id => obtain ⟨_, _, _, hk, _⟩ := hq; exact hk.elim
  | goto l => obtain ⟨_, _, _, hk, _⟩ := hq; exact hk.elim
  | panic ch => exact hq.elim
  | outgrown => exact hq.elim
theorem fn_okS {P : Program} {f : Nat} {x : XFn} (c : Ctr) (hx : cFn P f = some x) (h : ∀ args H K, c args H K → args.length ≤ x.n ∧ SemW P x.n H.length x.body (FinQ H.length x.res K) ⟨numT 0 args, H⟩) : FnOk P f c := by
 unfold cFn at hx
 cases hf : P.funcs[f]? with
 | none => rw [hf] at hx; cases hx
 | some fn =>
  rw [hf] at hx
  cases hb : fn.body with
  | none => simp only [hb] at hx; cases hx
  | some code =>
   simp only [hb] at hx
   split at hx
   ·rename_i y z hy hz
    cases hx
    exact fn_okC c hf hb hz fun args H K hc => ⟨(h args H K hc).1, fun C a w r pub hN hM hh => (h args H K hc).2.out code C a w r pub hy hN hM hh⟩
   ·cases hx
theorem fn_ok {P : Program} {f : Nat} {x : XFn} (c : Ctr) (hx : cFn P f = some x) (h : ∀ args H K, c args H K → args.length ≤ x.n ∧ XW P x.n H.length x.body (FinQ H.length x.res K) ⟨numT 0 args, H⟩) : FnOk P f c :=
 fn_okS c hx fun args H K hc => ⟨(h args H K hc).1, .of (h args H K hc).2⟩
end Go.Proofs.YtpcfdpengbkplaaDoor
/-
 A call by a function's contract: the entries that it is handed are the caller's by other numbers; all else stays.
-/
namespace Go.Proofs.YtpcfdpengbkplaaDoor
open Go.RowKit

/-! ### What named a row that a callee may have moved -/
def rowIds : List Nat → List Ent → List Nat
 | k :: s, e :: l => match e.turns with
  | true => k :: rowIds s l
  | false => rowIds s l
 | _, _ => []
def killTs (T : List (Nat × AV)) : List Nat → List (Nat × AV)
 | [] => T
 | k :: s => killTs (tkill k .any T) s
def killHs (H : List Ent) : List Nat → List Ent
 | [] => H
 | k :: s => killHs (H.map (Ent.kill k .any)) s
def without (r : Rho) (l : List Nat) : Rho := fun k => if k ∈ l then none else r k
theorem killHs_len : ∀ (l : List Nat) (H : List Ent), (killHs H l).length = H.length
 | [], H => rfl
 | k :: s, H => by unfold killHs; rw [killHs_len s]; simp
theorem without_cons (r : Rho) (k : Nat) (l : List Nat) : without r (k :: l) = without (without r [k]) l := by
 funext n
 simp only [without, List.mem_cons, List.not_mem_nil, or_false]
 by_cases h1 : n = k <;> by_cases h2 : n ∈ l <;> simp [h1, h2]
theorem kill_without {pub : Pub} {w : World} {r : Rho} {x : AV} {v : Value} (k : Nat) (h : VRel pub w r x v) : VRel pub w (without r [k]) (x.kill k .any) v :=
 h.kill (fun m hm => by simp [without, hm]) (fun z _ => .any _)
theorem killTs_get {pub : Pub} {w : World} {v : Value} {n : Nat} : ∀ (l : List Nat) (T : List (Nat × AV)) (r : Rho), VRel pub w r (tget T n) v → VRel pub w (without r l) (tget (killTs T l) n) v
 | [], T, r, h => by
  unfold killTs
  exact h.mono fun m y hy => by simpa [without] using hy
 | k :: s, T, r, h => by
  unfold killTs
  rw [without_cons]
  refine killTs_get s _ _ ?_
  rw [tget_kill]
  exact kill_without k h
theorem killHs_get {pub : Pub} {w : World} {hd : Option Value} : ∀ (l : List Nat) (H : List Ent) (r : Rho) (n : Nat) (e : Ent), (killHs H l)[n]? = some e → ∃ e0, H[n]? = some e0 ∧ (ERel pub w r hd e0 → ERel pub w (without r l) hd e)
 | [], H, r, n, e, h => ⟨e, h, fun he => he.frm (S := fun _ => False) (Fr.refl _ _ _) (fun _ _ _ _ h => h) (fun m y hy => by simpa [without] using hy)⟩
 | k :: s, H, r, n, e, h => by
  unfold killHs at h
  obtain ⟨e1, h1, h2⟩ := killHs_get (pub := pub) (w := w) (hd := hd) s _ (without r [k]) n e h
  rw [List.getElem?_map] at h1
  cases h0 : H[n]? with
  | none => rw [h0] at h1; cases h1
  | some e0 =>
   rw [h0] at h1
   cases h1
   refine ⟨e0, rfl, fun he => ?_⟩
   rw [without_cons]
   refine h2 ?_
   exact he.kill (S := fun _ => False) (Fr.refl _ _ _) (fun _ _ _ _ h => h) (fun m hm => by simp [without, hm]) (fun z _ => .any _)
/-- The callee's entries, put back. -/
def putE : List Ent → List Nat → List Ent → List Ent
 | H, [], L => H ++ L
 | H, k :: s, e :: L => putE (H.set k e) s L
 | H, _ :: _, [] => H
theorem putE_len : ∀ (s : List Nat) (L H : List Ent), s.length ≤ L.length → (putE H s L).length = H.length + (L.length - s.length)
 | [], L, H, _ => by simp [putE]
 | k :: s, e :: L, H, h => by
  unfold putE
  rw [putE_len s L _ (by simpa using h)]
  simp
 | k :: s, [], H, h => by simp at h
theorem sigma_lt {s : List Nat} {base i : Nat} (h : i < s.length) : sigma s base i = s[i] := by
 induction s generalizing i with
 | nil => simp at h
 | cons k s ih =>
  cases i with
  | zero => rfl
  | succ i => simp only [sigma]; exact ih (by simpa using h)
theorem sigma_ge {s : List Nat} {base i : Nat} (h : s.length ≤ i) : sigma s base i = base + (i - s.length) := by
 induction s generalizing i with
 | nil => rfl
 | cons k s ih =>
  cases i with
  | zero => simp at h
  | succ i => simp only [sigma]; rw [ih (by simpa using h)]; simp
theorem putE_get : ∀ (s : List Nat) (L H : List Ent) (n : Nat) (e : Ent), s.Nodup → (∀ k ∈ s, k < H.length) → s.length ≤ L.length → (putE H s L)[n]? = some e → (∃ i, sigma s H.length i = n ∧ L[i]? = some e) ∨ (n ∉ s ∧ n < H.length ∧ H[n]? = some e)
 | [], L, H, n, e, _, _, _, h => by
  unfold putE at h
  by_cases hn : n < H.length
  ·rw [List.getElem?_append_left hn] at h
   exact .inr ⟨by simp, hn, h⟩
  ·rw [List.getElem?_append_right (by omega)] at h
   exact .inl ⟨n - H.length, by simp [sigma]; omega, h⟩
 | k :: s, [], H, n, e, _, _, hl, _ => by simp at hl
 | k :: s, e0 :: L, H, n, e, hd, hlt, hl, h => by
  unfold putE at h
  obtain ⟨hd1, hd2⟩ := List.nodup_cons.1 hd
  rcases putE_get s L (H.set k e0) n e hd2 (fun q hq => by simpa using hlt q (by simp [hq])) (by simpa using hl) h with ⟨i, hi, hL⟩ | ⟨hn, hnl, hH⟩
  ·rw [List.length_set] at hi
   exact .inl ⟨i + 1, hi, by simpa using hL⟩
  ·rw [List.length_set] at hnl
   by_cases hkn : k = n
   ·subst hkn
    rw [List.getElem?_set_self hnl] at hH
    cases hH
    exact .inl ⟨0, rfl, rfl⟩
   ·rw [List.getElem?_set_ne hkn] at hH
    exact .inr ⟨by simp [hn, Ne.symm hkn], hnl, hH⟩
end Go.Proofs.YtpcfdpengbkplaaDoor
/-
 A call by a function's contract.
-/
namespace Go.Proofs.YtpcfdpengbkplaaDoor
open Go.RowKit

theorem nodup_inj {l : List Nat} (h : l.Nodup) {i j : Nat} {hi : i < l.length} {hj : j < l.length} (e : l[i] = l[j]) : i = j := by
 rcases Nat.lt_trichotomy i j with h1 | h1 | h1
 ·exact absurd e (List.pairwise_iff_getElem.1 h i j hi hj h1)
 ·exact h1
 ·exact absurd e.symm (List.pairwise_iff_getElem.1 h j i hj hi h1)
theorem rowIds_of {s : List Nat} {H0 : List Ent} {i : Nat} {e : Ent} (h : H0[i]? = some e) (ht : e.turns = true) (hi : i < s.length) : s[i] ∈ rowIds s H0 := by
 induction s generalizing i H0 with
 | nil => simp at hi
 | cons k s ih =>
  cases H0 with
  | nil => simp at h
  | cons d l =>
   cases i with
   | zero =>
    simp at h
    subst h
    simp [rowIds, ht]
   | succ i =>
    have := ih (i := i) (H0 := l) (by simpa using h) (by simpa using hi)
    unfold rowIds
    cases d.turns
    ·exact this
    ·exact List.mem_cons_of_mem _ this
/-- THE CALL. -/
theorem callG_of {P : Program} {f : Nat} {c : Ctr} (hf : FnOk P f c) (sel : List Nat) {args0 : List AV} {H0 : List Ent} {keep : List Nat} {args : List AV} {st : St} {K : AV → St → Prop}
  (ha : args = AV.renL sel st.H.length args0) (hlen : sel.length = H0.length) (hnd : sel.Nodup) (hlt : ∀ k ∈ sel, k < st.H.length) (hH : sel.map (fun k => st.H[k]?) = (renH sel st.H.length H0).map some)
  (hb : AV.bndL H0.length args0 = true) (hbH : bndH H0.length H0 = true) (hkeep : ∀ k ∈ keep, k ∉ sel ∧ k < st.H.length)
  (hc : c args0 H0 fun x H' => K (x.ren sel st.H.length) ⟨killTs st.T (rowIds sel H0), putE (killHs st.H (rowIds sel H0)) sel (renH sel st.H.length H')⟩) : CallG P keep f args st K := by
 refine ⟨fun C a w r pub vals h hv => ?_⟩
 let r0 : Rho := fun i => if i < sel.length then r (sigma sel st.H.length i) else none
 have hr0 : ∀ i y, r0 i = some y → i < sel.length ∧ r (sigma sel st.H.length i) = some y := fun i y hy => by
  by_cases hi : i < sel.length
  ·simp only [r0, if_pos hi] at hy; exact ⟨hi, hy⟩
  ·simp only [r0, if_neg hi] at hy; cases hy
 have hr0' : ∀ i, i < sel.length → r0 i = r (sigma sel st.H.length i) := fun i hi => if_pos hi
 have hsi : ∀ i (hi : i < sel.length), sigma sel st.H.length i = sel[i] := fun i hi => sigma_lt hi
 have hinj : ∀ i j, i < sel.length → j < sel.length → sigma sel st.H.length i = sigma sel st.H.length j → i = j := fun i j hi hj e => by
  rw [hsi i hi, hsi j hj] at e
  exact nodup_inj hnd e
 have hent : ∀ i e, H0[i]? = some e → st.H[sigma sel st.H.length i]? = some (e.ren sel st.H.length) := fun i e he => by
  have hi : i < sel.length := by rw [hlen]; exact (List.getElem?_eq_some_iff.1 he).1
  have h1 := congrArg (fun l => l[i]?) hH
  simp only [List.getElem?_map, renH_map, he, Option.map_some, List.getElem?_eq_getElem hi] at h1
  rw [hsi i hi]
  simpa using h1
 -- what the callee is handed
 have hm0 : Mod pub w r0 H0 := by
  refine ⟨fun i e he => ?_, fun i hi => if_neg (by omega), fun i j x y hij hx hy => ?_, h.mod.fresh, h.mod.there, h.mod.glob⟩
  ·have hi : i < sel.length := by rw [hlen]; exact (List.getElem?_eq_some_iff.1 he).1
   have he1 := h.mod.ent _ _ (hent i e he)
   have hbe := bndH_get hbH i e he
   rw [hr0' i hi]
   exact he1.unren hbe fun k y hkb hy => by rw [hr0' k (by omega)]; exact hy
  ·obtain ⟨hi, hx⟩ := hr0 i x hx
   obtain ⟨hj, hy⟩ := hr0 j y hy
   exact h.mod.disj _ _ x y (fun e => hij (hinj i j hi hj e)) hx hy
 have hv0 : VRels pub w r0 args0 vals.toList := by
  subst ha
  refine ⟨by have := hv.len; rw [AV.renL_map, List.length_map] at this; exact this, fun q x u hx hu => ?_⟩
  refine (hv.at_ q (x.ren sel st.H.length) u (by rw [AV.renL_map, List.getElem?_map, hx]; rfl) hu).unren x rfl fun k y hk hy => ?_
  have hkb : k < H0.length := AV.bnd_has _ (AV.bndL_mem hx hb) hk
  rw [hr0' k (by omega)]
  exact hy
 refine (hf args0 H0 _ hc w r0 pub vals hm0 hv0).mono fun e w' hpost => ?_
 obtain ⟨v, x, H', r1, pub', rfl, hK, hvx, hm1, hfr, hown, hstab, hlen'⟩ := hpost
 -- the handles behind the call
 let r' : Rho := fun k => match sel.idxOf? k with
  | some i => r1 i
  | none => if st.H.length ≤ k then r1 (sel.length + (k - st.H.length)) else r k
 have hr'sel : ∀ i (hi : i < sel.length), r' sel[i] = r1 i := fun i hi => by
  have : sel.idxOf? sel[i] = some i := by
   rw [List.idxOf?_eq_some_iff]
   exact ⟨hi, rfl, fun j hj => by
    intro e
    have := nodup_inj hnd e
    omega⟩
  simp only [r', this]
 have hidx : ∀ k, k ∉ sel → sel.idxOf? k = none := fun k hk => by rw [List.idxOf?_eq_none_iff]; exact hk
 have hr'new : ∀ k, st.H.length ≤ k → r' k = r1 (sel.length + (k - st.H.length)) := fun k hk => by
  have hkn : k ∉ sel := fun hk' => by have := hlt k hk'; omega
  simp only [r', hidx k hkn, if_pos hk]
 have hr'old : ∀ k, k ∉ sel → k < st.H.length → r' k = r k := fun k hk hkl => by
  simp only [r', hidx k hk, if_neg (by omega : ¬ st.H.length ≤ k)]
 have hsig : ∀ i, r' (sigma sel st.H.length i) = r1 i := fun i => by
  by_cases hi : i < sel.length
  ·rw [hsi i hi]; exact hr'sel i hi
  ·rw [sigma_ge (by omega), hr'new _ (by omega)]
   congr 1
   omega
 have hcase : ∀ k, (∃ i, sigma sel st.H.length i = k) ∨ (k ∉ sel ∧ k < st.H.length) := fun k => by
  by_cases hk : k ∈ sel
  ·obtain ⟨i, hi, rfl⟩ := List.getElem_of_mem hk
   exact .inl ⟨i, hsi i hi⟩
  ·by_cases hkl : k < st.H.length
   ·exact .inr ⟨hk, hkl⟩
   ·exact .inl ⟨sel.length + (k - st.H.length), by rw [sigma_ge (by omega)]; omega⟩
 have hsinj : ∀ i j, sigma sel st.H.length i = sigma sel st.H.length j → i = j := fun i j e => by
  by_cases hi : i < sel.length
  ·by_cases hj : j < sel.length
   ·exact hinj i j hi hj e
   ·rw [hsi i hi, sigma_ge (by omega)] at e
    have := hlt sel[i] (List.getElem_mem hi)
    omega
  ·by_cases hj : j < sel.length
   ·rw [hsi j hj, sigma_ge (by omega)] at e
    have := hlt sel[j] (List.getElem_mem hj)
    omega
   ·rw [sigma_ge (by omega), sigma_ge (by omega)] at e
    omega
 -- the other entries' blocks
 have hfoot : ∀ k y, k ∉ sel → r k = some y → ∀ b ∈ foot y, ¬ Foot r0 b := fun k y hk hy b hb' ⟨i, z, hz, hbz⟩ => by
  obtain ⟨hi, hz⟩ := hr0 i z hz
  rw [hsi i hi] at hz
  exact h.mod.disj k sel[i] y z (fun e => hk (by rw [e]; exact List.getElem_mem hi)) hy hz b hb' hbz
 have hkeepr : ∀ n y, without r (rowIds sel H0) n = some y → r' n = some y := fun n y hy => by
  unfold without at hy
  split at hy
  ·cases hy
  ·rename_i hnr
   by_cases hn : n ∈ sel
   ·obtain ⟨i, hi, rfl⟩ := List.getElem_of_mem hn
    rw [hr'sel i hi]
    refine hstab i y (by rw [hr0' i hi, hsi i hi]; exact hy) ?_
    -- a slice's handle is a row's
    have hi0 : i < H0.length := by omega
    have he := hm0.ent i _ (List.getElem?_eq_getElem hi0)
    rw [hr0' i hi, hsi i hi, hy] at he
    refine he.turns ?_
    cases ht : H0[i].turns with
    | false => rfl
    | true => exact absurd (rowIds_of (List.getElem?_eq_getElem hi0) ht hi) hnr
   ·have hnl : n < st.H.length := by
     rcases Nat.lt_or_ge n st.H.length with h1 | h1
     ·exact h1
     ·rw [h.mod.none_ n h1] at hy; cases hy
    rw [hr'old n hn hnl]
    exact hy
 have hsl : sel.length ≤ (renH sel st.H.length H').length := by rw [renH_map, List.length_map]; omega
 have hkl := killHs_len (rowIds sel H0) st.H
 have hnl : (putE (killHs st.H (rowIds sel H0)) sel (renH sel st.H.length H')).length = st.H.length + (H'.length - sel.length) := by
  rw [putE_len _ _ _ hsl, hkl, renH_map, List.length_map]
 have hownb : ∀ b, Foot r0 b → C.S b ∨ C.w.heap.size ≤ b := fun b ⟨i, z, hz, hbz⟩ => by
  obtain ⟨hi, hz⟩ := hr0 i z hz
  exact h.own _ z hz b hbz
 have hmod : Mod pub' w' r' (putE (killHs st.H (rowIds sel H0)) sel (renH sel st.H.length H')) := by
  refine ⟨fun k e he => ?_, fun k hk => ?_, fun i j x y hij hx hy => ?_, hm1.fresh, hm1.there, hm1.glob⟩
  ·rcases putE_get sel _ _ k e hnd (fun q hq => by rw [hkl]; exact hlt q hq) hsl he with ⟨i, hi, hL⟩ | ⟨hk, hkl2, he2⟩
   ·rw [hkl] at hi
    subst hi
    rw [hsig i]
    rw [renH_map, List.getElem?_map] at hL
    cases hq : H'[i]? with
    | none => rw [hq] at hL; cases hL
    | some e1 =>
     rw [hq] at hL
     cases hL
     have he1 := hm1.ent i e1 hq
     exact he1.ren fun m y hy => by rw [hsig m]; exact hy
   ·rw [hkl] at hkl2
    rw [hr'old k hk hkl2]
    obtain ⟨e0, h0, h1⟩ := killHs_get (pub := pub') (w := w') (hd := r k) (rowIds sel H0) st.H r k e he2
    have he0 := (h.mod.ent k e0 h0).frm (r' := r) hfr (fun y hy b hb => hfoot k y hk hy b hb) (fun _ _ h => h)
    exact (h1 he0).frm (S := fun _ => False) (Fr.refl _ _ _) (fun _ _ _ _ h => h) hkeepr
  ·rw [hnl] at hk
   rw [hr'new k (by omega)]
   exact hm1.none_ _ (by omega)
  ·-- apart
   have far : ∀ i k y z, r1 i = some y → k ∉ sel → k < st.H.length → r k = some z → ∀ b ∈ foot y, b ∉ foot z := fun i k y z hy hk hkl hz b hb' hbz => by
    rcases hown b ⟨i, y, hy, hb'⟩ with h1 | h1
    ·exact hfoot k z hk hz b hbz h1
    ·have := h.mod.foot_lt hz b hbz
     omega
   rcases hcase i with ⟨i0, rfl⟩ | ⟨hi1, hi2⟩
   ·rw [hsig i0] at hx
    rcases hcase j with ⟨j0, rfl⟩ | ⟨hj1, hj2⟩
    ·rw [hsig j0] at hy
     exact hm1.disj i0 j0 x y (fun e => hij (by rw [e])) hx hy
    ·rw [hr'old j hj1 hj2] at hy
     exact far i0 j x y hx hj1 hj2 hy
   ·rw [hr'old i hi1 hi2] at hx
    rcases hcase j with ⟨j0, rfl⟩ | ⟨hj1, hj2⟩
    ·rw [hsig j0] at hy
     exact fun b hb' hby => far j0 i y x hy hi1 hi2 hx b hby hb'
    ·rw [hr'old j hj1 hj2] at hy
     exact h.mod.disj i j x y hij hx hy
 refine ⟨v, _, _, r', pub', rfl, hvx.ren (fun k y hy => by rw [hsig k]; exact hy), hK, ⟨hmod, fun k y hy b hb' => ?_, h.fr.trans hfr (fun b hb' => hownb b hb'), fun n => ?_, h.defers, h.size, fun k y hy hs => ?_, ⟨h.low.1, by dsimp only; rw [hnl]; have := h.low.2; omega⟩⟩, hfr.ext, fun k hk => ?_⟩
 ·rcases hcase k with ⟨i0, rfl⟩ | ⟨hk1, hk2⟩
  ·rw [hsig i0] at hy
   rcases hown b ⟨i0, y, hy, hb'⟩ with h1 | h1
   ·exact hownb b h1
   ·right; have := h.fr.size; omega
  ·rw [hr'old k hk1 hk2] at hy
   exact h.own k y hy b hb'
 ·exact ((killTs_get (rowIds sel H0) st.T r (h.slots n)).ext hfr.ext).mono hkeepr
 ·have h1 := h.stab k y hy hs
  have hkl3 : k < st.H.length := by
   rcases Nat.lt_or_ge k st.H.length with h2 | h2
   ·exact h2
   ·rw [h.mod.none_ k h2] at h1; cases h1
  by_cases hk : k ∈ sel
  ·obtain ⟨i, hi, rfl⟩ := List.getElem_of_mem hk
   rw [hr'sel i hi]
   exact hstab i y (by rw [hr0' i hi, hsi i hi]; exact h1) hs
  ·rw [hr'old k hk hkl3]
   exact h1
 ·obtain ⟨hk1, hk2⟩ := hkeep k hk
  refine ⟨hr'old k hk1 hk2, fun y hy b hb' => (hfr.keep b (h.mod.foot_lt hy b hb') (hfoot k y hk1 hy b hb')).1⟩
mutual
theorem AV.ren_id {s : List Nat} {base : Nat} : ∀ (x : AV), x.bnd 0 = true → x.ren s base = x
 | .any, _ => by unfold AV.ren; rfl
 | .bl _, _ => by unfold AV.ren; rfl
 | .int _ _, _ => by unfold AV.ren; rfl
 | .str _, _ => by unfold AV.ren; rfl
 | .v _, _ => by unfold AV.ren; rfl
 | .sl _ _, _ => by unfold AV.ren; rfl
 | .rp _ _, _ => by unfold AV.ren; rfl
 | .ptr k _, h => by simp [AV.bnd] at h
 | .hd k, h => by simp [AV.bnd] at h
 | .ph k, h => by simp [AV.bnd] at h
 | .re k _ _ _, h => by simp [AV.bnd] at h
 | .agg l, h => by unfold AV.ren; rw [AV.renL_id l (by simpa [AV.bnd] using h)]
 | .tup l, h => by unfold AV.ren; rw [AV.renL_id l (by simpa [AV.bnd] using h)]
 | .clo f l, h => by unfold AV.ren; rw [AV.renL_id l (by simpa [AV.bnd] using h)]
theorem AV.renL_id {s : List Nat} {base : Nat} : ∀ (l : List AV), AV.bndL 0 l = true → AV.renL s base l = l
 | [], _ => by unfold AV.renL; rfl
 | x :: l, h => by
  simp only [AV.bndL, Bool.and_eq_true] at h
  unfold AV.renL
  rw [AV.ren_id x h.1, AV.renL_id l h.2]
end
/-- A call that is handed no entry. -/
theorem callG_pure {P : Program} {f : Nat} {c : Ctr} (hf : FnOk P f c) (hmono : ∀ args H (K K' : AV → List Ent → Prop), (∀ x H, K x H → K' x H) → c args H K → c args H K') {keep : List Nat} {args : List AV} {st : St} {K : AV → St → Prop} (hb : AV.bndL 0 args = true) (hk : ∀ k ∈ keep, k < st.H.length)
  (hc : c args [] fun x H' => H' = [] ∧ x.bnd 0 = true ∧ K x st) : CallG P keep f args st K := by
 refine callG_of hf [] (args0 := args) (H0 := []) (AV.renL_id args hb).symm rfl List.nodup_nil (by simp) rfl hb rfl (fun k hkk => ⟨by simp, hk k hkk⟩) (hmono _ _ _ _ (fun x H' h => ?_) hc)
 obtain ⟨rfl, hx, hK⟩ := h
 rw [AV.ren_id x hx]
 simpa [rowIds, killTs, killHs, putE, renH] using hK
/-- cbv opens the casts of the hypotheses; this folds them again. -/
theorem nat_cast_back (n : Nat) : (NatCast.natCast n : Int) = (n : Int) := rfl
/-- A contract by names: what is handed, what is asked of it, what comes back. -/
def spec {ι : Type} (a : ι → List AV) (h : ι → List Ent) (p : ι → Prop) (r : ι → AV) (h' : ι → List Ent) : Ctr := fun args H K => ∃ i, args = a i ∧ H = h i ∧ p i ∧ K (r i) (h' i)
theorem spec_mono {ι : Type} {a : ι → List AV} {h : ι → List Ent} {p : ι → Prop} {r : ι → AV} {h' : ι → List Ent} : ∀ args H (K K' : AV → List Ent → Prop), (∀ x H, K x H → K' x H) → spec a h p r h' args H K → spec a h p r h' args H K' :=
 fun _ _ _ _ hk ⟨i, h1, h2, h3, h4⟩ => ⟨i, h1, h2, h3, hk _ _ h4⟩
/-- A call of a function without entries. -/
theorem callG_spec0 {P : Program} {f : Nat} {ι : Type} {a : ι → List AV} {p : ι → Prop} {r : ι → AV} (hf : FnOk P f (spec a (fun _ => []) p r fun _ => [])) (i : ι) {keep : List Nat} {st : St} {K : AV → St → Prop} (hp : p i) (hb : AV.bndL 0 (a i) = true) (hr : (r i).bnd 0 = true) (hk : (keep.all fun k => Nat.blt k st.H.length) = true) (hK : K (r i) st) : CallG P keep f (a i) st K :=
 callG_pure hf spec_mono hb (fun k hkk => by have := List.all_eq_true.1 hk k hkk; simpa [Nat.blt_eq] using this) ⟨i, rfl, rfl, hp, rfl, hr, hK⟩
end Go.Proofs.YtpcfdpengbkplaaDoor
/-
 At a function's end: of the new entries only those that count are told, by new numbers.
-/
namespace Go.Proofs.YtpcfdpengbkplaaDoor
open Go.RowKit

/-! ### What may be told for what is known -/
inductive Le1 : AV → AV → Prop
 | refl (x : AV) : Le1 x x
 | nil (sz : Nat) : Le1 (.v (.slice none 0 0)) (.sl sz [])
inductive LeL : List AV → List AV → Prop
 | nil : LeL [] []
 | cons {x y : AV} {l m : List AV} (h : Le1 x y) (hl : LeL l m) : LeL (x :: l) (y :: m)
inductive Le0 : AV → AV → Prop
 | one {x y : AV} (h : Le1 x y) : Le0 x y
 | agg {l m : List AV} (h : LeL l m) : Le0 (.agg l) (.agg m)
inductive LeL0 : List AV → List AV → Prop
 | nil : LeL0 [] []
 | cons {x y : AV} {l m : List AV} (h : Le0 x y) (hl : LeL0 l m) : LeL0 (x :: l) (y :: m)
inductive Le : AV → AV → Prop
 | one {x y : AV} (h : Le0 x y) : Le x y
 | tup {l m : List AV} (h : LeL0 l m) : Le (.tup l) (.tup m)
inductive LeE : Ent → Ent → Prop
 | refl (e : Ent) : LeE e e
 | blk {t : TypeId} {l m : List AV} (h : LeL l m) : LeE (.blk t l) (.blk t m)
 | row {t : TypeId} {sz : Nat} {l m : List AV} (h : LeL0 l m) : LeE (.row t sz l) (.row t sz m)
inductive LeH : List Ent → List Ent → Prop
 | nil : LeH [] []
 | cons {x y : Ent} {l m : List Ent} (h : LeE x y) (hl : LeH l m) : LeH (x :: l) (y :: m)
section
variable {pub : Pub} {w : World} {r : Rho}
theorem Le.refl (x : AV) : Le x x := .one (.one (.refl x))
theorem LeH.refl : ∀ l, LeH l l
 | [] => .nil
 | e :: l => .cons (.refl e) (LeH.refl l)
theorem Le1.to {x y : AV} (h : Le1 x y) {v : Value} (hv : VRel pub w r x v) : VRel pub w r y v := by
 cases h with
 | refl => exact hv
 | nil sz =>
  cases hv
  exact .sl (A := none) (c := 0) (xs := []) (Nat.le_refl _) (by unfold maxLen; omega) (fun _ => ⟨rfl, rfl⟩) (fun x hx => by cases hx) (fun _ _ => undef) (fun i x j u hx => by simp at hx) (fun i x j u hx => by simp at hx)
theorem LeL.to {l m : List AV} (h : LeL l m) : ∀ {us : List Value}, VRels pub w r l us → VRels pub w r m us := by
 induction h with
 | nil => exact fun h => h
 | cons h1 _ ih =>
  intro us hu
  obtain ⟨u, us', rfl, h2, h3⟩ := hu.cons_inv
  exact .cons (h1.to h2) (ih h3)
theorem Le0.to {x y : AV} (h : Le0 x y) {v : Value} (hv : VRel pub w r x v) : VRel pub w r y v := by
 cases h with
 | one h => exact h.to hv
 | agg h =>
  cases hv with
  | agg hl h1 =>
   have := h.to (us := _) ⟨(Array.length_toList).trans hl, fun i x u hx hu => h1 i x u hx (by simpa using hu)⟩
   exact .agg (by simpa using this.len) fun i x u hx hu => this.at_ i x u hx (by simpa using hu)
theorem LeL0.to {l m : List AV} (h : LeL0 l m) : ∀ {us : List Value}, VRels pub w r l us → VRels pub w r m us := by
 induction h with
 | nil => exact fun h => h
 | cons h1 _ ih =>
  intro us hu
  obtain ⟨u, us', rfl, h2, h3⟩ := hu.cons_inv
  exact .cons (h1.to h2) (ih h3)
theorem Le.to {x y : AV} (h : Le x y) {v : Value} (hv : VRel pub w r x v) : VRel pub w r y v := by
 cases h with
 | one h => exact h.to hv
 | tup h =>
  cases hv with
  | tup hl h1 =>
   have := h.to (us := _) ⟨(Array.length_toList).trans hl, fun i x u hx hu => h1 i x u hx (by simpa using hu)⟩
   exact .tup (by simpa using this.len) fun i x u hx hu => this.at_ i x u hx (by simpa using hu)
theorem LeL.refl : ∀ l, LeL l l
 | [] => .nil
 | x :: l => .cons (.refl x) (LeL.refl l)
theorem LeL.app {a b : List AV} (h : LeL a b) {c d : List AV} (k : LeL c d) : LeL (a ++ c) (b ++ d) := by
 induction h with
 | nil => exact k
 | cons h1 _ ih => exact .cons h1 ih
theorem LeL.len {a b : List AV} (h : LeL a b) : b.length = a.length := by
 induction h with
 | nil => rfl
 | cons _ _ ih => simp [ih]
theorem LeL.one {a b : List AV} (h : LeL a b) : a.all AV.one = true → b.all AV.one = true := by
 induction h with
 | nil => exact fun h => h
 | cons h1 _ ih =>
  intro h2
  simp only [List.all_cons, Bool.and_eq_true] at h2 ⊢
  exact ⟨by cases h1 with | refl => exact h2.1 | nil => rfl, ih h2.2⟩
theorem Le0.cells {x y : AV} (h : Le0 x y) : LeL x.cells y.cells := by
 cases h with
 | one h => cases h with
  | refl => exact LeL.refl _
  | nil sz => exact .cons (.nil sz) .nil
 | agg h => exact h
theorem LeL0.flat {a b : List AV} (h : LeL0 a b) : LeL (a.flatMap AV.cells) (b.flatMap AV.cells) := by
 induction h with
 | nil => exact .nil
 | cons h1 _ ih => simp only [List.flatMap_cons]; exact h1.cells.app ih
theorem LeL0.len {a b : List AV} (h : LeL0 a b) : b.length = a.length := by
 induction h with
 | nil => rfl
 | cons _ _ ih => simp [ih]
theorem LeL0.each {a b : List AV} (h : LeL0 a b) {sz : Nat} : (∀ x ∈ a, x.cells.length = sz ∧ x.cells.all AV.one = true) → ∀ x ∈ b, x.cells.length = sz ∧ x.cells.all AV.one = true := by
 induction h with
 | nil => exact fun h => h
 | cons h1 _ ih =>
  intro h2 y hy
  rcases List.mem_cons.1 hy with rfl | hy
  ·have := h2 _ (List.mem_cons_self ..)
   exact ⟨by rw [h1.cells.len]; exact this.1, h1.cells.one this.2⟩
  ·exact ih (fun x hx => h2 x (List.mem_cons_of_mem _ hx)) y hy
theorem LeE.to {x y : Ent} (h : LeE x y) {v : Option Value} (hv : ERel pub w r v x) : ERel pub w r v y := by
 cases h with
 | refl => exact hv
 | blk h => cases hv with | blk hb hc hp => exact .blk hb (h.to hc) hp
 | row h => cases hv with | row ho hc hs hp => rw [← h.len] at ho ⊢; exact .row ho (h.flat.to hc) (h.each hs) hp
theorem LeH.get {l m : List Ent} (h : LeH l m) : ∀ {i : Nat} {e : Ent}, m[i]? = some e → ∃ d, l[i]? = some d ∧ LeE d e := by
 induction h with
 | nil => intro i e h; simp at h
 | cons h1 _ ih =>
  intro i e he
  cases i with
  | zero => simp at he; subst he; exact ⟨_, rfl, h1⟩
  | succ i => simpa using ih (by simpa using he)
theorem LeH.len {l m : List Ent} (h : LeH l m) : m.length = l.length := by
 induction h with
 | nil => rfl
 | cons _ _ ih => simp [ih]
theorem Mod.le {H H2 : List Ent} (h : Mod pub w r H) (hl : LeH H H2) : Mod pub w r H2 := by
 refine ⟨fun i e he => ?_, fun i hi => h.none_ i (by rw [← hl.len]; exact hi), h.disj, h.fresh, h.there, h.glob⟩
 obtain ⟨d, hd, hde⟩ := hl.get he
 exact hde.to (h.ent i d hd)
end
/-- A place may be told by another only where a list lies. -/
def selOk (s : List Nat) : Nat → List Ent → Bool
 | _, [] => true
 | n, e :: H => ((match s[n]? with | some k => k == n | none => false) || e.turns) && selOk s (n + 1) H
theorem selOk_at {s : List Nat} : ∀ {n : Nat} {H : List Ent}, selOk s n H = true → ∀ (k : Nat) (e : Ent), H[k]? = some e → s[n + k]? = some (n + k) ∨ e.turns = true
 | n, [], h, k, e, he => by simp at he
 | n, d :: H, h, k, e, he => by
  unfold selOk at h
  simp only [Bool.and_eq_true] at h
  cases k with
  | zero =>
   simp at he
   subst he
   rw [Bool.or_eq_true] at h
   rcases h.1 with h1 | h1
   ·left
    split at h1
    ·rename_i q hq; simp at h1; subst h1; exact hq
    ·cases h1
   ·exact .inr h1
  | succ k =>
   have := selOk_at h.2 k e (by simpa using he)
   rw [show n + (k + 1) = n + 1 + k by omega]
   exact this
/-- What is told: the entries named by s, by their places in s. -/
structure CutK (H : List Ent) (K : AV → List Ent → Prop) (x : AV) (H' : List Ent) : Prop where
 out : ∃ (s : List Nat) (x2 : AV) (H2 : List Ent) (x3 : AV) (H3 : List Ent), x = x2.ren s 0 ∧ s.map (fun k => H'[k]?) = (renH s 0 H2).map some ∧ s.Nodup ∧ selOk s 0 H = true ∧ H.length ≤ s.length ∧ x2.bnd H2.length = true ∧ bndH H2.length H2 = true ∧ Le x2 x3 ∧ LeH H2 H3 ∧ K x3 H3
theorem FnPost.cut {K : AV → List Ent → Prop} {H : List Ent} {w w' : World} {r : Rho} {pub : Pub} {e : Ending} (hm : Mod pub w r H) (h : FnPost (CutK H K) H w r pub e w') : FnPost K H w r pub e w' := by
 obtain ⟨v, x, H', r1, pub', rfl, ⟨⟨s, x2, H2, x3, H3, rfl, hH, hnd, htk, hM, hbx, hbH, hx3, hH3, hK⟩⟩, hvx, hm1, hfr, hown, hstab, hlen'⟩ := h
 have hlen : s.length = H2.length := by have := congrArg List.length hH; simpa [renH_map] using this
 have hsi : ∀ i (hi : i < s.length), sigma s 0 i = s[i] := fun i hi => sigma_lt hi
 let r0 : Rho := fun i => if i < s.length then r1 (sigma s 0 i) else none
 have hr0 : ∀ i y, r0 i = some y → i < s.length ∧ r1 (sigma s 0 i) = some y := fun i y hy => by
  by_cases hi : i < s.length
  ·simp only [r0, if_pos hi] at hy; exact ⟨hi, hy⟩
  ·simp only [r0, if_neg hi] at hy; cases hy
 have hr0' : ∀ i, i < s.length → r0 i = r1 (sigma s 0 i) := fun i hi => if_pos hi
 have hinj : ∀ i j, i < s.length → j < s.length → sigma s 0 i = sigma s 0 j → i = j := fun i j hi hj e => by
  rw [hsi i hi, hsi j hj] at e
  exact nodup_inj hnd e
 have hent : ∀ i e, H2[i]? = some e → H'[sigma s 0 i]? = some (e.ren s 0) := fun i e he => by
  have hi : i < s.length := by rw [hlen]; exact (List.getElem?_eq_some_iff.1 he).1
  have h1 := congrArg (fun l => l[i]?) hH
  simp only [List.getElem?_map, renH_map, he, Option.map_some, List.getElem?_eq_getElem hi] at h1
  rw [hsi i hi]
  simpa using h1
 have hm0 : Mod pub' w' r0 H2 := by
  refine ⟨fun i e he => ?_, fun i hi => if_neg (by omega), fun i j x y hij hx hy => ?_, hm1.fresh, hm1.there, hm1.glob⟩
  ·have hi : i < s.length := by rw [hlen]; exact (List.getElem?_eq_some_iff.1 he).1
   have he1 := hm1.ent _ _ (hent i e he)
   have hbe := bndH_get hbH i e he
   rw [hr0' i hi]
   exact he1.unren hbe fun k y hkb hy => by rw [hr0' k (by omega)]; exact hy
  ·obtain ⟨hi, hx⟩ := hr0 i x hx
   obtain ⟨hj, hy⟩ := hr0 j y hy
   exact hm1.disj _ _ x y (fun e => hij (hinj i j hi hj e)) hx hy
 refine ⟨v, x3, H3, r0, pub', rfl, hK, hx3.to (hvx.unren x2 rfl fun k y hk hy => ?_), hm0.le hH3, hfr, fun b ⟨k, y, hy, hb⟩ => hown b ⟨_, y, (hr0 k y hy).2, hb⟩, fun k y hy hs => ?_, by have := hH3.len; omega⟩
 ·have hkb := AV.bnd_has _ hbx hk
  rw [hr0' k (by omega)]
  exact hy
 ·have h1 := hstab k y hy hs
  have hk : k < H.length := by
   rcases Nat.lt_or_ge k H.length with h2 | h2
   ·exact h2
   ·rw [hm.none_ k h2] at hy; cases hy
  have he := List.getElem?_eq_getElem hk
  rcases selOk_at htk k _ he with h2 | h2
  ·rw [Nat.zero_add] at h2
   have hks := (List.getElem?_eq_some_iff.1 h2)
   obtain ⟨h3, h4⟩ := hks
   rw [hr0' k h3, hsi k h3, h4]
   exact h1
  ·exfalso
   have h3 := hm.ent k _ he
   rw [hy] at h3
   generalize H[k] = en at h2 h3
   cases h3 <;> first | (cases h2; done) | (cases hs; done)
theorem sigma_range {n k : Nat} (h : k < n) : sigma (List.range n) 0 k = k := by
 rw [sigma_lt (by rw [List.length_range]; exact h), List.getElem_range]
mutual
theorem AV.ren_range {n : Nat} : ∀ (x : AV), x.bnd n = true → x.ren (List.range n) 0 = x
 | .any, _ => by unfold AV.ren; rfl
 | .bl _, _ => by unfold AV.ren; rfl
 | .int _ _, _ => by unfold AV.ren; rfl
 | .str _, _ => by unfold AV.ren; rfl
 | .v _, _ => by unfold AV.ren; rfl
 | .sl _ _, _ => by unfold AV.ren; rfl
 | .rp _ _, _ => by unfold AV.ren; rfl
 | .ptr k o, h => by unfold AV.ren; rw [sigma_range (by simpa [AV.bnd] using h)]
 | .hd k, h => by unfold AV.ren; rw [sigma_range (by simpa [AV.bnd] using h)]
 | .ph k, h => by unfold AV.ren; rw [sigma_range (by simpa [AV.bnd] using h)]
 | .re k _ _ _, h => by unfold AV.ren; rw [sigma_range (by simpa [AV.bnd] using h)]
 | .agg l, h => by unfold AV.ren; rw [AV.renL_range l (by simpa [AV.bnd] using h)]
 | .tup l, h => by unfold AV.ren; rw [AV.renL_range l (by simpa [AV.bnd] using h)]
 | .clo f l, h => by unfold AV.ren; rw [AV.renL_range l (by simpa [AV.bnd] using h)]
theorem AV.renL_range {n : Nat} : ∀ (l : List AV), AV.bndL n l = true → AV.renL (List.range n) 0 l = l
 | [], _ => by unfold AV.renL; rfl
 | x :: l, h => by
  simp only [AV.bndL, Bool.and_eq_true] at h
  unfold AV.renL
  rw [AV.ren_range x h.1, AV.renL_range l h.2]
end
theorem renH_range {n : Nat} : ∀ (l : List Ent), bndH n l = true → renH (List.range n) 0 l = l
 | [], _ => by unfold renH; rfl
 | e :: l, h => by
  simp only [bndH, Bool.and_eq_true] at h
  unfold renH
  rw [renH_range l h.2]
  congr 1
  cases e with
  | blk t cs => show Ent.blk t (AV.renL (List.range n) 0 cs) = _; rw [AV.renL_range cs (by simpa [bndE] using h.1)]
  | hrow t sz m cs => show Ent.hrow t sz m (AV.renL (List.range n) 0 cs) = _; rw [AV.renL_range cs (by simpa [bndE] using h.1)]
  | iter x a b => show Ent.iter (AV.ren (List.range n) 0 x) a b = _; rw [AV.ren_range x (by simpa [bndE] using h.1)]
  | pool t es outs =>
   show Ent.pool t es (outs.map fun p => (p.1, AV.ren (List.range n) 0 p.2)) = _
   have h1 : AV.bndL n (outs.map fun (p : Nat × AV) => p.2) = true := h.1
   clear h
   congr 1
   induction outs with
   | nil => rfl
   | cons p outs ih =>
    simp only [List.map_cons, AV.bndL, Bool.and_eq_true] at h1 ⊢
    rw [ih h1.2, AV.ren_range p.2 h1.1]
  | _ => rfl
/-- The first entries are told. -/
theorem CutK.pre {H : List Ent} {K : AV → List Ent → Prop} {x : AV} {H' : List Ent} (H2 : List Ent) {x3 : AV} {H3 : List Ent} (hH : H'.take H2.length = H2) (hM : H.length ≤ H2.length) (hb : x.bnd H2.length = true) (hbH : bndH H2.length H2 = true) (hx : Le x x3) (hl : LeH H2 H3) (hK : K x3 H3) : CutK H K x H' := by
 refine ⟨⟨List.range H2.length, x, H2, x3, H3, (AV.ren_range x hb).symm, ?_, List.nodup_range, ?_, by rw [List.length_range]; exact hM, hb, hbH, hx, hl, hK⟩⟩
 ·rw [renH_range _ hbH]
  refine List.ext_getElem? fun i => ?_
  rw [List.getElem?_map, List.getElem?_map]
  by_cases hi : i < H2.length
  ·rw [List.getElem?_range hi]
   have := congrArg (fun l => l[i]?) hH
   simp only [List.getElem?_take, if_pos hi] at this
   rw [List.getElem?_eq_getElem hi] at this ⊢
   simpa using this
  ·rw [List.getElem?_eq_none (by rw [List.length_range]; omega), List.getElem?_eq_none (by omega)]
   rfl
 ·have key : ∀ (n : Nat) (L : List Ent), n + L.length ≤ H2.length → selOk (List.range H2.length) n L = true := fun n L => by
   induction L generalizing n with
   | nil => intro _; rfl
   | cons e L ih =>
    intro hl
    simp only [List.length_cons] at hl
    unfold selOk
    rw [List.getElem?_range (by omega), ih (n + 1) (by omega)]
    simp
  exact key 0 H (by omega)
/-- No entry is told. -/
theorem CutK.val {K : AV → List Ent → Prop} {x : AV} {H' : List Ent} {x3 : AV} (hb : x.bnd 0 = true) (hx : Le x x3) (hK : K x3 []) : CutK [] K x H' := .pre [] (by simp) (Nat.le_refl _) hb rfl hx .nil hK
/-- What is to be shown of a function's code. -/
def BodyOk (P : Program) (x : XFn) (c : Ctr) : Prop := ∀ args H K, c args H K → args.length ≤ x.n ∧ XW P x.n H.length x.body (FinQ H.length x.res (CutK H K)) ⟨numT 0 args, H⟩
theorem body_ok {P : Program} {f : Nat} {x : XFn} {c : Ctr} (hx : cFn P f = some x) (h : BodyOk P x c) : FnOk P f c := fun args H K hc w r pub vals hm hv =>
 Calls.mono (fn_ok (fun args H K' => ∃ K, c args H K ∧ K' = CutK H K) hx (fun args H K' ⟨K, hc, e⟩ => by subst e; exact h args H K hc) args H _ ⟨K, hc, rfl⟩ w r pub vals hm hv) fun _ _ hp => FnPost.cut hm hp
/-- The same without its steps. -/
def BodyOkS (P : Program) (x : XFn) (c : Ctr) : Prop := ∀ args H K, c args H K → args.length ≤ x.n ∧ SemW P x.n H.length x.body (FinQ H.length x.res (CutK H K)) ⟨numT 0 args, H⟩
theorem body_okS {P : Program} {f : Nat} {x : XFn} {c : Ctr} (hx : cFn P f = some x) (h : BodyOkS P x c) : FnOk P f c := fun args H K hc w r pub vals hm hv =>
 Calls.mono (fn_okS (fun args H K' => ∃ K, c args H K ∧ K' = CutK H K) hx (fun args H K' ⟨K, hc, e⟩ => by subst e; exact h args H K hc) args H _ ⟨K, hc, rfl⟩ w r pub vals hm hv) fun _ _ hp => FnPost.cut hm hp
/-- A list's image, as cbv leaves it. -/
noncomputable abbrev mapA {α β : Type} (f : α → β) (l : List α) : List β := List.rec (motive := fun _ => List β) [] (fun a _ => List.cons (f a)) l
theorem mapA_eq {α β : Type} (f : α → β) (l : List α) : mapA f l = l.map f := by
 induction l with
 | nil => rfl
 | cons a l ih =>
  show f a :: mapA f l = f a :: l.map f
  rw [ih]
theorem mapA_len {α β : Type} (f : α → β) (l : List α) : (mapA f l).length = l.length := by rw [mapA_eq]; exact List.length_map f
theorem mapA_app {α β : Type} (f : α → β) (l m : List α) : mapA f (l ++ m) = mapA f l ++ mapA f m := by rw [mapA_eq, mapA_eq, mapA_eq]; exact List.map_append
theorem mapA_one {α β : Type} (f : α → β) (x : α) : mapA f [x] = [f x] := rfl
theorem mapA_nil {α β : Type} (f : α → β) : mapA f [] = [] := rfl
/-- A call that is handed no entry, and leaves new ones. -/
theorem callG_new {P : Program} {f : Nat} {ι : Type} {a : ι → List AV} {p : ι → Prop} {r : ι → AV} {h' : ι → List Ent} (hf : FnOk P f (spec a (fun _ => []) p r h')) (i : ι) {keep : List Nat} {st : St} {K : AV → St → Prop} (hp : p i) (hb : AV.bndL 0 (a i) = true) (hk : (keep.all fun k => Nat.blt k st.H.length) = true)
  (hK : K ((r i).ren [] st.H.length) ⟨st.T, st.H ++ renH [] st.H.length (h' i)⟩) : CallG P keep f (a i) st K := by
 refine callG_of hf [] (args0 := a i) (H0 := []) (AV.renL_id _ hb).symm rfl List.nodup_nil (by simp) rfl hb rfl (fun k hkk => ⟨by simp, by have := List.all_eq_true.1 hk k hkk; simpa [Nat.blt_eq] using this⟩) ⟨i, rfl, rfl, hp, ?_⟩
 simpa [rowIds, killTs, killHs, putE] using hK
/-- A loop that leaves the entries as they are. -/
theorem xloopT {P : Program} {N M : Nat} {c : XCode} {Q : XEx → St → Prop} {T : List (Nat × AV)} {H : List Ent} {ι : Type} (F : ι → List (Nat × AV)) (μ : ι → Ms) (i0 : ι) (hw : weakT T (F i0)) (hb : bndT H.length (F i0) = true) (hbH : bndH H.length H = true) (hM : M ≤ H.length)
  (hr : ∀ i, XW P N M c (XRound M (fun i => ⟨F i, H⟩) μ (μ i) Q) ⟨F i, H⟩) : XLoopG P N M c Q ⟨T, H⟩ :=
 xloop (fun i => ⟨F i, H⟩) μ i0 (Gh.weak hw (by simp) hb hbH hM) hr
/-- .. behind a round. -/
theorem roundT {ι : Type} {M : Nat} {F : ι → List (Nat × AV)} {H : List Ent} {μ : ι → Ms} {n : Ms} {T : List (Nat × AV)} (j : ι) (hw : weakT T (F j)) (hb : bndT H.length (F j) = true) (hbH : bndH H.length H = true) (hM : M ≤ H.length) (hl : (μ j).val < n.val) : RoundK M (fun i => ⟨F i, H⟩) μ n ⟨T, H⟩ :=
 ⟨_, j, Gh.weak hw (by simp) hb hbH hM, rfl, hl⟩
/-- A place as a number, as cbv leaves it. -/
abbrev nI (n : Nat) : Int := Int.ofNat n
theorem nI_eq (n : Nat) : nI n = (n : Int) := rfl
theorem nI_succ (n : Nat) : nI (n + 1) = nI n + 1 := rfl
theorem mapA_get {α β : Type} (f : α → β) (l : List α) {i : Nat} (h : i < l.length) : (mapA f l)[i]? = some (f l[i]) := by
 rw [mapA_eq, List.getElem?_map, List.getElem?_eq_getElem h]; rfl
theorem mapA_set {α β : Type} (f : α → β) (l : List α) {i : Nat} (h : i < l.length) {x : β} (hx : x = f l[i]) : (mapA f l).set i x = mapA f l := by
 subst hx; rw [mapA_eq]; exact List.ext_getElem? fun j => by
  rw [List.getElem?_set]
  split
  ·rename_i e; subst e
   rw [List.getElem?_map, List.getElem?_eq_getElem h, List.length_map, if_pos h]; rfl
  ·rfl
/-- What is left, as cbv leaves it. -/
abbrev lft (n i : Nat) : Ms := ⟨n, i⟩
theorem lft_lt {n i : Nat} (h : i < n) : (lft n (i + 1)).val < (lft n i).val := by unfold Ms.val; dsimp only; omega
theorem num_lt {n m : Nat} (h : n < m) : (lft n 0).val < (lft m 0).val := by unfold Ms.val; dsimp only; omega
theorem round_ok {ι : Type} {M : Nat} {F : ι → St} {μ : ι → Ms} {n : Ms} {st : St} (j : ι) (hg : Gh M st (F j)) (hl : (μ j).val < n.val) : RoundK M F μ n st := ⟨_, j, hg, rfl, hl⟩
/-- A list turned from the left: one more. -/
theorem upd_step {α : Type} (f : α → α) (L a : List α) {i : Nat} (hi : i < L.length) (ha : (L.take i).map f ++ L.drop i = a) : a.length = L.length ∧ a[i]? = some L[i] ∧ (L.take (i + 1)).map f ++ L.drop (i + 1) = a.set i (f L[i]) := by
 subst ha
 have hl : ((L.take i).map f).length = i := by rw [List.length_map, List.length_take]; omega
 refine ⟨by rw [List.length_append, hl, List.length_drop]; omega, by rw [List.getElem?_append_right (by omega), hl, List.getElem?_drop, Nat.sub_self, Nat.add_zero, List.getElem?_eq_getElem hi], ?_⟩
 rw [List.take_succ_eq_append_getElem hi, List.map_append, List.append_assoc, List.set_append, if_neg (by omega), hl, Nat.sub_self]
 congr 1
 rw [List.drop_eq_getElem_cons hi]
 rfl
theorem mapA_set_ {α β : Type} (f : α → β) (l : List α) (i : Nat) (y : α) : (mapA f l).set i (f y) = mapA f (l.set i y) := by rw [mapA_eq, mapA_eq, List.map_set]
theorem jump_ok {ι : Type} {M : Nat} {F : ι → St} {st : St} (j : ι) (hg : Gh M st (F j)) : JumpK M F st := ⟨_, j, hg, rfl⟩
end Go.Proofs.YtpcfdpengbkplaaDoor
/-
 Calls by contract, more roads: entries handed by number; a row published ahead of it; a block that is only read.
-/
namespace Go.Proofs.YtpcfdpengbkplaaDoor
open Go.RowKit

/-- A call that is handed entries. -/
theorem callG_spec {P : Program} {f : Nat} {ι : Type} {a : ι → List AV} {h : ι → List Ent} {p : ι → Prop} {r : ι → AV} {h' : ι → List Ent} (hf : FnOk P f (spec a h p r h')) (i : ι) (sel : List Nat) {keep : List Nat} {args : List AV} {st : St} {K : AV → St → Prop}
  (hp : p i) (ha : args = AV.renL sel st.H.length (a i)) (hlen : sel.length = (h i).length) (hnd : sel.Nodup) (hlt : (sel.all fun k => Nat.blt k st.H.length) = true) (hH : sel.map (fun k => st.H[k]?) = (renH sel st.H.length (h i)).map some)
  (hb : AV.bndL (h i).length (a i) = true) (hbH : bndH (h i).length (h i) = true) (hkeep : (keep.all fun k => !sel.contains k && Nat.blt k st.H.length) = true)
  (hK : K ((r i).ren sel st.H.length) ⟨killTs st.T (rowIds sel (h i)), putE (killHs st.H (rowIds sel (h i))) sel (renH sel st.H.length (h' i))⟩) : CallG P keep f args st K :=
 callG_of hf sel ha hlen hnd (fun k hk => by simpa [Nat.blt_eq] using List.all_eq_true.1 hlt k hk) hH hb hbH (fun k hk => by
  have := List.all_eq_true.1 hkeep k hk
  simp only [Bool.and_eq_true, Bool.not_eq_true', Nat.blt_eq] at this
  exact ⟨fun h => by rw [List.contains_eq_mem] at this; simp [h] at this, this.2⟩) ⟨i, rfl, rfl, hp, hK⟩
/-- A row is published ahead of a call. -/
theorem callG_publish {P : Program} {f : Nat} {keep : List Nat} {args : List AV} {st : St} {K : AV → St → Prop} (k : Nat) {t sz : Nat} {xs : List AV} (hk : isRowE st.H[k]? = some (t, sz, xs))
  (h : CallG P keep f (args.map (St.view ⟨st.T, st.H.set k (.tip t sz xs)⟩)) ⟨st.T, st.H.set k (.tip t sz xs)⟩ K) : CallG P keep f args st K := by
 refine ⟨fun C a w r pub vals hh hv => ?_⟩
 have hk' : st.H[k]? = some (.row t sz xs) := by
  unfold isRowE at hk
  split at hk
  ·rename_i e he; cases hk; exact he
  ·cases hk
 obtain ⟨pub', h1, he⟩ := hh.publish hk'
 have hv1 : VRels pub' w r (args.map (St.view ⟨st.T, st.H.set k (.tip t sz xs)⟩)) vals.toList := ⟨by rw [List.length_map]; exact hv.len, fun i x u hx hu => by
  rw [List.getElem?_map] at hx
  cases hq : args[i]? with
  | none => rw [hq] at hx; cases hx
  | some q => rw [hq] at hx; cases hx; exact h1.view ((hv.at_ i q u hq hu).ext he)⟩
 refine (h.out C a w r pub' vals h1 hv1).mono fun e w' ⟨v, x, st', r', pub2, e1, e2, e3, e4, e5, e6⟩ => ⟨v, x, st', r', pub2, e1, e2, e3, e4, he.trans e5, e6⟩
/-- A cell as it may be read: what a handle is, is not told. -/
def roCell (st : St) (x : Nat → Value) (j : Nat) (c : AV) : AV := match st.view1 c with
 | .ptr .. => .v (x j)
 | .hd _ => .v (x j)
 | .ph _ => .v (x j)
 | .re .. => .v (x j)
 | .clo .. => .v (x j)
 | y => y
def roCells (st : St) (x : Nat → Value) : Nat → List AV → List AV
 | _, [] => []
 | j, c :: l => roCell st x j c :: roCells st x (j + 1) l
def isScal : AV → Bool
 | .bl _ => true
 | .int _ _ => true
 | .str _ => true
 | .v _ => true
 | _ => false
theorem isScal_rel {pub pub' : Pub} {w w' : World} {r r' : Rho} {x : AV} {v : Value} (hs : isScal x = true) (h : VRel pub w r x v) : VRel pub' w' r' x v := by
 cases h with
 | bl b => exact .bl b
 | int k n => exact .int k n
 | str s => exact .str s
 | v => exact .v _ (by assumption)
 | _ => cases hs
theorem roCells_get (st : St) (x : Nat → Value) : ∀ (l : List AV) (j i : Nat), (roCells st x j l)[i]? = (l[i]?).map (roCell st x (j + i))
 | [], j, i => by simp [roCells]
 | c :: l, j, 0 => by simp [roCells]
 | c :: l, j, i + 1 => by simp [roCells, roCells_get st x l (j + 1) i]; rw [show j + 1 + i = j + (i + 1) by omega]
theorem roCells_len (st : St) (x : Nat → Value) : ∀ (l : List AV) (j : Nat), (roCells st x j l).length = l.length
 | [], j => rfl
 | c :: l, j => by simp [roCells, roCells_len st x l (j + 1)]
/-- A call that only reads a block that it is handed. -/
theorem callG_ro {P : Program} {f : Nat} {ι : Type} {a : ι → List AV} {p : ι → Prop} {r : ι → AV} (hf : FnOk P f (spec a (fun _ => []) p r fun _ => [])) (k : Nat) {keep : List Nat} {rest : List AV} {st : St} {K : AV → St → Prop} (i : (Nat → Value) → ι) {t : TypeId} {cs : List AV}
  (hk : st.H[k]? = some (.blk t cs)) (hcs : cs.all AV.one = true) (hbr : AV.bndL 0 rest = true) (_hkeep : (keep.all fun k => Nat.blt k st.H.length) = true) (hres : ∀ x, isScal (r (i x)) = true)
  (h : ∀ x : Nat → Value, (∀ j, (x j).oneCell' = true) → a (i x) = .rp (roCells st x 0 cs) 0 :: rest ∧ p (i x) ∧ K (r (i x)) st) : CallG P keep f (.ptr k 0 :: rest) st K := by
 refine ⟨fun C act w rh pub vals hh hv => ?_⟩
 obtain ⟨b, arr, hr, hb, hc, hp⟩ := hh.ent_blk hk
 obtain ⟨v0, vs, hvals, hv0, hvs⟩ := hv.cons_inv
 have hv0' : v0 = .pointer (some ⟨b, 0, none⟩) := by
  cases hv0 with
  | ptr off h1 => rw [hr] at h1; simp only [Option.some.injEq, Value.pointer.injEq, Addr.mk.injEq, and_true] at h1; subst h1; rfl
 subst hv0'
 let x : Nat → Value := fun j => if (arr.toList.getD j undef).oneCell' = true then arr.toList.getD j undef else .bool true
 have hx : ∀ j, (x j).oneCell' = true := fun j => by
  dsimp only [x]
  split
  ·assumption
  ·rfl
 obtain ⟨ha, hpi, hKi⟩ := h x hx
 let pub0 : Pub := fun q => if q = b then cs.length else pub q
 have hal : arr.size = cs.length := by have := hc.len; simpa using this
 have hcell : ∀ q, w.cell? ⟨b, q, none⟩ = arr[q]? := fun q => hb.all q
 have hblt : b < w.heap.size := hb.lt
 have ext0 : Ext pub w pub0 w := ⟨fun q => by dsimp only [pub0]; split; (· rename_i e; subst e; omega); exact Nat.le_refl _, fun _ _ _ _ h => h, fun _ _ _ h => h⟩
 have rel0 : ∀ (c : AV) (u : Value) (j : Nat), AV.one c = true → cs[j]? = some c → arr.toList[j]? = some u → VRel pub w rh c u → VRel pub0 w rho0 (roCell st x j c) u := fun c u j h1 hcj huj hcu => by
  have hone := hcu.one_ h1
  have hxj : x j = u := by
   dsimp only [x]
   rw [List.getD_eq_getElem?_getD, huj]
   exact if_pos hone
  have hvw := hh.view1 hcu
  unfold roCell
  generalize st.view1 c = c' at hvw
  cases hvw with
  | any => exact .any _
  | bl => exact .bl _
  | int => exact .int _ _
  | str => exact .str _
  | v _ h => exact .v _ h
  | agg hl hq => cases hone
  | tup hl hq => cases hone
  | ptr off h => rw [hxj]; exact .v _ rfl
  | hd h hh1 => rw [hxj]; exact .v _ hone
  | ph h h0 hh1 => rw [hxj]; exact .v _ hone
  | sl hc1 hm1 hn1 hs1 g hr1 hg1 => exact (VRel.sl (r := rho0) hc1 hm1 hn1 hs1 g hr1 hg1).ext ext0
  | rp j ho g hr1 hg1 => exact (VRel.rp (r := rho0) j ho g hr1 hg1).ext ext0
  | re sz i j h => rw [hxj]; exact .v _ rfl
  | clo f hl h => rw [hxj]; exact .v _ hone
 have hroOne : (roCells st x 0 cs).all AV.one = true := by
  rw [List.all_eq_true]
  intro y hy
  obtain ⟨j, hj⟩ := List.getElem?_of_mem hy
  rw [roCells_get] at hj
  cases hq : cs[j]? with
  | none => rw [hq] at hj; cases hj
  | some c =>
   rw [hq] at hj
   have hc1 := (List.all_eq_true.1 hcs) c (List.mem_of_getElem? hq)
   obtain ⟨u, hu, hcu⟩ := hc.get hq
   have := rel0 c u j hc1 hq hu hcu
   simp only [Option.map_some, Option.some.injEq, Nat.zero_add] at hj
   rw [← hj]
   have hvw := hh.view1 hcu
   unfold roCell
   have hv1 : (st.view1 c).one = true := by
    unfold St.view1
    split
    ·split <;> rfl
    ·exact hc1
   revert hv1
   cases st.view1 c <;> intro hv1 <;> first | rfl | exact hv1
 have hrp : VRel pub0 w rho0 (.rp (roCells st x 0 cs) 0) (.pointer (some ⟨b, 0, none⟩)) := by
  refine .rp (o := 0) 0 hroOne (fun j => arr.toList.getD j undef) (fun j u hj => ?_) (fun j u hj => ?_)
  ·rw [roCells_get] at hj
   cases hq : cs[j]? with
   | none => rw [hq] at hj; cases hj
   | some c =>
    rw [hq] at hj
    simp only [Option.map_some, Option.some.injEq, Nat.zero_add] at hj
    subst hj
    obtain ⟨u, hu, hcu⟩ := hc.get hq
    have := rel0 c u j ((List.all_eq_true.1 hcs) c (List.mem_of_getElem? hq)) hq hu hcu
    rw [List.getD_eq_getElem?_getD, hu]
    exact this
  ·have hj1 := (List.getElem?_eq_some_iff.1 hj).1
   rw [roCells_len] at hj1
   refine ⟨by dsimp only [pub0]; rw [if_pos rfl]; omega, ?_⟩
   rw [Nat.zero_add, hcell, List.getD_eq_getElem?_getD, Array.getElem?_toList, Array.getElem?_eq_getElem (by omega)]
   rfl
 have hvs0 : VRels pub0 w rho0 (a (i x)) vals.toList := by
  rw [ha, hvals]
  refine .cons hrp ?_
  have h1 : VRels pub w rho0 rest vs := hvs.congr (fun n hn => by have := AV.bndL_has _ hbr hn; omega)
  exact h1.ext ext0
 have hm0 : Mod pub0 w rho0 [] := by
  refine ⟨fun k e he => by simp at he, fun _ _ => rfl, fun _ _ _ _ _ h => (by cases h), fun q hq => ?_, fun q j hj => ?_, ?_⟩
  ·dsimp only [pub0]
   rw [if_neg (by rintro rfl; omega)]
   exact hh.mod.fresh q hq
  ·dsimp only [pub0] at hj
   split at hj
   ·rename_i e; subst e
    exact ⟨arr[j]'(by omega), by rw [hcell]; exact Array.getElem?_eq_getElem _⟩
   ·exact hh.mod.there q j hj
  ·exact hh.mod.glob.ext ext0
 refine (hf (a (i x)) [] (fun y H' => y = r (i x) ∧ H' = []) ⟨i x, rfl, rfl, hpi, rfl, rfl⟩ w rho0 pub0 vals hm0 hvs0).mono fun e w' hpost => ?_
 obtain ⟨v, y, H', r1, pub1, rfl, ⟨rfl, rfl⟩, hvy, hm1, hfr, _, _, _⟩ := hpost
 have hnf : ∀ q, ¬ Foot rho0 q := fun q ⟨_, _, hh1, _⟩ => by cases hh1
 let pub2 : Pub := fun q => if q = b then pub b else pub1 q
 have hkeepw : ∀ q, q < w.heap.size → w'.heap[q]? = w.heap[q]? ∧ pub2 q = pub q := fun q hq => by
  obtain ⟨h1, h2⟩ := hfr.keep q hq (hnf q)
  refine ⟨h1, ?_⟩
  dsimp only [pub2]
  split
  ·rename_i e; rw [e]
  ·rename_i e; rw [h2]; dsimp only [pub0]; rw [if_neg e]
 have hfr2 : Fr (fun _ => False) pub w pub2 w' := by
  refine ⟨hfr.os, hfr.tape, hfr.output, hfr.size, fun q hq _ => hkeepw q hq, fun q => ?_, fun q j u hj hu => ?_, fun q n _ hn => lenW_of (hkeepw q (lenW_lt hn)).1 hn⟩
  ·rcases Nat.lt_or_ge q w.heap.size with h1 | h1
   ·rw [(hkeepw q h1).2]; exact Nat.le_refl _
   ·rw [hh.mod.fresh q h1]; exact Nat.zero_le _
  ·have hq := World.block_lt_of_cell? w _ hu
   rw [World.cell?_of_block (w := w) (a := ⟨q, j, none⟩) (hkeepw q hq).1]
   exact hu
 have hmod2 : Mod pub2 w' rh st.H := hh.mod.frm hfr2 (fun _ _ _ _ _ h => h) (fun q hq => by
   dsimp only [pub2]
   rw [if_neg (by rintro rfl; have := hfr.size; omega)]
   exact hm1.fresh q hq) (fun q j hj => by
   dsimp only [pub2] at hj
   split at hj
   ·rename_i e; subst e
    obtain ⟨u, hu⟩ := hh.mod.there q j hj
    exact ⟨u, hfr2.ext.cell q j u hj hu⟩
   ·exact hm1.there q j hj)
 refine ⟨v, _, st, rh, pub2, rfl, isScal_rel (hres x) hvy, hKi, ⟨hmod2, hh.own, hh.fr.trans hfr2 (fun _ h => h.elim), hh.slots.ext hfr2.ext, hh.defers, hh.size, hh.stab, hh.low⟩, hfr2.ext, fun q hq => ⟨rfl, fun y hy b' hb' => (hkeepw b' (hh.mod.foot_lt hy b' hb')).1⟩⟩
end Go.Proofs.YtpcfdpengbkplaaDoor
/-
 Contracts by other roads: of functions that were walked without entries; weaker ones.
-/
namespace Go.Proofs.YtpcfdpengbkplaaDoor
open Go.RowKit

theorem rho_none {pub : Pub} {w : World} {r : Rho} (h : Mod pub w r []) : r = rho0 := funext fun k => h.none_ k (Nat.zero_le _)
/-- A function that makes nothing and turns nothing. -/
theorem fn_pure {P : Program} {f : Nat} {ι : Type} {a : ι → List AV} {p : ι → Prop} {r : ι → AV}
  (h : ∀ i, p i → ∀ (pub : Pub) (w : World) (vals : Array Value), VRels pub w rho0 (a i) vals.toList → Calls P f vals w fun e w' => w' = w ∧ ∃ v, e = .returned v ∧ VRel pub w rho0 (r i) v) :
  FnOk P f (spec a (fun _ => []) p r fun _ => []) := by
 intro args H K ⟨i, ha, hH, hp, hK⟩ w rh pub vals hm hv
 subst ha
 subst hH
 have := rho_none hm
 subst this
 refine (h i hp pub w vals hv).mono fun e w' ⟨hw, v, he, hr⟩ => ?_
 subst hw
 exact ⟨v, r i, [], rho0, pub, he, hK, hr, hm, Fr.refl _ _ _, fun b hb => .inl hb, fun _ _ h _ => h, Nat.le_refl _⟩
theorem VRels.str_inv {pub : Pub} {w : World} {r : Rho} {s : ByteArray} {l : List AV} {us : List Value} (h : VRels pub w r (.str s :: l) us) : ∃ us', us = .string s :: us' ∧ VRels pub w r l us' := by
 obtain ⟨u, us', rfl, h1, h2⟩ := h.cons_inv
 cases h1
 exact ⟨us', rfl, h2⟩
theorem VRels.int_inv {pub : Pub} {w : World} {r : Rho} {k : IntKind} {n : Int} {l : List AV} {us : List Value} (h : VRels pub w r (.int k n :: l) us) : ∃ us', us = .int k n :: us' ∧ VRels pub w r l us' := by
 obtain ⟨u, us', rfl, h1, h2⟩ := h.cons_inv
 cases h1
 exact ⟨us', rfl, h2⟩
theorem fn_weak {P : Program} {f : Nat} {c c' : Ctr} (h : FnOk P f c) (hc : ∀ args H K, c' args H K → c args H K) : FnOk P f c' := fun args H K hh => h args H K (hc args H K hh)
/-- A text in, yes or no out. -/
theorem fn_strB {P : Program} {f : Nat} {p : ByteArray → Prop} {g : ByteArray → Bool} (h : ∀ s w, p s → Calls P f #[.string s] w fun e w' => e = .returned (.bool (g s)) ∧ w = w') :
  FnOk P f (spec (fun s : ByteArray => [.str s]) (fun _ => []) p (fun s => .bl (g s)) fun _ => []) := fn_pure fun s hp pub w vals hv => by
 obtain ⟨us, h1, h2⟩ := hv.str_inv
 have h3 := h2.nil_inv
 subst h3
 have h4 : vals = #[.string s] := Array.toList_inj.1 (by simpa using h1)
 subst h4
 exact (h s w hp).mono fun e w' ⟨h1, h2⟩ => ⟨h2.symm, _, h1, .bl _⟩
/-- A slice of nothing in a block's cell becomes a row of its own. -/
theorem Gh.adoptC {M : Nat} {st : St} (k j t sz : Nat) {t0 : TypeId} {cs : List AV} (hk : st.H[k]? = some (.blk t0 cs)) (hj : cs[j]? = some (.v (.slice none 0 0))) :
  Gh M st ⟨st.T, (st.H ++ [Ent.row t sz []]).set k (.blk t0 (cs.set j (.hd st.H.length)))⟩ := fun C a w r pub _ h => by
 have hkl := (List.getElem?_eq_some_iff.1 hk).1
 have hd := h.room 1
 have hq : (st.H ++ List.replicate 1 Ent.dead)[st.H.length]? = some .dead := by simp
 have h1 := hd.adopt hq t sz
 have hset : (st.H ++ List.replicate 1 Ent.dead).set st.H.length (.row t sz []) = st.H ++ [.row t sz []] := by simp
 dsimp only at h1
 rw [hset] at h1
 have hk1 : (st.H ++ [Ent.row t sz []])[k]? = some (.blk t0 cs) := by rw [List.getElem?_append_left hkl]; exact hk
 obtain ⟨b, arr, hr, hb, hc, hp⟩ := h1.ent_blk hk1
 have he : ERel pub w (rset r st.H.length (.slice none 0 0)) (some (.pointer (some ⟨b, 0, none⟩))) (.blk t0 (cs.set j (.hd st.H.length))) := by
  refine .blk hb ⟨by rw [List.length_set]; exact hc.len, fun i x u hx hu => ?_⟩ hp
  rw [List.getElem?_set] at hx
  split at hx
  ·rename_i e
   subst e
   have := hc.at_ j _ u hj hu
   cases this
   split at hx
   ·cases hx; exact .hd (rset_self _ _ _) rfl
   ·cases hx
  ·exact hc.at_ i x u hx hu
 exact ⟨_, pub, h1.mod.set hr (Fr.refl (fun _ => False) _ _) (fun b hb => hb.elim) h1.mod.fresh h1.mod.there he, h1.own, h1.fr, h1.slots, h1.defers, h1.size, h1.stab, by simpa using h1.low⟩
end Go.Proofs.YtpcfdpengbkplaaDoor
/-
  A slice that is read as an append's source (its address may be anything where it is empty); append of such a one.
-/
namespace Go.Proofs.YtpcfdpengbkplaaDoor
open Go.RowKit

structure Src (w : World) (size : Nat) (A : Option Addr) (n c : Nat) (xs : List Value) : Prop where
  len : xs.length = n * size
  cap : n ≤ c
  max : c ≤ maxLen
  nil_ : A = none → n = 0 ∧ c = 0
  get : ∀ j u, xs[j]? = some u → ∃ b o, A = some ⟨b, o, none⟩ ∧ w.cell? ⟨b, o + j, none⟩ = some u
theorem Rd.src {w : World} {size : Nat} {A : Option Addr} {n c : Nat} {xs : List Value} (h : Rd w size A n c xs) : Src w size A n c xs := ⟨h.len, h.cap, h.max, h.nil_, h.get⟩
theorem Src.below {w w' : World} {size : Nat} {A : Option Addr} {n c : Nat} {xs : List Value} (h : Src w size A n c xs) (hb : Below w.heap.size w w') : Src w' size A n c xs :=
  ⟨h.len, h.cap, h.max, h.nil_, fun j u hu => by
    obtain ⟨b, o, hA, hc⟩ := h.get j u hu
    exact ⟨b, o, hA, hb.cell (p := ⟨b, o + j, none⟩) (World.block_lt_of_cell? w _ hc) ▸ hc⟩⟩
theorem Src.alloc {w : World} {size : Nat} {A : Option Addr} {n c : Nat} {xs : List Value} (h : Src w size A n c xs) (o : Obj) : Src (w.alloc o) size A n c xs := h.below ((Below.refl _ _).alloc (Nat.le_refl _) _)
theorem Lst.src {α : Type} {f : α → List Value} {k : Nat} (hk : 0 < k) (hf : ∀ x, (f x).length = k) {w : World} {A : Option Addr} {n c : Nat} {l : List α} (h : Lst f k w A n l) (h1 : n ≤ c) (h2 : c ≤ maxLen) (h3 : A = none → n = 0 ∧ c = 0) : Src w k A n c (l.flatMap f) :=
  ⟨by rw [flat_len f k hf, h.len], h1, h2, h3, fun j u hu => by
    have hj : j < l.length * k := by rw [← flat_len f k hf l]; exact (List.getElem?_eq_some_iff.1 hu).1
    have hi : j / k < l.length := Nat.div_lt_of_lt_mul (by rw [Nat.mul_comm]; exact hj)
    have e : j / k * k + j % k = j := by rw [Nat.mul_comm]; exact Nat.div_add_mod j k
    have h4 := flat_get f k hf l (j / k) (j % k) hi (Nat.mod_lt _ hk)
    rw [e, hu] at h4
    obtain ⟨b, o, hA, hc⟩ := h.cells (j / k) hi (j % k) u h4.symm
    exact ⟨b, o, hA, by rw [Nat.add_assoc, e] at hc; exact hc⟩⟩

/-! ### append -/
section
variable {P : Program} (w : World)
theorem run_appS (t ty e : TypeId) (i : TypeInfo) (z : Value) (size bytes : Nat) (ht : P.underlying t = some (.slice e)) (hi : P.info? e = some i) (hz : i.zero = some z)
    (hsize : i.size = size) (hby : i.bytes = bytes) (hzs : z.cells.size = size) (hsz : 0 < size)
    {A A' : Option Addr} {n c m c' : Nat} {xs news : List Value} (hown : Own w e size A n c xs) (hr : Src w size A' m c' news) (h1 : ∀ u ∈ news, u.oneCell' = true)
    (h63 : n + m ≤ maxLen) (hbytes : (n + m) * bytes ≤ 140737488355328) :
    ∃ A2 c2 w', (Builtin.append_ #[t, t] ty #[.slice A n c, .slice A' m c']).run P w = .ok (.slice A2 (n + m) c2) w' ∧ Own w' e size A2 (n + m) c2 (xs ++ news) ∧
      Frm (fpo A) w w' ∧ (∀ b ∈ fpo A2, b ∈ fpo A ∨ b = w.heap.size) := by
  rcases A' with _ | ad
  · obtain ⟨rfl, rfl⟩ := hr.nil_ rfl
    have hn : news = [] := List.eq_nil_of_length_eq_zero (by simpa using hr.len)
    subst hn
    exact ⟨A, c, w, run_append_owned_none (P := P) w 0 t ty e i size ht hi _ n xs hown, by simpa using hown, Frm.refl _ _, fun b hb => .inl hb⟩
  · have hcells : ∀ j u, news[j]? = some u → w.cell? (ad.add j) = some u := by
      intro j u hu
      obtain ⟨b, o, he, hc⟩ := hr.get j u hu
      simp only [Option.some.injEq] at he
      subst he
      rw [Addr.add_lit]
      exact hc
    obtain ⟨v', w', hrun, h2, h3, _, h5⟩ := run_append_own_at (P := P) w 0 t ty e i z size bytes ht hi hz hsize hby hzs hsz (.slice A n c) n xs hown ad m c' news hr.len hcells h1 h63 hbytes (Nat.zero_le _)
    have hfr : Frm (fpo A) w w' := by
      refine ⟨h3.os, h3.tape, h3.output, h3.size, fun k hk hn => h3.block k hk ?_⟩
      rcases A with _ | a
      · simp [Value.ownBlock]
      · simpa [Value.ownBlock] using hn
    have hv : ∃ A2 c2, v' = .slice A2 (n + m) c2 := by
      rcases h2.2 with ⟨rfl, h0⟩ | ⟨g, cap, cur, rfl, _⟩
      · exact ⟨none, 0, by rw [h0]⟩
      · exact ⟨_, _, rfl⟩
    obtain ⟨A2, c2, rfl⟩ := hv
    refine ⟨A2, c2, w', hrun, h2, hfr, fun b hb => ?_⟩
    rcases A2 with _ | a2
    · simp at hb
    · simp at hb
      subst hb
      rcases h5 with h5 | h5
      · left
        rcases A with _ | a
        · simp [Value.ownBlock] at h5
        · simp [Value.ownBlock] at h5
          simp [h5]
      · right
        simpa [Value.ownBlock] using h5

theorem wp_appS {o : Oper} {a : Act} {K : Act → World → Prop} {Q : Exit → Act → World → Prop} (s x : Operand) (t : TypeId)
    (ho : o.op = .call { callee := .builtin .append, args := #[s, x], argTypes := #[t, t] })
    (e : TypeId) (i : TypeInfo) (z : Value) (size bytes : Nat) (ht : P.underlying t = some (.slice e)) (hi : P.info? e = some i) (hz : i.zero = some z)
    (hsize : i.size = size) (hby : i.bytes = bytes) (hzs : z.cells.size = size) (hsz : 0 < size)
    {A A' : Option Addr} {n c m c' : Nat} {xs news : List Value} (hs : a.eval s = .slice A n c) (hx : a.eval x = .slice A' m c') (hown : Own w e size A n c xs) (hr : Src w size A' m c' news) (h1 : ∀ u ∈ news, u.oneCell' = true)
    (N : Nat) (hN : n + m = N) (ys : List Value) (hys : xs ++ news = ys) (h63 : N ≤ maxLen) (hbytes : N * bytes ≤ 140737488355328)
    (h : ∀ A2 c2 w', Own w' e size A2 N c2 ys → Frm (fpo A) w w' → (∀ b ∈ fpo A2, b ∈ fpo A ∨ b = w.heap.size) → K (a.put o.dst (.slice A2 N c2)) w') : o.wp P a w K Q := by
  subst hN hys
  obtain ⟨A2, c2, w', hrun, h2, h3, h4⟩ := run_appS (P := P) w t o.type e i z size bytes ht hi hz hsize hby hzs hsz hown hr h1 h63 hbytes
  unfold Oper.wp execOp
  simp only [ho, resolve, invoke, builtin, Sem.run_bind, Sem.run_pure, Result.andThen_ok, List.map_toArray, List.map_cons, List.map_nil, hs, hx, hrun]
  exact h A2 c2 w' h2 h3 h4

theorem wpList_appS {ops : Array Oper} {rest : List Oper} {o : Oper} {a : Act} {Q : Exit → Act → World → Prop} (hgd : o.guard = none) (s x : Operand) (t : TypeId)
    (ho : o.op = .call { callee := .builtin .append, args := #[s, x], argTypes := #[t, t] })
    (e : TypeId) (i : TypeInfo) (z : Value) (size bytes : Nat) (ht : P.underlying t = some (.slice e)) (hi : P.info? e = some i) (hz : i.zero = some z)
    (hsize : i.size = size) (hby : i.bytes = bytes) (hzs : z.cells.size = size) (hsz : 0 < size)
    {A A' : Option Addr} {n c m c' : Nat} {xs news : List Value} (hs : a.eval s = .slice A n c) (hx : a.eval x = .slice A' m c') (hown : Own w e size A n c xs) (hr : Src w size A' m c' news) (h1 : ∀ u ∈ news, u.oneCell' = true)
    (N : Nat) (hN : n + m = N) (ys : List Value) (hys : xs ++ news = ys) (h63 : N ≤ maxLen) (hbytes : N * bytes ≤ 140737488355328)
    (h : ∀ A2 c2 w', Own w' e size A2 N c2 ys → Frm (fpo A) w w' → (∀ b ∈ fpo A2, b ∈ fpo A ∨ b = w.heap.size) → wpList P ops Q rest (a.put o.dst (.slice A2 N c2)) w') : wpList P ops Q (o :: rest) a w :=
  wpList_plain hgd fun _ hK => wp_appS w s x t ho e i z size bytes ht hi hz hsize hby hzs hsz hs hx hown hr h1 N hN ys hys h63 hbytes fun A2 c2 w' h2 h3 h4 => hK _ _ (h A2 c2 w' h2 h3 h4)
end

end Go.Proofs.YtpcfdpengbkplaaDoor
/-
 Functions that were walked in the old way and only add memory: their contracts over abstract values.
-/
namespace Go.Proofs.YtpcfdpengbkplaaDoor
open Go.RowKit

/-- What a function that only adds memory leaves: its answer, and which of the new cells are published. -/
def AddPost (pub : Pub) (w : World) (x : AV) (e : Ending) (w' : World) : Prop :=
 ∃ v pub', e = .returned v ∧ Below w.heap.size w w' ∧ (∀ b, b < w.heap.size → pub' b = pub b) ∧ (∀ b, w'.heap.size ≤ b → pub' b = 0) ∧
  (∀ b i, w.heap.size ≤ b → i < pub' b → ∃ u, w'.cell? ⟨b, i, none⟩ = some u) ∧ VRel pub' w' rho0 x v
theorem fn_add {P : Program} {f : Nat} {ι : Type} {a : ι → List AV} {p : ι → Prop} {r : ι → AV}
  (h : ∀ i, p i → ∀ (pub : Pub) (w : World) (vals : Array Value), (∀ b, w.heap.size ≤ b → pub b = 0) → GlobOk pub w → VRels pub w rho0 (a i) vals.toList → Calls P f vals w (AddPost pub w (r i))) :
  FnOk P f (spec a (fun _ => []) p r fun _ => []) := by
 intro args H K ⟨i, ha, hH, hp, hK⟩ w rh pub vals hm hv
 subst ha
 subst hH
 have := rho_none hm
 subst this
 refine (h i hp pub w vals hm.fresh hm.glob hv).mono fun e w' ⟨v, pub', he, hb, h1, h2, h3, hr⟩ => ?_
 have hc : ∀ b i, b < w.heap.size → w'.cell? ⟨b, i, none⟩ = w.cell? ⟨b, i, none⟩ := fun b i hlt => World.cell?_of_block (hb.block b hlt)
 have hlt : ∀ b i, i < pub b → b < w.heap.size := fun b i hi => by
  rcases Nat.lt_or_ge b w.heap.size with h4 | h4
  ·exact h4
  ·rw [hm.fresh b h4] at hi; omega
 have hle : ∀ b, pub b ≤ pub' b := fun b => by
  rcases Nat.lt_or_ge b w.heap.size with h4 | h4
  ·rw [h1 b h4]; exact Nat.le_refl _
  ·rw [hm.fresh b h4]; exact Nat.zero_le _
 have hcl : ∀ b j u, j < pub b → w.cell? ⟨b, j, none⟩ = some u → w'.cell? ⟨b, j, none⟩ = some u := fun b j u hj hu => by rw [hc b j (hlt b j hj)]; exact hu
 have hln : ∀ b n, 0 < pub b → lenW w b = some n → lenW w' b = some n := fun b n _ hn => lenW_of (hb.block b (lenW_lt hn)) hn
 refine ⟨v, r i, [], rho0, pub', he, hK, hr, ⟨fun k e he => (by simp at he), fun _ _ => rfl, (fun _ _ _ _ _ h => by cases h), h2, fun b j hj => ?_, hm.glob.ext ⟨hle, hcl, hln⟩⟩, ⟨hb.os, hb.tape, hb.output, hb.size, fun b hlt _ => ⟨hb.block b hlt, h1 b hlt⟩, ⟨hle, hcl, hln⟩⟩, fun b hb => .inl hb, fun _ _ h _ => h, Nat.le_refl _⟩
 ·rcases Nat.lt_or_ge b w.heap.size with h4 | h4
  ·rw [h1 b h4] at hj
   obtain ⟨u, hu⟩ := hm.there b j hj
   exact ⟨u, by rw [hc b j h4]; exact hu⟩
  ·exact h3 b j h4 hj
/-- An answer that leads to no memory. -/
theorem AddPost.plain {pub : Pub} {w w' : World} {x : AV} {v : Value} {e : Ending} (he : e = .returned v) (hb : Below w.heap.size w w') (hf : ∀ b, w.heap.size ≤ b → pub b = 0) (hr : VRel pub w' rho0 x v) : AddPost pub w x e w' :=
 ⟨v, pub, he, hb, fun _ _ => rfl, fun b h => hf b (Nat.le_trans hb.size h), fun b i h hi => (by rw [hf b h] at hi; omega), hr⟩

/-! ### Slices of flat elements, as the old contracts want them -/
theorem VRel.sl_inv {pub : Pub} {w : World} {r : Rho} {sz : Nat} {xs : List AV} {v : Value} (h : VRel pub w r (.sl sz xs) v) :
  ∃ A c, v = .slice A xs.length c ∧ xs.length ≤ c ∧ c ≤ maxLen ∧ (A = none → xs = [] ∧ c = 0) ∧
   ∀ (i : Nat) (x : AV) (j : Nat) (u : AV), xs[i]? = some x → x.cells[j]? = some u → ∃ b o g, A = some ⟨b, o, none⟩ ∧ VRel pub w rho0 u g ∧ o + i * sz + j < pub b ∧ w.cell? ⟨b, o + i * sz + j, none⟩ = some g := by
 cases h with
 | sl hc hm hn hs g hr hg =>
  refine ⟨_, _, rfl, hc, hm, hn, fun i x j u hx hu => ?_⟩
  obtain ⟨b, o, hA, hlt, hcell⟩ := hg i x j u hx hu
  exact ⟨b, o, _, hA, hr i x j u hx hu, hlt, hcell⟩
/-- Elements whose cells are told whole by their abstract values. -/
def FlatE {α : Type} (f : α → List Value) (F : α → AV) : Prop :=
 ∀ (x : α) (j : Nat) (u : Value), (f x)[j]? = some u → ∃ a, (F x).cells[j]? = some a ∧ ∀ (pub : Pub) (w : World) (r : Rho) (v : Value), VRel pub w r a v → v = u
theorem VRel.lst {α : Type} {f : α → List Value} {F : α → AV} (hF : FlatE f F) {k : Nat} {pub : Pub} {w : World} {r : Rho} {l : List α} {v : Value} (h : VRel pub w r (.sl k (mapA F l)) v) :
  ∃ A c, v = .slice A l.length c ∧ l.length ≤ c ∧ c ≤ maxLen ∧ (A = none → l.length = 0 ∧ c = 0) ∧ Lst f k w A l.length l := by
 obtain ⟨A, c, hv, h1, h2, h3, h4⟩ := h.sl_inv
 have hl : (mapA F l).length = l.length := mapA_len F l
 rw [hl] at hv h1
 refine ⟨A, c, hv, h1, h2, fun hA => ⟨?_, (h3 hA).2⟩, rfl, fun i hi j u hu => ?_⟩
 ·have := (h3 hA).1
  rw [← hl, this]; rfl
 ·obtain ⟨a, ha, hva⟩ := hF _ _ _ hu
  obtain ⟨b, o, g, hA, hg, hlt, hcell⟩ := h4 i _ j a (mapA_get F l hi) ha
  rw [hva _ _ _ _ hg] at hcell
  exact ⟨b, o, hA, hcell⟩
theorem AskEl.i0 {u : AV} {l : List AV} {K : Nat → AV → Prop} (k : K 0 u) : AskEl (u :: l) 0 K := ⟨0, u, rfl, rfl, k⟩
theorem AskEl.i1 {a u : AV} {l : List AV} {K : Nat → AV → Prop} (k : K 1 u) : AskEl (a :: u :: l) 1 K := ⟨1, u, rfl, rfl, k⟩
theorem AskEl.i2 {a b u : AV} {l : List AV} {K : Nat → AV → Prop} (k : K 2 u) : AskEl (a :: b :: u :: l) 2 K := ⟨2, u, rfl, rfl, k⟩
theorem AskIdx.i0 {u : AV} {l : List AV} {K : Nat → Prop} (k : K 0) : AskIdx (u :: l) 0 K := ⟨0, rfl, Nat.succ_pos _, k⟩
theorem AskIdx.i1 {a u : AV} {l : List AV} {K : Nat → Prop} (k : K 1) : AskIdx (a :: u :: l) 1 K := ⟨1, rfl, Nat.succ_lt_succ (Nat.succ_pos _), k⟩
theorem AskIdx.i2 {a b u : AV} {l : List AV} {K : Nat → Prop} (k : K 2) : AskIdx (a :: b :: u :: l) 2 K := ⟨2, rfl, Nat.succ_lt_succ (Nat.succ_lt_succ (Nat.succ_pos _)), k⟩
end Go.Proofs.YtpcfdpengbkplaaDoor
/-
 Loops: the slots that a round does not write stay without being named.
-/
namespace Go.Proofs.YtpcfdpengbkplaaDoor
open Go.RowKit

def stepD (s : XStep) : List Nat := match s.d with
 | some d => [d]
 | none => []
def XPlan.wr : XPlan → List Nat
 | .nil => []
 | .take _ s p => stepD s ++ p.wr
 | .eff _ _ _ s p => stepD s ++ p.wr
 | .fork p q => p.wr ++ q.wr
 | .phase _ p => p.wr
 | .more _ p => p.wr
def wrL : List XStep → List Nat
 | [] => []
 | s :: l => stepD s ++ wrL l
/-- The slots that code may write. -/
def XCode.wr : XCode → List Nat
 | .reg l => wrL l
 | .dreg p _ _ => p.wr
 | .seq a b => a.wr ++ b.wr
 | .cond _ a b => a.wr ++ b.wr
 | .block _ a => a.wr
 | .loop a => a.wr
 | .scope a => a.wr
 | _ => []
def hasAny : List Nat → AV → Bool
 | [], _ => false
 | h :: l, x => x.has h || hasAny l x
/-- The slots that stay: not written, and none of these entries named. -/
def keepT (hs : List Nat) : List Nat → List (Nat × AV) → List (Nat × AV)
 | _, [] => []
 | ws, (n, x) :: T => if ws.contains n = true then keepT hs ws T else if hasAny hs x = true then keepT hs (n :: ws) T else (n, x) :: keepT hs (n :: ws) T
def weakG (T T' : List (Nat × AV)) : Prop := ∀ m, tget T' m = .any ∨ tget T' m = tget T m
theorem keepT_get (hs : List Nat) : ∀ (T : List (Nat × AV)) (ws : List Nat) (m : Nat), tget (keepT hs ws T) m = .any ∨ (m ∉ ws ∧ tget (keepT hs ws T) m = tget T m)
 | [], ws, m => .inl rfl
 | (n, x) :: T, ws, m => by
  unfold keepT
  split
  ·rename_i h
   rw [List.contains_eq_mem] at h
   simp only [decide_eq_true_eq] at h
   rcases keepT_get hs T ws m with h1 | ⟨h1, h2⟩
   ·exact .inl h1
   ·refine .inr ⟨h1, h2.trans ?_⟩
    show _ = if n = m then x else tget T m
    rw [if_neg (by rintro rfl; exact h1 h)]
  ·rename_i h
   rw [List.contains_eq_mem] at h
   simp only [decide_eq_true_eq] at h
   split
   ·rcases keepT_get hs T (n :: ws) m with h1 | ⟨h1, h2⟩
    ·exact .inl h1
    ·simp only [List.mem_cons, not_or] at h1
     refine .inr ⟨h1.2, h2.trans ?_⟩
     show _ = if n = m then x else tget T m
     rw [if_neg (fun e => h1.1 e.symm)]
   ·show (if n = m then x else tget (keepT hs (n :: ws) T) m) = .any ∨ m ∉ ws ∧ (if n = m then x else tget (keepT hs (n :: ws) T) m) = if n = m then x else tget T m
    by_cases e : n = m
    ·subst e
     rw [if_pos rfl, if_pos rfl]
     exact .inr ⟨h, rfl⟩
    ·rw [if_neg e, if_neg e]
     rcases keepT_get hs T (n :: ws) m with h1 | ⟨h1, h2⟩
     ·exact .inl h1
     ·simp only [List.mem_cons, not_or] at h1
      exact .inr ⟨h1.2, h2⟩
theorem weakG_app {T F G : List (Nat × AV)} (h : weakT T F) (hg : weakG T G) : weakG T (F ++ G) := by
 induction F with
 | nil => exact hg
 | cons p F ih =>
  obtain ⟨n, x⟩ := p
  intro m
  show (if n = m then x else tget (F ++ G) m) = .any ∨ (if n = m then x else tget (F ++ G) m) = tget T m
  split
  ·rename_i e
   subst e
   rcases h.1 with h1 | h1
   ·exact .inr h1.symm
   ·exact .inl h1
  ·exact ih h.2 m
theorem Gh.weakG {M : Nat} {st st' : St} (hT : weakG st.T st'.T) (hH : st.H.take st'.H.length = st'.H) (hb : bndT st'.H.length st'.T = true) (hbH : bndH st'.H.length st'.H = true) (hM : M ≤ st'.H.length) : Gh M st st' := fun C a w r pub hCm h => by
 obtain ⟨r', pub', h1⟩ := Gh.weak (M := M) (st := ⟨[], st.H⟩) (st' := ⟨[], st'.H⟩) trivial hH rfl hbH hM C a w r pub hCm ⟨h.mod, h.own, h.fr, fun n => .any _, h.defers, h.size, h.stab, h.low⟩
 have hget : ∀ k e, st'.H[k]? = some e → st.H[k]? = some e := fun k e he => by
  have hk := (List.getElem?_eq_some_iff.1 he).1
  rw [← hH, List.getElem?_take, if_pos hk] at he
  exact he
 let r2 : Rho := fun k => if k < st'.H.length then r k else none
 have hr2 : ∀ k, k < st'.H.length → r2 k = r k := fun k hk => if_pos hk
 have hsome : ∀ k y, r2 k = some y → r k = some y := fun k y hy => by
  by_cases hk : k < st'.H.length
  ·rw [hr2 k hk] at hy; exact hy
  ·simp only [r2, if_neg hk] at hy; cases hy
 refine ⟨r2, pub, ⟨fun k e he => ?_, fun k hk => if_neg (by omega), fun i j x y hij hx hy => h.mod.disj i j x y hij (hsome _ _ hx) (hsome _ _ hy), h.mod.fresh, h.mod.there, h.mod.glob⟩, fun k x hx => h.own k x (hsome _ _ hx), h.fr, fun m => ?_, h.defers, h.size, fun k y hy hs => ?_, ⟨h.low.1, by omega⟩⟩
 ·have hk := (List.getElem?_eq_some_iff.1 he).1
  have h0 := h.mod.ent k e (hget k e he)
  have hbe := bndH_get hbH k e he
  rw [hr2 k hk]
  exact h0.congr hbe hr2
 ·rcases hT m with e | e
  ·rw [e]; exact .any _
  ·have hbm := bndT_get hb m
   rw [e] at hbm ⊢
   exact (h.slots m).congr fun n hn => hr2 n (AV.bnd_has _ hbm hn)
 ·have hk : k < st'.H.length := by
   rcases Nat.lt_or_ge k C.m with h1 | h1
   ·omega
   ·rw [h.low.1 k h1] at hy; cases hy
  rw [hr2 k hk]
  exact h.stab k y hy hs
theorem CutK.sel {H : List Ent} {K : AV → List Ent → Prop} {x : AV} {H' : List Ent} (s : List Nat) (H2 : List Ent) (x2 : AV) {x3 : AV} {H3 : List Ent} (hx : x = x2.ren s 0) (hH : s.map (fun k => H'[k]?) = (renH s 0 H2).map some) (hnd : s.Nodup) (hs : selOk s 0 H = true) (hl : H.length ≤ s.length)
  (hb : x2.bnd H2.length = true) (hbH : bndH H2.length H2 = true) (h1 : Le x2 x3) (h2 : LeH H2 H3) (hK : K x3 H3) : CutK H K x H' := ⟨s, x2, H2, x3, H3, hx, hH, hnd, hs, hl, hb, hbH, h1, h2, hK⟩
/-- Less is told of a call's arguments. -/
theorem callG_le {P : Program} {keep : List Nat} {f : Nat} {args : List AV} (args2 : List AV) {st : St} {K : AV → St → Prop} (h : LeL0 args args2) (hc : CallG P keep f args2 st K) : CallG P keep f args st K :=
 ⟨fun C a w r pub vals hh hv => hc.out C a w r pub vals hh (h.to hv)⟩
/-- A loop: F the slots that turn, G the entries; hs the entries that an append may turn. -/
theorem xloopK {P : Program} {N M : Nat} {c : XCode} {Q : XEx → St → Prop} {T : List (Nat × AV)} {H : List Ent} {ι : Type} (hs : List Nat) (F : ι → List (Nat × AV)) (G : ι → List Ent) (μ : ι → Ms) (i0 : ι)
  (hw : weakT T (F i0)) (hH : H.take (G i0).length = G i0) (hb : bndT (G i0).length (F i0 ++ keepT hs c.wr T) = true) (hbH : bndH (G i0).length (G i0) = true) (hM : M ≤ (G i0).length)
  (hr : ∀ i, XW P N M c (XRound M (fun i => ⟨F i ++ keepT hs c.wr T, G i⟩) μ (μ i) Q) ⟨F i ++ keepT hs c.wr T, G i⟩) : XLoopG P N M c Q ⟨T, H⟩ :=
 xloop (fun i => ⟨F i ++ keepT hs c.wr T, G i⟩) μ i0 (Gh.weakG (weakG_app hw fun m => by rcases keepT_get hs T c.wr m with h | h; (· exact .inl h); exact .inr h.2) hH hb hbH hM) hr
/-- .. behind steps in thought. -/
theorem xloopG {P : Program} {N M : Nat} {c : XCode} {Q : XEx → St → Prop} {st st1 : St} (hg : Gh M st st1) (h : XLoopG P N M c Q st1) : XLoopG P N M c Q st :=
 ⟨fun code C a w r pub hc hN hM hh => by
  obtain ⟨r1, p1, h1⟩ := hg C a w r pub hM hh
  exact h.out code C a w r1 p1 hc hN hM h1⟩
theorem roundW {ι : Type} {M : Nat} {F : ι → St} {μ : ι → Ms} {n : Ms} {st : St} (j : ι) (hw : weakT st.T (F j).T) (hH : st.H.take (F j).H.length = (F j).H) (hb : bndT (F j).H.length (F j).T = true) (hbH : bndH (F j).H.length (F j).H = true) (hM : M ≤ (F j).H.length) (hl : (μ j).val < n.val) : RoundK M F μ n st :=
 ⟨_, j, Gh.weak hw hH hb hbH hM, rfl, hl⟩
theorem roundG {ι : Type} {M : Nat} {F : ι → St} {μ : ι → Ms} {n : Ms} {st st1 : St} (hg : Gh M st st1) (h : RoundK M F μ n st1) : RoundK M F μ n st := by
 obtain ⟨⟨st', j, h1, h2, h3⟩⟩ := h
 exact ⟨st', j, hg.trans h1, h2, h3⟩
theorem AppK.mk' {xs ys : List AV} {bytes : Nat} {K : List AV → Prop} (owed : xs.length + ys.length ≤ maxLen ∧ (xs.length + ys.length) * bytes ≤ 140737488355328) (rest : ∀ zs, zs = xs ++ ys → zs.length = xs.length + ys.length → K zs) : AppK xs ys bytes K :=
 ⟨owed, fun zs h => rest zs h (by rw [h, List.length_append])⟩
theorem sliK_mapA {α : Type} {f : α → AV} {L : List α} {lo hi : Option Int} {K : List AV → Prop} (owed : 0 ≤ lo.getD 0 ∧ lo.getD 0 ≤ hi.getD L.length ∧ hi.getD L.length ≤ L.length)
  (rest : ∀ L', L' = (L.take (hi.getD L.length).toNat).drop (lo.getD 0).toNat → (L'.length : Int) = hi.getD L.length - lo.getD 0 → K (mapA f L')) : SliK (mapA f L) lo hi K := by
 refine ⟨by rw [mapA_len]; exact owed, fun ys hys => ?_⟩
 rw [mapA_len, mapA_eq, ← List.map_take, ← List.map_drop, ← mapA_eq] at hys
 subst hys
 refine rest _ rfl ?_
 rw [List.length_drop, List.length_take]
 omega
theorem appK_mapA {α : Type} {f : α → AV} {L L2 : List α} {bytes : Nat} {K : List AV → Prop} (owed : L.length + L2.length ≤ maxLen ∧ (L.length + L2.length) * bytes ≤ 140737488355328)
  (rest : ∀ L', L' = L ++ L2 → L'.length = L.length + L2.length → K (mapA f L')) : AppK (mapA f L) (mapA f L2) bytes K :=
 ⟨by rw [mapA_len, mapA_len]; exact owed, fun zs h => by rw [h, ← mapA_app]; exact rest _ rfl List.length_append⟩
theorem appK_nilA {α : Type} {f : α → AV} {L2 : List α} {bytes : Nat} {K : List AV → Prop} (owed : L2.length ≤ maxLen ∧ L2.length * bytes ≤ 140737488355328)
  (rest : K (mapA f L2)) : AppK [] (mapA f L2) bytes K :=
 ⟨by rw [mapA_len, List.length_nil, Nat.zero_add]; exact owed, fun zs h => by rw [h, List.nil_append]; exact rest⟩
theorem RemK.pos {m n : Int} {K : Int → Prop} (hm : 0 ≤ m) (hn : 0 < n) (rest : ∀ z, z = m.tmod n → 0 ≤ z → z < n → K z) : RemK m n K :=
 ⟨by omega, fun z hz => rest z hz (by rw [hz]; exact Int.tmod_nonneg _ hm) (by rw [hz]; exact Int.tmod_lt_of_pos _ hn)⟩
theorem QuoK.pos {m n : Int} {K : Int → Prop} (hm : 0 ≤ m) (hn : 0 < n) (hM : m ≤ 9223372036854775807) (rest : ∀ z, z = m.tdiv n → 0 ≤ z → z ≤ m → K z) : QuoK .i64 m n K := by
 have h0 : 0 ≤ m.tdiv n := Int.tdiv_nonneg hm (by omega)
 have h1 : m.tdiv n ≤ m := Int.tdiv_le_self _ hm
 exact ⟨⟨by omega, IntWalk.i64_in _ (by omega)⟩, fun z hz => rest z hz (by omega) (by omega)⟩
theorem BytK.of {xs : List AV} {K : ByteArray → Prop} (ns : List Int) (h : bytesA xs = some ns) (hk : ∀ s, s = strOf ns → s.size = ns.length → K s) : BytK 1 xs K :=
 ⟨ns, rfl, h, fun s hs => hk s hs (by rw [hs]; simp [strOf, ByteArray.size])⟩
theorem CatK.mk' {s t : ByteArray} {K : ByteArray → Prop} (owed : s.size + t.size ≤ maxLen) (rest : ∀ u, u = s ++ t → u.size = s.size + t.size → K u) : CatK s t K :=
 ⟨owed, fun u hu => rest u hu (by rw [hu, ByteArray.size_append])⟩
/-- An element by its place. -/
theorem askEl_mapA {α : Type} {f : α → AV} {L : List α} {i : Nat} {K : Nat → AV → Prop} (h : i < L.length) (hk : K i (f L[i])) : AskEl (mapA f L) (nI i) K :=
 ⟨i, _, rfl, mapA_get f L h, hk⟩
theorem askEl_some {α : Type} {f : α → AV} {L : List α} {i : Nat} {l : α} {K : Nat → AV → Prop} (h : L[i]? = some l) (hk : K i (f l)) : AskEl (mapA f L) (nI i) K :=
 ⟨i, _, rfl, by rw [mapA_eq, List.getElem?_map, h]; rfl, hk⟩
theorem askIdx_some {α : Type} {f : α → AV} {L : List α} {i : Nat} {l : α} {K : Nat → Prop} (h : L[i]? = some l) (hk : K i) : AskIdx (mapA f L) (nI i) K :=
 ⟨i, rfl, by rw [mapA_len]; exact (List.getElem?_eq_some_iff.1 h).1, hk⟩
theorem take_some {α : Type} {L : List α} {i : Nat} {l : α} (h : L[i]? = some l) : L.take (i + 1) = L.take i ++ [l] := by
 obtain ⟨hi, rfl⟩ := List.getElem?_eq_some_iff.1 h
 exact List.take_succ_eq_append_getElem hi
theorem mem_some {α : Type} {L : List α} {i : Nat} {l : α} (h : L[i]? = some l) : l ∈ L := List.mem_of_getElem? h
theorem some_at {α : Type} {L : List α} {i : Nat} (h : i < L.length) : ∃ l, L[i]? = some l := ⟨_, List.getElem?_eq_getElem h⟩
theorem askIdx_mapA {α : Type} {f : α → AV} {L : List α} {i : Nat} {K : Nat → Prop} (h : i < L.length) (hk : K i) : AskIdx (mapA f L) (nI i) K :=
 ⟨i, rfl, by rw [mapA_len]; exact h, hk⟩
theorem askByte_nI {s : ByteArray} {i : Nat} {K : Int → Prop} (h : i < s.size) (hk : ∀ z : Int, z = (s.data[i]'h).toNat → K z) : AskByte s (nI i) K :=
 ⟨i, rfl, h, fun c hc z hz => hk z (by rw [Array.getElem?_eq_getElem h] at hc; cases hc; exact hz)⟩
/-- What a tip holds is told wherever its handle stands. -/
theorem Gh.freeze {M : Nat} {st : St} (k : Nat) {t sz : Nat} {xs : List AV} (hk : st.H[k]? = some (.tip t sz xs)) : Gh M st ⟨tkill k (.sl sz xs) st.T, st.H.map (Ent.kill k (.sl sz xs))⟩ := fun C a w r pub _ h => by
 have hy : ∀ z, r k = some z → VRel pub w r (.sl sz xs) z := fun z hz => by
  obtain ⟨A, c, us, hr, _⟩ := h.ent_tip hk
  rw [hr] at hz
  cases hz
  have h1 := h.view1 (x := .hd k) (.hd hr rfl)
  simp only [St.view1, hk] at h1
  exact h1
 refine ⟨r, pub, ⟨fun j e he => ?_, fun j hj => h.mod.none_ j (by simpa using hj), h.mod.disj, h.mod.fresh, h.mod.there, h.mod.glob⟩, h.own, h.fr, h.slots.kill (fun _ _ => rfl) hy, h.defers, h.size, h.stab, by simpa using h.low⟩
 rw [List.getElem?_map] at he
 cases hj : st.H[j]? with
 | none => rw [hj] at he; cases he
 | some e0 =>
  rw [hj] at he
  cases he
  exact (h.mod.ent j e0 hj).kill (Fr.refl (fun _ => False) _ _) (fun _ _ _ _ h => h) (fun _ _ => rfl) hy
theorem Gh.cast {M : Nat} {T : List (Nat × AV)} {H : List Ent} (H2 : List Ent) (h : H = H2) : Gh M ⟨T, H⟩ ⟨T, H2⟩ := by subst h; exact Gh.refl _
/-- Less is told of the entries. -/
theorem Gh.le {M : Nat} {st : St} (H2 : List Ent) (hl : LeH st.H H2) : Gh M st ⟨st.T, H2⟩ := fun C a w r pub _ h =>
 ⟨r, pub, h.mod.le hl, h.own, h.fr, h.slots, h.defers, h.size, h.stab, h.low.1, by rw [hl.len]; exact h.low.2⟩
/-- A row becomes a plain list. -/
theorem Gh.plain {M : Nat} {st : St} (k : Nat) {t sz : Nat} {xs : List AV} (hk : isRowE st.H[k]? = some (t, sz, xs)) : Gh M st ⟨tkill k (.sl sz xs) st.T, (st.H.set k (.tip t sz xs)).map (Ent.kill k (.sl sz xs))⟩ :=
 (Gh.publish k hk).trans (Gh.freeze (st := ⟨st.T, st.H.set k (.tip t sz xs)⟩) (t := t) k (by
  have hl : k < st.H.length := by
   unfold isRowE at hk
   split at hk
   ·rename_i he; exact (List.getElem?_eq_some_iff.1 he).1
   ·cases hk
  exact List.getElem?_set_self hl))
/-! ### Short roads of the walk: what is owed is shown by the numbers in sight -/
theorem vn : (∀ n : Nat, (NatCast.natCast n : Int) = (n : Int)) ∧ (∀ {α β : Type} (f : α → β) (l : List α), (mapA f l).length = l.length) ∧ (∀ n : Nat, nI n = (n : Int)) ∧ (∀ {α : Type}, ([] : List α).length = 0) ∧
  (∀ {α : Type} (a : α) (l : List α), (a :: l).length = l.length + 1) ∧ (∀ {α : Type} (a b : α), (some a).getD b = a) ∧ (∀ {α : Type} (b : α), (none : Option α).getD b = b) :=
 ⟨fun _ => rfl, fun f l => mapA_len f l, fun _ => rfl, rfl, fun _ _ => rfl, fun _ _ => rfl, fun _ => rfl⟩
section
variable {a b : Unit → Prop} {x1 x2 : Int} {K : Int → Prop}
theorem BrEq.n (k : x1 ≠ x2 → b ()) (d : x1 ≠ x2 := by (try simp only [vn] at *) <;> omega) : BrEq x1 x2 a b := ⟨fun h => absurd h d, k⟩
theorem BrEq.y (k : x1 = x2 → a ()) (d : x1 = x2 := by (try simp only [vn] at *) <;> omega) : BrEq x1 x2 a b := ⟨k, fun h => absurd d h⟩
theorem BrLt.n (k : x2 ≤ x1 → b ()) (d : x2 ≤ x1 := by (try simp only [vn] at *) <;> omega) : BrLt x1 x2 a b := ⟨fun h => absurd h (by omega), k⟩
theorem BrLt.y (k : x1 < x2 → a ()) (d : x1 < x2 := by (try simp only [vn] at *) <;> omega) : BrLt x1 x2 a b := ⟨k, fun h => absurd h (by omega)⟩
theorem BrLe.n (k : x2 < x1 → b ()) (d : x2 < x1 := by (try simp only [vn] at *) <;> omega) : BrLe x1 x2 a b := ⟨fun h => absurd h (by omega), k⟩
theorem BrLe.y (k : x1 ≤ x2 → a ()) (d : x1 ≤ x2 := by (try simp only [vn] at *) <;> omega) : BrLe x1 x2 a b := ⟨k, fun h => absurd h (by omega)⟩
theorem BrB.n {s t : Bool} (k : s ≠ t → b ()) (d : s ≠ t := by decide) : BrB s t a b := ⟨fun h => absurd h d, k⟩
theorem BrB.y {s t : Bool} (k : s = t → a ()) (d : s = t := by decide) : BrB s t a b := ⟨k, fun h => absurd d h⟩
theorem LenL.k {xs : List AV} (k : ∀ z : Int, z = (xs.length : Int) → K z) : LenL xs K := ⟨k⟩
theorem LenM.k {xs : List (AV × AV)} (k : ∀ z : Int, z = (xs.length : Int) → K z) : LenM xs K := ⟨k⟩
theorem LenS.k {s : ByteArray} (k : ∀ z : Int, z = (s.size : Int) → K z) : LenS s K := ⟨k⟩
theorem AddK.k (k : ∀ z, z = x1 + x2 → K z) (d : -9223372036854775808 ≤ x1 + x2 ∧ x1 + x2 ≤ 9223372036854775807 := by (try simp only [vn] at *) <;> omega) : AddK .i64 x1 x2 K := ⟨fun z hz => k z (hz.trans (IntWalk.i64_in _ d))⟩
theorem AddK.w {i : IntKind} (k : ∀ z, z = i.wrap (x1 + x2) → K z) : AddK i x1 x2 K := ⟨k⟩
theorem MulK.w {i : IntKind} (k : ∀ z, z = i.wrap (x1 * x2) → K z) : MulK i x1 x2 K := ⟨k⟩
theorem SubK.w {i : IntKind} (k : ∀ z, z = i.wrap (x1 - x2) → K z) : SubK i x1 x2 K := ⟨k⟩
theorem NegK.w {i : IntKind} (k : ∀ z, z = i.wrap (-x1) → K z) : NegK i x1 K := ⟨k⟩
theorem MulK.k (k : ∀ z, z = x1 * x2 → K z) (d : -9223372036854775808 ≤ x1 * x2 ∧ x1 * x2 ≤ 9223372036854775807 := by (try simp only [vn] at *) <;> omega) : MulK .i64 x1 x2 K := ⟨fun z hz => k z (hz.trans (IntWalk.i64_in _ d))⟩
theorem SubK.k (k : ∀ z, z = x1 - x2 → K z) (d : -9223372036854775808 ≤ x1 - x2 ∧ x1 - x2 ≤ 9223372036854775807 := by (try simp only [vn] at *) <;> omega) : SubK .i64 x1 x2 K := ⟨fun z hz => k z (hz.trans (IntWalk.i64_in _ d))⟩
theorem NegK.k (k : ∀ z, z = -x1 → K z) (d : -9223372036854775808 ≤ -x1 ∧ -x1 ≤ 9223372036854775807 := by (try simp only [vn] at *) <;> omega) : NegK .i64 x1 K := ⟨fun z hz => k z (hz.trans (IntWalk.i64_in _ d))⟩
theorem CvK.o {K : Prop} (k : K) (d : -9223372036854775808 ≤ x1 ∧ x1 ≤ 9223372036854775807 := by (try simp only [vn] at *) <;> omega) : CvK .i64 x1 K := ⟨IntWalk.i64_in _ d, k⟩
theorem MinK.k (k : ∀ z, z = min x1 x2 → K z) : MinK x1 x2 K := ⟨k⟩
theorem MaxK.k (k : ∀ z, z = max x1 x2 → K z) : MaxK x1 x2 K := ⟨k⟩
theorem WCvK.k {i : IntKind} (k : ∀ z, z = i.wrap x1 → K z) : WCvK i x1 K := ⟨k⟩
theorem WAddK.k {i : IntKind} (k : ∀ z, z = i.wrap (x1 + x2) → K z) : WAddK i x1 x2 K := ⟨k⟩
theorem WSubK.k {i : IntKind} (k : ∀ z, z = i.wrap (x1 - x2) → K z) : WSubK i x1 x2 K := ⟨k⟩
theorem WMulK.k {i : IntKind} (k : ∀ z, z = i.wrap (x1 * x2) → K z) : WMulK i x1 x2 K := ⟨k⟩
theorem RemK.q (k : ∀ z, z = x1.tmod x2 → 0 ≤ z → z < x2 → K z) (d : 0 ≤ x1 ∧ 0 < x2 := by (try simp only [vn] at *) <;> omega) : RemK x1 x2 K := .pos d.1 d.2 k
theorem QuoK.q (k : ∀ z, z = x1.tdiv x2 → 0 ≤ z → z ≤ x1 → K z) (d : 0 ≤ x1 ∧ 0 < x2 ∧ x1 ≤ 9223372036854775807 := by (try simp only [vn] at *) <;> omega) : QuoK .i64 x1 x2 K := .pos d.1 d.2.1 d.2.2 k
theorem AppN.o {ys : List AV} {bytes : Nat} {K : Unit → Prop} (k : K ()) (d : ys.length ≤ maxLen ∧ ys.length * bytes ≤ 140737488355328 := by (try simp only [vn] at *) <;> (try unfold maxLen) <;> omega) : AppN ys bytes K := ⟨d, k⟩
theorem AppK.o {α : Type} {f : α → AV} {L2 : List α} {bytes : Nat} {K : List AV → Prop} (k : K (mapA f L2)) (d : L2.length ≤ maxLen ∧ L2.length * bytes ≤ 140737488355328 := by (try simp only [vn] at *) <;> (try unfold maxLen) <;> omega) : AppK [] (mapA f L2) bytes K := appK_nilA d k
theorem AppK.l {α : Type} {f : α → AV} {L L2 : List α} {bytes : Nat} {K : List AV → Prop} (k : ∀ L', L' = L ++ L2 → L'.length = L.length + L2.length → K (mapA f L')) (d : L.length + L2.length ≤ maxLen ∧ (L.length + L2.length) * bytes ≤ 140737488355328 := by (try simp only [vn] at *) <;> (try unfold maxLen) <;> omega) : AppK (mapA f L) (mapA f L2) bytes K := appK_mapA d k
theorem AppK.zl {xs ys : List AV} {bytes : Nat} {K : List AV → Prop} (k : ∀ zs, zs = xs ++ ys → zs.length = xs.length + ys.length → K zs) (d : xs.length + ys.length ≤ maxLen ∧ (xs.length + ys.length) * bytes ≤ 140737488355328 := by (try simp only [vn] at *) <;> (try unfold maxLen) <;> omega) : AppK xs ys bytes K := .mk' d k
theorem CatK.u {s t : ByteArray} {K : ByteArray → Prop} (k : ∀ u, u = s ++ t → u.size = s.size + t.size → K u) (d : s.size + t.size ≤ maxLen := by (try simp only [vn] at *) <;> (try unfold maxLen) <;> omega) : CatK s t K := .mk' d k
theorem SetK.z {xs : List AV} {i : Nat} {x2 : AV} {K : List AV → Prop} (k : ∀ zs, zs = xs.set i x2 → K zs) : SetK xs i x2 K := ⟨k⟩
theorem SetM.ms {es : List (AV × AV)} {i : Nat} {e : AV × AV} {K : List (AV × AV) → Prop} (k : ∀ ms, ms = es.set i e → K ms) : SetM es i e K := ⟨k⟩
theorem AppM.ms {es : List (AV × AV)} {e : AV × AV} {K : List (AV × AV) → Prop} (k : ∀ ms, ms = es ++ [e] → K ms) : AppM es e K := ⟨k⟩
theorem DelM.ms {es : List (AV × AV)} {i : Nat} {K : List (AV × AV) → Prop} (k : ∀ ms, ms = es.eraseIdx i → K ms) : DelM es i K := ⟨k⟩
theorem SliK.l {α : Type} {f : α → AV} {L : List α} {lo hi : Option Int} {K : List AV → Prop} (k : ∀ L', L' = (L.take (hi.getD L.length).toNat).drop (lo.getD 0).toNat → (L'.length : Int) = hi.getD L.length - lo.getD 0 → K (mapA f L'))
  (d : 0 ≤ lo.getD 0 ∧ lo.getD 0 ≤ hi.getD L.length ∧ hi.getD L.length ≤ L.length := by (try dsimp only [Option.getD]); (try simp only [vn] at *) <;> omega) : SliK (mapA f L) lo hi K := sliK_mapA d k
theorem SliK.z {xs : List AV} {lo hi : Option Int} {K : List AV → Prop} (k : ∀ ys, ys = (xs.take (hi.getD xs.length).toNat).drop (lo.getD 0).toNat → K ys)
  (d : 0 ≤ lo.getD 0 ∧ lo.getD 0 ≤ hi.getD xs.length ∧ hi.getD xs.length ≤ xs.length := by (try dsimp only [Option.getD]); (try simp only [vn] at *) <;> omega) : SliK xs lo hi K := ⟨d, k⟩
theorem SlsK.u {s : ByteArray} {lo hi : Option Int} {K : ByteArray → Prop} (k : ∀ u, u = s.extract (lo.getD 0).toNat (hi.getD s.size).toNat → (u.size : Int) = hi.getD s.size - lo.getD 0 → K u)
  (d : 0 ≤ lo.getD 0 ∧ lo.getD 0 ≤ hi.getD s.size ∧ hi.getD s.size ≤ s.size := by (try dsimp only [Option.getD]); (try simp only [vn] at *) <;> omega) : SlsK s lo hi K :=
 ⟨d, fun u hu => k u hu (by rw [hu, ByteArray.size_extract]; omega)⟩
theorem BytK.s {xs : List AV} {K : ByteArray → Prop} {ns : List Int} (k : ∀ s, s = strOf ns → s.size = ns.length → K s) (d : bytesA xs = some ns := by rfl) : BytK 1 xs K := .of ns d k
theorem AskEl.e {α : Type} {f : α → AV} {L : List α} {i : Nat} {l : α} {K : Nat → AV → Prop} (k : K i (f l)) (h : L[i]? = some l := by assumption) : AskEl (mapA f L) (nI i) K := askEl_some h k
theorem AskIdx.e {α : Type} {f : α → AV} {L : List α} {i : Nat} {l : α} {K : Nat → Prop} (k : K i) (h : L[i]? = some l := by assumption) : AskIdx (mapA f L) (nI i) K := askIdx_some h k
end
theorem askEl_int {α : Type} {f : α → AV} {L : List α} {z : Int} {K : Nat → AV → Prop} (h0 : 0 ≤ z) (h1 : z < L.length) (k : ∀ i l, z = nI i → L[i]? = some l → K i (f l)) : AskEl (mapA f L) z K := by
 obtain ⟨i, rfl⟩ := Int.eq_ofNat_of_zero_le h0
 obtain ⟨l, hl⟩ := some_at (L := L) (i := i) (by omega)
 exact askEl_some hl (k i l rfl hl)
theorem roundV {ι : Type} {M : Nat} {F : ι → St} {μ : ι → Ms} {n : Ms} {st : St} (j : ι) (hl : (μ j).val < n.val) (hw : weakT st.T (F j).T := by repeat' (first | exact trivial | refine ⟨.inl rfl, ?_⟩ | refine ⟨.inr rfl, ?_⟩))
  (hH : st.H.take (F j).H.length = (F j).H := by rfl) (hb : bndT (F j).H.length (F j).T = true := by rfl) (hbH : bndH (F j).H.length (F j).H = true := by rfl) (hM : M ≤ (F j).H.length := by exact Nat.le_of_ble_eq_true rfl) : RoundK M F μ n st :=
 roundW j hw hH hb hbH hM hl
theorem xloopV {P : Program} {N M : Nat} {c : XCode} {Q : XEx → St → Prop} {T : List (Nat × AV)} {H : List Ent} {ι : Type} (hs : List Nat) (F : ι → List (Nat × AV)) (G : ι → List Ent) (μ : ι → Ms) (i0 : ι)
  (hr : ∀ i, XW P N M c (XRound M (fun i => ⟨F i ++ keepT hs c.wr T, G i⟩) μ (μ i) Q) ⟨F i ++ keepT hs c.wr T, G i⟩)
  (hw : weakT T (F i0) := by repeat' (first | exact trivial | refine ⟨.inl rfl, ?_⟩ | refine ⟨.inr rfl, ?_⟩)) (hH : H.take (G i0).length = G i0 := by rfl) (hb : bndT (G i0).length (F i0 ++ keepT hs c.wr T) = true := by rfl) (hbH : bndH (G i0).length (G i0) = true := by rfl) (hM : M ≤ (G i0).length := by exact Nat.le_of_ble_eq_true rfl) : XLoopG P N M c Q ⟨T, H⟩ :=
 xloopK hs F G μ i0 hw hH hb hbH hM hr
theorem finV {P : Prop} (h : P) : P := h
end Go.Proofs.YtpcfdpengbkplaaDoor
namespace Go.Proofs.YtpcfdpengbkplaaDoor
/-! The entries' names turn, behind a round. -/
def renT (s : List Nat) : List (Nat × AV) → List (Nat × AV)
 | [] => []
 | (n, x) :: l => (n, x.ren s 0) :: renT s l
theorem tget_renT (s : List Nat) (n : Nat) : ∀ T : List (Nat × AV), tget (renT s T) n = (tget T n).ren s 0
 | [] => by unfold renT tget AV.ren; rfl
 | (m, x) :: T => by
  show (if m = n then x.ren s 0 else tget (renT s T) n) = (if m = n then x else tget T n).ren s 0
  split
  ·rfl
  ·exact tget_renT s n T
theorem bndT_tget {n : Nat} (m : Nat) : ∀ T : List (Nat × AV), bndT n T = true → (tget T m).bnd n = true
 | [], _ => by unfold tget AV.bnd; rfl
 | (k, x) :: T, h => by
  simp only [bndT, Bool.and_eq_true] at h
  show (if k = m then x else tget T m).bnd n = true
  split
  ·exact h.1
  ·exact bndT_tget m T h.2
theorem Gh.sel {st st' : St} (s : List Nat) (hw : weakT st.T (renT s st'.T)) (hH : s.map (fun k => st.H[k]?) = (renH s 0 st'.H).map some) (hnd : s.Nodup) (hbT : bndT st'.H.length st'.T = true) (hbH : bndH st'.H.length st'.H = true) : Gh 0 st st' := fun C a w r pub hCm h => by
 have hlen : s.length = st'.H.length := by have := congrArg List.length hH; simpa [renH_map] using this
 have hsi : ∀ i (hi : i < s.length), sigma s 0 i = s[i] := fun i hi => sigma_lt hi
 let r0 : Rho := fun i => if i < s.length then r (sigma s 0 i) else none
 have hr0 : ∀ i y, r0 i = some y → i < s.length ∧ r (sigma s 0 i) = some y := fun i y hy => by
  by_cases hi : i < s.length
  ·simp only [r0, if_pos hi] at hy; exact ⟨hi, hy⟩
  ·simp only [r0, if_neg hi] at hy; cases hy
 have hr0' : ∀ i, i < s.length → r0 i = r (sigma s 0 i) := fun i hi => if_pos hi
 have hinj : ∀ i j, i < s.length → j < s.length → sigma s 0 i = sigma s 0 j → i = j := fun i j hi hj e => by
  rw [hsi i hi, hsi j hj] at e
  exact nodup_inj hnd e
 have hent : ∀ i e, st'.H[i]? = some e → st.H[sigma s 0 i]? = some (e.ren s 0) := fun i e he => by
  have hi : i < s.length := by rw [hlen]; exact (List.getElem?_eq_some_iff.1 he).1
  have h1 := congrArg (fun l => l[i]?) hH
  simp only [List.getElem?_map, renH_map, he, Option.map_some, List.getElem?_eq_getElem hi] at h1
  rw [hsi i hi]
  simpa using h1
 refine ⟨r0, pub, ⟨fun i e he => ?_, fun i hi => if_neg (by omega), fun i j x y hij hx hy => ?_, h.mod.fresh, h.mod.there, h.mod.glob⟩, fun k x hx => h.own _ x (hr0 k x hx).2, h.fr, fun m => ?_, h.defers, h.size, fun k y hy _ => ?_, h.low.1, by omega⟩
 ·have hi : i < s.length := by rw [hlen]; exact (List.getElem?_eq_some_iff.1 he).1
  have he1 := h.mod.ent _ _ (hent i e he)
  have hbe := bndH_get hbH i e he
  rw [hr0' i hi]
  exact he1.unren hbe fun k y hkb hy => by rw [hr0' k (by omega)]; exact hy
 ·obtain ⟨hi, hx⟩ := hr0 i x hx
  obtain ⟨hj, hy⟩ := hr0 j y hy
  exact h.mod.disj _ _ x y (fun e => hij (hinj i j hi hj e)) hx hy
 ·rcases weakT_get hw m with h1 | h1
  ·rw [tget_renT] at h1
   have : tget st'.T m = .any := by
    cases hx : tget st'.T m <;> rw [hx] at h1 <;> unfold AV.ren at h1 <;> first | rfl | cases h1
   rw [this]
   exact .any _
  ·have h2 := h.slots m
   rw [← h1, tget_renT] at h2
   refine h2.unren _ rfl fun k y hk hy => ?_
   have hkb := AV.bnd_has _ (bndT_tget m _ hbT) hk
   rw [hr0' k (by omega)]
   exact hy
 ·rw [h.low.1 k (by omega)] at hy
  cases hy
/-- The end of a round that left new entries in the places of old ones. -/
theorem roundS {ι : Type} {F : ι → St} {μ : ι → Ms} {n : Ms} {st : St} (s : List Nat) (j : ι) (hl : (μ j).val < n.val) (hw : weakT st.T (renT s (F j).T) := by repeat' (first | exact trivial | refine ⟨.inl rfl, ?_⟩ | refine ⟨.inr rfl, ?_⟩))
  (hH : s.map (fun k => st.H[k]?) = (renH s 0 (F j).H).map some := by rfl) (hnd : s.Nodup := by decide) (hbT : bndT (F j).H.length (F j).T = true := by rfl) (hbH : bndH (F j).H.length (F j).H = true := by rfl) : RoundK 0 F μ n st :=
 ⟨_, j, Gh.sel s hw hH hnd hbT hbH, rfl, hl⟩
end Go.Proofs.YtpcfdpengbkplaaDoor
/-
 An element of a map, its memory put back into the map.
-/
namespace Go.Proofs.YtpcfdpengbkplaaDoor
open Go.RowKit

def dieH : List Ent → List Nat → List Ent
 | H, [] => H
 | H, q :: s => dieH (H.set q .dead) s
theorem dieH_len : ∀ (s : List Nat) (H : List Ent), (dieH H s).length = H.length
 | [], H => rfl
 | q :: s, H => by unfold dieH; rw [dieH_len s, List.length_set]
theorem dieH_get : ∀ (s : List Nat) (H : List Ent) (n : Nat) (e : Ent), (dieH H s)[n]? = some e → (n ∈ s ∧ e = .dead) ∨ (n ∉ s ∧ H[n]? = some e)
 | [], H, n, e, h => .inr ⟨by simp, h⟩
 | q :: s, H, n, e, h => by
  unfold dieH at h
  rcases dieH_get s _ n e h with ⟨h1, h2⟩ | ⟨h1, h2⟩
  ·exact .inl ⟨List.mem_cons_of_mem _ h1, h2⟩
  ·by_cases hq : q = n
   ·subst hq
    have hl := (List.getElem?_eq_some_iff.1 h2).1
    rw [List.length_set] at hl
    rw [List.getElem?_set_self hl] at h2
    cases h2
    exact .inl ⟨List.mem_cons_self .., rfl⟩
   ·rw [List.getElem?_set_ne hq] at h2
    refine .inr ⟨fun hm => ?_, h2⟩
    rcases List.mem_cons.1 hm with hm | hm
    ·exact hq hm.symm
    ·exact h1 hm
theorem flat_nodup {α : Type} (f : α → List Nat) : ∀ (l : List α), (∀ (i : Nat) (x : α), l[i]? = some x → (f x).Nodup) → (∀ (i j : Nat) (x y : α), i ≠ j → l[i]? = some x → l[j]? = some y → ∀ b ∈ f x, b ∉ f y) → (l.flatMap f).Nodup
 | [], _, _ => by simp
 | z :: l, h1, h2 => by
  rw [List.flatMap_cons, List.nodup_append]
  refine ⟨h1 0 z rfl, flat_nodup f l (fun i x hx => h1 (i + 1) x (by simpa using hx)) (fun i j x y hij hx hy => h2 (i + 1) (j + 1) x y (by omega) (by simpa using hx) (by simpa using hy)), fun b hb c hc e => ?_⟩
  subst e
  obtain ⟨u, hu, hb'⟩ := List.mem_flatMap.1 hc
  obtain ⟨q, hq⟩ := List.getElem?_of_mem hu
  exact h2 0 (q + 1) z u (by omega) rfl (by simpa using hq) b hb hb'
theorem foot1_nodup (v : Value) : (foot1 v).Nodup := by
 cases v with
 | pointer A => cases A <;> simp [foot1]
 | slice A _ _ => cases A <;> simp [foot1]
 | map b => cases b <;> simp [foot1]
 | _ => simp [foot1]
def plainE : Ent → Bool
 | .dead => false
 | .pool .. => false
 | _ => true
theorem ERel.plain_ {pub : Pub} {w : World} {r : Rho} {h : Option Value} {e : Ent} (he : ERel pub w r h e) (hp : plainE e = true) : ∃ y, h = some y ∧ isTup y = false := by
 cases he <;> first | exact ⟨_, rfl, rfl⟩ | cases hp
/-- The element's memory goes back into the map. -/
theorem Gh.putIn {M : Nat} {st : St} (k p : Nat) (sel : List Nat) (hd : AV) (l : List Ent) {t : TypeId} {es : List PEl} {outs : List (Nat × AV)} {i : Nat} {x key : AV} (hk : st.H[k]? = some (.pool t es outs)) (ho : outs[p]? = some (i, x)) (hu : ∀ y, (i, y) ∉ outs.eraseIdx p)
  (hke : (es[i]?).map (·.1) = some key) (hx : x = hd.ren sel 0) (hH : sel.map (fun q => st.H[q]?) = (renH sel 0 l).map some) (hnd : sel.Nodup) (hsel : sel.all (fun q => Nat.ble M q && q != k) = true) (hb : hd.bnd sel.length = true) (hbH : bndH sel.length l = true) (hpl : l.all plainE = true) :
  Gh M st ⟨killTs st.T sel, dieH (killHs (st.H.set k (.pool t (es.set i (key, hd, l)) (outs.eraseIdx p))) sel) sel⟩ := fun C a w r pub hCm h => by
 have hlen : sel.length = l.length := by have := congrArg List.length hH; simpa [renH_map] using this
 have hkl : k < st.H.length := (List.getElem?_eq_some_iff.1 hk).1
 have hksel : k ∉ sel := fun hm => by have := List.all_eq_true.1 hsel k hm; simp at this
 obtain ⟨b, ms, inner, hrk, R⟩ := h.ent_pool hk
 have hom : (i, x) ∈ outs := List.mem_of_getElem? ho
 obtain ⟨hi0, hix⟩ := R.hout i x hom
 have hil : i < es.length := by rw [← R.hn]; exact (List.getElem?_eq_some_iff.1 hi0).1
 obtain ⟨mi, hmi⟩ : ∃ m, ms[i]? = some m := ⟨_, Array.getElem?_eq_getElem (by rw [R.hl]; exact hil)⟩
 have hsi : ∀ j (hj : j < sel.length), sigma sel 0 j = sel[j] := fun j hj => sigma_lt hj
 have hent : ∀ j d, l[j]? = some d → ∃ (hj : j < sel.length), st.H[sel[j]]? = some (d.ren sel 0) := fun j d hd0 => by
  have hj : j < sel.length := by rw [hlen]; exact (List.getElem?_eq_some_iff.1 hd0).1
  have h1 := congrArg (fun l => l[j]?) hH
  simp only [List.getElem?_map, renH_map, hd0, Option.map_some, List.getElem?_eq_getElem hj] at h1
  exact ⟨hj, by simpa using h1⟩
 have hval : ∀ j (hj : j < sel.length), ∃ y, r sel[j] = some y ∧ isTup y = false := fun j hj => by
  have hjl : j < l.length := by omega
  obtain ⟨_, h1⟩ := hent j _ (List.getElem?_eq_getElem hjl)
  have h2 := h.mod.ent _ _ h1
  refine h2.plain_ ?_
  have := List.all_eq_true.1 hpl _ (List.getElem_mem hjl)
  revert this
  cases l[j] <;> exact fun h => h
 obtain ⟨vs, hvs⟩ : ∃ vs : List Value, vs = sel.map fun q => (r q).getD undef := ⟨_, rfl⟩
 have hvl : vs.length = sel.length := by rw [hvs, List.length_map]
 have hvg : ∀ j (hj : j < sel.length), vs[j]? = r sel[j] := fun j hj => by
  obtain ⟨y, hy, _⟩ := hval j hj
  rw [hvs, List.getElem?_map, List.getElem?_eq_getElem hj, Option.map_some, hy]
  rfl
 have hvt : ∀ v ∈ vs, ∃ j, ∃ (hj : j < sel.length), r sel[j] = some v ∧ isTup v = false := fun v hv => by
  obtain ⟨j, hj⟩ := List.getElem?_of_mem hv
  have hjl : j < sel.length := by rw [← hvl]; exact (List.getElem?_eq_some_iff.1 hj).1
  obtain ⟨y, hy, ht⟩ := hval j hjl
  rw [hvg j hjl, hy] at hj
  cases hj
  exact ⟨j, hjl, hy, ht⟩
 have hvt2 : ∀ v ∈ vs, isTup v = false := fun v hv => by obtain ⟨_, _, _, h⟩ := hvt v hv; exact h
 have hunr : ∀ q y, q < sel.length → r (sigma sel 0 q) = some y → rhoL vs q = some y := fun q y hq hy => by
  rw [hsi q hq] at hy
  exact (hvg q hq).trans hy
 have hfo : ∀ n, n ∈ foot (superH b (inner.set i vs)) → n ∈ foot (superH b inner) ∨ ∃ j, ∃ (hj : j < sel.length), ∃ y, r sel[j] = some y ∧ n ∈ foot y := fun n hn => by
  rcases foot_super_mem.1 hn with h1 | ⟨j, us, v, h1, h2, h3⟩
  ·exact .inl (foot_super_mem.2 (.inl h1))
  ·by_cases e : i = j
   ·subst e
    rw [List.getElem?_set_self (by rw [R.hn]; exact hil)] at h1
    cases h1
    obtain ⟨j, hj, h4, h5⟩ := hvt v h2
    exact .inr ⟨j, hj, v, h4, by rw [foot_one h5]; exact h3⟩
   ·rw [List.getElem?_set_ne e] at h1
    exact .inl (foot_super_mem.2 (.inr ⟨j, us, v, h1, h2, h3⟩))
 have hP : ERel pub w r (some (superH b (inner.set i vs))) (.pool t (es.set i (key, hd, l)) (outs.eraseIdx p)) := by
  have hmem : ∀ {j : Nat} {y : AV}, (j, y) ∈ outs.eraseIdx p → (j, y) ∈ outs := fun hm => List.mem_of_mem_eraseIdx hm
  have hne : ∀ {j : Nat} {y : AV}, (j, y) ∈ outs.eraseIdx p → i ≠ j := fun {j y} hm e => by subst e; exact hu y hm
  have hback : ∀ {j : Nat}, i ≠ j → (∀ y, (j, y) ∉ outs.eraseIdx p) → ∀ y, (j, y) ∉ outs := fun {j} hij hn y hy => by
   obtain ⟨q, hq⟩ := List.getElem?_of_mem hy
   have hqp : q ≠ p := by rintro rfl; rw [ho] at hq; cases hq; exact hij rfl
   refine hn y ?_
   rcases Nat.lt_or_ge q p with h1 | h1
   ·exact List.mem_of_getElem? (i := q) (by rw [List.getElem?_eraseIdx, if_pos h1]; exact hq)
   ·exact List.mem_of_getElem? (i := q - 1) (by rw [List.getElem?_eraseIdx, if_neg (by omega)]; rw [show q - 1 + 1 = q by omega]; exact hq)
  have hndo := R.hnd
  rw [foot_super, List.nodup_cons] at hndo
  refine .pool R.hb (by rw [List.length_set]; exact R.hl) (by rw [List.length_set, List.length_set]; exact R.hn) R.hborn ?_ (fun j y hy => ?_) (fun j e us m hno he hus hm => ?_) (fun j e us q d hno he hus hd0 => ?_) ?_ R.hp
  ·have : (es.set i (key, hd, l)).map (·.1) = es.map (·.1) := by
    rw [List.map_set]
    have h1 : (es.map (·.1))[i]? = some key := by rw [List.getElem?_map]; exact hke
    exact List.ext_getElem? fun q => by
     rw [List.getElem?_set]
     split
     ·rename_i e; subst e; rw [List.length_map, if_pos hil, h1]
     ·rfl
   rw [this]
   exact R.hk
  ·have hij := hne hy
   rw [List.getElem?_set_ne hij]
   exact R.hout j y (hmem hy)
  ·by_cases hij : i = j
   ·subst hij
    rw [List.getElem?_set_self hil] at he
    rw [List.getElem?_set_self (by rw [R.hn]; exact hil)] at hus
    cases he
    cases hus
    rw [hmi] at hm
    cases hm
    refine ⟨by rw [hvl, hlen], hvt2, ?_⟩
    refine (hix mi hmi).unren hd hx fun q y hq hy => hunr q y (AV.bnd_has _ hb hq) hy
   ·rw [List.getElem?_set_ne hij] at he hus
    exact R.hin j e us m (hback hij hno) he hus hm
  ·by_cases hij : i = j
   ·subst hij
    rw [List.getElem?_set_self hil] at he
    rw [List.getElem?_set_self (by rw [R.hn]; exact hil)] at hus
    cases he
    cases hus
    obtain ⟨hql, h1⟩ := hent q d hd0
    have h2 := h.mod.ent _ _ h1
    rw [hvg q hql]
    exact h2.unren (bndH_get hbH q d hd0) fun q y hq hy => hunr q y hq hy
   ·rw [List.getElem?_set_ne hij] at he hus
    exact R.hie j e us q d (hback hij hno) he hus hd0
  ·have hself : ∀ (j : Nat) (us : List Value), (inner.set i vs)[j]? = some us → (i = j ∧ us = vs) ∨ (i ≠ j ∧ inner[j]? = some us) := fun j us hus => by
    by_cases hij : i = j
    ·subst hij
     rw [List.getElem?_set_self (by rw [R.hn]; exact hil)] at hus
     cases hus
     exact .inl ⟨rfl, rfl⟩
    ·rw [List.getElem?_set_ne hij] at hus
     exact .inr ⟨hij, hus⟩
   have hfar : ∀ n, n ∈ vs.flatMap foot1 → n ∉ foot (superH b inner) := fun n hn hn2 => by
    obtain ⟨v, hv, h1⟩ := List.mem_flatMap.1 hn
    obtain ⟨j, hj, h2, h3⟩ := hvt v hv
    exact h.mod.disj k sel[j] _ _ (fun e => hksel (by rw [e]; exact List.getElem_mem hj)) hrk h2 n hn2 (by rw [foot_one h3]; exact h1)
   have hin2 : ∀ (j : Nat) (us : List Value) (n : Nat), inner[j]? = some us → n ∈ us.flatMap foot1 → n ∈ foot (superH b inner) := fun j us n hus hn => by
    obtain ⟨v, hv, h1⟩ := List.mem_flatMap.1 hn
    exact foot_super_mem.2 (.inr ⟨j, us, v, hus, hv, h1⟩)
   rw [foot_super, List.nodup_cons]
   refine ⟨fun hm => ?_, flat_nodup _ _ (fun j us hus => ?_) (fun j j' us us' hjj hus hus' n hn hn' => ?_)⟩
   ·obtain ⟨us, hus, h1⟩ := List.mem_flatMap.1 hm
    obtain ⟨j, hj⟩ := List.getElem?_of_mem hus
    rcases hself j us hj with ⟨_, rfl⟩ | ⟨_, h2⟩
    ·exact hfar b h1 (foot_super_mem.2 (.inl rfl))
    ·exact hndo.1 (List.mem_flatMap.2 ⟨us, List.mem_of_getElem? h2, h1⟩)
   ·rcases hself j us hus with ⟨_, rfl⟩ | ⟨_, h2⟩
    ·refine flat_nodup _ _ (fun q v _ => foot1_nodup v) (fun q q' v v' hqq hv hv' n hn hn' => ?_)
     have hql : q < sel.length := by rw [← hvl]; exact (List.getElem?_eq_some_iff.1 hv).1
     have hql' : q' < sel.length := by rw [← hvl]; exact (List.getElem?_eq_some_iff.1 hv').1
     have ht := hvt2 v (List.mem_of_getElem? hv)
     have ht' := hvt2 v' (List.mem_of_getElem? hv')
     rw [hvg q hql] at hv
     rw [hvg q' hql'] at hv'
     exact h.mod.disj sel[q] sel[q'] v v' (fun e => hqq (nodup_inj hnd e)) hv hv' n (by rw [foot_one ht]; exact hn) (by rw [foot_one ht']; exact hn')
    ·have : (us.flatMap foot1).Sublist (inner.flatMap fun vs => vs.flatMap foot1) := List.sublist_flatten_of_mem (List.mem_map.2 ⟨us, List.mem_of_getElem? h2, rfl⟩)
     exact this.nodup hndo.2
   ·rcases hself j us hus with ⟨e1, rfl⟩ | ⟨e1, h2⟩
    ·rcases hself j' us' hus' with ⟨e2, rfl⟩ | ⟨e2, h2'⟩
     ·omega
     ·exact hfar n hn (hin2 j' us' n h2' hn')
    ·rcases hself j' us' hus' with ⟨e2, rfl⟩ | ⟨e2, h2'⟩
     ·exact hfar n hn' (hin2 j us n h2 hn)
     ·exact flat_disj _ _ hndo.2 j j' us us' hjj h2 h2' n hn hn'
 let r' : Rho := fun q => if q = k then some (superH b (inner.set i vs)) else without r sel q
 have rk : r' k = some (superH b (inner.set i vs)) := if_pos rfl
 have rw_ : ∀ q, q ≠ k → r' q = without r sel q := fun q hq => if_neg hq
 have rold : ∀ q, q ≠ k → q ∉ sel → r' q = r q := fun q h1 h2 => by rw [rw_ q h1]; simp [without, h2]
 have rsel : ∀ q, q ∈ sel → r' q = none := fun q hq => by rw [rw_ q (by rintro rfl; exact hksel hq)]; simp [without, hq]
 have hwk : without r sel k = some (superH b inner) := by simp [without, hksel, hrk]
 obtain ⟨a1, q1, q2⟩ := superH_zero b inner
 obtain ⟨a2, q3, q4⟩ := superH_zero b (inner.set i vs)
 have hsub : ∀ z v, VRel pub w (without r sel) z v → VRel pub w r' z v := fun z v hv => hv.super (by rw [hwk, q1]) (by rw [rk, q3]) (q4.trans q2.symm) (fun q y hq hy => by rw [rw_ q hq]; exact hy)
 have hsome : ∀ q y, r' q = some y → (q = k ∧ y = superH b (inner.set i vs)) ∨ (q ≠ k ∧ q ∉ sel ∧ r q = some y) := fun q y hy => by
  by_cases h1 : q = k
  ·subst h1; rw [rk] at hy; cases hy; exact .inl ⟨rfl, rfl⟩
  ·by_cases h2 : q ∈ sel
   ·rw [rsel q h2] at hy; cases hy
   ·rw [rold q h1 h2] at hy; exact .inr ⟨h1, h2, hy⟩
 have hkill := killHs_len sel (st.H.set k (.pool t (es.set i (key, hd, l)) (outs.eraseIdx p)))
 refine ⟨r', pub, ⟨⟨fun q e he => ?_, fun q hq => ?_, fun p' q y z hpq hy hz n hn hn2 => ?_, h.mod.fresh, h.mod.there, h.mod.glob⟩, fun q y hy n hn => ?_, h.fr, fun n => hsub _ _ (killTs_get sel st.T r (h.slots n)), h.defers, h.size, fun q y hy hs => ?_, ⟨h.low.1, ?_⟩⟩⟩
 ·rcases dieH_get sel _ q e he with ⟨hq, rfl⟩ | ⟨hq, he⟩
  ·rw [rsel q hq]; exact .dead
  ·by_cases h1 : q = k
   ·subst h1
    obtain ⟨e0, h2, h3⟩ := killHs_get (pub := pub) (w := w) (hd := some (superH b (inner.set i vs))) sel _ r q e he
    rw [List.getElem?_set_self hkl] at h2
    cases h2
    rw [rk]
    exact (h3 hP).sub hsub
   ·obtain ⟨e0, h2, h3⟩ := killHs_get (pub := pub) (w := w) (hd := r q) sel _ r q e he
    rw [List.getElem?_set_ne (Ne.symm h1)] at h2
    rw [rold q h1 hq]
    exact (h3 (h.mod.ent q e0 h2)).sub hsub
 ·rw [dieH_len, hkill, List.length_set] at hq
  rw [rw_ q (by omega)]
  unfold without
  split
  ·rfl
  ·exact h.mod.none_ q hq
 ·rcases hsome p' y hy with ⟨rfl, rfl⟩ | ⟨h1, h2, h3⟩
  ·rcases hsome q z hz with ⟨rfl, rfl⟩ | ⟨h4, h5, h6⟩
   ·exact hpq rfl
   ·rcases hfo n hn with h7 | ⟨j, hj, y, h7, h8⟩
    ·exact h.mod.disj _ _ _ _ hpq hrk h6 n h7 hn2
    ·exact h.mod.disj _ _ _ _ (fun e => h5 (by rw [← e]; exact List.getElem_mem hj)) h7 h6 n h8 hn2
  ·rcases hsome q z hz with ⟨rfl, rfl⟩ | ⟨h4, h5, h6⟩
   ·rcases hfo n hn2 with h7 | ⟨j, hj, y, h7, h8⟩
    ·exact h.mod.disj _ _ _ _ (Ne.symm hpq) hrk h3 n h7 hn
    ·exact h.mod.disj _ _ _ _ (fun e => h2 (by rw [← e]; exact List.getElem_mem hj)) h7 h3 n h8 hn
   ·exact h.mod.disj _ _ _ _ hpq h3 h6 n hn hn2
 ·rcases hsome q y hy with ⟨rfl, rfl⟩ | ⟨h1, h2, h3⟩
  ·rcases hfo n hn with h7 | ⟨j, hj, y, h7, h8⟩
   ·exact h.own _ _ hrk n h7
   ·exact h.own _ _ h7 n h8
  ·exact h.own q y h3 n hn
 ·have h1 := h.stab q y hy hs
  have hqm : q < C.m := by
   rcases Nat.lt_or_ge q C.m with h2 | h2
   ·exact h2
   ·rw [h.low.1 q h2] at hy; cases hy
  have hqk : q ≠ k := by
   rintro rfl
   rw [hrk] at h1
   cases h1
   cases hs
  have hqs : q ∉ sel := fun hm => by
   have := List.all_eq_true.1 hsel q hm
   simp only [Bool.and_eq_true, Nat.ble_eq] at this
   omega
  rw [rold q hqk hqs]
  exact h1
 ·have := h.low.2
  dsimp only
  rw [dieH_len, hkill, List.length_set]
  exact this
end Go.Proofs.YtpcfdpengbkplaaDoor
/-
 Maps whose elements lead to memory, walked: short roads.
-/
namespace Go.Proofs.YtpcfdpengbkplaaDoor
open Go.RowKit

section
variable {x1 x2 : Int} {K : Int → Prop}
theorem ArrK.o {n : Nat} {K : Prop} (k : K) (d : 0 ≤ x1 ∧ x1 < n := by (try simp only [vn] at *) <;> omega) : ArrK n x1 K := ⟨d, k⟩
theorem IdxH.o {n : Nat} {K : Nat → Prop} (k : K x1.toNat) (d : 0 ≤ x1 ∧ x1 < n := by (try simp only [vn] at *) <;> omega) : IdxH n x1 K := ⟨d, k⟩
theorem BitK.k {op : BinOp} {i : IntKind} (k : ∀ z, z = i.wrap (match op with
  | .and => (BitVec.ofInt i.bits x1 &&& BitVec.ofInt i.bits x2)
  | .or => (BitVec.ofInt i.bits x1 ||| BitVec.ofInt i.bits x2)
  | .xor => (BitVec.ofInt i.bits x1 ^^^ BitVec.ofInt i.bits x2)
  | _ => (BitVec.ofInt i.bits x1 &&& ~~~ BitVec.ofInt i.bits x2)).toNat → K z) : BitK op i x1 x2 K := ⟨k⟩
theorem MksK.zl {bytes : Nat} {x : AV} {K : List AV → Prop} (k : ∀ zs, zs = List.replicate x1.toNat x → zs.length = x1.toNat → K zs) (d : 0 ≤ x1 ∧ x1 ≤ x2 ∧ x2 ≤ maxLen ∧ bytes * x2 ≤ 140737488355328 := by (try simp only [vn] at *) <;> (try unfold maxLen) <;> omega) : MksK x1 x2 bytes x K :=
 ⟨d, fun zs h => k zs h (by rw [h, List.length_replicate])⟩
end
/-- What is a tip's list is told as a list: in the slots; in an entry's cells. -/
theorem Gh.viewT {M : Nat} {st : St} : Gh M st ⟨st.T.map fun p => (p.1, st.view p.2), st.H⟩ := fun C a w r pub _ h => by
 refine ⟨r, pub, h.mod, h.own, h.fr, fun n => ?_, h.defers, h.size, h.stab, h.low⟩
 have hs := h.slots n
 have e : ∀ T : List (Nat × AV), tget (T.map fun p => (p.1, st.view p.2)) n = st.view (tget T n) := fun T => by
  induction T with
  | nil => rfl
  | cons p T ih =>
   obtain ⟨m, x⟩ := p
   show (if m = n then st.view x else tget (T.map fun p => (p.1, st.view p.2)) n) = st.view (if m = n then x else tget T n)
   split
   ·rfl
   ·exact ih
 dsimp only
 rw [e]
 exact h.view hs
theorem Gh.viewE {M : Nat} {st : St} (q : Nat) {t : TypeId} {cs : List AV} (hq : st.H[q]? = some (.blk t cs)) : Gh M st ⟨st.T, st.H.set q (.blk t (cs.map st.view1))⟩ := fun C a w r pub _ h => by
 obtain ⟨b, arr, hr, hb, hc, hp⟩ := h.ent_blk hq
 refine ⟨r, pub, h.mod.set hr (Fr.refl (fun _ => False) _ _) (fun _ h => h.elim) h.mod.fresh h.mod.there (.blk hb ⟨by rw [List.length_map]; exact hc.len, fun i x u hx hu => ?_⟩ hp), h.own, h.fr, h.slots, h.defers, h.size, h.stab, h.low.1, by simpa using h.low.2⟩
 rw [List.getElem?_map] at hx
 cases hy : cs[i]? with
 | none => rw [hy] at hx; cases hx
 | some y => rw [hy] at hx; cases hx; exact h.view1 (hc.at_ i y u hy hu)
section
variable {α : Type} {f : α → PEl} {L : List α}
theorem LenP.k {K : Int → Prop} (k : ∀ z : Int, z = (L.length : Int) → K z) : LenP (mapA f L) K := ⟨fun z hz => k z (by rw [hz, mapA_len])⟩
/-- Where a key stands. -/
def atS (key : α → ByteArray) (L : List α) (s : ByteArray) : Option Nat := L.findIdx? fun a => decide (key a = s)
theorem atS_some {key : α → ByteArray} {L : List α} {s : ByteArray} {i : Nat} (h : atS key L s = some i) : ∃ a, L[i]? = some a ∧ key a = s := by
 unfold atS at h
 rw [List.findIdx?_eq_some_iff_getElem] at h
 obtain ⟨hi, h1, _⟩ := h
 exact ⟨L[i], List.getElem?_eq_getElem hi, by simpa using h1⟩
theorem atS_first {key : α → ByteArray} {L : List α} {s : ByteArray} {i j : Nat} {a : α} (h : atS key L s = some i) (hj : j < i) (ha : L[j]? = some a) : key a ≠ s := by
 unfold atS at h
 rw [List.findIdx?_eq_some_iff_getElem] at h
 obtain ⟨hi, _, h2⟩ := h
 have := h2 j hj
 obtain ⟨hjl, rfl⟩ := List.getElem?_eq_some_iff.1 ha
 simpa using this
theorem atS_none {key : α → ByteArray} {L : List α} {s : ByteArray} (h : atS key L s = none) : ∀ a ∈ L, key a ≠ s := by
 unfold atS at h
 rw [List.findIdx?_eq_none_iff] at h
 intro a ha e
 have := h a ha
 simp [e] at this
theorem findL_str (key : α → ByteArray) (hf : ∀ a, (f a).1 = .str (key a)) (s : ByteArray) : ∀ (L : List α) (i : Nat), findL (.str s) ((mapA f L).map (·.1)) i = some ((atS key L s).map (· + i))
 | [], i => rfl
 | x :: L, i => by
  have e : (mapA f (x :: L)).map (·.1) = (f x).1 :: (mapA f L).map (·.1) := rfl
  rw [e, hf x]
  unfold findL atS
  rw [List.findIdx?_cons]
  by_cases h : key x = s
  ·have h2 : keyIs (.str s) (.str (key x)) = some true := congrArg some ((MapKept.bytes_beq _ _).2 h.symm)
   simp only [h2]
   simp [h]
  ·have h3 : ¬ s = key x := fun e => h e.symm
   have h2 : keyIs (.str s) (.str (key x)) = some false := congrArg some (Bool.eq_false_iff.2 fun hb => h3 ((MapKept.bytes_beq _ _).1 hb))
   simp only [h2, findL_str key hf s L (i + 1), h, decide_false, Bool.false_eq_true, if_false, Option.map_map, atS]
   congr 1
   cases (L.findIdx? fun a => decide (key a = s)) with
   | none => rfl
   | some n => simp; omega
theorem poolK_in (key : α → ByteArray) (hf : ∀ a, (f a).1 = .str (key a)) {s : ByteArray} {Kin : Nat → AV → List Ent → Prop} {Kout : AV → Prop} {Kno : Unit → Prop} (h : ∀ i y, atS key L s = some i → L[i]? = some y → key y = s → Kin i (f y).2.1 (f y).2.2) (hn : atS key L s = none → Kno ()) :
  PoolK (.str s) (mapA f L) [] Kin Kout Kno := by
 refine ⟨?_⟩
 have hfl := findL_str (f := f) key hf s L 0
 cases ha : atS key L s with
 | none => rw [ha] at hfl; exact .inr (.inr ⟨hfl, hn ha⟩)
 | some i =>
  rw [ha] at hfl
  obtain ⟨y, hy, hk⟩ := atS_some ha
  exact .inl ⟨i, (f y).1, (f y).2.1, (f y).2.2, hfl, by rw [mapA_eq, List.getElem?_map, hy]; rfl, by simp, h i y ha hy hk⟩
/-- One that is out already. -/
theorem poolK_out (key : α → ByteArray) (hf : ∀ a, (f a).1 = .str (key a)) {s : ByteArray} {i : Nat} {x : AV} {Kin : Nat → AV → List Ent → Prop} {Kout : AV → Prop} {Kno : Unit → Prop} (ha : atS key L s = some i) (h : Kout x) :
  PoolK (.str s) (mapA f L) [(i, x)] Kin Kout Kno := by
 have hfl := findL_str (f := f) key hf s L 0
 rw [ha] at hfl
 exact ⟨.inr (.inl ⟨i, x, hfl, by simp, h⟩)⟩
theorem pupK_new (key : α → ByteArray) (hf : ∀ a, (f a).1 = .str (key a)) {s : ByteArray} {outs : List (Nat × AV)} {v : AV} {K : List PEl → List (Nat × AV) → Prop} (ha : atS key L s = none) (h : K (mapA f L ++ [(.str s, .any, [])]) ((L.length, v) :: outs)) :
  PupK (.str s) (mapA f L) outs v K := by
 have hfl := findL_str (f := f) key hf s L 0
 rw [ha] at hfl
 exact ⟨.inl ⟨hfl, fun es' n h1 h2 => by rw [mapA_len] at h2; subst h1 h2; exact h⟩⟩
theorem pupK_old (key : α → ByteArray) (hf : ∀ a, (f a).1 = .str (key a)) {s : ByteArray} {i : Nat} {x v : AV} {K : List PEl → List (Nat × AV) → Prop} (ha : atS key L s = some i) (h : K (mapA f L) [(i, v)]) :
  PupK (.str s) (mapA f L) [(i, x)] v K := by
 have hfl := findL_str (f := f) key hf s L 0
 rw [ha] at hfl
 exact ⟨.inr ⟨i, x, [], hfl, rfl, by simp, h⟩⟩
theorem nxtK_in {since : Nat} {seen : List Nat} {K : Nat → AV → AV → List Ent → Prop} {D : Unit → Prop} (hs : since = L.length) (h : ∀ i y, L[i]? = some y → i ∉ seen → K i (f y).1 (f y).2.1 (f y).2.2) (hd : (∀ i, i < L.length → i ∈ seen) → D ()) : NxtK (mapA f L) since seen K D := by
 refine ⟨by rw [mapA_len]; exact hs, fun i k hd' l he hn => ?_, fun h => hd fun i hi => h i (by rw [mapA_len]; exact hi)⟩
 rw [mapA_eq, List.getElem?_map] at he
 cases hy : L[i]? with
 | none => rw [hy] at he; cases he
 | some y =>
  rw [hy] at he
  have := h i y hy hn
  simp only [Option.map_some, Option.some.injEq] at he
  rw [he] at this
  exact this
theorem entK_in {since i : Nat} {seen : List Nat} {x : AV} {y : α} {K : AV → AV → Prop} (hs : since = L.length) (hy : L[i]? = some y) (h : K (f y).1 x) : EntK (mapA f L) [(i, x)] since (seen ++ [i]) K :=
 ⟨i, (f y).1, x, by rw [mapA_len]; exact hs, by simp, by rw [mapA_eq, List.getElem?_map, hy]; rfl, by simp, h⟩
/-- An element, turned or not, goes back. -/
theorem Gh.back {M : Nat} {st : St} (k : Nat) (sel : List Nat) (f : α → PEl) {L : List α} {i : Nat} {y0 : α} (y : α) {t : TypeId} {x : AV} (hk : st.H[k]? = some (.pool t (mapA f L) [(i, x)])) (hy : L[i]? = some y0) (hkey : (f y0).1 = (f y).1 := by rfl)
  (hx : x = (f y).2.1.ren sel 0 := by rfl) (hH : sel.map (fun q => st.H[q]?) = (renH sel 0 (f y).2.2).map some := by rfl) (hnd : sel.Nodup := by decide) (hsel : sel.all (fun q => Nat.ble M q && q != k) = true := by decide) (hb : (f y).2.1.bnd sel.length = true := by rfl) (hbH : bndH sel.length (f y).2.2 = true := by rfl) (hpl : (f y).2.2.all plainE = true := by rfl) :
  Gh M st ⟨killTs st.T sel, dieH (killHs (st.H.set k (.pool t (mapA f (L.set i y)) [])) sel) sel⟩ := by
 have h := Gh.putIn (M := M) (st := st) k 0 sel (f y).2.1 (f y).2.2 (x := x) (i := i) (key := (f y0).1) hk rfl (by simp) (by rw [mapA_eq, List.getElem?_map, hy]; rfl) hx hH hnd hsel hb hbH hpl
 have e : (mapA f L).set i ((f y0).1, (f y).2.1, (f y).2.2) = mapA f (L.set i y) := by
  rw [hkey]
  show (mapA f L).set i (f y) = _
  rw [mapA_eq, mapA_eq, List.map_set]
 rw [e] at h
 exact h
theorem set_same {L : List α} {i : Nat} {y : α} (hy : L[i]? = some y) : L.set i y = L := by
 obtain ⟨h, rfl⟩ := List.getElem?_eq_some_iff.1 hy
 exact List.set_getElem_self h
theorem Gh.back0 {M : Nat} {st : St} (k : Nat) (sel : List Nat) (f : α → PEl) {L : List α} {i : Nat} {y : α} {t : TypeId} {x : AV} (hk : st.H[k]? = some (.pool t (mapA f L) [(i, x)])) (hy : L[i]? = some y)
  (hx : x = (f y).2.1.ren sel 0 := by rfl) (hH : sel.map (fun q => st.H[q]?) = (renH sel 0 (f y).2.2).map some := by rfl) (hnd : sel.Nodup := by decide) (hsel : sel.all (fun q => Nat.ble M q && q != k) = true := by decide) (hb : (f y).2.1.bnd sel.length = true := by rfl) (hbH : bndH sel.length (f y).2.2 = true := by rfl) (hpl : (f y).2.2.all plainE = true := by rfl) :
  Gh M st ⟨killTs st.T sel, dieH (killHs (st.H.set k (.pool t (mapA f L) [])) sel) sel⟩ := by
 have h := Gh.back k sel f y hk hy rfl hx hH hnd hsel hb hbH hpl
 rw [set_same hy] at h
 exact h
/-- .. a new one. -/
theorem Gh.backN {M : Nat} {st : St} (k : Nat) (sel : List Nat) (f : α → PEl) {L : List α} (y : α) {key : AV} {t : TypeId} {x : AV} (hk : st.H[k]? = some (.pool t (mapA f L ++ [(key, .any, [])]) [(L.length, x)])) (hkey : (f y).1 = key := by rfl)
  (hx : x = (f y).2.1.ren sel 0 := by rfl) (hH : sel.map (fun q => st.H[q]?) = (renH sel 0 (f y).2.2).map some := by rfl) (hnd : sel.Nodup := by decide) (hsel : sel.all (fun q => Nat.ble M q && q != k) = true := by decide) (hb : (f y).2.1.bnd sel.length = true := by rfl) (hbH : bndH sel.length (f y).2.2 = true := by rfl) (hpl : (f y).2.2.all plainE = true := by rfl) :
  Gh M st ⟨killTs st.T sel, dieH (killHs (st.H.set k (.pool t (mapA f (L ++ [y])) [])) sel) sel⟩ := by
 have hl : (mapA f L).length = L.length := mapA_len f L
 have h := Gh.putIn (M := M) (st := st) k 0 sel (f y).2.1 (f y).2.2 (x := x) (i := L.length) (key := key) hk rfl (by simp) (by rw [List.getElem?_append_right (by omega)]; simp [hl]) hx hH hnd hsel hb hbH hpl
 have e : (mapA f L ++ [(key, AV.any, [])]).set L.length (key, (f y).2.1, (f y).2.2) = mapA f (L ++ [y]) := by
  rw [List.set_append_right _ _ (by omega), hl, Nat.sub_self, mapA_app, mapA_one, ← hkey]
  rfl
 rw [e] at h
 exact h
end
end Go.Proofs.YtpcfdpengbkplaaDoor
/-
 Code walked in pieces: between two pieces of a row a step in thought may stand, within loops too.
-/
namespace Go.Proofs.YtpcfdpengbkplaaDoor
open Go.RowKit
section
variable {P : Program} {N M : Nat}
theorem SemW.block {id : Nat} {c : XCode} {Q : XEx → St → Prop} {st : St} (h : SemW P N M c (XBlk id Q) st) : SemW P N M (.block id c) Q st := ⟨fun code C act w r pub hx hN hM hh => by
 cases code with
 | block id' c' =>
  unfold cCode at hx
  obtain ⟨y, hy, h'⟩ := map_some hx
  cases h'
  refine wp_block (wp_mono (h.out c' C act w r pub hy hN hM hh) fun e a' w' hq => ?_)
  cases e with
  | normal => exact hq
  | exit id' =>
   show if id' = id then _ else _
   obtain ⟨st', r', pub', hk, hh⟩ := hq
   have hk : if id' = id then Q .norm st' else Q (.exit id') st' := hk
   split
   ·rename_i e; rw [if_pos e] at hk; exact ⟨st', r', pub', hk, hh⟩
   ·rename_i e; rw [if_neg e] at hk; exact ⟨st', r', pub', hk, hh⟩
  | ret => exact hq
  | goto l => exact hq
  | panic ch => exact hq.elim
  | outgrown => exact hq.elim
 | region id ops draw =>
  unfold cCode at hx
  cases draw with
  | false =>
   simp only [Bool.false_eq_true, if_false] at hx
   obtain ⟨l, hl, h⟩ := map_some hx
   cases h
  | true =>
   simp only [if_true] at hx
   split at hx
   ·obtain ⟨p, hp, h⟩ := map_some hx
    cases h
   ·cases hx
 | cond c c1 c2 =>
  unfold cCode at hx
  split at hx <;> cases hx
 | seq c1 c2 =>
  unfold cCode at hx
  split at hx <;> cases hx
 | loop c => unfold cCode at hx; obtain ⟨y, hy, h⟩ := map_some hx; cases h
 | scope c => unfold cCode at hx; obtain ⟨y, hy, h⟩ := map_some hx; cases h
 | _ => cases hx⟩
theorem xloopS {c : XCode} {Q : XEx → St → Prop} {st : St} {ι : Type} (F : ι → St) (μ : ι → Ms) (i0 : ι) (h0 : Gh M st (F i0)) (hr : ∀ i, SemW P N M c (XRound M F μ (μ i) Q) (F i)) : XLoopG P N M c Q st := by
 refine ⟨fun code C a w r pub hc hN hM h => ?_⟩
 obtain ⟨r1, p1, h1⟩ := h0 C a w r pub hM h
 refine wp_loop_fam (fun n a w => ∃ i r pub, (μ i).val = n ∧ HoldsW C (F i) a w r pub) (fun n a w hI => ?_) (n0 := (μ i0).val) ⟨i0, r1, p1, rfl, h1⟩
 obtain ⟨i, r, pub, rfl, hh⟩ := hI
 refine wp_mono ((hr i).out code C a w r pub hc hN hM hh) fun e a' w' hq => ?_
 cases e with
 | normal =>
  obtain ⟨st', r', pub', ⟨⟨st2, j, hg, rfl, hlt⟩⟩, hh'⟩ := hq
  obtain ⟨r2, p2, h2⟩ := hg C a' w' r' pub' hM hh'
  exact ⟨(μ j).val, hlt, j, r2, p2, rfl, h2⟩
 | exit id => exact hq
 | ret => exact hq
 | goto l => exact hq
 | panic ch => exact hq.elim
 | outgrown => exact hq.elim
theorem xloopVS {c : XCode} {Q : XEx → St → Prop} {T : List (Nat × AV)} {H : List Ent} {ι : Type} (hs : List Nat) (F : ι → List (Nat × AV)) (G : ι → List Ent) (μ : ι → Ms) (i0 : ι)
  (hr : ∀ i, SemW P N M c (XRound M (fun i => ⟨F i ++ keepT hs c.wr T, G i⟩) μ (μ i) Q) ⟨F i ++ keepT hs c.wr T, G i⟩)
  (hw : weakT T (F i0) := by repeat' (first | exact trivial | refine ⟨.inl rfl, ?_⟩ | refine ⟨.inr rfl, ?_⟩)) (hH : H.take (G i0).length = G i0 := by rfl) (hb : bndT (G i0).length (F i0 ++ keepT hs c.wr T) = true := by rfl) (hbH : bndH (G i0).length (G i0) = true := by rfl) (hM : M ≤ (G i0).length := by exact Nat.le_of_ble_eq_true rfl) : XLoopG P N M c Q ⟨T, H⟩ :=
 xloopS (fun i => ⟨F i ++ keepT hs c.wr T, G i⟩) μ i0 (Gh.weakG (weakG_app hw fun m => by rcases keepT_get hs T c.wr m with h | h; (· exact .inl h); exact .inr h.2) hH hb hbH hM) hr
end
end Go.Proofs.YtpcfdpengbkplaaDoor
/-
 The door: arguments as they come in, as abstract values, by their type's shape; a contract as what a row asks.
-/
namespace Go.Proofs.YtpcfdpengbkplaaDoor
open Go.ChangeShapes Go.WideShapes Go.Deep Go.RowKit

inductive Sh where
 | int (k : IntKind)
 | str
 | bl
 | sl (sz : Nat) (e : Sh)
 | st (l : List Sh)
mutual
def Sh.width : Sh → Nat
 | .int _ => 1
 | .str => 1
 | .bl => 1
 | .sl _ _ => 1
 | .st l => Sh.widthL l
def Sh.widthL : List Sh → Nat
 | [] => 0
 | s :: l => s.width + Sh.widthL l
end
mutual
/-- The cells of a value of that shape. -/
def Op (B : Nat) : Sh → List AV → Prop
 | .int k, cs => ∃ n, cs = [.int k n] ∧ (Lit.int k n).wf = true
 | .str, cs => ∃ s, cs = [.str s] ∧ s.size ≤ maxLen ∧ s.size ≤ B
 | .bl, cs => ∃ b, cs = [.bl b]
 | .sl sz e, cs => ∃ xs, cs = [.sl sz xs] ∧ xs.length ≤ maxLen ∧ ∀ x ∈ xs, x = elemAV sz x.cells ∧ Op B e x.cells
 | .st l, cs => OpL B l cs
def OpL (B : Nat) : List Sh → List AV → Prop
 | [], cs => cs = []
 | s :: l, cs => ∃ a b, cs = a ++ b ∧ Op B s a ∧ OpL B l b
end
mutual
theorem Op.one {B : Nat} : ∀ (s : Sh) (cs : List AV), Op B s cs → cs.all AV.one = true
 | .int k, cs, h => by unfold Op at h; obtain ⟨n, rfl, _⟩ := h; rfl
 | .str, cs, h => by unfold Op at h; obtain ⟨n, rfl, _⟩ := h; rfl
 | .bl, cs, h => by unfold Op at h; obtain ⟨n, rfl⟩ := h; rfl
 | .sl sz e, cs, h => by unfold Op at h; obtain ⟨xs, rfl, _⟩ := h; rfl
 | .st l, cs, h => by unfold Op at h; exact OpL.one l cs h
theorem OpL.one {B : Nat} : ∀ (l : List Sh) (cs : List AV), OpL B l cs → cs.all AV.one = true
 | [], cs, h => by unfold OpL at h; subst h; rfl
 | s :: l, cs, h => by
  unfold OpL at h
  obtain ⟨a, b, rfl, h1, h2⟩ := h
  rw [List.all_append, Op.one s a h1, OpL.one l b h2]
  rfl
end
def shFs (P : Program) (g : TypeId → Option Sh) : List Field → Nat → Nat → Option (List Sh)
 | [], off, tot => if off = tot then some [] else none
 | f :: l, off, tot => if f.offset = off then match g f.type, shFs P g l (off + P.cellsOf f.type) tot with
   | some s, some r => some (s :: r)
   | _, _ => none
  else none
mutual
theorem Op.len {B : Nat} : ∀ (s : Sh) (cs : List AV), Op B s cs → cs.length = s.width
 | .int k, cs, h => by unfold Op at h; obtain ⟨n, rfl, _⟩ := h; rfl
 | .str, cs, h => by unfold Op at h; obtain ⟨n, rfl, _⟩ := h; rfl
 | .bl, cs, h => by unfold Op at h; obtain ⟨n, rfl⟩ := h; rfl
 | .sl sz e, cs, h => by unfold Op at h; obtain ⟨xs, rfl, _⟩ := h; rfl
 | .st l, cs, h => by unfold Op at h; exact OpL.len l cs h
theorem OpL.len {B : Nat} : ∀ (l : List Sh) (cs : List AV), OpL B l cs → cs.length = Sh.widthL l
 | [], cs, h => by unfold OpL at h; subst h; rfl
 | s :: l, cs, h => by
  unfold OpL at h
  obtain ⟨a, b, rfl, h1, h2⟩ := h
  rw [List.length_append, Op.len s a h1, OpL.len l b h2]
  rfl
end
/-- A type's shape, as the program tells it: structs' fields one behind the other. -/
def shOf (P : Program) : Nat → TypeId → Option Sh
 | 0, _ => none
 | n + 1, t => match P.underlying t with
  | some .bool => some .bl
  | some (.int k) => some (.int k)
  | some .string => some .str
  | some (.slice e) => match shOf P n e with
   | some s => if s.width = P.cellsOf e then some (.sl (P.cellsOf e) s) else none
   | none => none
  | some (.struct fs) => (shFs P (shOf P n) fs.toList 0 (P.cellsOf t)).map .st
  | _ => none
/-- All of memory is published. -/
def pubW (w : World) : Pub := fun b => match w.heap[b]? with
 | some (.cells arr _ _) => arr.size
 | _ => 0
theorem pubW_cell {w : World} {b i : Nat} {u : Value} (h : w.cell? ⟨b, i, none⟩ = some u) : i < pubW w b := by
 unfold World.cell? at h
 unfold pubW
 cases hb : w.heap[b]? with
 | none => simp [hb] at h
 | some o =>
  cases o <;> simp [hb] at h ⊢
  rename_i arr _ _
  rcases Nat.lt_or_ge i arr.size with h1 | h1
  ·exact h1
  ·rw [Array.getElem?_eq_none h1] at h; simp at h
theorem pubW_there {w : World} {b i : Nat} (h : i < pubW w b) : ∃ u, w.cell? ⟨b, i, none⟩ = some u := by
 unfold pubW at h
 cases hb : w.heap[b]? with
 | none => simp [hb] at h
 | some o =>
  cases o <;> simp [hb] at h
  rename_i arr _ _
  exact ⟨arr[i], by unfold World.cell?; simp [hb, Array.getElem?_eq_getElem h]⟩
theorem Mod.door (w : World) (hg : GlobOk (pubW w) w) : Mod (pubW w) w rho0 [] :=
 ⟨fun k e he => (by simp at he), fun _ _ => rfl, (fun _ _ _ _ _ h => by cases h), (fun b hb => by unfold pubW; rw [Array.getElem?_eq_none hb]), fun b i hi => pubW_there hi, hg⟩
theorem elemAV_cells_ {sz : Nat} {l : List AV} (hl : l.length = sz) (h1 : l.all AV.one = true) : (elemAV sz l).cells = l := elemAV_cells hl h1
theorem of_each_ {α : Type} {p : Nat → α → Prop} : ∀ (n : Nat), (∀ i, i < n → ∃ a, p i a) → ∃ l : List α, l.length = n ∧ ∀ i (h : i < l.length), p i l[i]
 | 0, _ => ⟨[], rfl, fun i h => by simp at h⟩
 | n + 1, h => by
  obtain ⟨l, hl, hp⟩ := of_each_ n (fun i hi => h i (by omega))
  obtain ⟨a, ha⟩ := h n (by omega)
  refine ⟨l ++ [a], by simp [hl], fun i hi => ?_⟩
  by_cases h1 : i < l.length
  ·rw [List.getElem_append_left h1]; exact hp i h1
  ·simp at hi
   obtain rfl : i = n := by omega
   subst hl
   simpa using ha
theorem Addr_add_none (b o n : Nat) : (⟨b, o, none⟩ : Addr).add n = ⟨b, o + n, none⟩ := by unfold Addr.add; split <;> simp_all
/-- What is handed in is as light as memory allows, where that is known. -/
def LtD (B : Nat) (P : Program) {H : Type} (t : TypeId) (d : DataW H) : Prop := maxLen ≤ B ∨ (reachBytes ≤ B ∧ ∀ n ∈ d.weights P t, n ≤ reachBytes)
theorem each_mem {P : Program} {H : Type} : ∀ {ts : List TypeId} {ds : List (DataW H)} {i : Nat} {t : TypeId} {d : DataW H}, ts[i]? = some t → ds[i]? = some d → ∀ n ∈ d.weights P t, n ∈ DataW.weightsEach P ts ds
 | [], _, i, t, d, h, _ => by simp at h
 | _ :: _, [], i, t, d, _, h => by simp at h
 | u :: ts, e :: ds, 0, t, d, h, k => by
  intro n hn
  simp at h k
  subst h k
  unfold DataW.weightsEach
  exact List.mem_append_left _ hn
 | u :: ts, e :: ds, i + 1, t, d, h, k => by
  intro n hn
  unfold DataW.weightsEach
  exact List.mem_append_right _ (each_mem (by simpa using h) (by simpa using k) n hn)
theorem all_mem {P : Program} {H : Type} {e : TypeId} : ∀ {ds : List (DataW H)} {i : Nat} {d : DataW H}, ds[i]? = some d → ∀ n ∈ d.weights P e, n ∈ DataW.weightsAll P e ds
 | [], i, d, h => by simp at h
 | x :: ds, 0, d, h => by
  intro n hn
  simp at h
  subst h
  unfold DataW.weightsAll
  exact List.mem_append_left _ hn
 | x :: ds, i + 1, d, h => by
  intro n hn
  unfold DataW.weightsAll
  exact List.mem_append_right _ (all_mem (by simpa using h) n hn)
section
variable {B : Nat}
variable {H : Type} {enc : TypeId × Value → H} {P : Program} {w : World} {base : Nat} {spare : Nat → Bool} {held : Bool}
theorem open_fs {g : TypeId → Option Sh} {cs : List Value} (hg : ∀ t s, g t = some s → ∀ fuel cs x, DataW.trod enc P w base spare held fuel t cs = some x → LtD B P t x.1 → ∃ cz, Op B s cz ∧ VRels (pubW w) w rho0 cz cs) :
  ∀ (l : List Field) (off tot : Nat) (ss : List Sh), shFs P g l off tot = some ss → cs.length = tot → (∀ f ∈ l, ∃ fuel y, DataW.trod enc P w base spare held fuel f.type ((cs.drop f.offset).take (P.cellsOf f.type)) = some y ∧ LtD B P f.type y.1) →
   ∃ cz, OpL B ss cz ∧ VRels (pubW w) w rho0 cz (cs.drop off)
 | [], off, tot, ss, h, hl, _ => by
  unfold shFs at h
  split at h
  ·cases h
   rename_i e
   refine ⟨[], by unfold OpL; rfl, ?_⟩
   rw [List.drop_eq_nil_of_le (by omega)]
   exact .nil
  ·cases h
 | f :: l, off, tot, ss, h, hl, hf => by
  unfold shFs at h
  split at h
  ·rename_i e
   split at h
   ·rename_i s r hs hr
    cases h
    obtain ⟨fuel, y, hy, hly⟩ := hf f (List.mem_cons_self ..)
    obtain ⟨cz1, h1, h2⟩ := hg _ _ hs _ _ _ hy hly
    obtain ⟨cz2, h3, h4⟩ := open_fs hg l _ tot r hr hl (fun f hm => hf f (List.mem_cons_of_mem _ hm))
    refine ⟨cz1 ++ cz2, by unfold OpL; exact ⟨cz1, cz2, rfl, h1, h3⟩, ?_⟩
    rw [e] at h2
    have := h2.app h4
    rw [← List.drop_drop, List.take_append_drop] at this
    exact this
   ·cases h
  ·cases h
theorem VRels.single {x : AV} {u : Value} {pub : Pub} {r : Rho} (h : VRel pub w r x u) : VRels pub w r [x] [u] := .cons h .nil
theorem open_cells : ∀ (n : Nat) (t : TypeId) (s : Sh), shOf P n t = some s → ∀ (fuel : Nat) (cs : List Value) (x : DataW H × List MemPlace), DataW.trod enc P w base spare held fuel t cs = some x → LtD B P t x.1 → ∃ cz, Op B s cz ∧ VRels (pubW w) w rho0 cz cs
 | 0, t, s, h => by cases h
 | n + 1, t, s, h => by
  intro fuel cs x hx hlt
  have ih := open_cells n
  unfold shOf at h
  split at h
  ·rename_i ht
   cases h
   obtain ⟨b, rfl, _⟩ := DataW.trod_bool ht hx
   exact ⟨[.bl b], by unfold Op; exact ⟨b, rfl⟩, .single (.bl b)⟩
  ·rename_i k ht
   cases h
   obtain ⟨b, rfl, _, hw⟩ := DataW.trod_int ht hx
   exact ⟨[.int k b], by unfold Op; exact ⟨b, rfl, hw⟩, .single (.int k b)⟩
  ·rename_i ht
   cases h
   obtain ⟨b, rfl, rfl, hw⟩ := DataW.trod_string ht hx
   have hb : b.size ≤ B := by
    rcases hlt with h1 | ⟨h1, h2⟩
    ·omega
    ·have h3 := h2 b.data.toList.length (by dsimp only; unfold DataW.weights; exact List.mem_cons_self ..)
     have h4 : b.data.toList.length = b.size := by rw [Array.length_toList]; rfl
     omega
   exact ⟨[.str b], by unfold Op; exact ⟨b, rfl, hw, hb⟩, .single (.str b)⟩
  ·rename_i e ht
   split at h
   ·rename_i se hse
    split at h
    ·rename_i hwd
     cases h
     rcases open_slice ht hx with ⟨rfl, _⟩ | ⟨a, len, cap, m, n', D, Pl, rfl, _, hl, hm, hmm, rfl, hi⟩
     ·refine ⟨[.sl (P.cellsOf e) []], by unfold Op; exact ⟨[], rfl, Nat.zero_le _, fun x hx => by cases hx⟩, .single (.sl (A := none) (c := 0) (xs := []) (Nat.le_refl _) (by unfold maxLen; omega) (fun _ => ⟨rfl, rfl⟩) (fun x hx => by cases hx) (fun _ _ => undef) (fun i x j u hx => by simp at hx) (fun i x j u hx => by simp at hx))⟩
     ·have hle : len ≤ m := by rw [hmm]; split <;> omega
      have each : ∀ i, i < len → ∃ cz, Op B se cz ∧ ∃ vs : List Value, VRels (pubW w) w rho0 cz vs ∧ ∀ j v, vs[j]? = some v → w.cell? ((a.add (i * P.cellsOf e)).add j) = some v := fun i hil => by
       obtain ⟨cs', hc, ht'⟩ := hi i (by omega)
       have hli : LtD B P e (D i) := by
        rcases hlt with h1 | ⟨h1, h2⟩
        ·exact .inl h1
        ·refine .inr ⟨h1, fun n hn => h2 n ?_⟩
         unfold DataW.weights
         rw [ht]
         refine List.mem_cons_of_mem _ (List.mem_append_left _ (all_mem (i := i) (d := D i) ?_ n hn))
         rw [List.getElem?_map, List.getElem?_range hil]
         rfl
       obtain ⟨cz, h1, h2⟩ := ih e se hse _ _ _ ht' hli
       obtain ⟨_, hcl, hat⟩ := World.cells?_some hc
       exact ⟨cz, h1, cs', h2, fun j v hv => by rw [hat j (by rw [← hcl]; exact (List.getElem?_eq_some_iff.1 hv).1), hv]⟩
      obtain ⟨A, hAl, hA⟩ : ∃ A : List (List AV), A.length = len ∧ ∀ i (h : i < A.length), Op B se A[i] ∧ ∃ vs : List Value, VRels (pubW w) w rho0 A[i] vs ∧ ∀ j v, vs[j]? = some v → w.cell? ((a.add (i * P.cellsOf e)).add j) = some v := of_each_ len (p := fun i cz => Op B se cz ∧ ∃ vs : List Value, VRels (pubW w) w rho0 cz vs ∧ ∀ j v, vs[j]? = some v → w.cell? ((a.add (i * P.cellsOf e)).add j) = some v) each
      have hcells : ∀ (cz : List AV), Op B se cz → (elemAV (P.cellsOf e) cz).cells = cz := fun cz ho => elemAV_cells_ ((Op.len _ _ ho).trans hwd) (Op.one _ _ ho)
      refine ⟨[.sl (P.cellsOf e) (A.map (elemAV (P.cellsOf e)))], ?_, ?_⟩
      ·unfold Op
       refine ⟨_, rfl, by rw [List.length_map, hAl]; omega, fun x hx => ?_⟩
       obtain ⟨cz, has, rfl⟩ := List.mem_map.1 hx
       obtain ⟨i, hil, rfl⟩ := List.getElem_of_mem has
       rw [hcells _ (hA i hil).1]
       exact ⟨rfl, (hA i hil).1⟩
      ·refine .single ?_
       rw [← hAl, ← List.length_map (f := elemAV (P.cellsOf e))]
       have get : ∀ (i : Nat) (x : AV) (j : Nat) (u : AV), (A.map (elemAV (P.cellsOf e)))[i]? = some x → x.cells[j]? = some u → ∃ v, w.cell? ((a.add (i * P.cellsOf e)).add j) = some v ∧ VRel (pubW w) w rho0 u v := fun i x j u hx hu => by
        rw [List.getElem?_map] at hx
        rcases Nat.lt_or_ge i A.length with hil | hil
        ·rw [List.getElem?_eq_getElem hil] at hx
         cases hx
         obtain ⟨ho, vs, hvs, hc⟩ := hA i hil
         rw [hcells _ ho] at hu
         obtain ⟨v, hv, hr⟩ := hvs.get hu
         exact ⟨v, hc j v hv, hr⟩
        ·rw [List.getElem?_eq_none hil] at hx; cases hx
       refine .sl (by rw [List.length_map]; omega) (by omega) (fun h => by cases h) (fun x hx => ?_) (fun i j => (w.cell? ((a.add (i * P.cellsOf e)).add j)).getD undef) (fun i x j u hx hu => ?_) (fun i x j u hx hu => ?_)
       ·obtain ⟨cz, has, rfl⟩ := List.mem_map.1 hx
        obtain ⟨i, hil, rfl⟩ := List.getElem_of_mem has
        rw [hcells _ (hA i hil).1]
        exact ⟨(Op.len _ _ (hA i hil).1).trans hwd, Op.one _ _ (hA i hil).1⟩
       ·obtain ⟨v, hv, hr⟩ := get i x j u hx hu
        rw [hv]
        exact hr
       ·obtain ⟨v, hv, hr⟩ := get i x j u hx hu
        have hsp : a.spot = none := by
         rw [List.getElem?_map] at hx
         cases hAi : A[i]? with
         | none => rw [hAi] at hx; cases hx
         | some cz =>
          rw [hAi] at hx
          cases hx
          obtain ⟨hil, rfl⟩ := List.getElem?_eq_some_iff.1 hAi
          have hju : j < A[i].length := by rw [hcells _ (hA i hil).1] at hu; exact (List.getElem?_eq_some_iff.1 hu).1
          have hli := Op.len _ _ (hA i hil).1
          obtain ⟨ho, vs, hvs, hc⟩ := hA 0 (by omega)
          have hl0 := Op.len _ _ ho
          have hv0 : 0 < vs.length := by rw [hvs.len]; omega
          have := World.cell?_spot (hc 0 vs[0] (List.getElem?_eq_getElem hv0))
          simpa [Addr.add] using this
        obtain ⟨b, o, spot⟩ := a
        dsimp only at hsp
        subst hsp
        rw [hv]
        have e1 : ((⟨b, o, none⟩ : Addr).add (i * P.cellsOf e)).add j = ⟨b, o + i * P.cellsOf e + j, none⟩ := by
         rw [Addr_add_none, Addr_add_none]
        rw [e1] at hv
        exact ⟨b, o, rfl, pubW_cell hv, hv⟩
    ·cases h
   ·cases h
  ·rename_i fs ht
   obtain ⟨ss, hss, rfl⟩ := map_some h
   obtain ⟨xs, n', _, hxa, hl, hlen, hf⟩ := DataW.trod_struct ht hx
   obtain ⟨cz, h1, h2⟩ := open_fs (cs := cs) ih fs.toList 0 _ ss hss hl (fun f hm => by
    obtain ⟨j, hj⟩ := List.getElem?_of_mem hm
    have hjl : j < xs.length := by rw [hlen]; simpa using (List.getElem?_eq_some_iff.1 hj).1
    refine ⟨n', xs[j], by rw [hf j f (by simpa using hj), List.getElem?_eq_getElem hjl], ?_⟩
    rcases hlt with h1 | ⟨h1, h2⟩
    ·exact .inl h1
    ·refine .inr ⟨h1, fun n hn => h2 n ?_⟩
     rw [hxa]
     unfold DataW.weights
     rw [ht]
     exact each_mem (i := j) (t := f.type) (d := xs[j].1) (by rw [List.getElem?_map, hj]; rfl) (by rw [List.getElem?_map, List.getElem?_eq_getElem hjl]; rfl) n hn)
   exact ⟨cz, by unfold Op; exact h1, by simpa using h2⟩
  ·cases h
def topAV : Sh → List AV → AV
 | .st _, cz => .agg cz
 | _, cz => cz.headD .any
theorem cells_one_ {v : Value} (h : ∀ cs, v ≠ .agg cs) : v.cells.toList = [v] := by
 cases v with
 | agg cs => exact absurd rfl (h cs)
 | _ => rfl
theorem open_val {n : Nat} {t : TypeId} {s : Sh} {r : Reach} {b0 : Nat} {v : Value} {d : DataW H} {p : List MemPlace} (hs : shOf P n t = some s) (hv : Value.okWide P w r b0 t v) (hd : DataW.Trod enc P w base spare held t v d p) (hlt : LtD B P t d) :
  ∃ cz, Op B s cz ∧ VRel (pubW w) w rho0 (topAV s cz) v := by
 obtain ⟨fuel, hf⟩ := hd
 obtain ⟨cz, h1, h2⟩ := open_cells (B := B) n t s hs _ _ _ hf hlt
 refine ⟨cz, h1, ?_⟩
 have scal : (∀ cs, v ≠ .agg cs) → ∀ a, cz = [a] → VRel (pubW w) w rho0 a v := fun hne a ha => by
  rw [cells_one_ hne, ha] at h2
  exact h2.at_ 0 a v rfl rfl
 cases n with
 | zero => cases hs
 | succ n =>
  unfold shOf at hs
  split at hs
  ·rename_i ht
   cases hs
   unfold Op at h1
   obtain ⟨b, rfl⟩ := h1
   exact scal (fun cs hc => by subst hc; simp [Value.okWide, ht, Cell.okWide, Cell.ok] at hv) _ rfl
  ·rename_i k ht
   cases hs
   unfold Op at h1
   obtain ⟨b, rfl, _⟩ := h1
   exact scal (fun cs hc => by subst hc; simp [Value.okWide, ht, Cell.okWide, Cell.ok] at hv) _ rfl
  ·rename_i ht
   cases hs
   unfold Op at h1
   obtain ⟨b, rfl, _⟩ := h1
   exact scal (fun cs hc => by subst hc; simp [Value.okWide, ht, Cell.okWide, Cell.ok] at hv) _ rfl
  ·rename_i e ht
   split at hs
   ·split at hs
    ·cases hs
     unfold Op at h1
     obtain ⟨b, rfl, _⟩ := h1
     exact scal (fun cs hc => by subst hc; simp [Value.okWide, ht, Cell.okWide, Cell.ok] at hv) _ rfl
    ·cases hs
   ·cases hs
  ·rename_i fs ht
   obtain ⟨ss, hss, rfl⟩ := map_some hs
   simp only [Value.okWide, ht] at hv
   obtain ⟨cs, rfl, _⟩ := hv
   exact .agg (by simpa [Value.cells] using h2.len) fun i x u hx hu => h2.at_ i x u hx (by simpa [Value.cells] using hu)
  ·cases hs
theorem op_list {α : Type} {sz : Nat} {e : Sh} {f : α → AV} {q : α → Prop} (h : ∀ cz, Op B e cz → ∃ x : α, elemAV sz cz = f x ∧ q x) {cs : List AV} (ho : Op B (.sl sz e) cs) : ∃ L : List α, cs = [.sl sz (mapA f L)] ∧ L.length ≤ maxLen ∧ ∀ x ∈ L, q x := by
 unfold Op at ho
 obtain ⟨xs, rfl, hl, hx⟩ := ho
 have key : ∀ xs : List AV, (∀ x ∈ xs, x = elemAV sz x.cells ∧ Op B e x.cells) → ∃ L : List α, xs = mapA f L ∧ ∀ x ∈ L, q x := fun xs => by
  induction xs with
  | nil => exact fun _ => ⟨[], rfl, fun x hx => by cases hx⟩
  | cons y ys ih =>
   intro hx
   obtain ⟨L, rfl, hL⟩ := ih fun x hm => hx x (List.mem_cons_of_mem _ hm)
   obtain ⟨e1, e2⟩ := hx y (List.mem_cons_self ..)
   obtain ⟨x, hf, hq⟩ := h _ e2
   refine ⟨x :: L, ?_, fun z hz => ?_⟩
   ·show y :: mapA f L = f x :: mapA f L
    rw [e1, hf]
   ·rcases List.mem_cons.1 hz with rfl | hz
    ·exact hq
    ·exact hL z hz
 obtain ⟨L, rfl, hL⟩ := key xs hx
 exact ⟨L, rfl, by rwa [mapA_len] at hl, hL⟩
theorem wf_i64 {n : Int} (h : (Lit.int .i64 n).wf = true) : -9223372036854775808 ≤ n ∧ n ≤ 9223372036854775807 := by
 simp only [Lit.wf, Bool.and_eq_true, decide_eq_true_eq] at h
 have h1 : IntKind.i64.min = -9223372036854775808 := rfl
 have h2 : IntKind.i64.max = 9223372036854775807 := rfl
 omega
theorem wf_u8 {n : Int} (h : (Lit.int .u8 n).wf = true) : 0 ≤ n ∧ n ≤ 255 := by
 simp only [Lit.wf, Bool.and_eq_true, decide_eq_true_eq] at h
 have h1 : IntKind.u8.min = 0 := rfl
 have h2 : IntKind.u8.max = 255 := rfl
 omega
/-- A contract as what a row asks: true, and all that came in as it was. -/
theorem walk_of {f : Nat} {c : Ctr} (hf : FnOk P f c) {args : List AV} {vals : Array Value} (hv : VRels (pubW w) w rho0 args vals.toList) (hc : c args [] fun x _ => x = .bl true) (hg : GlobOk (pubW w) w) :
  Calls P f vals w fun e w' => e = .returned (.bool true) ∧ Below w.heap.size w w' := by
 refine (hf args [] _ hc w rho0 (pubW w) vals (Mod.door w hg) hv).mono fun e w' ⟨v, x, H', r', pub', he, hx, hvx, _, hfr, _⟩ => ?_
 subst he
 subst hx
 cases hvx
 exact ⟨rfl, hfr.os, hfr.tape, hfr.output, hfr.size, fun j hj => (hfr.keep j hj (fun ⟨_, _, h, _⟩ => by cases h)).1⟩
end
end Go.Proofs.YtpcfdpengbkplaaDoor
/-
  Functions of the program as code on abstract values (printed by xgen.sh).
-/
namespace Go.Proofs.YtpcfdpengbkplaaDoor
def zs (d : Nat) (o : XOp) : XStep := ⟨some d, none, o⟩
def zm (d a : Nat) : XStep := ⟨some d, none, .mov (.t a)⟩
def zf (d f a : Nat) : XStep := ⟨some d, none, .fad f (.t a)⟩
def zl (d a : Nat) : XStep := ⟨some d, none, .ld false 1 (.t a)⟩
def zg (d g : Nat) (b : Bool) (o : XOp) : XStep := ⟨some d, some (g, b), o⟩
def zh (d g : Nat) (b : Bool) (a : Nat) : XStep := ⟨some d, some (g, b), .mov (.t a)⟩
def zn (o : XOp) : XStep := ⟨none, none, o⟩
def x3 : XFn := ⟨111, .seq (.reg [(zs 6 (.mov (.c (.bl false))))]) (.seq (.seq (.reg [(zs 15 (.call 10 [])), (zs 16 (.not (.t 15))), (zm 17 16), (zh 18 17 false 0), (zg 19 17 false (.call 11 [.t 18])), (zg 20 17 false (.not (.t 19))), (zs 21 (.pick (.t 17) (.c (.bl true)) (.t 20)))]) (.cond (.t 21) (.seq (.reg [(zs 22 (.call 10 [])), (zm 6 22)]) .ret) .skip)) (.seq (.reg [(zm 23 0), (zs 24 (.call 12 [.c (.str ⟨#[112]⟩), .t 23])), (zm 7 24)]) (.seq (.seq (.reg [(zm 25 7), (zs 26 (.lenl (.t 25))), (zs 27 (.cmp .lss (.t 26) (.c (.int .i64 2))))]) (.cond (.t 27) (.seq (.reg [(zs 6 (.mov (.c (.bl true))))]) .ret) .skip)) (.seq (.reg [(zm 28 1), (zs 29 (.cvi .i64 (.t 28))), (zm 30 7), (zs 31 (.lenl (.t 30))), (zs 32 (.ari .sub .i64 (.t 31) (.c (.int .i64 1)))), (zs 33 (.ari .rem .i64 (.t 29) (.t 32))), (zm 8 33)]) (.seq (.reg [(zs 34 (.bsl 9 1 0 [.str ⟨#[]⟩] [])), (zm 35 7), (zm 36 8), (zs 37 (.sli 1 (.t 35) none (some (.t 36)))), (zs 38 (.app 25 25 9 1 16 (.t 34) (.t 37))), (zm 9 38)]) (.seq (.seq (.reg [(zm 39 2), (zs 40 (.ari .rem .u8 (.t 39) (.c (.int .u8 3))))]) (.block 0 (.seq (.reg [(zs 59 (.cmp .eql (.t 40) (.c (.int .u8 0)))), (zm 58 59)]) (.cond (.t 58) (.reg [(zm 60 9), (zm 61 7), (zm 62 8), (zs 63 (.ari .add .i64 (.t 62) (.c (.int .i64 1)))), (zs 64 (.sli 1 (.t 61) (some (.t 63)) none)), (zs 65 (.app 25 25 9 1 16 (.t 60) (.t 64))), (zm 9 65)]) (.seq (.reg [(zs 67 (.cmp .eql (.t 40) (.c (.int .u8 1)))), (zm 66 67)]) (.cond (.t 66) (.dreg (.take 0 (zm 68 9) (.take 1 (zm 69 7) (.take 2 (zm 70 8) (.take 3 (zs 71 (.iad 1 (.t 69) (.t 70))) (.take 4 (zl 72 71) (.take 5 (zm 73 7) (.take 6 (zm 74 8) (.take 7 (zs 75 (.iad 1 (.t 73) (.t 74))) (.take 8 (zl 76 75) (.take 11 (zm 79 7) (.take 12 (zm 80 8) (.take 13 (zs 81 (.ari .add .i64 (.t 80) (.c (.int .i64 1)))) (.take 14 (zs 82 (.sli 1 (.t 79) (some (.t 81)) none)) (.eff 9 0 false (zs 77 (.bsl 9 1 2 [.str ⟨#[]⟩] [(0, .t 72), (1, .t 76)])) (.eff 10 1 false (zs 78 (.app 25 25 9 1 16 (.t 68) (.t 77))) (.eff 15 2 false (zs 83 (.app 25 25 9 1 16 (.t 78) (.t 82))) (.phase [4, 8] (.take 16 (zm 9 83) .nil)))))))))))))))))) 3 [7]) (.dreg (.take 0 (zm 41 9) (.take 1 (zm 42 7) (.take 2 (zm 43 8) (.take 3 (zs 44 (.ari .add .i64 (.t 43) (.c (.int .i64 1)))) (.take 4 (zs 45 (.iad 1 (.t 42) (.t 44))) (.take 5 (zl 46 45) (.take 6 (zm 47 7) (.take 7 (zm 48 8) (.take 8 (zs 49 (.iad 1 (.t 47) (.t 48))) (.take 9 (zl 50 49) (.take 12 (zm 53 7) (.take 13 (zm 54 8) (.take 14 (zs 55 (.ari .add .i64 (.t 54) (.c (.int .i64 2)))) (.take 15 (zs 56 (.sli 1 (.t 53) (some (.t 55)) none)) (.eff 10 0 false (zs 51 (.bsl 9 1 2 [.str ⟨#[]⟩] [(0, .t 46), (1, .t 50)])) (.eff 11 1 false (zs 52 (.app 25 25 9 1 16 (.t 41) (.t 51))) (.eff 16 2 false (zs 57 (.app 25 25 9 1 16 (.t 52) (.t 56))) (.phase [5, 9] (.take 17 (zm 9 57) .nil))))))))))))))))))) 3 [7]))))))) (.seq (.reg [(zm 84 9), (zs 85 (.call 13 [.t 84])), (zm 10 85)]) (.seq (.seq (.reg [(zm 86 10), (zs 87 (.cmn false (.t 86)))]) (.cond (.t 87) (.seq (.reg [(zs 6 (.mov (.c (.bl false))))]) .ret) .skip)) (.seq (.reg [(zm 89 10), (zs 90 (.call 14 [.t 89, .c (.str ⟨#[112]⟩)])), (zm 88 90), (zs 91 (.ext (.t 88) 0)), (zs 92 (.ext (.t 88) 1)), (zm 11 91), (zm 12 92)]) (.seq (.reg [(zm 94 9), (zs 95 (.call 15 [.c (.str ⟨#[112]⟩), .t 94])), (zm 93 95), (zs 96 (.ext (.t 93) 0)), (zs 97 (.ext (.t 93) 1)), (zm 13 96), (zm 14 97)]) (.seq (.reg [(zm 98 11), (zm 99 13), (zs 100 (.cmp .eql (.t 98) (.t 99))), (zm 101 100), (zh 102 101 true 12), (zg 103 101 true (.cmp .eql (.t 102) (.c (.int .i64 15)))), (zs 104 (.pick (.t 101) (.t 103) (.c (.bl false)))), (zm 105 104), (zh 106 105 true 13), (zh 107 105 true 8), (zg 108 105 true (.ari .add .i64 (.t 107) (.c (.int .i64 1)))), (zg 109 105 true (.cmp .leq (.t 106) (.t 108))), (zs 110 (.pick (.t 105) (.t 109) (.c (.bl false)))), (zm 6 110)]) .ret))))))))))), [.tmp 6]⟩
def x4 : XFn := ⟨71, .seq (.reg [(zs 6 (.mov (.c (.bl false))))]) (.seq (.seq (.reg [(zs 13 (.call 10 [])), (zs 14 (.not (.t 13))), (zm 15 14), (zh 16 15 false 0), (zg 17 15 false (.call 11 [.t 16])), (zg 18 15 false (.not (.t 17))), (zs 19 (.pick (.t 15) (.c (.bl true)) (.t 18))), (zm 20 19), (zh 21 20 false 1), (zg 22 20 false (.call 16 [.t 21])), (zg 23 20 false (.not (.t 22))), (zs 24 (.pick (.t 20) (.c (.bl true)) (.t 23))), (zm 25 24), (zh 26 25 false 2), (zg 27 25 false (.call 16 [.t 26])), (zg 28 25 false (.not (.t 27))), (zs 29 (.pick (.t 25) (.c (.bl true)) (.t 28)))]) (.cond (.t 29) (.seq (.reg [(zs 30 (.call 10 [])), (zm 6 30)]) .ret) .skip)) (.seq (.reg [(zm 31 1), (zm 32 0), (zs 33 (.call 12 [.t 31, .t 32])), (zm 7 33)]) (.seq (.reg [(zm 34 7), (zs 35 (.call 13 [.t 34])), (zm 8 35)]) (.seq (.seq (.reg [(zm 36 8), (zs 37 (.cmn false (.t 36)))]) (.cond (.t 37) (.seq (.reg [(zs 6 (.mov (.c (.bl false))))]) .ret) .skip)) (.seq (.reg [(zm 39 8), (zm 40 2), (zs 41 (.call 14 [.t 39, .t 40])), (zm 38 41), (zs 42 (.ext (.t 38) 0)), (zs 43 (.ext (.t 38) 1)), (zm 9 42), (zm 10 43)]) (.seq (.reg [(zm 45 2), (zm 46 7), (zs 47 (.call 15 [.t 45, .t 46])), (zm 44 47), (zs 48 (.ext (.t 44) 0)), (zs 49 (.ext (.t 44) 1)), (zm 11 48), (zm 12 49)]) (.seq (.reg [(zm 50 9), (zm 51 11), (zs 52 (.cmp .eql (.t 50) (.t 51))), (zm 53 52), (zh 54 53 true 10), (zg 55 53 true (.cmp .eql (.t 54) (.c (.int .i64 0)))), (zh 56 53 true 11), (zh 57 53 true 7), (zg 58 53 true (.lenl (.t 57))), (zg 59 53 true (.cmp .eql (.t 56) (.t 58))), (zg 60 53 true (.cmb .eql (.t 55) (.t 59))), (zs 61 (.pick (.t 53) (.t 60) (.c (.bl false)))), (zm 62 61), (zh 63 62 true 1), (zh 64 62 true 2), (zg 65 62 true (.cmp .neq (.t 63) (.t 64))), (zh 66 62 true 65), (zh 67 66 false 10), (zg 68 66 false (.cmp .eql (.t 67) (.c (.int .i64 0)))), (zg 69 62 true (.pick (.t 66) (.c (.bl true)) (.t 68))), (zs 70 (.pick (.t 62) (.t 69) (.c (.bl false)))), (zm 6 70)]) .ret))))))), [.tmp 6]⟩
def x5 : XFn := ⟨139, .seq (.reg [(zs 4 (.mov (.c (.bl false))))]) (.seq (.seq (.reg [(zs 17 (.call 10 [])), (zs 18 (.not (.t 17))), (zm 19 18), (zh 20 19 false 0), (zg 21 19 false (.call 11 [.t 20])), (zg 22 19 false (.not (.t 21))), (zs 23 (.pick (.t 19) (.c (.bl true)) (.t 22)))]) (.cond (.t 23) (.seq (.reg [(zs 24 (.call 10 [])), (zm 4 24)]) .ret) .skip)) (.seq (.reg [(zs 25 (.call 17 [])), (zm 5 25)]) (.seq (.reg [(zm 27 5), (zs 28 (.call 18 [.t 27, .c (.str ⟨#[112]⟩)])), (zm 26 28), (zs 29 (.ext (.t 26) 0)), (zs 30 (.ext (.t 26) 1)), (zm 6 29), (zm 7 30)]) (.seq (.seq (.reg [(zm 31 7), (zs 32 (.cmp .neq (.t 31) (.c (.int .i64 0))))]) (.cond (.t 32) (.seq (.reg [(zs 4 (.mov (.c (.bl false))))]) .ret) .skip)) (.seq (.reg [(zm 33 5), (zm 34 1), (zs 35 (.cvi .i64 (.t 34))), (zs 36 (.call 19 [.t 33, .t 35]))]) (.seq (.reg [(zs 8 (.mov (.c (.bl false))))]) (.seq (.seq (.reg [(zm 37 0), (zs 38 (.lenl (.t 37))), (zs 39 (.mov (.c (.int .i64 0))))]) (.block 0 (.loop (.seq (.reg [(zs 40 (.cmp .lss (.t 39) (.t 38)))]) (.seq (.cond (.t 40) .skip (.exit 0)) (.seq (.block 1 (.seq (.reg [(zm 41 39), (zs 42 (.iad 1 (.t 37) (.t 39))), (zl 43 42), (zm 9 41), (zm 10 43)]) (.seq (.reg [(zm 44 6), (zs 45 (.call 20 [.t 44])), (zm 11 45)]) (.seq (.reg [(zm 47 6), (zm 48 10), (zs 49 (.call 21 [.t 47, .t 48])), (zm 46 49), (zs 50 (.ext (.t 46) 0)), (zs 51 (.ext (.t 46) 1)), (zm 12 50), (zm 13 51)]) (.seq (.seq (.reg [(zm 52 13), (zs 53 (.cmp .eql (.t 52) (.c (.int .i64 0)))), (zm 54 53), (zh 55 54 true 6), (zg 56 54 true (.call 20 [.t 55])), (zh 57 54 true 11), (zg 58 54 true (.ari .add .i64 (.t 57) (.c (.int .i64 1)))), (zg 59 54 true (.cmp .neq (.t 56) (.t 58))), (zh 60 54 true 59), (zh 61 60 false 8), (zg 62 54 true (.pick (.t 60) (.c (.bl true)) (.t 61))), (zs 63 (.pick (.t 54) (.t 62) (.c (.bl false)))), (zm 64 63), (zh 65 64 false 13), (zg 66 64 false (.cmp .neq (.t 65) (.c (.int .i64 0)))), (zh 67 64 false 66), (zh 68 67 true 6), (zg 69 67 true (.call 20 [.t 68])), (zh 70 67 true 11), (zg 71 67 true (.cmp .neq (.t 69) (.t 70))), (zg 72 64 false (.pick (.t 67) (.t 71) (.c (.bl false)))), (zs 73 (.pick (.t 64) (.c (.bl true)) (.t 72)))]) (.cond (.t 73) (.seq (.reg [(zs 4 (.mov (.c (.bl false))))]) .ret) .skip)) (.seq (.reg [(zm 74 8), (zm 75 74), (zh 76 75 false 13), (zg 77 75 false (.cmp .eql (.t 76) (.c (.int .i64 14)))), (zs 78 (.pick (.t 75) (.c (.bl true)) (.t 77))), (zm 8 78)]) (.seq (.reg [(zm 79 9), (zs 80 (.ari .rem .i64 (.t 79) (.c (.int .i64 3)))), (zs 81 (.cmp .eql (.t 80) (.c (.int .i64 2))))]) (.cond (.t 81) (.seq (.reg [(zm 82 6), (zs 83 (.call 22 [.t 82])), (zm 14 83)]) (.seq (.seq (.reg [(zm 84 14), (zs 85 (.cmp .eql (.t 84) (.c (.int .i64 0)))), (zm 86 85), (zh 87 86 true 6), (zg 88 86 true (.call 23 [.t 87])), (zh 89 86 true 6), (zg 90 86 true (.call 20 [.t 89])), (zg 91 86 true (.cmp .neq (.t 88) (.t 90))), (zs 92 (.pick (.t 86) (.t 91) (.c (.bl false)))), (zm 93 92), (zh 94 93 false 14), (zg 95 93 false (.cmp .neq (.t 94) (.c (.int .i64 0)))), (zh 96 93 false 95), (zh 97 96 true 14), (zg 98 96 true (.cmp .neq (.t 97) (.c (.int .i64 14)))), (zg 99 93 false (.pick (.t 96) (.t 98) (.c (.bl false)))), (zs 100 (.pick (.t 93) (.c (.bl true)) (.t 99))), (zm 101 100), (zh 102 101 false 8), (zh 103 101 false 102), (zh 104 103 true 14), (zg 105 103 true (.cmp .eql (.t 104) (.c (.int .i64 0)))), (zg 106 101 false (.pick (.t 103) (.t 105) (.c (.bl false)))), (zs 107 (.pick (.t 101) (.c (.bl true)) (.t 106)))]) (.cond (.t 107) (.seq (.reg [(zs 4 (.mov (.c (.bl false))))]) .ret) .skip)) (.reg [(zm 108 8), (zm 109 108), (zh 110 109 false 14), (zg 111 109 false (.cmp .eql (.t 110) (.c (.int .i64 14)))), (zs 112 (.pick (.t 109) (.c (.bl true)) (.t 111))), (zm 8 112)]))) .skip)))))))) (.reg [(zs 113 (.ari .add .i64 (.t 39) (.c (.int .i64 1)))), (zm 39 113)]))))))) (.seq (.reg [(zm 115 5), (zs 116 (.call 18 [.t 115, .c (.str ⟨#[112]⟩)])), (zm 114 116), (zs 117 (.ext (.t 114) 0)), (zs 118 (.ext (.t 114) 1)), (zm 15 117), (zm 16 118)]) (.seq (.reg [(zm 119 16), (zs 120 (.cmp .eql (.t 119) (.c (.int .i64 14)))), (zm 121 5), (zs 122 (.call 24 [.t 121])), (zs 123 (.cmb .eql (.t 120) (.t 122))), (zm 124 123), (zh 125 124 true 16), (zg 126 124 true (.cmp .eql (.t 125) (.c (.int .i64 0)))), (zh 127 124 true 5), (zg 128 124 true (.call 24 [.t 127])), (zg 129 124 true (.not (.t 128))), (zg 130 124 true (.cmb .eql (.t 126) (.t 129))), (zs 131 (.pick (.t 124) (.t 130) (.c (.bl false)))), (zm 132 131), (zh 133 132 true 6), (zg 134 132 true (.call 20 [.t 133])), (zh 135 132 true 5), (zg 136 132 true (.call 25 [.t 135])), (zg 137 132 true (.cmp .eql (.t 134) (.t 136))), (zs 138 (.pick (.t 132) (.t 137) (.c (.bl false)))), (zm 4 138)]) .ret))))))))), [.tmp 4]⟩
def x6 : XFn := ⟨181, .seq (.reg [(zs 6 (.mov (.c (.bl false))))]) (.seq (.seq (.reg [(zs 23 (.call 10 [])), (zs 24 (.not (.t 23))), (zm 25 24), (zh 26 25 false 1), (zg 27 25 false (.call 11 [.t 26])), (zg 28 25 false (.not (.t 27))), (zs 29 (.pick (.t 25) (.c (.bl true)) (.t 28))), (zm 30 29), (zh 31 30 false 0), (zg 32 30 false (.lens (.t 31))), (zg 33 30 false (.cmp .gtr (.t 32) (.c (.int .i64 40)))), (zs 34 (.pick (.t 30) (.c (.bl true)) (.t 33)))]) (.cond (.t 34) (.seq (.reg [(zs 35 (.call 10 [])), (zm 6 35)]) .ret) .skip)) (.seq (.reg [(zs 36 (.call 17 [])), (zm 7 36)]) (.seq (.reg [(zm 38 7), (zm 39 0), (zs 40 (.call 18 [.t 38, .t 39])), (zm 37 40), (zs 41 (.ext (.t 37) 0)), (zs 42 (.ext (.t 37) 1)), (zm 8 41), (zm 9 42)]) (.seq (.seq (.reg [(zm 43 0), (zs 44 (.call 16 [.t 43])), (zs 45 (.not (.t 44)))]) (.cond (.t 45) (.seq (.reg [(zm 46 8), (zs 47 (.cmn false (.t 46))), (zm 48 47), (zh 49 48 true 9), (zg 50 48 true (.cmp .eql (.t 49) (.c (.int .i64 1)))), (zs 51 (.pick (.t 48) (.t 50) (.c (.bl false)))), (zm 6 51)]) .ret) .skip)) (.seq (.seq (.reg [(zm 52 9), (zs 53 (.cmp .neq (.t 52) (.c (.int .i64 0))))]) (.cond (.t 53) (.seq (.reg [(zs 6 (.mov (.c (.bl false))))]) .ret) .skip)) (.seq (.reg [(zs 54 (.bsl 42 1 0 [.v (.slice none 0 0)] [])), (zm 10 54), (zs 11 (.mov (.c (.str ⟨#[]⟩))))]) (.seq (.seq (.reg [(zm 55 1), (zs 56 (.lenl (.t 55))), (zs 57 (.mov (.c (.int .i64 0))))]) (.block 0 (.loop (.seq (.reg [(zs 58 (.cmp .lss (.t 57) (.t 56)))]) (.seq (.cond (.t 58) .skip (.exit 0)) (.seq (.block 1 (.seq (.reg [(zs 59 (.iad 1 (.t 55) (.t 57))), (zl 60 59), (zm 13 60)]) (.seq (.reg [(zs 61 (.bsl 65 2 0 [.str ⟨#[]⟩, .str ⟨#[]⟩] [])), (zm 62 13), (zs 63 (.app 42 42 65 2 32 (.t 61) (.t 62))), (zm 14 63)]) (.seq (.reg [(zm 65 8), (zm 66 14), (zs 67 (.call 21 [.t 65, .t 66])), (zm 64 67), (zs 68 (.ext (.t 64) 0)), (zs 69 (.ext (.t 64) 1)), (zm 15 68), (zm 16 69)]) (.seq (.reg [(zm 71 0), (zm 72 13), (zm 73 10), (zs 74 (.lenl (.t 73))), (zm 75 11), (zs 76 (.call 26 [.t 71, .t 72, .t 74, .t 75])), (zm 70 76), (zs 77 (.ext (.t 70) 0)), (zs 78 (.ext (.t 70) 1)), (zm 17 77), (zm 18 78)]) (.seq (.seq (.reg [(zm 79 16), (zm 80 18), (zs 81 (.cmp .neq (.t 79) (.t 80))), (zm 82 81), (zh 83 82 false 14), (zh 84 82 false 13), (zg 85 82 false (.call 27 [.t 83, .t 84])), (zg 86 82 false (.not (.t 85))), (zs 87 (.pick (.t 82) (.c (.bl true)) (.t 86))), (zm 88 87), (zh 89 88 false 18), (zg 90 88 false (.cmp .neq (.t 89) (.c (.int .i64 0)))), (zh 91 88 false 90), (zh 92 91 true 15), (zg 93 91 true (.cmp .neq (.t 92) (.c (.int .i64 0)))), (zg 94 88 false (.pick (.t 91) (.t 93) (.c (.bl false)))), (zs 95 (.pick (.t 88) (.c (.bl true)) (.t 94)))]) (.cond (.t 95) (.seq (.reg [(zs 6 (.mov (.c (.bl false))))]) .ret) .skip)) (.seq (.seq (.reg [(zm 96 18), (zs 97 (.cmp .neq (.t 96) (.c (.int .i64 0))))]) (.cond (.t 97) (.exit 1) .skip)) (.seq (.reg [(zm 99 7), (zm 100 10), (zs 101 (.lenl (.t 100))), (zs 102 (.call 28 [.t 99, .t 101])), (zm 98 102), (zs 103 (.ext (.t 98) 0)), (zs 104 (.ext (.t 98) 1)), (zm 19 103), (zm 20 104)]) (.seq (.seq (.reg [(zm 105 15), (zm 106 10), (zs 107 (.lenl (.t 106))), (zs 108 (.cmp .neq (.t 105) (.t 107))), (zm 109 108), (zh 110 109 false 20), (zg 111 109 false (.cmp .neq (.t 110) (.c (.int .i64 0)))), (zs 112 (.pick (.t 109) (.c (.bl true)) (.t 111))), (zm 113 112), (zh 114 113 false 19), (zh 115 113 false 17), (zg 116 113 false (.cmp .neq (.t 114) (.t 115))), (zs 117 (.pick (.t 113) (.c (.bl true)) (.t 116)))]) (.cond (.t 117) (.seq (.reg [(zs 6 (.mov (.c (.bl false))))]) .ret) .skip)) (.reg [(zm 118 10), (zm 119 13), (zs 120 (.bsl 42 1 1 [.v (.slice none 0 0)] [(0, .t 119)])), (zs 121 (.app 22 22 42 1 24 (.t 118) (.t 120))), (zm 122 17), (zm 10 121), (zm 11 122)])))))))))) (.reg [(zs 123 (.ari .add .i64 (.t 57) (.c (.int .i64 1)))), (zm 57 123)]))))))) (.seq (.reg [(zm 125 8), (zm 126 2), (zs 127 (.call 29 [.t 125, .t 126])), (zm 124 127), (zs 128 (.ext (.t 124) 0)), (zs 129 (.ext (.t 124) 1)), (zm 21 128), (zm 22 129)]) (.seq (.seq (.reg [(zm 130 2), (zs 131 (.cmp .lss (.t 130) (.c (.int .i64 0)))), (zm 132 131), (zh 133 132 false 2), (zh 134 132 false 10), (zg 135 132 false (.lenl (.t 134))), (zg 136 132 false (.cmp .geq (.t 133) (.t 135))), (zs 137 (.pick (.t 132) (.c (.bl true)) (.t 136)))]) (.cond (.t 137) (.seq (.reg [(zm 138 22), (zs 139 (.cmp .eql (.t 138) (.c (.int .i64 3)))), (zm 140 139), (zh 141 140 true 21), (zg 142 140 true (.lenl (.t 141))), (zg 143 140 true (.cmp .eql (.t 142) (.c (.int .i64 0)))), (zs 144 (.pick (.t 140) (.t 143) (.c (.bl false)))), (zm 145 144), (zh 146 145 true 8), (zg 147 145 true (.call 20 [.t 146])), (zh 148 145 true 10), (zg 149 145 true (.lenl (.t 148))), (zg 150 145 true (.cmp .eql (.t 147) (.t 149))), (zs 151 (.pick (.t 145) (.t 150) (.c (.bl false)))), (zm 152 151), (zh 153 152 true 8), (zg 154 152 true (.call 31 [.t 153])), (zh 155 152 true 10), (zg 156 152 true (.call 30 [.t 154, .t 155])), (zs 157 (.pick (.t 152) (.t 156) (.c (.bl false)))), (zm 6 157)]) .ret) .skip)) (.seq (.reg [(zm 158 22), (zs 159 (.cmp .eql (.t 158) (.c (.int .i64 0)))), (zm 160 159), (zh 161 160 true 21), (zh 162 160 true 10), (zh 163 160 true 2), (zg 164 160 true (.iad 1 (.t 162) (.t 163))), (zg 165 160 true (.ld false 1 (.t 164))), (zg 166 160 true (.call 27 [.t 161, .t 165])), (zs 167 (.pick (.t 160) (.t 166) (.c (.bl false)))), (zm 168 167), (zh 169 168 true 8), (zg 170 168 true (.call 20 [.t 169])), (zh 171 168 true 10), (zg 172 168 true (.lenl (.t 171))), (zg 173 168 true (.cmp .eql (.t 170) (.t 172))), (zs 174 (.pick (.t 168) (.t 173) (.c (.bl false)))), (zm 175 174), (zh 176 175 true 8), (zg 177 175 true (.call 31 [.t 176])), (zh 178 175 true 10), (zg 179 175 true (.call 30 [.t 177, .t 178])), (zs 180 (.pick (.t 175) (.t 179) (.c (.bl false)))), (zm 6 180)]) .ret)))))))))), [.tmp 6]⟩
def x7 : XFn := ⟨106, .seq (.reg [(zs 4 (.mov (.c (.bl false))))]) (.seq (.seq (.reg [(zs 12 (.call 10 [])), (zs 13 (.not (.t 12))), (zm 14 13), (zh 15 14 false 1), (zg 16 14 false (.call 32 [.t 15])), (zg 17 14 false (.not (.t 16))), (zs 18 (.pick (.t 14) (.c (.bl true)) (.t 17))), (zm 19 18), (zh 20 19 false 0), (zg 21 19 false (.lens (.t 20))), (zg 22 19 false (.cmp .gtr (.t 21) (.c (.int .i64 40)))), (zs 23 (.pick (.t 19) (.c (.bl true)) (.t 22)))]) (.cond (.t 23) (.seq (.reg [(zs 24 (.call 10 [])), (zm 4 24)]) .ret) .skip)) (.seq (.reg [(zm 25 1), (zs 26 (.call 13 [.t 25])), (zm 5 26)]) (.seq (.seq (.reg [(zm 27 5), (zs 28 (.cmn false (.t 27)))]) (.cond (.t 28) (.seq (.reg [(zs 4 (.mov (.c (.bl true))))]) .ret) .skip)) (.seq (.reg [(zm 30 5), (zm 31 0), (zs 32 (.call 18 [.t 30, .t 31])), (zm 29 32), (zs 33 (.ext (.t 29) 0)), (zs 34 (.ext (.t 29) 1)), (zm 6 33), (zm 7 34)]) (.seq (.reg [(zm 36 5), (zm 37 0), (zs 38 (.call 14 [.t 36, .t 37])), (zm 35 38), (zs 39 (.ext (.t 35) 0)), (zs 40 (.ext (.t 35) 1)), (zm 8 39), (zm 9 40)]) (.seq (.seq (.reg [(zm 41 0), (zs 42 (.call 16 [.t 41])), (zs 43 (.not (.t 42)))]) (.cond (.t 43) (.seq (.reg [(zm 44 6), (zs 45 (.cmn false (.t 44))), (zm 46 45), (zh 47 46 true 7), (zg 48 46 true (.cmp .eql (.t 47) (.c (.int .i64 1)))), (zs 49 (.pick (.t 46) (.t 48) (.c (.bl false)))), (zm 50 49), (zh 51 50 true 8), (zg 52 50 true (.cmp .eql (.t 51) (.c (.int .i64 0)))), (zs 53 (.pick (.t 50) (.t 52) (.c (.bl false)))), (zm 54 53), (zh 55 54 true 9), (zg 56 54 true (.cmp .eql (.t 55) (.c (.int .i64 1)))), (zs 57 (.pick (.t 54) (.t 56) (.c (.bl false)))), (zm 4 57)]) .ret) .skip)) (.seq (.reg [(zm 59 0), (zm 60 1), (zs 61 (.call 15 [.t 59, .t 60])), (zm 58 61), (zs 62 (.ext (.t 58) 0)), (zs 63 (.ext (.t 58) 1)), (zm 10 62), (zm 11 63)]) (.seq (.seq (.reg [(zm 64 8), (zm 65 10), (zs 66 (.cmp .neq (.t 64) (.t 65))), (zm 67 66), (zh 68 67 false 5), (zg 69 67 false (.call 25 [.t 68])), (zh 70 67 false 1), (zg 71 67 false (.lenl (.t 70))), (zg 72 67 false (.cmp .neq (.t 69) (.t 71))), (zs 73 (.pick (.t 67) (.c (.bl true)) (.t 72)))]) (.cond (.t 73) (.seq (.reg [(zs 4 (.mov (.c (.bl false))))]) .ret) .skip)) (.seq (.seq (.reg [(zm 74 10), (zm 75 1), (zs 76 (.lenl (.t 75))), (zs 77 (.cmp .lss (.t 74) (.t 76)))]) (.cond (.t 77) (.seq (.reg [(zm 78 6), (zs 79 (.cmn false (.t 78))), (zm 80 79), (zh 81 80 true 7), (zg 82 80 true (.cmp .eql (.t 81) (.c (.int .i64 15)))), (zs 83 (.pick (.t 80) (.t 82) (.c (.bl false)))), (zm 84 83), (zh 85 84 true 9), (zg 86 84 true (.cmp .eql (.t 85) (.c (.int .i64 15)))), (zs 87 (.pick (.t 84) (.t 86) (.c (.bl false)))), (zm 4 87)]) .ret) .skip)) (.seq (.reg [(zm 88 7), (zs 89 (.cmp .eql (.t 88) (.c (.int .i64 0)))), (zm 90 89), (zh 91 90 true 9), (zg 92 90 true (.cmp .eql (.t 91) (.c (.int .i64 0)))), (zs 93 (.pick (.t 90) (.t 92) (.c (.bl false)))), (zm 94 93), (zh 95 94 true 6), (zg 96 94 true (.call 20 [.t 95])), (zh 97 94 true 10), (zg 98 94 true (.cmp .eql (.t 96) (.t 97))), (zs 99 (.pick (.t 94) (.t 98) (.c (.bl false)))), (zm 100 99), (zh 101 100 true 6), (zg 102 100 true (.call 31 [.t 101])), (zh 103 100 true 11), (zg 104 100 true (.call 30 [.t 102, .t 103])), (zs 105 (.pick (.t 100) (.t 104) (.c (.bl false)))), (zm 4 105)]) .ret)))))))))), [.tmp 4]⟩
def x8 : XFn := ⟨152, .seq (.reg [(zs 8 (.mov (.c (.bl false))))]) (.seq (.seq (.reg [(zs 24 (.call 10 [])), (zs 25 (.not (.t 24))), (zm 26 25), (zh 27 26 false 0), (zg 28 26 false (.call 11 [.t 27])), (zg 29 26 false (.not (.t 28))), (zs 30 (.pick (.t 26) (.c (.bl true)) (.t 29))), (zm 31 30), (zh 32 31 false 3), (zg 33 31 false (.lenl (.t 32))), (zg 34 31 false (.cmp .gtr (.t 33) (.c (.int .i64 70)))), (zs 35 (.pick (.t 31) (.c (.bl true)) (.t 34)))]) (.cond (.t 35) (.seq (.reg [(zs 36 (.call 10 [])), (zm 8 36)]) .ret) .skip)) (.seq (.reg [(zs 37 (.call 17 [])), (zm 9 37)]) (.seq (.reg [(zm 39 9), (zs 40 (.call 18 [.t 39, .c (.str ⟨#[112]⟩)])), (zm 38 40), (zs 41 (.ext (.t 38) 0)), (zs 42 (.ext (.t 38) 1)), (zm 10 41), (zm 11 42)]) (.seq (.seq (.reg [(zm 43 11), (zs 44 (.cmp .neq (.t 43) (.c (.int .i64 0))))]) (.cond (.t 44) (.seq (.reg [(zs 8 (.mov (.c (.bl false))))]) .ret) .skip)) (.seq (.reg [(zm 45 1), (zs 46 (.cvi .i64 (.t 45))), (zm 47 0), (zs 48 (.lenl (.t 47))), (zs 49 (.ari .add .i64 (.t 48) (.c (.int .i64 1)))), (zs 50 (.ari .rem .i64 (.t 46) (.t 49))), (zm 12 50)]) (.seq (.seq (.reg [(zm 51 0), (zs 52 (.lenl (.t 51))), (zs 53 (.mov (.c (.int .i64 0))))]) (.block 0 (.loop (.seq (.reg [(zs 54 (.cmp .lss (.t 53) (.t 52)))]) (.seq (.cond (.t 54) .skip (.exit 0)) (.seq (.block 1 (.seq (.reg [(zm 55 53), (zs 56 (.iad 1 (.t 51) (.t 53))), (zl 57 56), (zm 13 55), (zm 14 57)]) (.seq (.seq (.reg [(zm 58 13), (zm 59 12), (zs 60 (.cmp .eql (.t 58) (.t 59))), (zm 61 60), (zh 62 61 true 10), (zg 63 61 true (.call 22 [.t 62])), (zg 64 61 true (.cmp .neq (.t 63) (.c (.int .i64 0)))), (zs 65 (.pick (.t 61) (.t 64) (.c (.bl false))))]) (.cond (.t 65) (.seq (.reg [(zs 8 (.mov (.c (.bl false))))]) .ret) .skip)) (.reg [(zm 66 10), (zm 67 14), (zs 68 (.call 21 [.t 66, .t 67]))])))) (.reg [(zs 69 (.ari .add .i64 (.t 53) (.c (.int .i64 1)))), (zm 53 69)]))))))) (.seq (.reg [(zm 70 10), (zs 71 (.call 23 [.t 70])), (zm 72 10), (zs 73 (.call 31 [.t 72])), (zm 15 71), (zm 16 73)]) (.seq (.reg [(zm 74 9), (zm 75 2), (zs 76 (.cvi .i64 (.t 75))), (zs 77 (.call 33 [.t 74, .t 76]))]) (.seq (.reg [(zm 79 9), (zs 80 (.call 18 [.t 79, .c (.str ⟨#[112]⟩)])), (zm 78 80), (zs 81 (.ext (.t 78) 0)), (zs 82 (.ext (.t 78) 1)), (zm 17 81), (zm 18 82)]) (.seq (.seq (.reg [(zm 83 18), (zs 84 (.cmp .neq (.t 83) (.c (.int .i64 0)))), (zm 85 84), (zh 86 85 false 17), (zg 87 85 false (.call 20 [.t 86])), (zh 88 85 false 15), (zg 89 85 false (.cmp .lss (.t 87) (.t 88))), (zs 90 (.pick (.t 85) (.c (.bl true)) (.t 89))), (zm 91 90), (zh 92 91 false 17), (zg 93 91 false (.call 20 [.t 92])), (zh 94 91 false 16), (zg 95 91 false (.lenl (.t 94))), (zg 96 91 false (.cmp .gtr (.t 93) (.t 95))), (zs 97 (.pick (.t 91) (.c (.bl true)) (.t 96))), (zm 98 97), (zh 99 98 false 17), (zg 100 98 false (.call 31 [.t 99])), (zh 101 98 false 16), (zh 102 98 false 17), (zg 103 98 false (.call 20 [.t 102])), (zg 104 98 false (.sli 1 (.t 101) none (some (.t 103)))), (zg 105 98 false (.call 30 [.t 100, .t 104])), (zg 106 98 false (.not (.t 105))), (zs 107 (.pick (.t 98) (.c (.bl true)) (.t 106))), (zm 108 107), (zh 109 108 false 17), (zg 110 108 false (.call 23 [.t 109])), (zh 111 108 false 17), (zg 112 108 false (.call 20 [.t 111])), (zg 113 108 false (.cmp .neq (.t 110) (.t 112))), (zs 114 (.pick (.t 108) (.c (.bl true)) (.t 113)))]) (.cond (.t 114) (.seq (.reg [(zs 8 (.mov (.c (.bl false))))]) .ret) .skip)) (.seq (.reg [(zm 115 17), (zs 116 (.call 20 [.t 115])), (zm 19 116)]) (.seq (.seq (.reg [(zm 118 17), (zm 119 3), (zs 120 (.call 21 [.t 118, .t 119])), (zm 117 120), (zs 121 (.ext (.t 117) 0)), (zs 122 (.ext (.t 117) 1)), (zm 20 121), (zm 21 122)]) (.seq (.reg [(zm 123 21), (zs 124 (.cmp .neq (.t 123) (.c (.int .i64 0))))]) (.cond (.t 124) (.seq (.reg [(zm 125 17), (zs 126 (.call 20 [.t 125])), (zm 127 19), (zs 128 (.cmp .eql (.t 126) (.t 127))), (zm 8 128)]) .ret) .skip))) (.seq (.reg [(zm 130 9), (zs 131 (.call 18 [.t 130, .c (.str ⟨#[112]⟩)])), (zm 129 131), (zs 132 (.ext (.t 129) 0)), (zs 133 (.ext (.t 129) 1)), (zm 22 132), (zm 23 133)]) (.seq (.reg [(zm 134 23), (zs 135 (.cmp .eql (.t 134) (.c (.int .i64 0)))), (zm 136 135), (zh 137 136 true 22), (zg 138 136 true (.call 20 [.t 137])), (zh 139 136 true 19), (zg 140 136 true (.ari .add .i64 (.t 139) (.c (.int .i64 1)))), (zg 141 136 true (.cmp .eql (.t 138) (.t 140))), (zs 142 (.pick (.t 136) (.t 141) (.c (.bl false)))), (zm 143 142), (zh 144 143 true 22), (zg 145 143 true (.call 31 [.t 144])), (zh 146 143 true 19), (zg 147 143 true (.iad 1 (.t 145) (.t 146))), (zg 148 143 true (.ld false 1 (.t 147))), (zh 149 143 true 3), (zg 150 143 true (.call 27 [.t 148, .t 149])), (zs 151 (.pick (.t 143) (.t 150) (.c (.bl false)))), (zm 8 151)]) .ret)))))))))))))), [.tmp 8]⟩
def x9 : XFn := ⟨129, .seq (.reg [(zs 2 (.mov (.c (.bl false))))]) (.seq (.seq (.reg [(zs 19 (.call 10 [])), (zs 20 (.not (.t 19))), (zm 21 20), (zh 22 21 false 0), (zg 23 21 false (.call 11 [.t 22])), (zg 24 21 false (.not (.t 23))), (zs 25 (.pick (.t 21) (.c (.bl true)) (.t 24)))]) (.cond (.t 25) (.seq (.reg [(zs 26 (.call 10 [])), (zm 2 26)]) .ret) .skip)) (.seq (.reg [(zs 27 (.call 17 [])), (zm 3 27)]) (.seq (.reg [(zm 29 3), (zs 30 (.call 18 [.t 29, .c (.str ⟨#[112]⟩)])), (zm 28 30), (zs 31 (.ext (.t 28) 0)), (zs 32 (.ext (.t 28) 1)), (zm 4 31), (zm 5 32)]) (.seq (.seq (.reg [(zm 33 5), (zs 34 (.cmp .neq (.t 33) (.c (.int .i64 0))))]) (.cond (.t 34) (.seq (.reg [(zs 2 (.mov (.c (.bl false))))]) .ret) .skip)) (.seq (.reg [(zs 6 (.mov (.c (.str ⟨#[]⟩)))), (zs 7 (.mov (.c (.int .i64 0))))]) (.seq (.seq (.reg [(zm 35 0), (zs 36 (.lenl (.t 35))), (zs 37 (.mov (.c (.int .i64 0))))]) (.block 0 (.loop (.seq (.reg [(zs 38 (.cmp .lss (.t 37) (.t 36)))]) (.seq (.cond (.t 38) .skip (.exit 0)) (.seq (.block 1 (.seq (.reg [(zs 39 (.iad 1 (.t 35) (.t 37))), (zl 40 39), (zm 9 40)]) (.seq (.seq (.reg [(zm 42 4), (zm 43 9), (zs 44 (.call 21 [.t 42, .t 43])), (zm 41 44), (zs 45 (.ext (.t 41) 0)), (zs 46 (.ext (.t 41) 1)), (zm 10 45), (zm 11 46)]) (.seq (.reg [(zm 47 11), (zs 48 (.cmp .neq (.t 47) (.c (.int .i64 0))))]) (.cond (.t 48) (.exit 1) .skip))) (.seq (.reg [(zm 50 3), (zm 51 7), (zs 52 (.call 28 [.t 50, .t 51])), (zm 49 52), (zs 53 (.ext (.t 49) 0)), (zs 54 (.ext (.t 49) 1)), (zm 12 53), (zm 13 54)]) (.seq (.reg [(zm 56 12), (zs 57 (.call 34 [.t 56])), (zm 55 57), (zs 58 (.ext (.t 55) 0)), (zs 59 (.ext (.t 55) 1)), (zs 60 (.ext (.t 55) 2)), (zm 14 58), (zm 15 59), (zm 16 60)]) (.seq (.seq (.reg [(zm 61 13), (zs 62 (.cmp .neq (.t 61) (.c (.int .i64 0)))), (zm 63 62), (zh 64 63 false 16), (zg 65 63 false (.cmp .neq (.t 64) (.c (.int .i64 0)))), (zs 66 (.pick (.t 63) (.c (.bl true)) (.t 65))), (zm 67 66), (zh 68 67 false 14), (zg 69 67 false (.lenl (.t 68))), (zh 70 67 false 9), (zg 71 67 false (.lenl (.t 70))), (zg 72 67 false (.ari .add .i64 (.t 71) (.c (.int .i64 2)))), (zg 73 67 false (.cmp .neq (.t 69) (.t 72))), (zs 74 (.pick (.t 67) (.c (.bl true)) (.t 73))), (zm 75 74), (zh 76 75 false 14), (zg 77 75 false (.sli 2 (.t 76) (some (.c (.int .i64 2))) none)), (zh 78 75 false 9), (zg 79 75 false (.call 27 [.t 77, .t 78])), (zg 80 75 false (.not (.t 79))), (zs 81 (.pick (.t 75) (.c (.bl true)) (.t 80)))]) (.cond (.t 81) (.seq (.reg [(zs 2 (.mov (.c (.bl false))))]) .ret) .skip)) (.seq (.reg [(zm 83 14), (zs 84 (.iad 2 (.t 83) (.c (.int .i64 0)))), (zf 85 1 84), (zl 86 85), (zs 87 (.call 35 [.t 86])), (zm 82 87), (zs 88 (.ext (.t 82) 0)), (zs 89 (.ext (.t 82) 1)), (zm 17 88), (zm 18 89)]) (.seq (.seq (.dreg (.take 0 (zm 90 14) (.take 1 (zs 91 (.iad 2 (.t 90) (.c (.int .i64 0)))) (.take 2 (zf 92 0 91) (.take 3 (zl 93 92) (.take 4 (zs 94 (.cmp .neq (.t 93) (.c (.str ⟨#[110]⟩)))) (.take 5 (zm 95 94) (.take 6 (zh 96 95 false 18) (.take 7 (zg 97 95 false (.not (.t 96))) (.take 8 (zs 98 (.pick (.t 95) (.c (.bl true)) (.t 97))) (.take 9 (zm 99 98) (.take 10 (zh 100 99 false 17) (.take 11 (zh 101 99 false 7) (.take 12 (zg 102 99 false (.cmp .neq (.t 100) (.t 101))) (.take 13 (zs 103 (.pick (.t 99) (.c (.bl true)) (.t 102))) (.take 14 (zm 104 103) (.take 15 (zh 105 104 false 14) (.take 16 (zg 106 104 false (.iad 2 (.t 105) (.c (.int .i64 1)))) (.take 17 (zg 107 104 false (.fad 0 (.t 106))) (.take 18 (zg 108 104 false (.ld false 1 (.t 107))) (.take 19 (zg 109 104 false (.cmp .neq (.t 108) (.c (.str ⟨#[108, 97, 115, 116]⟩)))) (.take 20 (zs 110 (.pick (.t 104) (.c (.bl true)) (.t 109))) (.take 21 (zm 111 110) (.take 22 (zh 112 111 false 14) (.take 23 (zg 113 111 false (.iad 2 (.t 112) (.c (.int .i64 1)))) (.take 24 (zg 114 111 false (.fad 1 (.t 113))) (.take 25 (zg 115 111 false (.ld false 1 (.t 114))) (.take 26 (zh 116 111 false 6) (.take 27 (zg 117 111 false (.ari .add .i64 (.c (.str ⟨#[112, 10]⟩)) (.t 116))) (.eff 28 0 true (zg 118 111 false (.call 36 [.t 117])) (.take 29 (zg 119 111 false (.cmp .neq (.t 115) (.t 118))) (.take 30 (zs 120 (.pick (.t 111) (.c (.bl true)) (.t 119))) .nil))))))))))))))))))))))))))))))) 0 [14]) (.cond (.t 120) (.seq (.reg [(zs 2 (.mov (.c (.bl false))))]) .ret) .skip)) (.seq (.reg [(zm 121 12), (zm 6 121)]) (.reg [(zm 122 7), (zs 123 (.ari .add .i64 (.t 122) (.c (.int .i64 1)))), (zm 7 123)])))))))))) (.reg [(zs 124 (.ari .add .i64 (.t 37) (.c (.int .i64 1)))), (zm 37 124)]))))))) (.seq (.reg [(zm 125 7), (zm 126 4), (zs 127 (.call 20 [.t 126])), (zs 128 (.cmp .eql (.t 125) (.t 127))), (zm 2 128)]) .ret))))))), [.tmp 2]⟩
def x10 : XFn := ⟨94, .seq (.reg [(zs 0 (.mov (.c (.bl false))))]) (.seq (.reg [(zs 12 (.call 17 [])), (zm 1 12)]) (.seq (.reg [(zm 14 1), (zs 15 (.call 18 [.t 14, .c (.str ⟨#[97]⟩)])), (zm 13 15), (zs 16 (.ext (.t 13) 0)), (zs 17 (.ext (.t 13) 1)), (zm 2 16), (zm 3 17)]) (.seq (.seq (.reg [(zm 18 1), (zs 19 (.cmn false (.t 18))), (zm 20 19), (zh 21 20 false 3), (zg 22 20 false (.cmp .neq (.t 21) (.c (.int .i64 0)))), (zs 23 (.pick (.t 20) (.c (.bl true)) (.t 22))), (zm 24 23), (zh 25 24 false 2), (zg 26 24 false (.cmn false (.t 25))), (zs 27 (.pick (.t 24) (.c (.bl true)) (.t 26)))]) (.cond (.t 27) (.seq (.reg [(zs 0 (.mov (.c (.bl false))))]) .ret) .skip)) (.seq (.reg [(zm 29 2), (zs 30 (.bld [.str ⟨#[]⟩, .str ⟨#[]⟩] [(0, (1, .c (.str ⟨#[120]⟩))), (1, (1, .c (.str ⟨#[49]⟩)))])), (zs 31 (.bsl 65 2 1 [.str ⟨#[]⟩, .str ⟨#[]⟩] [(0, .t 30)])), (zs 32 (.call 21 [.t 29, .t 31])), (zm 28 32), (zs 33 (.ext (.t 28) 0)), (zs 34 (.ext (.t 28) 1)), (zm 4 33), (zm 5 34)]) (.seq (.reg [(zm 36 2), (zs 37 (.bld [.str ⟨#[]⟩, .str ⟨#[]⟩] [(0, (1, .c (.str ⟨#[121]⟩))), (1, (1, .c (.str ⟨#[50]⟩)))])), (zs 38 (.bsl 65 2 1 [.str ⟨#[]⟩, .str ⟨#[]⟩] [(0, .t 37)])), (zs 39 (.call 21 [.t 36, .t 38])), (zm 35 39), (zs 40 (.ext (.t 35) 0)), (zs 41 (.ext (.t 35) 1)), (zm 6 40), (zm 7 41)]) (.seq (.reg [(zm 43 1), (zs 44 (.call 28 [.t 43, .c (.int .i64 0)])), (zm 42 44), (zs 45 (.ext (.t 42) 0)), (zs 46 (.ext (.t 42) 1)), (zm 8 45), (zm 9 46)]) (.seq (.seq (.reg [(zm 47 4), (zs 48 (.cmp .neq (.t 47) (.c (.int .i64 0)))), (zm 49 48), (zh 50 49 false 5), (zg 51 49 false (.cmp .neq (.t 50) (.c (.int .i64 0)))), (zs 52 (.pick (.t 49) (.c (.bl true)) (.t 51))), (zm 53 52), (zh 54 53 false 6), (zg 55 53 false (.cmp .neq (.t 54) (.c (.int .i64 1)))), (zs 56 (.pick (.t 53) (.c (.bl true)) (.t 55))), (zm 57 56), (zh 58 57 false 7), (zg 59 57 false (.cmp .neq (.t 58) (.c (.int .i64 0)))), (zs 60 (.pick (.t 57) (.c (.bl true)) (.t 59))), (zm 61 60), (zh 62 61 false 9), (zg 63 61 false (.cmp .neq (.t 62) (.c (.int .i64 0)))), (zs 64 (.pick (.t 61) (.c (.bl true)) (.t 63))), (zm 65 64), (zh 66 65 false 8), (zg 67 65 false (.lens (.t 66))), (zg 68 65 false (.cmp .lss (.t 67) (.c (.int .i64 4)))), (zs 69 (.pick (.t 65) (.c (.bl true)) (.t 68))), (zm 70 69), (zh 71 70 false 8), (zg 72 70 false (.sls (.t 71) none (some (.c (.int .i64 4))))), (zg 73 70 false (.cmp .neq (.t 72) (.c (.str ⟨#[110, 61, 48, 10]⟩)))), (zs 74 (.pick (.t 70) (.c (.bl true)) (.t 73))), (zm 75 74), (zh 76 75 false 1), (zg 77 75 false (.call 25 [.t 76])), (zg 78 75 false (.cmp .neq (.t 77) (.c (.int .i64 2)))), (zs 79 (.pick (.t 75) (.c (.bl true)) (.t 78)))]) (.cond (.t 79) (.seq (.reg [(zs 0 (.mov (.c (.bl false))))]) .ret) .skip)) (.seq (.reg [(zm 80 1), (zs 81 (.call 33 [.t 80, .c (.int .i64 0)]))]) (.seq (.reg [(zm 83 1), (zs 84 (.call 18 [.t 83, .c (.str ⟨#[97]⟩)])), (zm 82 84), (zs 85 (.ext (.t 82) 0)), (zs 86 (.ext (.t 82) 1)), (zm 10 85), (zm 11 86)]) (.seq (.reg [(zm 87 11), (zs 88 (.cmp .eql (.t 87) (.c (.int .i64 0)))), (zm 89 88), (zh 90 89 true 10), (zg 91 89 true (.call 20 [.t 90])), (zg 92 89 true (.cmp .eql (.t 91) (.c (.int .i64 0)))), (zs 93 (.pick (.t 89) (.t 92) (.c (.bl false)))), (zm 0 93)]) .ret)))))))))), [.tmp 0]⟩
def x11 : XFn := ⟨19, .seq (.reg [(zs 2 (.mov (.c (.bl false))))]) (.seq (.seq (.reg [(zs 3 (.mov (.c (.int .i64 0))))]) (.block 0 (.loop (.seq (.seq (.reg [(zm 4 3), (zm 5 0), (zs 6 (.lenl (.t 5))), (zs 7 (.cmp .lss (.t 4) (.t 6)))]) (.cond (.t 7) .skip (.exit 0))) (.seq (.block 1 (.seq (.reg [(zm 10 0), (zm 11 3), (zs 12 (.iad 1 (.t 10) (.t 11))), (zl 13 12), (zs 14 (.lenl (.t 13))), (zs 15 (.cmp .gtr (.t 14) (.c (.int .i64 70))))]) (.cond (.t 15) (.seq (.reg [(zs 2 (.mov (.c (.bl false))))]) .ret) .skip))) (.reg [(zm 8 3), (zs 9 (.ari .add .i64 (.t 8) (.c (.int .i64 1)))), (zm 3 9)])))))) (.seq (.reg [(zm 16 0), (zs 17 (.lenl (.t 16))), (zs 18 (.cmp .leq (.t 17) (.c (.int .i64 20)))), (zm 2 18)]) .ret)), [.tmp 2]⟩
def x12 : XFn := ⟨37, .seq (.reg [(zs 4 (.mov (.c (.v (.slice none 0 0)))))]) (.seq (.reg [(zs 10 (.bsl 9 1 0 [.str ⟨#[]⟩] [])), (zm 5 10)]) (.seq (.reg [(zs 6 (.mov (.c (.str ⟨#[]⟩))))]) (.seq (.seq (.reg [(zs 7 (.mov (.c (.int .i64 0))))]) (.block 0 (.loop (.seq (.seq (.reg [(zm 11 7), (zm 12 1), (zs 13 (.lenl (.t 12))), (zs 14 (.cmp .lss (.t 11) (.t 13)))]) (.cond (.t 14) .skip (.exit 0))) (.seq (.block 1 (.seq (.reg [(zm 18 0), (zm 19 1), (zm 20 7), (zs 21 (.iad 1 (.t 19) (.t 20))), (zl 22 21), (zm 23 5), (zs 24 (.lenl (.t 23))), (zm 25 6), (zs 26 (.call 26 [.t 18, .t 22, .t 24, .t 25])), (zm 17 26), (zs 27 (.ext (.t 17) 0)), (zs 28 (.ext (.t 17) 1)), (zm 8 27), (zm 9 28)]) (.seq (.reg [(zm 29 9), (zs 30 (.cmp .eql (.t 29) (.c (.int .i64 0))))]) (.cond (.t 30) (.seq (.reg [(zm 31 5), (zm 32 8), (zs 33 (.bsl 9 1 1 [.str ⟨#[]⟩] [(0, .t 32)])), (zs 34 (.app 25 25 9 1 16 (.t 31) (.t 33))), (zm 5 34)]) (.reg [(zm 35 8), (zm 6 35)])) .skip)))) (.reg [(zm 15 7), (zs 16 (.ari .add .i64 (.t 15) (.c (.int .i64 1)))), (zm 7 16)])))))) (.seq (.reg [(zm 36 5), (zm 4 36)]) .ret)))), [.tmp 4]⟩
def x13 : XFn := ⟨20, .seq (.reg [(zs 2 (.mov (.c (.v (.pointer none)))))]) (.seq (.reg [(zs 5 (.call 17 [])), (zm 3 5)]) (.seq (.seq (.reg [(zs 4 (.mov (.c (.int .i64 0))))]) (.block 0 (.loop (.seq (.seq (.reg [(zm 6 4), (zm 7 0), (zs 8 (.lenl (.t 7))), (zs 9 (.cmp .lss (.t 6) (.t 8)))]) (.cond (.t 9) .skip (.exit 0))) (.seq (.block 1 (.seq (.reg [(zm 12 3), (zm 13 0), (zm 14 4), (zs 15 (.iad 1 (.t 13) (.t 14))), (zl 16 15), (zs 17 (.call 37 [.t 12, .t 16])), (zs 18 (.cmp .neq (.t 17) (.c (.int .i64 0))))]) (.cond (.t 18) (.seq (.reg [(zs 2 (.mov (.c (.v (.pointer none)))))]) .ret) .skip))) (.reg [(zm 10 4), (zs 11 (.ari .add .i64 (.t 10) (.c (.int .i64 1)))), (zm 4 11)])))))) (.seq (.reg [(zm 19 3), (zm 2 19)]) .ret))), [.tmp 2]⟩
def x14 : XFn := ⟨23, .seq (.reg [(zs 4 (.mov (.c (.int .i64 0)))), (zs 5 (.mov (.c (.int .i64 0))))]) (.seq (.reg [(zm 9 0), (zm 10 1), (zs 11 (.call 38 [.t 9, .t 10])), (zm 8 11), (zs 12 (.ext (.t 8) 0)), (zs 13 (.ext (.t 8) 1)), (zm 6 12), (zm 7 13)]) (.seq (.seq (.reg [(zm 14 6), (zs 15 (.cmn false (.t 14)))]) (.cond (.t 15) (.seq (.reg [(zm 16 7), (zs 4 (.mov (.c (.int .i64 0)))), (zm 5 16)]) .ret) .skip)) (.seq (.reg [(zm 17 6), (zs 18 (.nck (.t 17))), (zf 19 3 18), (zl 20 19), (zs 21 (.lenl (.t 20))), (zm 22 7), (zm 4 21), (zm 5 22)]) .ret))), [.tmp 4, .tmp 5]⟩
def x15 : XFn := ⟨69, .seq (.reg [(zs 4 (.mov (.c (.int .i64 0)))), (zs 5 (.mov (.c (.v (.slice none 0 0)))))]) (.seq (.reg [(zs 14 (.bsl 42 1 0 [.v (.slice none 0 0)] [])), (zm 6 14)]) (.seq (.reg [(zs 7 (.mov (.c (.str ⟨#[]⟩))))]) (.seq (.seq (.reg [(zs 8 (.mov (.c (.int .i64 0))))]) (.block 0 (.loop (.seq (.seq (.reg [(zm 15 8), (zm 16 1), (zs 17 (.lenl (.t 16))), (zs 18 (.cmp .lss (.t 15) (.t 17)))]) (.cond (.t 18) .skip (.exit 0))) (.seq (.block 1 (.seq (.reg [(zm 22 1), (zm 23 8), (zs 24 (.iad 1 (.t 22) (.t 23))), (zl 25 24), (zs 26 (.call 39 [.t 25])), (zm 21 26), (zs 27 (.ext (.t 21) 0)), (zs 28 (.ext (.t 21) 1)), (zs 29 (.ext (.t 21) 2)), (zm 9 27), (zm 10 28), (zm 11 29)]) (.seq (.seq (.reg [(zm 30 11), (zs 31 (.cmp .neq (.t 30) (.c (.int .i64 0)))), (zm 32 31), (zh 33 32 false 9), (zg 34 32 false (.lenl (.t 33))), (zg 35 32 false (.cmp .lss (.t 34) (.c (.int .i64 2)))), (zs 36 (.pick (.t 32) (.c (.bl true)) (.t 35)))]) (.cond (.t 36) (.seq (.reg [(zm 37 8), (zm 38 6), (zm 4 37), (zm 5 38)]) .ret) .skip)) (.seq (.reg [(zm 40 0), (zm 41 9), (zs 42 (.sli 2 (.t 41) (some (.c (.int .i64 2))) none)), (zm 43 8), (zm 44 7), (zs 45 (.call 26 [.t 40, .t 42, .t 43, .t 44])), (zm 39 45), (zs 46 (.ext (.t 39) 0)), (zs 47 (.ext (.t 39) 1)), (zm 12 46), (zm 13 47)]) (.seq (.seq (.reg [(zm 48 13), (zs 49 (.cmp .neq (.t 48) (.c (.int .i64 0)))), (zm 50 49), (zh 51 50 false 12), (zh 52 50 false 1), (zh 53 50 false 8), (zg 54 50 false (.iad 1 (.t 52) (.t 53))), (zg 55 50 false (.ld false 1 (.t 54))), (zg 56 50 false (.cmp .neq (.t 51) (.t 55))), (zs 57 (.pick (.t 50) (.c (.bl true)) (.t 56)))]) (.cond (.t 57) (.seq (.reg [(zm 58 8), (zm 59 6), (zm 4 58), (zm 5 59)]) .ret) .skip)) (.seq (.reg [(zm 60 6), (zm 61 9), (zs 62 (.sli 2 (.t 61) (some (.c (.int .i64 2))) none)), (zs 63 (.bsl 42 1 1 [.v (.slice none 0 0)] [(0, .t 62)])), (zs 64 (.app 22 22 42 1 24 (.t 60) (.t 63))), (zm 6 64)]) (.reg [(zm 65 12), (zm 7 65)]))))))) (.reg [(zm 19 8), (zs 20 (.ari .add .i64 (.t 19) (.c (.int .i64 1)))), (zm 8 20)])))))) (.seq (.reg [(zm 66 1), (zs 67 (.lenl (.t 66))), (zm 68 6), (zm 4 67), (zm 5 68)]) .ret)))), [.tmp 4, .tmp 5]⟩
def x16 : XFn := ⟨5, .seq (.reg [(zs 2 (.mov (.c (.bl false))))]) (.seq (.reg [(zm 3 0), (zs 4 (.call 40 [.t 3])), (zm 2 4)]) .ret), [.tmp 2]⟩
def x17 : XFn := ⟨3, .seq (.reg [(zs 0 (.mov (.c (.v (.pointer none)))))]) (.seq (.reg [(zs 1 (.bld [.v (.slice none 0 0), .int .i64 0, .bl false, .int .i64 0, .bl false] [])), (zs 2 (.box 73 (.t 1))), (zm 0 2)]) .ret), [.tmp 0]⟩
def x18 : XFn := ⟨18, .seq (.reg [(zs 4 (.mov (.c (.v (.pointer none))))), (zs 5 (.mov (.c (.int .i64 0))))]) (.seq (.reg [(zm 9 0), (zm 10 1), (zs 11 (.call 38 [.t 9, .t 10])), (zm 8 11), (zs 12 (.ext (.t 8) 0)), (zs 13 (.ext (.t 8) 1)), (zm 6 12), (zm 7 13)]) (.seq (.seq (.reg [(zm 14 7), (zs 15 (.cmp .neq (.t 14) (.c (.int .i64 0))))]) (.cond (.t 15) (.seq (.reg [(zm 16 7), (zs 4 (.mov (.c (.v (.pointer none))))), (zm 5 16)]) .ret) .skip)) (.seq (.reg [(zm 17 6), (zm 4 17), (zs 5 (.mov (.c (.int .i64 0))))]) .ret))), [.tmp 4, .tmp 5]⟩
def x19 : XFn := ⟨14, .reg [(zm 4 0), (zm 5 0), (zm 6 1), (zs 7 (.cmp .geq (.t 6) (.c (.int .i64 0)))), (zm 8 1), (zs 9 (.mnx true (.t 8) (.c (.int .i64 0)))), (zs 10 (.nck (.t 4))), (zf 11 2 10), (zn (.st 1 (.t 11) (.t 7))), (zs 12 (.nck (.t 5))), (zf 13 3 12), (zn (.st 1 (.t 13) (.t 9)))], []⟩
def x20 : XFn := ⟨8, .seq (.reg [(zs 2 (.mov (.c (.int .i64 0))))]) (.seq (.reg [(zm 3 0), (zs 4 (.nck (.t 3))), (zf 5 3 4), (zl 6 5), (zs 7 (.lenl (.t 6))), (zm 2 7)]) .ret), [.tmp 2]⟩
def x21 : XFn := ⟨91, .seq (.reg [(zs 4 (.mov (.c (.int .i64 0)))), (zs 5 (.mov (.c (.int .i64 0))))]) (.seq (.seq (.reg [(zm 15 1), (zs 16 (.lenl (.t 15))), (zs 17 (.mov (.c (.int .i64 0))))]) (.block 0 (.loop (.seq (.reg [(zs 18 (.cmp .lss (.t 17) (.t 16)))]) (.seq (.cond (.t 18) .skip (.exit 0)) (.seq (.block 1 (.seq (.reg [(zs 19 (.iad 2 (.t 15) (.t 17))), (zs 20 (.ld true 2 (.t 19))), (zs 7 (.alloc 65 [.str ⟨#[]⟩, .str ⟨#[]⟩])), (zn (.st 2 (.t 7) (.t 20)))]) (.seq (.reg [(zs 22 (.ld true 2 (.t 7))), (zs 23 (.bsl 65 2 1 [.str ⟨#[]⟩, .str ⟨#[]⟩] [(0, .t 22)])), (zs 24 (.call 41 [.t 23])), (zm 21 24), (zs 25 (.ext (.t 21) 0)), (zs 26 (.ext (.t 21) 1)), (zm 8 25), (zm 9 26)]) (.seq (.reg [(zm 27 9), (zs 28 (.cmp .neq (.t 27) (.c (.int .i64 0))))]) (.cond (.t 28) (.seq (.reg [(zs 4 (.mov (.c (.int .i64 0)))), (zs 5 (.mov (.c (.int .i64 1))))]) .ret) .skip))))) (.reg [(zs 29 (.ari .add .i64 (.t 17) (.c (.int .i64 1)))), (zm 17 29)]))))))) (.seq (.seq (.reg [(zm 30 1), (zs 31 (.lenl (.t 30))), (zs 32 (.cmp .gtr (.t 31) (.c (.int .i64 62))))]) (.cond (.t 32) (.seq (.reg [(zs 4 (.mov (.c (.int .i64 0)))), (zs 5 (.mov (.c (.int .i64 7))))]) .ret) .skip)) (.seq (.reg [(zm 33 0), (zs 34 (.nck (.t 33))), (zf 35 3 34), (zl 36 35), (zs 37 (.lenl (.t 36))), (zm 10 37)]) (.seq (.dreg (.take 0 (zm 38 10) (.take 3 (zm 41 0) (.take 4 (zs 42 (.nck (.t 41))) (.take 5 (zf 43 2 42) (.take 6 (zl 44 43) (.take 7 (zs 45 (.bld [.str ⟨#[]⟩, .str ⟨#[]⟩] [(0, (1, .c (.str ⟨#[108, 97, 115, 116]⟩))), (1, (1, .t 44))])) (.eff 1 0 true (zs 39 (.call 42 [.t 38])) (.take 2 (zs 40 (.bld [.str ⟨#[]⟩, .str ⟨#[]⟩] [(0, (1, .c (.str ⟨#[110]⟩))), (1, (1, .t 39))])) (.eff 8 0 false (zs 46 (.bsl 65 2 2 [.str ⟨#[]⟩, .str ⟨#[]⟩] [(0, .t 40), (1, .t 45)])) (.phase [6] (.take 9 (zm 11 46) .nil))))))))))) 1 [0]) (.seq (.reg [(zm 48 11), (zm 49 1), (zs 50 (.app 42 42 65 2 32 (.t 48) (.t 49))), (zs 51 (.call 41 [.t 50])), (zm 47 51), (zs 52 (.ext (.t 47) 0)), (zs 53 (.ext (.t 47) 1)), (zm 12 52), (zm 13 53)]) (.seq (.seq (.reg [(zm 54 13), (zs 55 (.cmp .neq (.t 54) (.c (.int .i64 0)))), (zm 56 55), (zh 57 56 false 12), (zg 58 56 false (.lens (.t 57))), (zg 59 56 false (.cmp .gtr (.t 58) (.c (.int .i64 4096)))), (zs 60 (.pick (.t 56) (.c (.bl true)) (.t 59)))]) (.cond (.t 60) (.seq (.reg [(zs 4 (.mov (.c (.int .i64 0)))), (zs 5 (.mov (.c (.int .i64 7))))]) .ret) .skip)) (.seq (.seq (.reg [(zm 61 0), (zs 62 (.nck (.t 61))), (zf 63 0 62), (zl 64 63), (zm 65 12), (zs 66 (.call 37 [.t 64, .t 65])), (zm 14 66)]) (.seq (.reg [(zm 67 14), (zs 68 (.cmp .neq (.t 67) (.c (.int .i64 0))))]) (.cond (.t 68) (.seq (.reg [(zm 69 14), (zs 4 (.mov (.c (.int .i64 0)))), (zm 5 69)]) .ret) .skip))) (.seq (.dreg (.take 0 (zm 70 0) (.take 1 (zm 71 0) (.take 2 (zs 72 (.nck (.t 71))) (.take 3 (zf 73 3 72) (.take 4 (zl 74 73) (.take 5 (zm 75 1) (.eff 6 0 true (zs 76 (.call 43 [.t 75])) (.eff 7 0 true (zs 77 (.bsl 42 1 1 [.v (.slice none 0 0)] [(0, .t 76)])) (.eff 8 1 false (zs 78 (.app 22 22 42 1 24 (.t 74) (.t 77))) (.take 9 (zs 79 (.nck (.t 70))) (.take 10 (zf 80 3 79) (.eff 11 2 false (zn (.st 1 (.t 80) (.t 78))) (.phase [4] .nil))))))))))))) 2 [0]) (.seq (.reg [(zm 81 0), (zm 82 0), (zs 83 (.nck (.t 82))), (zf 84 1 83), (zl 85 84), (zm 86 12), (zs 87 (.call 44 [.t 85, .t 86])), (zs 88 (.nck (.t 81))), (zf 89 2 88), (zn (.st 1 (.t 89) (.t 87)))]) (.seq (.reg [(zm 90 10), (zm 4 90), (zs 5 (.mov (.c (.int .i64 0))))]) .ret)))))))))), [.tmp 4, .tmp 5]⟩
def x22 : XFn := ⟨8, .seq (.reg [(zs 2 (.mov (.c (.int .i64 0))))]) (.seq (.reg [(zm 3 0), (zs 4 (.nck (.t 3))), (zf 5 0 4), (zl 6 5), (zs 7 (.call 45 [.t 6])), (zm 2 7)]) .ret), [.tmp 2]⟩
def x23 : XFn := ⟨8, .seq (.reg [(zs 2 (.mov (.c (.int .i64 0))))]) (.seq (.reg [(zm 3 0), (zs 4 (.nck (.t 3))), (zf 5 0 4), (zl 6 5), (zs 7 (.call 46 [.t 6])), (zm 2 7)]) .ret), [.tmp 2]⟩
def x24 : XFn := ⟨7, .seq (.reg [(zs 2 (.mov (.c (.bl false))))]) (.seq (.reg [(zm 3 0), (zs 4 (.nck (.t 3))), (zf 5 4 4), (zl 6 5), (zm 2 6)]) .ret), [.tmp 2]⟩
def x25 : XFn := ⟨8, .seq (.reg [(zs 2 (.mov (.c (.int .i64 0))))]) (.seq (.reg [(zm 3 0), (zs 4 (.nck (.t 3))), (zf 5 0 4), (zl 6 5), (zs 7 (.lenl (.t 6))), (zm 2 7)]) .ret), [.tmp 2]⟩
def x26 : XFn := ⟨48, .seq (.reg [(zs 8 (.mov (.c (.str ⟨#[]⟩)))), (zs 9 (.mov (.c (.int .i64 0))))]) (.seq (.seq (.reg [(zs 10 (.mov (.c (.int .i64 0))))]) (.block 0 (.loop (.seq (.seq (.reg [(zm 14 10), (zm 15 1), (zs 16 (.lenl (.t 15))), (zs 17 (.cmp .lss (.t 14) (.t 16)))]) (.cond (.t 17) .skip (.exit 0))) (.seq (.block 1 (.seq (.reg [(zm 20 1), (zm 21 10), (zs 22 (.iad 2 (.t 20) (.t 21))), (zs 23 (.ld true 2 (.t 22))), (zs 24 (.call 47 [.t 23])), (zs 25 (.not (.t 24)))]) (.cond (.t 25) (.seq (.reg [(zs 8 (.mov (.c (.str ⟨#[]⟩)))), (zs 9 (.mov (.c (.int .i64 1))))]) .ret) .skip))) (.reg [(zm 18 10), (zs 19 (.ari .add .i64 (.t 18) (.c (.int .i64 1)))), (zm 10 19)])))))) (.seq (.seq (.reg [(zm 26 1), (zs 27 (.lenl (.t 26))), (zs 28 (.cmp .gtr (.t 27) (.c (.int .i64 62))))]) (.cond (.t 28) (.seq (.reg [(zs 8 (.mov (.c (.str ⟨#[]⟩)))), (zs 9 (.mov (.c (.int .i64 7))))]) .ret) .skip)) (.seq (.reg [(zm 29 2), (zs 30 (.call 48 [.t 29])), (zs 31 (.bld [.str ⟨#[]⟩, .str ⟨#[]⟩] [(0, (1, .c (.str ⟨#[110]⟩))), (1, (1, .t 30))])), (zm 32 0), (zm 33 3), (zs 34 (.call 49 [.t 32, .t 33])), (zs 35 (.bld [.str ⟨#[]⟩, .str ⟨#[]⟩] [(0, (1, .c (.str ⟨#[108, 97, 115, 116]⟩))), (1, (1, .t 34))])), (zs 36 (.bsl 65 2 2 [.str ⟨#[]⟩, .str ⟨#[]⟩] [(0, .t 31), (1, .t 35)])), (zm 37 1), (zs 38 (.app 42 42 65 2 32 (.t 36) (.t 37))), (zm 11 38)]) (.seq (.reg [(zm 40 11), (zs 41 (.call 50 [.t 40])), (zm 39 41), (zs 42 (.ext (.t 39) 0)), (zs 43 (.ext (.t 39) 1)), (zm 12 42), (zm 13 43)]) (.seq (.seq (.reg [(zm 44 12), (zs 45 (.lens (.t 44))), (zs 46 (.cmp .gtr (.t 45) (.c (.int .i64 4096))))]) (.cond (.t 46) (.seq (.reg [(zs 8 (.mov (.c (.str ⟨#[]⟩)))), (zs 9 (.mov (.c (.int .i64 7))))]) .ret) .skip)) (.seq (.reg [(zm 47 12), (zm 8 47), (zs 9 (.mov (.c (.int .i64 0))))]) .ret)))))), [.tmp 8, .tmp 9]⟩
def x27 : XFn := ⟨26, .seq (.reg [(zs 4 (.mov (.c (.bl false))))]) (.seq (.seq (.reg [(zm 6 0), (zs 7 (.lenl (.t 6))), (zm 8 1), (zs 9 (.lenl (.t 8))), (zs 10 (.cmp .neq (.t 7) (.t 9)))]) (.cond (.t 10) (.seq (.reg [(zs 4 (.mov (.c (.bl false))))]) .ret) .skip)) (.seq (.seq (.reg [(zs 5 (.mov (.c (.int .i64 0))))]) (.block 0 (.loop (.seq (.seq (.reg [(zm 11 5), (zm 12 0), (zs 13 (.lenl (.t 12))), (zs 14 (.cmp .lss (.t 11) (.t 13)))]) (.cond (.t 14) .skip (.exit 0))) (.seq (.block 1 (.seq (.dreg (.take 0 (zm 17 0) (.take 1 (zm 18 5) (.take 2 (zs 19 (.iad 2 (.t 17) (.t 18))) (.take 3 (zs 20 (.ld true 2 (.t 19))) (.take 4 (zm 21 1) (.take 5 (zm 22 5) (.take 6 (zs 23 (.iad 2 (.t 21) (.t 22))) (.take 7 (zs 24 (.ld true 2 (.t 23))) (.take 8 (zs 25 (.cms true [1, 1] (.t 20) (.t 24))) .nil))))))))) 0 [0, 1]) (.cond (.t 25) (.seq (.reg [(zs 4 (.mov (.c (.bl false))))]) .ret) .skip))) (.reg [(zm 15 5), (zs 16 (.ari .add .i64 (.t 15) (.c (.int .i64 1)))), (zm 5 16)])))))) (.seq (.reg [(zs 4 (.mov (.c (.bl true))))]) .ret))), [.tmp 4]⟩
def x28 : XFn := ⟨28, .seq (.reg [(zs 4 (.mov (.c (.str ⟨#[]⟩)))), (zs 5 (.mov (.c (.int .i64 0))))]) (.seq (.seq (.reg [(zm 6 0), (zs 7 (.nck (.t 6))), (zf 8 4 7), (zl 9 8)]) (.cond (.t 9) (.seq (.reg [(zs 4 (.mov (.c (.str ⟨#[]⟩)))), (zs 5 (.mov (.c (.int .i64 14))))]) .ret) .skip)) (.seq (.seq (.reg [(zm 10 1), (zs 11 (.cmp .lss (.t 10) (.c (.int .i64 0)))), (zm 12 11), (zh 13 12 false 1), (zh 14 12 false 0), (zg 15 12 false (.nck (.t 14))), (zg 16 12 false (.fad 0 (.t 15))), (zg 17 12 false (.ld false 1 (.t 16))), (zg 18 12 false (.lenl (.t 17))), (zg 19 12 false (.cmp .geq (.t 13) (.t 18))), (zs 20 (.pick (.t 12) (.c (.bl true)) (.t 19)))]) (.cond (.t 20) (.seq (.reg [(zs 4 (.mov (.c (.str ⟨#[]⟩)))), (zs 5 (.mov (.c (.int .i64 3))))]) .ret) .skip)) (.seq (.reg [(zm 21 0), (zs 22 (.nck (.t 21))), (zf 23 0 22), (zl 24 23), (zm 25 1), (zs 26 (.iad 1 (.t 24) (.t 25))), (zl 27 26), (zm 4 27), (zs 5 (.mov (.c (.int .i64 0))))]) .ret))), [.tmp 4, .tmp 5]⟩
def x29 : XFn := ⟨25, .seq (.reg [(zs 4 (.mov (.c (.v (.slice none 0 0))))), (zs 5 (.mov (.c (.int .i64 0))))]) (.seq (.seq (.reg [(zm 6 1), (zs 7 (.cmp .lss (.t 6) (.c (.int .i64 0)))), (zm 8 7), (zh 9 8 false 1), (zh 10 8 false 0), (zg 11 8 false (.nck (.t 10))), (zg 12 8 false (.fad 3 (.t 11))), (zg 13 8 false (.ld false 1 (.t 12))), (zg 14 8 false (.lenl (.t 13))), (zg 15 8 false (.cmp .geq (.t 9) (.t 14))), (zs 16 (.pick (.t 8) (.c (.bl true)) (.t 15)))]) (.cond (.t 16) (.seq (.reg [(zs 4 (.mov (.c (.v (.slice none 0 0))))), (zs 5 (.mov (.c (.int .i64 3))))]) .ret) .skip)) (.seq (.reg [(zm 17 0), (zs 18 (.nck (.t 17))), (zf 19 3 18), (zl 20 19), (zm 21 1), (zs 22 (.iad 1 (.t 20) (.t 21))), (zl 23 22), (zs 24 (.call 43 [.t 23])), (zm 4 24), (zs 5 (.mov (.c (.int .i64 0))))]) .ret)), [.tmp 4, .tmp 5]⟩
def x30 : XFn := ⟨27, .seq (.reg [(zs 4 (.mov (.c (.bl false))))]) (.seq (.seq (.reg [(zm 6 0), (zs 7 (.lenl (.t 6))), (zm 8 1), (zs 9 (.lenl (.t 8))), (zs 10 (.cmp .neq (.t 7) (.t 9)))]) (.cond (.t 10) (.seq (.reg [(zs 4 (.mov (.c (.bl false))))]) .ret) .skip)) (.seq (.seq (.reg [(zs 5 (.mov (.c (.int .i64 0))))]) (.block 0 (.loop (.seq (.seq (.reg [(zm 11 5), (zm 12 0), (zs 13 (.lenl (.t 12))), (zs 14 (.cmp .lss (.t 11) (.t 13)))]) (.cond (.t 14) .skip (.exit 0))) (.seq (.block 1 (.seq (.dreg (.take 0 (zm 17 0) (.take 1 (zm 18 5) (.take 2 (zs 19 (.iad 1 (.t 17) (.t 18))) (.take 3 (zl 20 19) (.take 4 (zm 21 1) (.take 5 (zm 22 5) (.take 6 (zs 23 (.iad 1 (.t 21) (.t 22))) (.take 7 (zl 24 23) (.eff 8 0 false (zs 25 (.call 27 [.t 20, .t 24])) (.phase [3, 7] (.take 9 (zs 26 (.not (.t 25))) .nil))))))))))) 0 [0, 1]) (.cond (.t 26) (.seq (.reg [(zs 4 (.mov (.c (.bl false))))]) .ret) .skip))) (.reg [(zm 15 5), (zs 16 (.ari .add .i64 (.t 15) (.c (.int .i64 1)))), (zm 5 16)])))))) (.seq (.reg [(zs 4 (.mov (.c (.bl true))))]) .ret))), [.tmp 4]⟩
def x31 : XFn := ⟨29, .seq (.reg [(zs 2 (.mov (.c (.v (.slice none 0 0)))))]) (.seq (.reg [(zm 6 0), (zs 7 (.nck (.t 6))), (zf 8 3 7), (zl 9 8), (zs 10 (.lenl (.t 9))), (zs 11 (.mks 42 1 24 [.v (.slice none 0 0)] (.t 10) (.t 10))), (zm 3 11)]) (.seq (.seq (.reg [(zm 12 0), (zs 13 (.nck (.t 12))), (zf 14 3 13), (zl 15 14), (zs 16 (.lenl (.t 15))), (zs 17 (.mov (.c (.int .i64 0))))]) (.block 0 (.loop (.seq (.reg [(zs 18 (.cmp .lss (.t 17) (.t 16)))]) (.seq (.cond (.t 18) .skip (.exit 0)) (.seq (.block 1 (.seq (.reg [(zm 19 17), (zs 20 (.iad 1 (.t 15) (.t 17))), (zl 21 20), (zm 4 19), (zm 5 21)]) (.reg [(zm 22 3), (zm 23 4), (zm 24 5), (zs 25 (.call 43 [.t 24])), (zs 26 (.iad 1 (.t 22) (.t 23))), (zn (.st 1 (.t 26) (.t 25)))]))) (.reg [(zs 27 (.ari .add .i64 (.t 17) (.c (.int .i64 1)))), (zm 17 27)]))))))) (.seq (.reg [(zm 28 3), (zm 2 28)]) .ret))), [.tmp 2]⟩
def x32 : XFn := ⟨19, .seq (.reg [(zs 2 (.mov (.c (.bl false))))]) (.seq (.seq (.reg [(zs 3 (.mov (.c (.int .i64 0))))]) (.block 0 (.loop (.seq (.seq (.reg [(zm 4 3), (zm 5 0), (zs 6 (.lenl (.t 5))), (zs 7 (.cmp .lss (.t 4) (.t 6)))]) (.cond (.t 7) .skip (.exit 0))) (.seq (.block 1 (.seq (.reg [(zm 10 0), (zm 11 3), (zs 12 (.iad 1 (.t 10) (.t 11))), (zl 13 12), (zs 14 (.lens (.t 13))), (zs 15 (.cmp .gtr (.t 14) (.c (.int .i64 5000))))]) (.cond (.t 15) (.seq (.reg [(zs 2 (.mov (.c (.bl false))))]) .ret) .skip))) (.reg [(zm 8 3), (zs 9 (.ari .add .i64 (.t 8) (.c (.int .i64 1)))), (zm 3 9)])))))) (.seq (.reg [(zm 16 0), (zs 17 (.lenl (.t 16))), (zs 18 (.cmp .leq (.t 17) (.c (.int .i64 20)))), (zm 2 18)]) .ret)), [.tmp 2]⟩
def x33 : XFn := ⟨49, .seq (.dreg (.take 0 (zm 4 1) (.take 1 (zs 5 (.mnx true (.t 4) (.c (.int .i64 0)))) (.take 2 (zm 6 0) (.take 3 (zs 7 (.nck (.t 6))) (.take 4 (zf 8 0 7) (.take 5 (zl 9 8) (.take 6 (zs 10 (.lenl (.t 9))) (.take 7 (zm 11 0) (.take 8 (zs 12 (.nck (.t 11))) (.take 9 (zf 13 1 12) (.take 10 (zl 14 13) (.take 11 (zs 15 (.ari .sub .i64 (.t 10) (.t 14))) (.take 12 (zs 16 (.mnx false (.t 5) (.t 15))) (.take 13 (zm 1 16) .nil)))))))))))))) 0 [0]) (.seq (.dreg (.take 0 (zm 17 0) (.take 1 (zm 18 0) (.take 2 (zs 19 (.nck (.t 18))) (.take 3 (zf 20 0 19) (.take 4 (zl 21 20) (.take 5 (zm 22 0) (.take 6 (zs 23 (.nck (.t 22))) (.take 7 (zf 24 1 23) (.take 8 (zl 25 24) (.take 9 (zm 26 1) (.take 10 (zs 27 (.ari .add .i64 (.t 25) (.t 26))) (.take 11 (zs 28 (.sli 1 (.t 21) none (some (.t 27)))) (.eff 12 0 false (zs 29 (.call 51 [.t 28])) (.take 13 (zs 30 (.nck (.t 17))) (.take 14 (zf 31 0 30) (.eff 15 0 false (zn (.st 1 (.t 31) (.t 29))) (.phase [4, 8] .nil))))))))))))))))) 0 [0]) (.seq (.reg [(zm 32 0), (zm 33 0), (zs 34 (.nck (.t 33))), (zf 35 0 34), (zl 36 35), (zs 37 (.lenl (.t 36))), (zs 38 (.nck (.t 32))), (zf 39 1 38), (zn (.st 1 (.t 39) (.t 37)))]) (.reg [(zm 40 0), (zm 41 0), (zm 42 0), (zs 43 (.nck (.t 40))), (zf 44 2 43), (zn (.st 1 (.t 44) (.c (.bl false)))), (zs 45 (.nck (.t 41))), (zf 46 3 45), (zn (.st 1 (.t 46) (.c (.int .i64 0)))), (zs 47 (.nck (.t 42))), (zf 48 4 47), (zn (.st 1 (.t 48) (.c (.bl false))))]))), []⟩
def x34 : XFn := ⟨99, .seq (.reg [(zs 2 (.mov (.c (.v (.slice none 0 0))))), (zs 3 (.mov (.c (.int .i64 0)))), (zs 4 (.mov (.c (.int .i64 0))))]) (.scope (.seq (.reg [(zs 5 (.mov (.c (.v (.slice none 0 0)))))]) (.seq (.reg [(zs 6 (.mov (.c (.int .i64 0)))), (zs 7 (.mov (.c (.int .i64 0))))]) (.seq (.label 0) (.seq (.block 0 (.loop (.seq (.seq (.reg [(zm 15 0), (zs 16 (.lens (.t 15))), (zs 17 (.cmp .gtr (.t 16) (.c (.int .i64 0))))]) (.cond (.t 17) .skip (.exit 0))) (.block 1 (.seq (.reg [(zm 18 6), (zs 19 (.ari .add .i64 (.t 18) (.c (.int .i64 1)))), (zm 6 19)]) (.seq (.seq (.reg [(zm 20 6), (zs 21 (.cmp .gtr (.t 20) (.c (.int .i64 64))))]) (.cond (.t 21) (.seq (.reg [(zs 7 (.mov (.c (.int .i64 7))))]) (.exit 0)) .skip)) (.seq (.reg [(zm 22 0), (zs 23 (.call 52 [.t 22, .c (.int .u8 10)])), (zm 8 23)]) (.seq (.seq (.reg [(zm 24 8), (zs 25 (.cmp .lss (.t 24) (.c (.int .i64 0))))]) (.cond (.t 25) (.seq (.reg [(zs 7 (.mov (.c (.int .i64 2))))]) (.exit 0)) .skip)) (.seq (.reg [(zm 27 0), (zm 28 8), (zs 29 (.sls (.t 27) none (some (.t 28)))), (zs 30 (.call 53 [.t 29, .c (.str ⟨#[61]⟩)])), (zm 26 30), (zs 31 (.ext (.t 26) 0)), (zs 32 (.ext (.t 26) 1)), (zs 33 (.ext (.t 26) 2)), (zm 9 31), (zm 10 32), (zm 11 33)]) (.seq (.reg [(zm 34 0), (zm 35 8), (zs 36 (.ari .add .i64 (.t 35) (.c (.int .i64 1)))), (zs 37 (.sls (.t 34) (some (.t 36)) none)), (zm 0 37)]) (.seq (.seq (.reg [(zm 38 11), (zs 39 (.not (.t 38))), (zm 40 39), (zh 41 40 false 9), (zg 42 40 false (.call 54 [.t 41])), (zg 43 40 false (.not (.t 42))), (zs 44 (.pick (.t 40) (.c (.bl true)) (.t 43)))]) (.cond (.t 44) (.seq (.reg [(zs 7 (.mov (.c (.int .i64 2))))]) (.exit 0)) .skip)) (.seq (.reg [(zs 12 (.mov (.c (.v (.slice none 0 0)))))]) (.seq (.seq (.reg [(zs 13 (.mov (.c (.int .i64 0))))]) (.block 2 (.loop (.seq (.seq (.reg [(zm 45 13), (zm 46 10), (zs 47 (.lens (.t 46))), (zs 48 (.cmp .lss (.t 45) (.t 47)))]) (.cond (.t 48) .skip (.exit 2))) (.seq (.block 3 (.seq (.reg [(zm 51 10), (zm 52 13), (zs 53 (.idx (.t 51) (.t 52))), (zm 14 53)]) (.seq (.seq (.reg [(zm 54 14), (zs 55 (.cmp .eql (.t 54) (.c (.int .u8 92))))]) (.cond (.t 55) (.seq (.reg [(zm 56 13), (zs 57 (.ari .add .i64 (.t 56) (.c (.int .i64 1)))), (zm 13 57)]) (.block 4 (.seq (.reg [(zm 59 13), (zm 60 10), (zs 61 (.lens (.t 60))), (zs 62 (.cmp .lss (.t 59) (.t 61))), (zm 63 62), (zh 64 63 true 10), (zh 65 63 true 13), (zg 66 63 true (.idx (.t 64) (.t 65))), (zg 67 63 true (.cmp .eql (.t 66) (.c (.int .u8 92)))), (zs 68 (.pick (.t 63) (.t 67) (.c (.bl false)))), (zm 58 68)]) (.cond (.t 58) .skip (.seq (.reg [(zm 70 13), (zm 71 10), (zs 72 (.lens (.t 71))), (zs 73 (.cmp .lss (.t 70) (.t 72))), (zm 74 73), (zh 75 74 true 10), (zh 76 74 true 13), (zg 77 74 true (.idx (.t 75) (.t 76))), (zg 78 74 true (.cmp .eql (.t 77) (.c (.int .u8 110)))), (zs 79 (.pick (.t 74) (.t 78) (.c (.bl false)))), (zm 69 79)]) (.cond (.t 69) (.reg [(zs 14 (.mov (.c (.int .u8 10))))]) (.seq (.reg [(zs 7 (.mov (.c (.int .i64 2))))]) (.exit 0)))))))) .skip)) (.seq (.seq (.reg [(zm 80 12), (zs 81 (.lenl (.t 80))), (zs 82 (.cmp .eql (.t 81) (.c (.int .i64 4096))))]) (.cond (.t 82) (.seq (.reg [(zs 7 (.mov (.c (.int .i64 2))))]) (.exit 0)) .skip)) (.reg [(zm 83 12), (zm 84 14), (zs 85 (.bsl 5 1 1 [.int .u8 0] [(0, .t 84)])), (zs 86 (.app 85 85 5 1 1 (.t 83) (.t 85))), (zm 12 86)]))))) (.reg [(zm 49 13), (zs 50 (.ari .add .i64 (.t 49) (.c (.int .i64 1)))), (zm 13 50)])))))) (.reg [(zm 87 5), (zm 88 9), (zm 89 12), (zs 90 (.b2s (.t 89))), (zs 91 (.bld [.str ⟨#[]⟩, .str ⟨#[]⟩] [(0, (1, .t 88)), (1, (1, .t 90))])), (zs 92 (.bsl 65 2 1 [.str ⟨#[]⟩, .str ⟨#[]⟩] [(0, .t 91)])), (zs 93 (.app 42 42 65 2 32 (.t 87) (.t 92))), (zm 5 93)])))))))))))))) (.seq (.seq (.reg [(zm 94 7), (zs 95 (.cmp .neq (.t 94) (.c (.int .i64 0))))]) (.cond (.t 95) (.seq (.reg [(zm 96 6), (zm 97 7), (zs 2 (.mov (.c (.v (.slice none 0 0))))), (zm 3 96), (zm 4 97)]) .ret) .skip)) (.seq (.reg [(zm 98 5), (zm 2 98), (zs 3 (.mov (.c (.int .i64 0)))), (zs 4 (.mov (.c (.int .i64 0))))]) .ret))))))), [.tmp 2, .tmp 3, .tmp 4]⟩
def x36 : XFn := ⟨46, .seq (.reg [(zs 2 (.mov (.c (.str ⟨#[]⟩))))]) (.seq (.reg [(zs 3 (.mov (.c (.int .u64 7809847782465536322))))]) (.seq (.seq (.reg [(zm 7 0), (zs 8 (.lens (.t 7))), (zs 9 (.mov (.c (.int .i64 0))))]) (.block 0 (.loop (.seq (.reg [(zs 10 (.cmp .lss (.t 9) (.t 8)))]) (.seq (.cond (.t 10) .skip (.exit 0)) (.seq (.block 1 (.seq (.reg [(zm 11 9), (zm 4 11)]) (.reg [(zm 12 3), (zm 13 0), (zm 14 4), (zs 15 (.idx (.t 13) (.t 14))), (zs 16 (.cvi .u64 (.t 15))), (zs 17 (.ari .xor .u64 (.t 12) (.t 16))), (zs 18 (.call 57 [.t 17, .c (.int .i64 5)])), (zs 19 (.ari .mul .u64 (.t 18) (.c (.int .u64 13787848793156543929)))), (zm 3 19)]))) (.reg [(zs 20 (.ari .add .i64 (.t 9) (.c (.int .i64 1)))), (zm 9 20)]))))))) (.seq (.reg [(zm 21 3), (zm 22 3), (zs 23 (.shf .shr .u64 (.t 22) (.c (.int .u64 29)))), (zs 24 (.ari .xor .u64 (.t 21) (.t 23))), (zs 25 (.ari .mul .u64 (.t 24) (.c (.int .u64 13787848793156543929)))), (zm 3 25)]) (.seq (.reg [(zm 26 3), (zm 27 3), (zs 28 (.shf .shr .u64 (.t 27) (.c (.int .u64 32)))), (zs 29 (.ari .xor .u64 (.t 26) (.t 28))), (zm 3 29)]) (.seq (.reg [(zs 5 (.alloc 94 [.int .i32 0, .int .i32 0, .int .i32 0, .int .i32 0, .int .i32 0, .int .i32 0, .int .i32 0, .int .i32 0, .int .i32 0, .int .i32 0, .int .i32 0, .int .i32 0, .int .i32 0, .int .i32 0, .int .i32 0, .int .i32 0]))]) (.seq (.seq (.reg [(zs 30 (.mov (.c (.int .i64 0))))]) (.block 2 (.loop (.seq (.reg [(zs 31 (.cmp .lss (.t 30) (.c (.int .i64 16))))]) (.seq (.cond (.t 31) .skip (.exit 2)) (.seq (.block 3 (.seq (.reg [(zm 32 30), (zm 6 32)]) (.reg [(zm 33 6), (zm 34 3), (zm 35 6), (zs 36 (.ari .mul .i64 (.c (.int .i64 4)) (.t 35))), (zs 37 (.ari .sub .i64 (.c (.int .i64 60)) (.t 36))), (zs 38 (.shf .shr .u64 (.t 34) (.t 37))), (zs 39 (.ari .and .u64 (.t 38) (.c (.int .u64 15)))), (zs 40 (.idx (.c (.str ⟨#[48, 49, 50, 51, 52, 53, 54, 55, 56, 57, 97, 98, 99, 100, 101, 102]⟩)) (.t 39))), (zs 41 (.cvi .i32 (.t 40))), (zs 42 (.aia 1 16 (.t 5) (.t 33))), (zn (.st 1 (.t 42) (.t 41)))]))) (.reg [(zs 43 (.ari .add .i64 (.t 30) (.c (.int .i64 1)))), (zm 30 43)]))))))) (.seq (.reg [(zs 44 (.bad)), (zs 45 (.bad)), (zm 2 45)]) .ret))))))), [.tmp 2]⟩
def x37 : XFn := ⟨24, .seq (.reg [(zs 2 (.box 27 (.t 0))), (zs 3 (.box 9 (.t 1))), (zs 4 (.mov (.c (.int .i64 0))))]) (.seq (.block 0 (.seq (.reg [(zl 6 2), (zs 7 (.nck (.t 6))), (zf 8 4 7), (zl 9 8), (zm 5 9)]) (.cond (.t 5) (.seq (.reg [(zs 4 (.mov (.c (.int .i64 14))))]) .ret) (.seq (.reg [(zl 11 3), (zs 12 (.lens (.t 11))), (zs 13 (.cmp .gtr (.t 12) (.c (.int .i64 4096)))), (zm 10 13)]) (.cond (.t 10) (.seq (.reg [(zs 4 (.mov (.c (.int .i64 1))))]) .ret) (.seq (.reg [(zl 15 2), (zs 16 (.nck (.t 15))), (zf 17 0 16), (zl 18 17), (zs 19 (.lenl (.t 18))), (zs 20 (.cmp .geq (.t 19) (.c (.int .i64 4096)))), (zm 14 20)]) (.cond (.t 14) (.seq (.reg [(zs 4 (.mov (.c (.int .i64 7))))]) .ret) .skip))))))) (.seq (.reg [(zl 21 2), (zs 22 (.mkf 59 [.t 2, .t 3])), (zs 23 (.call 58 [.t 21, .t 22])), (zm 4 23)]) .ret)), [.tmp 4]⟩
def x38 : XFn := ⟨72, .seq (.reg [(zs 4 (.mov (.c (.v (.pointer none))))), (zs 5 (.mov (.c (.int .i64 0))))]) (.seq (.seq (.reg [(zm 14 0), (zs 15 (.cmn false (.t 14))), (zm 16 15), (zh 17 16 false 1), (zg 18 16 false (.call 60 [.t 17])), (zg 19 16 false (.not (.t 18))), (zs 20 (.pick (.t 16) (.c (.bl true)) (.t 19)))]) (.cond (.t 20) (.seq (.reg [(zs 4 (.mov (.c (.v (.pointer none))))), (zs 5 (.mov (.c (.int .i64 1))))]) .ret) .skip)) (.seq (.seq (.reg [(zm 21 0), (zs 22 (.call 24 [.t 21]))]) (.cond (.t 22) (.seq (.reg [(zs 4 (.mov (.c (.v (.pointer none))))), (zs 5 (.mov (.c (.int .i64 14))))]) .ret) .skip)) (.seq (.reg [(zm 23 0), (zm 24 1), (zm 25 1), (zs 26 (.call 44 [.t 25, .c (.str ⟨#[]⟩)])), (zs 27 (.bld [.v (.pointer none), .str ⟨#[]⟩, .str ⟨#[]⟩, .v (.slice none 0 0)] [(0, (1, .t 23)), (1, (1, .t 24)), (2, (1, .t 26))])), (zs 28 (.box 69 (.t 27))), (zm 6 28)]) (.seq (.reg [(zm 29 1), (zs 30 (.call 61 [.t 29])), (zm 7 30)]) (.seq (.seq (.reg [(zm 31 0), (zs 32 (.call 25 [.t 31])), (zs 33 (.mov (.c (.int .i64 0))))]) (.block 0 (.loop (.seq (.reg [(zs 34 (.cmp .lss (.t 33) (.t 32)))]) (.seq (.cond (.t 34) .skip (.exit 0)) (.seq (.block 1 (.seq (.reg [(zm 35 33), (zm 8 35)]) (.seq (.reg [(zm 37 0), (zm 38 8), (zs 39 (.call 28 [.t 37, .t 38])), (zm 36 39), (zs 40 (.ext (.t 36) 0)), (zs 41 (.ext (.t 36) 1)), (zm 9 40), (zm 10 41)]) (.seq (.seq (.reg [(zm 42 10), (zs 43 (.cmp .neq (.t 42) (.c (.int .i64 0))))]) (.cond (.t 43) (.seq (.reg [(zm 44 6), (zm 4 44), (zs 5 (.mov (.c (.int .i64 15))))]) .ret) .skip)) (.seq (.reg [(zm 46 7), (zm 47 9), (zs 48 (.cav (.t 46) [.t 47])), (zm 45 48), (zs 49 (.ext (.t 45) 0)), (zs 50 (.ext (.t 45) 1)), (zs 51 (.ext (.t 45) 2)), (zm 11 49), (zm 12 50), (zm 13 51)]) (.seq (.seq (.reg [(zm 52 13), (zs 53 (.not (.t 52)))]) (.cond (.t 53) (.seq (.reg [(zm 54 6), (zm 4 54), (zs 5 (.mov (.c (.int .i64 15))))]) .ret) .skip)) (.seq (.dreg (.take 0 (zm 55 6) (.take 1 (zm 56 6) (.take 2 (zs 57 (.nck (.t 56))) (.take 3 (zf 58 3 57) (.take 4 (zl 59 58) (.take 5 (zm 60 11) (.eff 6 0 true (zs 61 (.call 43 [.t 60])) (.eff 7 0 true (zs 62 (.bsl 42 1 1 [.v (.slice none 0 0)] [(0, .t 61)])) (.eff 8 1 false (zs 63 (.app 22 22 42 1 24 (.t 59) (.t 62))) (.take 9 (zs 64 (.nck (.t 55))) (.take 10 (zf 65 3 64) (.eff 11 2 false (zn (.st 1 (.t 65) (.t 63))) (.phase [4] .nil))))))))))))) 2 [6]) (.reg [(zm 66 6), (zm 67 12), (zs 68 (.nck (.t 66))), (zf 69 2 68), (zn (.st 1 (.t 69) (.t 67)))])))))))) (.reg [(zs 70 (.ari .add .i64 (.t 33) (.c (.int .i64 1)))), (zm 33 70)]))))))) (.seq (.reg [(zm 71 6), (zm 4 71), (zs 5 (.mov (.c (.int .i64 0))))]) .ret)))))), [.tmp 4, .tmp 5]⟩
def x39 : XFn := ⟨53, .seq (.reg [(zs 2 (.mov (.c (.v (.slice none 0 0))))), (zs 3 (.mov (.c (.int .i64 0)))), (zs 4 (.mov (.c (.int .i64 0))))]) (.seq (.reg [(zs 11 (.bsl 65 2 0 [.str ⟨#[]⟩, .str ⟨#[]⟩] [])), (zm 5 11)]) (.seq (.reg [(zs 6 (.mov (.c (.int .i64 1)))), (zs 7 (.mov (.c (.int .i64 0))))]) (.seq (.seq (.reg [(zs 8 (.mov (.c (.int .i64 0))))]) (.block 0 (.loop (.seq (.seq (.reg [(zm 12 8), (zm 13 0), (zs 14 (.lens (.t 13))), (zs 15 (.cmp .lss (.t 12) (.t 14)))]) (.cond (.t 15) .skip (.exit 0))) (.seq (.block 1 (.seq (.seq (.reg [(zm 18 0), (zm 19 8), (zs 20 (.idx (.t 18) (.t 19))), (zs 21 (.cmp .neq (.t 20) (.c (.int .u8 10))))]) (.cond (.t 21) (.exit 1) .skip)) (.seq (.seq (.reg [(zm 22 6), (zs 23 (.cmp .gtr (.t 22) (.c (.int .i64 64))))]) (.cond (.t 23) (.seq (.reg [(zm 24 6), (zs 2 (.mov (.c (.v (.slice none 0 0))))), (zm 3 24), (zs 4 (.mov (.c (.int .i64 7))))]) .ret) .skip)) (.seq (.reg [(zm 26 0), (zm 27 7), (zm 28 8), (zs 29 (.sls (.t 26) (some (.t 27)) (some (.t 28)))), (zs 30 (.call 62 [.t 29])), (zm 25 30), (zs 31 (.ext (.t 25) 0)), (zs 32 (.ext (.t 25) 1)), (zs 9 (.alloc 65 [.str ⟨#[]⟩, .str ⟨#[]⟩])), (zn (.st 2 (.t 9) (.t 31))), (zm 10 32)]) (.seq (.seq (.reg [(zm 33 10), (zs 34 (.not (.t 33)))]) (.cond (.t 34) (.seq (.reg [(zm 35 6), (zs 2 (.mov (.c (.v (.slice none 0 0))))), (zm 3 35), (zs 4 (.mov (.c (.int .i64 2))))]) .ret) .skip)) (.seq (.reg [(zm 36 5), (zs 37 (.ld true 2 (.t 9))), (zs 38 (.bsl 65 2 1 [.str ⟨#[]⟩, .str ⟨#[]⟩] [(0, .t 37)])), (zs 39 (.app 42 42 65 2 32 (.t 36) (.t 38))), (zm 5 39)]) (.reg [(zm 40 6), (zs 41 (.ari .add .i64 (.t 40) (.c (.int .i64 1)))), (zm 42 8), (zs 43 (.ari .add .i64 (.t 42) (.c (.int .i64 1)))), (zm 6 41), (zm 7 43)]))))))) (.reg [(zm 16 8), (zs 17 (.ari .add .i64 (.t 16) (.c (.int .i64 1)))), (zm 8 17)])))))) (.seq (.seq (.reg [(zm 44 7), (zm 45 0), (zs 46 (.lens (.t 45))), (zs 47 (.cmp .lss (.t 44) (.t 46)))]) (.cond (.t 47) (.seq (.seq (.reg [(zm 48 6), (zs 49 (.cmp .gtr (.t 48) (.c (.int .i64 64))))]) (.cond (.t 49) (.seq (.reg [(zm 50 6), (zs 2 (.mov (.c (.v (.slice none 0 0))))), (zm 3 50), (zs 4 (.mov (.c (.int .i64 7))))]) .ret) .skip)) (.seq (.reg [(zm 51 6), (zs 2 (.mov (.c (.v (.slice none 0 0))))), (zm 3 51), (zs 4 (.mov (.c (.int .i64 2))))]) .ret)) .skip)) (.seq (.reg [(zm 52 5), (zm 2 52), (zs 3 (.mov (.c (.int .i64 0)))), (zs 4 (.mov (.c (.int .i64 0))))]) .ret))))), [.tmp 2, .tmp 3, .tmp 4]⟩
def x40 : XFn := ⟨36, .seq (.reg [(zs 2 (.mov (.c (.bl false))))]) (.seq (.seq (.reg [(zs 3 (.mov (.c (.int .i64 0))))]) (.block 0 (.loop (.seq (.seq (.reg [(zm 4 3), (zm 5 0), (zs 6 (.lens (.t 5))), (zs 7 (.cmp .lss (.t 4) (.t 6)))]) (.cond (.t 7) .skip (.exit 0))) (.seq (.block 1 (.seq (.reg [(zm 10 0), (zm 11 3), (zs 12 (.idx (.t 10) (.t 11))), (zs 13 (.call 63 [.t 12])), (zs 14 (.not (.t 13))), (zm 15 14), (zh 16 15 true 0), (zh 17 15 true 3), (zg 18 15 true (.idx (.t 16) (.t 17))), (zg 19 15 true (.call 64 [.t 18])), (zg 20 15 true (.not (.t 19))), (zs 21 (.pick (.t 15) (.t 20) (.c (.bl false)))), (zm 22 21), (zh 23 22 true 0), (zh 24 22 true 3), (zg 25 22 true (.idx (.t 23) (.t 24))), (zg 26 22 true (.cmp .neq (.t 25) (.c (.int .u8 45)))), (zs 27 (.pick (.t 22) (.t 26) (.c (.bl false))))]) (.cond (.t 27) (.seq (.reg [(zs 2 (.mov (.c (.bl false))))]) .ret) .skip))) (.reg [(zm 8 3), (zs 9 (.ari .add .i64 (.t 8) (.c (.int .i64 1)))), (zm 3 9)])))))) (.seq (.reg [(zm 28 0), (zs 29 (.lens (.t 28))), (zs 30 (.cmp .geq (.t 29) (.c (.int .i64 1)))), (zm 31 30), (zh 32 31 true 0), (zg 33 31 true (.lens (.t 32))), (zg 34 31 true (.cmp .leq (.t 33) (.c (.int .i64 16)))), (zs 35 (.pick (.t 31) (.t 34) (.c (.bl false)))), (zm 2 35)]) .ret)), [.tmp 2]⟩
def x43 : XFn := ⟨8, .seq (.reg [(zs 2 (.mov (.c (.v (.slice none 0 0)))))]) (.seq (.seq (.reg [(zm 3 0), (zs 4 (.nils false (.t 3)))]) (.cond (.t 4) (.seq (.reg [(zs 2 (.mov (.c (.v (.slice none 0 0)))))]) .ret) .skip)) (.seq (.reg [(zs 5 (.bsl 65 2 0 [.str ⟨#[]⟩, .str ⟨#[]⟩] [])), (zm 6 0), (zs 7 (.app 42 42 65 2 32 (.t 5) (.t 6))), (zm 2 7)]) .ret)), [.tmp 2]⟩
def x44 : XFn := ⟨10, .seq (.reg [(zs 4 (.mov (.c (.str ⟨#[]⟩))))]) (.seq (.reg [(zm 5 0), (zs 6 (.ari .add .i64 (.t 5) (.c (.str ⟨#[10]⟩)))), (zm 7 1), (zs 8 (.ari .add .i64 (.t 6) (.t 7))), (zs 9 (.call 36 [.t 8])), (zm 4 9)]) .ret), [.tmp 4]⟩
def x45 : XFn := ⟨10, .seq (.reg [(zs 1 (.box 27 (.t 0))), (zs 2 (.mov (.c (.int .i64 0))))]) (.seq (.seq (.reg [(zl 3 1), (zs 4 (.nck (.t 3))), (zf 5 4 4), (zl 6 5)]) (.cond (.t 6) (.seq (.reg [(zs 2 (.mov (.c (.int .i64 14))))]) .ret) .skip)) (.seq (.reg [(zl 7 1), (zs 8 (.mkf 70 [.t 1])), (zs 9 (.call 58 [.t 7, .t 8])), (zm 2 9)]) .ret)), [.tmp 2]⟩
def x46 : XFn := ⟨7, .seq (.reg [(zs 2 (.mov (.c (.int .i64 0))))]) (.seq (.reg [(zm 3 0), (zs 4 (.nck (.t 3))), (zf 5 1 4), (zl 6 5), (zm 2 6)]) .ret), [.tmp 2]⟩
def x47 : XFn := ⟨12, .seq (.reg [(zs 1 (.box 65 (.t 0))), (zs 2 (.mov (.c (.bl false))))]) (.seq (.reg [(zf 3 0 1), (zl 4 3), (zs 5 (.call 71 [.t 4])), (zm 6 5), (zg 7 6 true (.fad 1 (.t 1))), (zg 8 6 true (.ld false 1 (.t 7))), (zg 9 6 true (.lens (.t 8))), (zg 10 6 true (.cmp .leq (.t 9) (.c (.int .i64 4096)))), (zs 11 (.pick (.t 6) (.t 10) (.c (.bl false)))), (zm 2 11)]) .ret), [.tmp 2]⟩
def x48 : XFn := ⟨40, .seq (.reg [(zs 2 (.mov (.c (.str ⟨#[]⟩))))]) (.seq (.seq (.reg [(zm 3 0), (zs 4 (.cmp .lss (.t 3) (.c (.int .i64 0))))]) (.cond (.t 4) (.seq (.seq (.reg [(zm 5 0), (zs 6 (.cmp .gtr (.t 5) (.c (.int .i64 (-10)))))]) (.cond (.t 6) (.seq (.reg [(zm 7 0), (zs 8 (.ari .sub .i64 (.c (.int .i64 48)) (.t 7))), (zs 9 (.cvi .u8 (.t 8))), (zs 10 (.bsl 5 1 1 [.int .u8 0] [(0, .t 9)])), (zs 11 (.b2s (.t 10))), (zs 12 (.ari .add .i64 (.c (.str ⟨#[45]⟩)) (.t 11))), (zm 2 12)]) .ret) .skip)) (.seq (.dreg (.take 0 (zm 13 0) (.take 1 (zs 14 (.ari .quo .i64 (.t 13) (.c (.int .i64 10)))) (.take 3 (zm 16 0) (.take 4 (zs 17 (.ari .rem .i64 (.t 16) (.c (.int .i64 10)))) (.take 5 (zs 18 (.ari .sub .i64 (.c (.int .i64 48)) (.t 17))) (.take 6 (zs 19 (.cvi .u8 (.t 18))) (.fork (.eff 2 0 false (zs 15 (.call 48 [.t 14])) (.eff 7 0 false (zs 20 (.bsl 5 1 1 [.int .u8 0] [(0, .t 19)])) (.phase [8] (.take 8 (zs 21 (.b2s (.t 20))) (.take 9 (zs 22 (.ari .add .i64 (.t 15) (.t 21))) (.take 10 (zm 2 22) .nil)))))) (.eff 7 0 false (zs 20 (.bsl 5 1 1 [.int .u8 0] [(0, .t 19)])) (.phase [8] (.take 8 (zs 21 (.b2s (.t 20))) (.eff 2 0 true (zs 15 (.call 48 [.t 14])) (.take 9 (zs 22 (.ari .add .i64 (.t 15) (.t 21))) (.take 10 (zm 2 22) .nil))))))))))))) 1 []) .ret)) .skip)) (.seq (.seq (.reg [(zm 23 0), (zs 24 (.cmp .lss (.t 23) (.c (.int .i64 10))))]) (.cond (.t 24) (.seq (.reg [(zm 25 0), (zs 26 (.ari .add .i64 (.c (.int .i64 48)) (.t 25))), (zs 27 (.cvi .u8 (.t 26))), (zs 28 (.bsl 5 1 1 [.int .u8 0] [(0, .t 27)])), (zs 29 (.b2s (.t 28))), (zm 2 29)]) .ret) .skip)) (.seq (.dreg (.take 0 (zm 30 0) (.take 1 (zs 31 (.ari .quo .i64 (.t 30) (.c (.int .i64 10)))) (.take 3 (zm 33 0) (.take 4 (zs 34 (.ari .rem .i64 (.t 33) (.c (.int .i64 10)))) (.take 5 (zs 35 (.ari .add .i64 (.c (.int .i64 48)) (.t 34))) (.take 6 (zs 36 (.cvi .u8 (.t 35))) (.fork (.eff 2 0 false (zs 32 (.call 48 [.t 31])) (.eff 7 0 false (zs 37 (.bsl 5 1 1 [.int .u8 0] [(0, .t 36)])) (.phase [8] (.take 8 (zs 38 (.b2s (.t 37))) (.take 9 (zs 39 (.ari .add .i64 (.t 32) (.t 38))) (.take 10 (zm 2 39) .nil)))))) (.eff 7 0 false (zs 37 (.bsl 5 1 1 [.int .u8 0] [(0, .t 36)])) (.phase [8] (.take 8 (zs 38 (.b2s (.t 37))) (.eff 2 0 true (zs 32 (.call 48 [.t 31])) (.take 9 (zs 39 (.ari .add .i64 (.t 32) (.t 38))) (.take 10 (zm 2 39) .nil))))))))))))) 1 []) .ret))), [.tmp 2]⟩
def x49 : XFn := ⟨10, .seq (.reg [(zs 4 (.mov (.c (.str ⟨#[]⟩))))]) (.seq (.reg [(zm 5 0), (zs 6 (.ari .add .i64 (.t 5) (.c (.str ⟨#[10]⟩)))), (zm 7 1), (zs 8 (.ari .add .i64 (.t 6) (.t 7))), (zs 9 (.call 72 [.t 8])), (zm 4 9)]) .ret), [.tmp 4]⟩
def x50 : XFn := ⟨70, .seq (.reg [(zs 2 (.mov (.c (.str ⟨#[]⟩)))), (zs 3 (.mov (.c (.int .i64 0))))]) (.seq (.seq (.reg [(zm 8 0), (zs 9 (.lenl (.t 8))), (zs 10 (.cmp .gtr (.t 9) (.c (.int .i64 64))))]) (.cond (.t 10) (.seq (.reg [(zs 2 (.mov (.c (.str ⟨#[]⟩)))), (zs 3 (.mov (.c (.int .i64 7))))]) .ret) .skip)) (.seq (.reg [(zs 4 (.mov (.c (.str ⟨#[]⟩))))]) (.seq (.seq (.reg [(zs 5 (.mov (.c (.int .i64 0))))]) (.block 0 (.loop (.seq (.seq (.reg [(zm 11 5), (zm 12 0), (zs 13 (.lenl (.t 12))), (zs 14 (.cmp .lss (.t 11) (.t 13)))]) (.cond (.t 14) .skip (.exit 0))) (.seq (.block 1 (.seq (.seq (.reg [(zm 17 0), (zm 18 5), (zs 19 (.iad 2 (.t 17) (.t 18))), (zs 20 (.ld true 2 (.t 19))), (zs 21 (.call 47 [.t 20])), (zs 22 (.not (.t 21)))]) (.cond (.t 22) (.seq (.reg [(zs 2 (.mov (.c (.str ⟨#[]⟩)))), (zs 3 (.mov (.c (.int .i64 1))))]) .ret) .skip)) (.seq (.reg [(zm 23 4), (zm 24 0), (zm 25 5), (zs 26 (.iad 2 (.t 24) (.t 25))), (zf 27 0 26), (zl 28 27), (zs 29 (.ari .add .i64 (.t 28) (.c (.str ⟨#[61]⟩)))), (zs 30 (.ari .add .i64 (.t 23) (.t 29))), (zm 4 30)]) (.seq (.seq (.reg [(zs 6 (.mov (.c (.int .i64 0))))]) (.block 2 (.loop (.seq (.seq (.reg [(zm 31 6), (zm 32 0), (zm 33 5), (zs 34 (.iad 2 (.t 32) (.t 33))), (zf 35 1 34), (zl 36 35), (zs 37 (.lens (.t 36))), (zs 38 (.cmp .lss (.t 31) (.t 37)))]) (.cond (.t 38) .skip (.exit 2))) (.seq (.block 3 (.seq (.reg [(zm 41 0), (zm 42 5), (zs 43 (.iad 2 (.t 41) (.t 42))), (zf 44 1 43), (zl 45 44), (zm 46 6), (zs 47 (.idx (.t 45) (.t 46))), (zm 7 47)]) (.seq (.reg [(zm 48 7), (zs 49 (.cmp .eql (.t 48) (.c (.int .u8 92))))]) (.cond (.t 49) (.reg [(zm 50 4), (zs 51 (.ari .add .i64 (.t 50) (.c (.str ⟨#[92, 92]⟩)))), (zm 4 51)]) (.seq (.reg [(zm 52 7), (zs 53 (.cmp .eql (.t 52) (.c (.int .u8 10))))]) (.cond (.t 53) (.reg [(zm 54 4), (zs 55 (.ari .add .i64 (.t 54) (.c (.str ⟨#[92, 110]⟩)))), (zm 4 55)]) (.reg [(zm 56 4), (zm 57 0), (zm 58 5), (zs 59 (.iad 2 (.t 57) (.t 58))), (zf 60 1 59), (zl 61 60), (zm 62 6), (zm 63 6), (zs 64 (.ari .add .i64 (.t 63) (.c (.int .i64 1)))), (zs 65 (.sls (.t 61) (some (.t 62)) (some (.t 64)))), (zs 66 (.ari .add .i64 (.t 56) (.t 65))), (zm 4 66)]))))))) (.reg [(zm 39 6), (zs 40 (.ari .add .i64 (.t 39) (.c (.int .i64 1)))), (zm 6 40)])))))) (.reg [(zm 67 4), (zs 68 (.ari .add .i64 (.t 67) (.c (.str ⟨#[10]⟩)))), (zm 4 68)]))))) (.reg [(zm 15 5), (zs 16 (.ari .add .i64 (.t 15) (.c (.int .i64 1)))), (zm 5 16)])))))) (.seq (.reg [(zm 69 4), (zm 2 69), (zs 3 (.mov (.c (.int .i64 0))))]) .ret)))), [.tmp 2, .tmp 3]⟩
def x51 : XFn := ⟨8, .seq (.reg [(zs 2 (.mov (.c (.v (.slice none 0 0)))))]) (.seq (.seq (.reg [(zm 3 0), (zs 4 (.nils false (.t 3)))]) (.cond (.t 4) (.seq (.reg [(zs 2 (.mov (.c (.v (.slice none 0 0)))))]) .ret) .skip)) (.seq (.reg [(zs 5 (.bsl 9 1 0 [.str ⟨#[]⟩] [])), (zm 6 0), (zs 7 (.app 25 25 9 1 16 (.t 5) (.t 6))), (zm 2 7)]) .ret)), [.tmp 2]⟩
def x57 : XFn := ⟨17, .seq (.reg [(zs 4 (.mov (.c (.int .u64 0))))]) (.seq (.reg [(zm 6 1), (zs 7 (.cvi .u64 (.t 6))), (zs 8 (.ari .and .u64 (.t 7) (.c (.int .u64 63)))), (zm 5 8)]) (.seq (.reg [(zm 9 0), (zm 10 5), (zs 11 (.shf .shl .u64 (.t 9) (.t 10))), (zm 12 0), (zm 13 5), (zs 14 (.ari .sub .u64 (.c (.int .u64 64)) (.t 13))), (zs 15 (.shf .shr .u64 (.t 12) (.t 14))), (zs 16 (.ari .or .u64 (.t 11) (.t 15))), (zm 4 16)]) .ret)), [.tmp 4]⟩
def x58 : XFn := ⟨26, .seq (.reg [(zs 4 (.mov (.c (.int .i64 0))))]) (.seq (.seq (.reg [(zm 5 0), (zs 6 (.nck (.t 5))), (zf 7 2 6), (zl 8 7)]) (.cond (.t 8) (.seq (.seq (.reg [(zm 9 0), (zs 10 (.nck (.t 9))), (zf 11 3 10), (zl 12 11), (zs 13 (.cmp .eql (.t 12) (.c (.int .i64 0))))]) (.cond (.t 13) (.seq (.reg [(zm 14 0), (zs 15 (.nck (.t 14))), (zf 16 4 15), (zn (.st 1 (.t 16) (.c (.bl true))))]) (.seq (.reg [(zs 4 (.mov (.c (.int .i64 14))))]) .ret)) .skip)) (.reg [(zm 17 0), (zs 18 (.nck (.t 17))), (zf 19 3 18), (zl 20 19), (zs 21 (.ari .sub .i64 (.t 20) (.c (.int .i64 1)))), (zs 22 (.nck (.t 17))), (zf 23 3 22), (zn (.st 1 (.t 23) (.t 21)))])) .skip)) (.seq (.reg [(zm 24 1), (zs 25 (.cav (.t 24) []))]) (.seq (.reg [(zs 4 (.mov (.c (.int .i64 0))))]) .ret))), [.tmp 4]⟩
def x59 : XFn := ⟨12, .dreg (.take 0 (zl 2 0) (.take 1 (zl 3 0) (.take 2 (zs 4 (.nck (.t 3))) (.take 3 (zf 5 0 4) (.take 4 (zl 6 5) (.take 5 (zl 7 1) (.eff 6 0 true (zs 8 (.bsl 9 1 1 [.str ⟨#[]⟩] [(0, .t 7)])) (.eff 7 1 true (zs 9 (.app 25 25 9 1 16 (.t 6) (.t 8))) (.take 8 (zs 10 (.nck (.t 2))) (.take 9 (zf 11 0 10) (.eff 10 2 false (zn (.st 1 (.t 11) (.t 9))) (.phase [0, 1, 4, 5] .nil)))))))))))) 2 [0, 1], []⟩
def x60 : XFn := ⟨36, .seq (.reg [(zs 2 (.mov (.c (.bl false))))]) (.seq (.seq (.reg [(zm 4 0), (zs 5 (.lens (.t 4))), (zs 6 (.cmp .lss (.t 5) (.c (.int .i64 1)))), (zm 7 6), (zh 8 7 false 0), (zg 9 7 false (.lens (.t 8))), (zg 10 7 false (.cmp .gtr (.t 9) (.c (.int .i64 16)))), (zs 11 (.pick (.t 7) (.c (.bl true)) (.t 10)))]) (.cond (.t 11) (.seq (.reg [(zs 2 (.mov (.c (.bl false))))]) .ret) .skip)) (.seq (.seq (.reg [(zm 12 0), (zs 13 (.lens (.t 12))), (zs 14 (.mov (.c (.int .i64 0))))]) (.block 0 (.loop (.seq (.reg [(zs 15 (.cmp .lss (.t 14) (.t 13)))]) (.seq (.cond (.t 15) .skip (.exit 0)) (.seq (.block 1 (.seq (.reg [(zm 16 14), (zm 3 16)]) (.seq (.reg [(zm 17 0), (zm 18 3), (zs 19 (.idx (.t 17) (.t 18))), (zs 20 (.call 78 [.t 19])), (zs 21 (.not (.t 20))), (zm 22 21), (zh 23 22 true 0), (zh 24 22 true 3), (zg 25 22 true (.idx (.t 23) (.t 24))), (zg 26 22 true (.call 79 [.t 25])), (zg 27 22 true (.not (.t 26))), (zs 28 (.pick (.t 22) (.t 27) (.c (.bl false)))), (zm 29 28), (zh 30 29 true 0), (zh 31 29 true 3), (zg 32 29 true (.idx (.t 30) (.t 31))), (zg 33 29 true (.cmp .neq (.t 32) (.c (.int .u8 45)))), (zs 34 (.pick (.t 29) (.t 33) (.c (.bl false))))]) (.cond (.t 34) (.seq (.reg [(zs 2 (.mov (.c (.bl false))))]) .ret) .skip)))) (.reg [(zs 35 (.ari .add .i64 (.t 14) (.c (.int .i64 1)))), (zm 14 35)]))))))) (.seq (.reg [(zs 2 (.mov (.c (.bl true))))]) .ret))), [.tmp 2]⟩
def x61 : XFn := ⟨8, .seq (.reg [(zs 1 (.box 9 (.t 0))), (zs 2 (.mov (.c (.v .nilFunc))))]) (.seq (.reg [(zl 5 1), (zs 6 (.call 44 [.t 5, .c (.str ⟨#[]⟩)])), (zs 3 (.alloc 3 [.int .i64 0])), (zs 4 (.alloc 9 [.str ⟨#[]⟩])), (zn (.st 1 (.t 3) (.c (.int .i64 0)))), (zn (.st 1 (.t 4) (.t 6)))]) (.seq (.reg [(zs 7 (.mkf 80 [.t 3, .t 4, .t 1])), (zm 2 7)]) .ret)), [.tmp 2]⟩
def x62 : XFn := ⟨92, .seq (.reg [(zs 2 (.alloc 65 [.str ⟨#[]⟩, .str ⟨#[]⟩])), (zs 3 (.mov (.c (.bl false))))]) (.seq (.reg [(zs 4 (.mov (.c (.int .i64 0))))]) (.seq (.block 0 (.loop (.seq (.seq (.reg [(zm 7 4), (zm 8 0), (zs 9 (.lens (.t 8))), (zs 10 (.cmp .lss (.t 7) (.t 9))), (zm 11 10), (zh 12 11 true 0), (zh 13 11 true 4), (zg 14 11 true (.idx (.t 12) (.t 13))), (zg 15 11 true (.cmp .neq (.t 14) (.c (.int .u8 61)))), (zs 16 (.pick (.t 11) (.t 15) (.c (.bl false))))]) (.cond (.t 16) .skip (.exit 0))) (.block 1 (.reg [(zm 17 4), (zs 18 (.ari .add .i64 (.t 17) (.c (.int .i64 1)))), (zm 4 18)]))))) (.seq (.seq (.reg [(zm 19 4), (zm 20 0), (zs 21 (.lens (.t 20))), (zs 22 (.cmp .eql (.t 19) (.t 21))), (zm 23 22), (zh 24 23 false 0), (zh 25 23 false 4), (zg 26 23 false (.sls (.t 24) none (some (.t 25)))), (zg 27 23 false (.call 71 [.t 26])), (zg 28 23 false (.not (.t 27))), (zs 29 (.pick (.t 23) (.c (.bl true)) (.t 28)))]) (.cond (.t 29) (.seq (.reg [(zs 30 (.bld [.str ⟨#[]⟩, .str ⟨#[]⟩] [])), (zn (.st 2 (.t 2) (.t 30))), (zs 3 (.mov (.c (.bl false))))]) .ret) .skip)) (.seq (.reg [(zm 31 0), (zm 32 4), (zs 33 (.sls (.t 31) none (some (.t 32)))), (zs 34 (.bld [.str ⟨#[]⟩, .str ⟨#[]⟩] [(0, (1, .t 33))])), (zs 5 (.alloc 65 [.str ⟨#[]⟩, .str ⟨#[]⟩])), (zn (.st 2 (.t 5) (.t 34)))]) (.seq (.seq (.reg [(zm 35 4), (zs 36 (.ari .add .i64 (.t 35) (.c (.int .i64 1)))), (zm 6 36)]) (.block 2 (.loop (.seq (.seq (.reg [(zm 37 6), (zm 38 0), (zs 39 (.lens (.t 38))), (zs 40 (.cmp .lss (.t 37) (.t 39)))]) (.cond (.t 40) .skip (.exit 2))) (.seq (.block 3 (.seq (.seq (.reg [(zm 43 0), (zm 44 6), (zs 45 (.idx (.t 43) (.t 44))), (zs 46 (.cmp .neq (.t 45) (.c (.int .u8 92))))]) (.cond (.t 46) (.seq (.dreg (.take 0 (zf 47 1 5) (.take 1 (zl 48 47) (.take 2 (zm 49 0) (.take 3 (zm 50 6) (.take 4 (zm 51 6) (.take 5 (zs 52 (.ari .add .i64 (.t 51) (.c (.int .i64 1)))) (.take 6 (zs 53 (.sls (.t 49) (some (.t 50)) (some (.t 52)))) (.take 7 (zs 54 (.ari .add .i64 (.t 48) (.t 53))) (.take 8 (zf 55 1 5) (.eff 9 0 false (zn (.st 1 (.t 55) (.t 54))) (.phase [1] .nil))))))))))) 0 [5]) (.exit 3)) .skip)) (.seq (.reg [(zm 56 6), (zs 57 (.ari .add .i64 (.t 56) (.c (.int .i64 1)))), (zm 6 57)]) (.seq (.seq (.reg [(zm 58 6), (zm 59 0), (zs 60 (.lens (.t 59))), (zs 61 (.cmp .eql (.t 58) (.t 60))), (zm 62 61), (zh 63 62 false 0), (zh 64 62 false 6), (zg 65 62 false (.idx (.t 63) (.t 64))), (zg 66 62 false (.cmp .neq (.t 65) (.c (.int .u8 92)))), (zh 67 62 false 66), (zh 68 67 true 0), (zh 69 67 true 6), (zg 70 67 true (.idx (.t 68) (.t 69))), (zg 71 67 true (.cmp .neq (.t 70) (.c (.int .u8 110)))), (zg 72 62 false (.pick (.t 67) (.t 71) (.c (.bl false)))), (zs 73 (.pick (.t 62) (.c (.bl true)) (.t 72)))]) (.cond (.t 73) (.seq (.reg [(zs 74 (.bld [.str ⟨#[]⟩, .str ⟨#[]⟩] [])), (zn (.st 2 (.t 2) (.t 74))), (zs 3 (.mov (.c (.bl false))))]) .ret) .skip)) (.seq (.reg [(zm 75 0), (zm 76 6), (zs 77 (.idx (.t 75) (.t 76))), (zs 78 (.cmp .eql (.t 77) (.c (.int .u8 110))))]) (.cond (.t 78) (.reg [(zf 79 1 5), (zl 80 79), (zs 81 (.ari .add .i64 (.t 80) (.c (.str ⟨#[10]⟩)))), (zf 82 1 5), (zn (.st 1 (.t 82) (.t 81)))]) (.reg [(zf 83 1 5), (zl 84 83), (zs 85 (.ari .add .i64 (.t 84) (.c (.str ⟨#[92]⟩)))), (zf 86 1 5), (zn (.st 1 (.t 86) (.t 85)))]))))))) (.reg [(zm 41 6), (zs 42 (.ari .add .i64 (.t 41) (.c (.int .i64 1)))), (zm 6 42)])))))) (.seq (.dreg (.take 0 (zs 87 (.ld true 2 (.t 5))) (.take 1 (zf 88 1 5) (.take 2 (zl 89 88) (.take 3 (zs 90 (.lens (.t 89))) (.take 4 (zs 91 (.cmp .leq (.t 90) (.c (.int .i64 4096)))) (.eff 5 0 true (zn (.st 2 (.t 2) (.t 87))) (.take 6 (zm 3 91) .nil))))))) 0 [5]) .ret)))))), [.cell 2 true 2, .tmp 3]⟩
def x63 : XFn := ⟨9, .seq (.reg [(zs 2 (.mov (.c (.bl false))))]) (.seq (.reg [(zm 3 0), (zs 4 (.cmp .geq (.t 3) (.c (.int .u8 97)))), (zm 5 4), (zh 6 5 true 0), (zg 7 5 true (.cmp .leq (.t 6) (.c (.int .u8 122)))), (zs 8 (.pick (.t 5) (.t 7) (.c (.bl false)))), (zm 2 8)]) .ret), [.tmp 2]⟩
def x64 : XFn := ⟨9, .seq (.reg [(zs 2 (.mov (.c (.bl false))))]) (.seq (.reg [(zm 3 0), (zs 4 (.cmp .geq (.t 3) (.c (.int .u8 48)))), (zm 5 4), (zh 6 5 true 0), (zg 7 5 true (.cmp .leq (.t 6) (.c (.int .u8 57)))), (zs 8 (.pick (.t 5) (.t 7) (.c (.bl false)))), (zm 2 8)]) .ret), [.tmp 2]⟩
def x70 : XFn := ⟨9, .dreg (.take 0 (zl 1 0) (.take 1 (zl 2 0) (.take 2 (zs 3 (.nck (.t 2))) (.take 3 (zf 4 0 3) (.take 4 (zl 5 4) (.take 5 (zs 6 (.lenl (.t 5))) (.take 6 (zs 7 (.nck (.t 1))) (.take 7 (zf 8 1 7) (.eff 8 0 false (zn (.st 1 (.t 8) (.t 6))) (.phase [0, 1, 4] .nil)))))))))) 0 [0], []⟩
def x72 : XFn := ⟨53, .seq (.reg [(zs 2 (.mov (.c (.str ⟨#[]⟩))))]) (.seq (.reg [(zs 3 (.mov (.c (.int .u64 7809847782465536322))))]) (.seq (.seq (.reg [(zs 4 (.mov (.c (.int .i64 0))))]) (.block 0 (.loop (.seq (.seq (.reg [(zm 9 4), (zm 10 0), (zs 11 (.lens (.t 10))), (zs 12 (.cmp .lss (.t 9) (.t 11)))]) (.cond (.t 12) .skip (.exit 0))) (.seq (.block 1 (.reg [(zm 15 3), (zm 16 0), (zm 17 4), (zs 18 (.idx (.t 16) (.t 17))), (zs 19 (.cvi .u64 (.t 18))), (zs 20 (.ari .xor .u64 (.t 15) (.t 19))), (zs 21 (.call 82 [.t 20, .c (.int .u64 5)])), (zs 22 (.ari .mul .u64 (.t 21) (.c (.int .u64 13787848793156543929)))), (zm 3 22)])) (.reg [(zm 13 4), (zs 14 (.ari .add .i64 (.t 13) (.c (.int .i64 1)))), (zm 4 14)])))))) (.seq (.reg [(zm 23 3), (zm 24 3), (zs 25 (.shf .shr .u64 (.t 24) (.c (.int .u64 29)))), (zs 26 (.ari .xor .u64 (.t 23) (.t 25))), (zs 27 (.ari .mul .u64 (.t 26) (.c (.int .u64 13787848793156543929)))), (zm 3 27)]) (.seq (.reg [(zm 28 3), (zm 29 3), (zs 30 (.shf .shr .u64 (.t 29) (.c (.int .u64 32)))), (zs 31 (.ari .xor .u64 (.t 28) (.t 30))), (zm 3 31)]) (.seq (.reg [(zs 5 (.mov (.c (.str ⟨#[]⟩))))]) (.seq (.seq (.reg [(zs 6 (.mov (.c (.int .i64 0))))]) (.block 2 (.loop (.seq (.seq (.reg [(zm 32 6), (zs 33 (.cmp .lss (.t 32) (.c (.int .i64 16))))]) (.cond (.t 33) .skip (.exit 2))) (.seq (.block 3 (.seq (.reg [(zm 36 3), (zs 37 (.ari .rem .u64 (.t 36) (.c (.int .u64 16)))), (zs 38 (.cvi .u8 (.t 37))), (zm 7 38)]) (.seq (.reg [(zm 39 3), (zs 40 (.ari .quo .u64 (.t 39) (.c (.int .u64 16)))), (zm 3 40)]) (.seq (.reg [(zm 41 7), (zs 42 (.ari .add .u8 (.c (.int .u8 48)) (.t 41))), (zm 8 42)]) (.seq (.seq (.reg [(zm 43 7), (zs 44 (.cmp .gtr (.t 43) (.c (.int .u8 9))))]) (.cond (.t 44) (.reg [(zm 45 7), (zs 46 (.ari .add .u8 (.c (.int .u8 87)) (.t 45))), (zm 8 46)]) .skip)) (.reg [(zm 47 8), (zs 48 (.bsl 5 1 1 [.int .u8 0] [(0, .t 47)])), (zs 49 (.b2s (.t 48))), (zm 50 5), (zs 51 (.ari .add .i64 (.t 49) (.t 50))), (zm 5 51)])))))) (.reg [(zm 34 6), (zs 35 (.ari .add .i64 (.t 34) (.c (.int .i64 1)))), (zm 6 35)])))))) (.seq (.reg [(zm 52 5), (zm 2 52)]) .ret))))))), [.tmp 2]⟩
def x78 : XFn := ⟨9, .seq (.reg [(zs 2 (.mov (.c (.bl false))))]) (.seq (.reg [(zm 3 0), (zs 4 (.cmp .geq (.t 3) (.c (.int .u8 97)))), (zm 5 4), (zh 6 5 true 0), (zg 7 5 true (.cmp .leq (.t 6) (.c (.int .u8 122)))), (zs 8 (.pick (.t 5) (.t 7) (.c (.bl false)))), (zm 2 8)]) .ret), [.tmp 2]⟩
def x79 : XFn := ⟨9, .seq (.reg [(zs 2 (.mov (.c (.bl false))))]) (.seq (.reg [(zm 3 0), (zs 4 (.cmp .geq (.t 3) (.c (.int .u8 48)))), (zm 5 4), (zh 6 5 true 0), (zg 7 5 true (.cmp .leq (.t 6) (.c (.int .u8 57)))), (zs 8 (.pick (.t 5) (.t 7) (.c (.bl false)))), (zm 2 8)]) .ret), [.tmp 2]⟩
def x80 : XFn := ⟨47, .seq (.reg [(zs 5 (.mov (.c (.v (.slice none 0 0))))), (zs 6 (.mov (.c (.str ⟨#[]⟩)))), (zs 7 (.mov (.c (.bl false))))]) (.seq (.reg [(zm 12 0), (zs 13 (.call 34 [.t 12])), (zm 11 13), (zs 14 (.ext (.t 11) 0)), (zs 15 (.ext (.t 11) 1)), (zs 16 (.ext (.t 11) 2)), (zm 8 14), (zm 9 15), (zm 10 16)]) (.seq (.seq (.reg [(zm 17 10), (zs 18 (.cmp .neq (.t 17) (.c (.int .i64 0)))), (zm 19 18), (zh 20 19 false 8), (zg 21 19 false (.lenl (.t 20))), (zg 22 19 false (.cmp .lss (.t 21) (.c (.int .i64 2)))), (zs 23 (.pick (.t 19) (.c (.bl true)) (.t 22)))]) (.cond (.t 23) (.seq (.reg [(zs 5 (.mov (.c (.v (.slice none 0 0))))), (zs 6 (.mov (.c (.str ⟨#[]⟩)))), (zs 7 (.mov (.c (.bl false))))]) .ret) .skip)) (.seq (.seq (.dreg (.take 0 (zm 24 8) (.take 1 (zs 25 (.iad 2 (.t 24) (.c (.int .i64 0)))) (.take 2 (zs 26 (.ld true 2 (.t 25))) (.take 3 (zl 27 1) (.eff 4 0 true (zs 28 (.call 42 [.t 27])) (.take 5 (zs 29 (.bld [.str ⟨#[]⟩, .str ⟨#[]⟩] [(0, (1, .c (.str ⟨#[110]⟩))), (1, (1, .t 28))])) (.take 6 (zs 30 (.cms true [1, 1] (.t 26) (.t 29))) (.take 7 (zm 31 30) (.take 8 (zh 32 31 false 8) (.take 9 (zg 33 31 false (.iad 2 (.t 32) (.c (.int .i64 1)))) (.phase [2, 3, 10, 11] (.take 10 (zg 34 31 false (.ld true 2 (.t 33))) (.take 11 (zg 35 31 false (.ld false 1 (.t 2))) (.take 12 (zg 36 31 false (.bld [.str ⟨#[]⟩, .str ⟨#[]⟩] [(0, (1, .c (.str ⟨#[108, 97, 115, 116]⟩))), (1, (1, .t 35))])) (.take 13 (zg 37 31 false (.cms true [1, 1] (.t 34) (.t 36))) (.take 14 (zs 38 (.pick (.t 31) (.c (.bl true)) (.t 37))) .nil)))))))))))))))) 0 [8, 1, 2]) (.cond (.t 38) (.seq (.reg [(zs 5 (.mov (.c (.v (.slice none 0 0))))), (zs 6 (.mov (.c (.str ⟨#[]⟩)))), (zs 7 (.mov (.c (.bl false))))]) .ret) .skip)) (.seq (.reg [(zl 39 1), (zs 40 (.ari .add .i64 (.t 39) (.c (.int .i64 1)))), (zn (.st 1 (.t 1) (.t 40)))]) (.seq (.reg [(zl 41 3), (zm 42 0), (zs 43 (.call 44 [.t 41, .t 42])), (zn (.st 1 (.t 2) (.t 43)))]) (.seq (.dreg (.take 0 (zm 44 8) (.take 1 (zs 45 (.sli 2 (.t 44) (some (.c (.int .i64 2))) none)) (.take 2 (zl 46 2) (.take 3 (zm 5 45) (.take 4 (zm 6 46) (.take 5 (zs 7 (.mov (.c (.bl true)))) .nil)))))) 0 [2]) .ret)))))), [.tmp 5, .tmp 6, .tmp 7]⟩
def x82 : XFn := ⟨13, .seq (.reg [(zs 4 (.mov (.c (.int .u64 0))))]) (.seq (.reg [(zm 5 0), (zm 6 1), (zs 7 (.shf .shl .u64 (.t 5) (.t 6))), (zm 8 0), (zm 9 1), (zs 10 (.ari .sub .u64 (.c (.int .u64 64)) (.t 9))), (zs 11 (.shf .shr .u64 (.t 8) (.t 10))), (zs 12 (.ari .or .u64 (.t 7) (.t 11))), (zm 4 12)]) .ret), [.tmp 4]⟩
end Go.Proofs.YtpcfdpengbkplaaDoor
